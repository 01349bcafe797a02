/- Parts of the proof, joined and shortened by a program: the plain machine, the functions as it prints them, and the mathematics over them. -/
import Derived.Test.YtihafdllichkeaaGreatDoorZ4
namespace Go.Proofs.YtihafdllichkeaaGreatDoor
open Go.RowKit
set_option linter.unusedVariables false
set_option linter.unusedSimpArgs false
set_option maxRecDepth 100000
def lq:List UInt8->Int->dm×Bool->List iO->List iO
 |[],_,_,L=>L
 |b::l,a,x,L=>lq l (a+1) (dn x.1 x.2 (gm b) a) (EQ (kT (dn x.1 x.2 (gm b) a).1) a L)
def nV (s:List UInt8) (p:iO):iO:=
 if p.1=12 then(p.1,p.2.1,p.2.1+1+((prl (s.drop (p.2.1+1).toNat):Nat):Int),p.2.2.2.1,false,())
 else if p.2.2.2.2.1=true then(p.1,p.2.1,(s.length:Int),p.2.2.2.1,true,())else p
def aJ (s:List UInt8):List iO:=(lq s 0 bY []).map (nV s)
theorem acf (F:List yM) (a:Int) (L:List iO):(EQ F a L).length<=L.length+1:=by
 unfold EQ
 rw[List.length_append,List.length_map]
 split<;>simp
theorem CG (s:dm):(kT s).length<=s.length:=by simp[kT]
theorem ajR {l:List yM} (h:l.length<1000000):kG l=some (l,()):=by
 unfold kG mG
 have:aZ l 16=true:=decide_eq_true (by unfold jg;omega)
 rw[this];rfl
theorem adK (s:List UInt8) (hs:s.length<=100000): ∀(N:Nat) (i:Int) (x:dm×Bool) (L:List iO) (H:List Int),(s.length:Int)-i<N->0<=i->i<=s.length->eu x.1->(x.1.length:Int)<=i+1->Inv L H (kT x.1) i->(L.length:Int)<=i->
  ∃H' F',yJ N s (ah s) i x.2 i (lo x.1) H L=some (.inl ((s,()),(H',lq (s.drop i.toNat) i x L,(),())))/\Inv (lq (s.drop i.toNat) i x L) H' F' s.length/\(lq (s.drop i.toNat) i x L).length<=s.length
 |0,i,x,L,H,h,_,_,_,_,_,_=>by omega
 |N+1,i,x,L,H,h,h0,hi,hg,hl,hinv,hLl=>by
  rw[yJ,FC]
  by_cases e:i<s.length
  ·obtain⟨b,hd,hb⟩:=drop_at h0 e
   have hst:=good_step hg x.2 (aI s i) i
   have hlen:(lo (dn x.1 x.2 (aI s i) i).1).length≠0:=by
    rw[jl]
    intro e
    rw[List.eq_nil_of_length_eq_zero e]at hst
    exact hst.1
   obtain⟨c,hc,hpl⟩:=Bg hg x.2 (aI s i) i
   rw[<-mY,<-mY]at hpl
   rw[<-mY,List.length_map]at hc
   obtain⟨q1,q2,q3,q4⟩:=aeZ hinv hc hpl
   obtain⟨t,ht⟩:=amW hst.1
   have hfl:=CG (dn x.1 x.2 (aI s i) i).1
   have hfl0:=CG x.1
   have hHn:=hinv.len
   have hsee:=aoT (t:=t) (L:=L) (H:=H) (F:=kT (dn x.1 x.2 (aI s i) i).1) (a:=i) h0 (by omega) (by have:=hst.2;omega) (by omega) (by omega)
    (fun j hj=>by
     obtain⟨n,hn,he⟩:=List.getElem_of_mem hj
     have:=hinv.nn n hn
     rw[List.getD_eq_getElem?_getD,List.getElem?_eq_getElem hn]at this
     simp only[Option.getD_some,he]at this
     omega) q1 q2
   have hgl:=acf (kT (dn x.1 x.2 (aI s i) i).1) i L
   obtain⟨H',F',r1,r2,r3⟩:=adK s hs N (i+1) (dn x.1 x.2 (aI s i) i) (EQ (kT (dn x.1 x.2 (aI s i) i).1) i L) (Q3 L H (kT (dn x.1 x.2 (aI s i) i).1) i).2 (by omega) (by omega) (by omega) hst.1 (by have:=hst.2;omega) (by rw[<-q3];exact q4) (by omega)
   rw[aK (dM (b:=ah s) e),aK (dw h0 e),XV hg (by omega) x.2 (jk s i) h0 (by omega),ae]
   simp only[pst]
   rw[aU (bU (by rw[aB];omega)),ajR (by rw[jl];have:=hst.2;omega),ae]
   simp only
   rw[ht,hsee,ae]
   simp only
   rw[bI (by omega) (by omega),hd,lq,<-hb,q3,<-ht]
   exact⟨H',F',r1,r2,r3⟩
  ·have hi':i=s.length:=by omega
   rw[aU (iq (b:=ah s) (by rw[aB];omega)),xh (by omega),lq]
   exact⟨H,kT x.1,rfl,by rw[<-hi'];exact hinv,by omega⟩
theorem akJ (s:List UInt8) (hs:s.length<=100000) (H:List Int): ∀(N i:Nat) (L:List iO),L.length-i<N->i<=L.length->L.length<1000000->(∀j,j<L.length->0<=(ay L dP j).2.1/\(ay L dP j).2.1<s.length)->
  oC N s (ah L) (i:Int) H L=some (.inl ((),(H,L.take i++(L.drop i).map (nV s),(),())))
 |0,i,L,h,_,_,_=>by omega
 |N+1,i,L,h,hi,hl,hf=>by
  rw[oC,CO]
  by_cases e:i<L.length
  ·have hlt:pz (au (i:Int)) L=true:=qm (by simp only[au];omega)
   have hin:dX L (i:Int)=true:=dw (by omega) (by omega)
   have hni:au (i:Int)=i:=by simp[au]
   have gB: ∀x,ay (dD L i x) (0,(0,(0,(0,(false,()))))) i=x:=fun x=>AC e
   have hlt2:pz i L=true:=by rw[<-hni];exact hlt
   have hfi:=hf i e
   have hpar:MH s (aG .i64 (ay L (0,(0,(0,(0,(false,()))))) i).2.1 1)=some (((prl (s.drop ((ay L dP i).2.1+1).toNat):Nat):Int),()):=by
    have hfi':0<=(ay L (0,(0,(0,(0,(false,()))))) i).2.1/\(ay L (0,(0,(0,(0,(false,()))))) i).2.1<s.length:=hfi
    rw[bI (by omega) (by omega)]
    obtain⟨a,ha⟩: ∃a:Nat,(ay L (0,(0,(0,(0,(false,()))))) i).2.1+1=(a:Int):=⟨((ay L (0,(0,(0,(0,(false,()))))) i).2.1+1).toNat,by omega⟩
    have ha':(ay L dP i).2.1+1=(a:Int):=ha
    rw[ha,ha',Int.toNat_natCast,aiJ (by omega) (by omega)]
   have hadd:aG .i64 (aG .i64 (ay L (0,(0,(0,(0,(false,()))))) i).2.1 1) ((prl (s.drop ((ay L dP i).2.1+1).toNat):Nat):Int)=(ay L dP i).2.1+1+((prl (s.drop ((ay L dP i).2.1+1).toNat):Nat):Int):=by
    have h1:=U1 (s.drop ((ay L dP i).2.1+1).toNat)
    rw[List.length_drop]at h1
    have hfi':0<=(ay L (0,(0,(0,(0,(false,()))))) i).2.1/\(ay L (0,(0,(0,(0,(false,()))))) i).2.1<s.length:=hfi
    rw[bI (a:=(ay L (0,(0,(0,(0,(false,()))))) i).2.1) (by omega) (by omega),bI (by omega) (by omega)];rfl
   have hai:aG .i64 (i:Int) 1=((i+1:Nat):Int):=by rw[bI (by omega) (by omega)];omega
   have go: ∀x,x=nV s (ay L dP i)->oC N s (ah L) ((i+1:Nat):Int) H (dD L i x)=some (.inl ((),(H,L.take i++(L.drop i).map (nV s),(),()))):=fun x hx=>by
    have hfr:(nV s (ay L dP i)).2.1=(ay L dP i).2.1:=by
     unfold nV
     split
     ·rfl
     ·split<;>rfl
    have ih:=akJ s hs H N (i+1) (dD L i x) (by rw[vg];omega) (by rw[vg];omega) (by rw[vg];exact hl) (fun j hj=>by
     rw[vg]at hj
     by_cases hji:i=j
     ·subst hji
      have:ay (dD L i x) dP i=x:=AC e
      rw[this,hx,hfr];exact hfi
     ·rw[zM hji];exact hf j hj)
    have e1:ah (dD L i x)=ah L:=by rw[aB,aB,vg]
    rw[e1]at ih
    rw[ih]
    congr 4
    have h1:(dD L i x).take (i+1)=L.take i++[x]:=by
     unfold dD
     rw[List.take_add_one,List.getElem?_set_self e,List.take_set_of_le (by omega)];rfl
    have h2:(dD L i x).drop (i+1)=L.drop (i+1):=by
     unfold dD;rw[List.drop_set_of_lt (by omega)]
    rw[h1,h2,List.drop_eq_getElem_cons e,List.map_cons,hx,kC e,List.append_assoc];rfl
   rw[aK (dM (by rw[aB];omega))]
   simp only[hni,hin,hlt2,Zx,gB,Uu,cond_true,UB,Bool.and_true,hai]
   by_cases ho:(ay L dP i).2.2.2.2.1=true
   ·have ho':(ay L (0,(0,(0,(0,(false,()))))) i).2.2.2.2.1=true:=ho
    rw[ho',cond_true]
    by_cases hm:(ay L dP i).1=12
    ·have hm':(ay L (0,(0,(0,(0,(false,()))))) i).1=12:=hm
     rw[hm',aK (dJ rfl),hpar,ae]
     simp only[hadd]
     refine go _ ?_
     unfold nV
     rw[if_pos hm,hm];rfl
    ·have hm': ¬(ay L (0,(0,(0,(0,(false,()))))) i).1=12:=hm
     rw[aU (bU hm')]
     refine go _ ?_
     unfold nV
     rw[if_neg hm,if_pos ho];rfl
   ·have ho':(ay L (0,(0,(0,(0,(false,()))))) i).2.2.2.2.1=false:=Bool.eq_false_iff.2 ho
    rw[ho',cond_false]
    by_cases hm:(ay L dP i).1=12
    ·have hm':(ay L (0,(0,(0,(0,(false,()))))) i).1=12:=hm
     rw[hm',aK (dJ rfl),hpar,ae]
     simp only[hadd]
     refine go _ ?_
     unfold nV
     rw[if_pos hm,hm];rfl
    ·have hm': ¬(ay L (0,(0,(0,(0,(false,()))))) i).1=12:=hm
     rw[aU (bU hm')]
     have hsame:dD L i (ay L dP i)=L:=by
      unfold dD
      rw[kC e,List.set_getElem_self]
     have:=go (ay L dP i) (by unfold nV;rw[if_neg hm,if_neg ho])
     rw[hsame]at this
     exact this
  ·have hi':i=L.length:=by omega
   rw[aU (gp (by rw[aB];omega)),hi',List.take_length,List.drop_length]
   simp
theorem aaw:Inv [] [] (kT bY.1) 0:={
 len:=rfl
 nn:=fun n hn=>by cases hn
 frm:=fun n hn=>by cases hn
 opn:=fun j hj=>by rw[YW (by simp)]at hj;cases hj
 lt:=fun j hj=>by cases hj
 inj:=fun i j hi=>by cases hi
 fd:=fun m n hm=>by cases hm}
theorem Ky: ∀(l:List UInt8) (a:Int) (x:dm×Bool) (L:List iO),0<=a->(∀p∈L,0<=p.2.1)-> ∀p∈lq l a x L,0<=p.2.1
 |[],a,x,L,ha,h,p,hp=>h p hp
 |b::l,a,x,L,ha,h,p,hp=>by
  rw[lq]at hp
  refine Ky l (a+1) _ _ (by omega) (fun p hp=> ?_) p hp
  unfold EQ at hp
  rcases List.mem_append.1 hp with h1|h1
  ·obtain⟨q,hq,rfl⟩:=List.mem_map.1 h1
   have:(jI (kT (dn x.1 x.2 (gm b) a).1) a q).2.1=q.2.1:=by
    unfold jI
    split
    ·split<;>rfl
    ·rfl
   rw[this];exact h q hq
  ·split at h1
   ·rw[List.mem_singleton.1 h1];exact ha
   ·cases h1
theorem atT (s:List UInt8) (hs:s.length<=100000):aas s=some (aJ s,()):=by
 obtain⟨H',F',h1,h2,h3⟩:=adK s hs aO 0 bY [] [] (by have:=ES (n:=s.length) (by omega);omega) (by omega) (by omega) iC (by simp[bY]) aaw (by simp)
 unfold aas
 rw[show([(0,(0,()))]:List (Int×Int×Unit))=lo bY.1 from rfl,show(true:Bool)=bY.2 from rfl,h1,ae]
 simp only[bF,Int.toNat_zero,List.drop_zero]at h2 h3 ⊢
 have hnn:=Ky s 0 bY [] (by omega) (fun p hp=>by cases hp)
 have h4:=akJ s hs H' aO 0 (lq s 0 bY []) (ES (by omega)) (by omega) (by omega) (fun j hj=>by
  refine⟨?_,h2.lt j hj⟩
  rw[kC hj];exact hnn _ (List.getElem_mem hj))
 rw[show oC aO s (ah (lq s 0 bY [])) 0 H' (lq s 0 bY [])=_ from h4,ae]
 simp[aJ]
end Go.Proofs.YtihafdllichkeaaGreatDoor
namespace Go.Proofs.YtihafdllichkeaaGreatDoor
open Go.RowKit
set_option linter.unusedVariables false
set_option linter.unusedSimpArgs false
set_option maxRecDepth 100000
def qp:List UInt8->Int->dm×Bool->iO->iO
 |[],_,_,p=>p
 |b::l,a,x,p=>qp l (a+1) (dn x.1 x.2 (gm b) a) (jI (kT (dn x.1 x.2 (gm b) a).1) a p)
def nP:List UInt8->Int->dm×Bool->List Int->List iO
 |[],_,_,_=>[]
 |b::l,a,x,fr=>
  if Qc (kT (dn x.1 x.2 (gm b) a).1) a=true then qp l (a+1) (dn x.1 x.2 (gm b) a) (sH (kT (dn x.1 x.2 (gm b) a).1) a fr)::nP l (a+1) (dn x.1 x.2 (gm b) a) (fr++[a])
  else nP l (a+1) (dn x.1 x.2 (gm b) a) fr
theorem Lr (F:List yM) (a:Int) (p:iO):(jI F a p).2.1=p.2.1:=by
 unfold jI
 split
 ·split<;>rfl
 ·rfl
theorem yK: ∀(l:List UInt8) (a:Int) (x:dm×Bool) (p:iO),(qp l a x p).2.1=p.2.1
 |[],_,_,_=>rfl
 |b::l,a,x,p=>by rw[qp,yK l,Lr]
theorem DJ (s:List UInt8) (p:iO):(nV s p).2.1=p.2.1:=by
 unfold nV
 split
 ·rfl
 ·split<;>rfl
theorem La: ∀(l:List UInt8) (a:Int) (x:dm×Bool) (p:iO),p.2.2.2.2.1=false->qp l a x p=p
 |[],_,_,_,_=>rfl
 |b::l,a,x,p,h=>by
  rw[qp]
  have:jI (kT (dn x.1 x.2 (gm b) a).1) a p=p:=by unfold jI;rw[h];rfl
  rw[this]
  exact La l _ _ p h
theorem Ie: ∀(l:List UInt8) (a:Int) (x:dm×Bool) (L:List iO),lq l a x L=L.map (qp l a x)++nP l a x (L.map (·.2.1))
 |[],a,x,L=>by
  have:(qp [] a x)=id:=rfl
  rw[lq,nP,this];simp
 |b::l,a,x,L=>by
  rw[lq,Ie l,nP]
  have hm:L.map (qp (b::l) a x)=(L.map (jI (kT (dn x.1 x.2 (gm b) a).1) a)).map (qp l (a+1) (dn x.1 x.2 (gm b) a)):=by
   rw[List.map_map];rfl
  have hf:(L.map (jI (kT (dn x.1 x.2 (gm b) a).1) a)).map (·.2.1)=L.map (·.2.1):=by
   rw[List.map_map]
   exact List.map_congr_left fun p _=>Lr _ _ p
  unfold EQ
  rw[hm]
  split
  ·rw[List.map_append,List.map_append,hf]
   simp only[List.map_cons,List.map_nil,List.append_assoc,List.cons_append,List.nil_append]
   rfl
  ·rw[List.append_nil,hf]
theorem qU (s:List UInt8):aJ s=(nP s 0 bY []).map (nV s):=by
 unfold aJ
 rw[Ie];rfl
structure PL (x:dm) (i:Int):Prop where
 up:(uu x).Pairwise (· < ·)
 lt: ∀v∈uu x,v<i
theorem ahk:PL bY.1 0:=⟨List.Pairwise.nil,fun v hv=>by cases hv⟩
theorem ajX {s:dm} {i:Int} (hg:eu s) (h:PL s i) (fr:Bool) (b:Int):PL (dn s fr b i).1 (i+1):=by
 obtain⟨c,hc,e|e⟩:=Bg hg fr b i
 ·refine⟨by rw[e];exact h.up.sublist (List.take_sublist ..),fun v hv=> ?_⟩
  rw[e]at hv
  have:=h.lt v (List.mem_of_mem_take hv);omega
 ·refine⟨?_,fun v hv=> ?_⟩
  ·rw[e,List.pairwise_append]
   refine⟨h.up.sublist (List.take_sublist ..),List.pairwise_singleton ..,fun a ha b hb=> ?_⟩
   rw[List.mem_singleton.1 hb]
   exact h.lt a (List.mem_of_mem_take ha)
  ·rw[e]at hv
   rcases List.mem_append.1 hv with h1|h1
   ·have:=h.lt v (List.mem_of_mem_take h1);omega
   ·rw[List.mem_singleton.1 h1];omega
theorem Po {l:List Int} (h:l.Pairwise (· < ·)) {m n:Nat} {v:Int} (hm:l[m]? =some v) (hn:l[n]? =some v):m=n:=by
 obtain⟨m1,m2⟩:=List.getElem?_eq_some_iff.1 hm
 obtain⟨n1,n2⟩:=List.getElem?_eq_some_iff.1 hn
 rw[List.pairwise_iff_getElem]at h
 rcases Nat.lt_trichotomy m n with h1|h1|h1
 ·have:=h m n m1 n1 h1;omega
 ·exact h1
 ·have:=h n m n1 m1 h1;omega
theorem ajc {l:List Int} (h:l.Pairwise (· < ·)) {n:Nat} {v:Int} (hn:l[n]? =some v):l.findIdx? (· ==v)=some n:=by
 obtain⟨n1,n2⟩:=List.getElem?_eq_some_iff.1 hn
 cases hf:l.findIdx? (· ==v)with
 |none=>
  rw[List.findIdx?_eq_none_iff]at hf
  have:=hf v (List.mem_of_getElem? hn)
  simp at this
 |some m=>
  obtain⟨m1,m2,_⟩:=List.findIdx?_eq_some_iff_getElem.1 hf
  have:l[m]? =some v:=by rw[List.getElem?_eq_getElem m1];simpa using m2
  rw[Po h this hn]
theorem stay {s:dm} {i v:Int} {n:Nat} (hg:eu s) (h:PL s i) (hn:(uu s)[n]? =some v) (fr:Bool) (b:Int):(uu (dn s fr b i).1)[n]? =some v\/v∉uu (dn s fr b i).1:=by
 have hvi:=h.lt v (List.mem_of_getElem? hn)
 obtain⟨c,hc,e|e⟩:=Bg hg fr b i<;>rw[e]
 ·by_cases hnc:n<c
  ·left;rw[List.getElem?_take,if_pos hnc];exact hn
  ·right;intro hv
   obtain⟨m,hm⟩:=List.getElem?_of_mem hv
   rw[List.getElem?_take]at hm
   split at hm
   ·rename_i hmc
    have:=Po h.up hm hn;omega
   ·cases hm
 ·have hcl:((uu s).take c).length=c:=by rw[List.length_take];omega
  by_cases hnc:n<c
  ·left;rw[List.getElem?_append_left (by omega),List.getElem?_take,if_pos hnc];exact hn
  ·right;intro hv
   rcases List.mem_append.1 hv with h1|h1
   ·obtain⟨m,hm⟩:=List.getElem?_of_mem h1
    rw[List.getElem?_take]at hm
    split at hm
    ·rename_i hmc
     have:=Po h.up hm hn;omega
    ·cases hm
   ·rw[List.mem_singleton.1 h1]at hvi;omega
def atM (s:dm) (v:Int):Int:=match(uu s).findIdx? (· ==v)with
 |some n=>((n+1:Nat):Int)
 |none=>0
theorem ag0 {s:dm} (hg:eu s): ∃t,po s=t::uu s:=by
 have hne:s≠[]:=by rintro rfl;exact hg
 refine⟨(s.getLast hne).2, ?_⟩
 conv=>lhs;rw[<-List.dropLast_concat_getLast hne]
 simp[po,uu]
theorem amY {s:dm} (hg:eu s): ∃t,so s=t::(kT s).map fun f=>letter f.1:=by
 have hne:s≠[]:=by rintro rfl;exact hg
 refine⟨letter (s.getLast hne).1, ?_⟩
 conv=>lhs;rw[<-List.dropLast_concat_getLast hne]
 simp[so,kT,List.map_reverse]
 rfl
theorem Zd (v:Int) (S:List UInt8) (P:List Int) (fr:Bool) (hP:P.length<1000000): ∀(N j:Nat),P.length-j<N->
  vT N v (j:Int) S P fr=some (match(P.drop j).findIdx? (· ==v)with|some n=>.inr ((((j+n:Nat):Int),()),())|none=>.inl ((),()))
 |0,j,h=>by omega
 |N+1,j,h=>by
  rw[vT,Gf]
  by_cases e:j<P.length
  ·have hg:af P 0 (j:Int)=P[j]:=by unfold af;rw[Int.toNat_natCast,List.getD_eq_getElem?_getD,List.getElem?_eq_getElem e];rfl
   rw[aK (dM (by rw[aB];omega)),aK (dw (by omega) (by omega)),hg,List.drop_eq_getElem_cons e,List.findIdx?_cons,eU]
   by_cases e2:P[j]=v
   ·simp[e2]
   ·rw[bI (by omega) (by omega),show(j:Int)+1=((j+1:Nat):Int) by omega,Zd v S P fr hP N (j+1) (by omega)]
    simp only[e2,decide_false,cond_false,beq_iff_eq,if_false]
    cases (P.drop (j+1)).findIdx? (· ==v)with
    |none=>rfl
    |some n=>simp only[Option.map_some];rw[show j+1+n=j+(n+1) by omega]
  ·rw[aU (gp (by rw[aB];omega)),List.drop_of_length_le (by omega)];rfl
theorem amo {s:dm} (hg:eu s) (hl:s.length<900000) (fr:Bool) (v:Int):Ui (so s,(po s,(fr,()))) v=some (atM s v,()):=by
 unfold Ui
 obtain⟨t,ht⟩:=ag0 hg
 have h:=Zd v (so s) (po s) fr (by rw[IK];omega) aO 1 (dh (by rw[IK];omega))
 rw[show vT aO v 1 (so s) (po s) fr=_ from h,ae,ht]
 simp only[List.drop_succ_cons,List.drop_zero]
 unfold atM
 cases (uu s).findIdx? (· ==v)with
 |none=>rfl
 |some n=>simp only[bF];congr 2;omega
theorem agH: ∀n:Fin 15,aan ((letter ((n.val:Nat):Int)).toNat:Int)=some (counts ((n.val:Nat):Int),()):=by decide+kernel
theorem amq {m:Int} (h0:0<=m) (h1:m<=14):aan ((letter m).toNat:Int)=some (counts m,()):=by
 have:=agH ⟨m.toNat,by omega⟩
 rwa [show(((⟨m.toNat,by omega⟩:Fin 15).val:Nat):Int)=m from Int.toNat_of_nonneg h0]at this
theorem vz: ∀{s:dm},eu s-> ∀f∈s,0<=f.1/\f.1<=14
 |[],h=>by cases h
 |[f],h=>by
  intro g hg
  rw[List.mem_singleton.1 hg]
  have:f.1=0:=h
  omega
 |f::g::r,h=>by
  intro q hq
  rcases List.mem_cons.1 hq with rfl|h1
  ·have:=h.1;have:=h.2.1;omega
  ·exact vz h.2.2.2 q h1
theorem aci {s:dm} (hg:eu s) {n:Nat} (hn:n<(kT s).length):0<=((kT s).getD n dF).1/\((kT s).getD n dF).1<=14:=by
 have hm:(kT s).getD n dF∈kT s:=by rw[List.getD_eq_getElem?_getD,List.getElem?_eq_getElem hn];exact List.getElem_mem hn
 generalize (kT s).getD n dF=q at hm
 unfold kT at hm
 rw[List.mem_reverse,List.mem_map]at hm
 obtain⟨f,hf,rfl⟩:=hm
 exact vz hg f (List.dropLast_subset s hf)
theorem asN {s:dm} (hg:eu s) {n:Nat} (hn:n<(kT s).length):aI (so s) ((n+1:Nat):Int)=((letter ((kT s).getD n dF).1).toNat:Int)/\dX (so s) ((n+1:Nat):Int)=true:=by
 obtain⟨t,ht⟩:=amY hg
 rw[ht]
 refine⟨?_,dw (by omega) (by simp;omega)⟩
 unfold aI
 rw[Int.toNat_natCast,List.getD_cons_succ,List.getD_eq_getElem?_getD,List.getD_eq_getElem?_getD,List.getElem?_map,List.getElem?_eq_getElem hn];rfl
theorem qO (s:dm):(kT s).length=(uu s).length:=by rw[<-mY,List.length_map]
theorem ag7 {s:dm} {n:Nat} {v:Int} (h:(uu s)[n]? =some v):((kT s).getD n dF).2.1=v/\n<(kT s).length:=by
 obtain⟨n1,n2⟩:=List.getElem?_eq_some_iff.1 h
 have hl:n<(kT s).length:=by rw[qO];exact n1
 refine⟨?_,hl⟩
 rw[kD hl,mY,List.getD_eq_getElem?_getD,h];rfl
theorem anG {s:dm} {i:Int} (h:PL s i): ∀m n,m<(kT s).length->n<(kT s).length->((kT s).getD m dF).2.1=((kT s).getD n dF).2.1->m=n:=fun m n hm hn e=>by
 rw[kD hm,kD hn,mY]at e
 rw[qO]at hm hn
 rw[List.getD_eq_getElem?_getD,List.getD_eq_getElem?_getD,List.getElem?_eq_getElem hm,List.getElem?_eq_getElem hn]at e
 exact Po h.up (List.getElem?_eq_getElem hm) (by rw[List.getElem?_eq_getElem hn];exact congrArg some (by simpa using e.symm))
theorem agb {s:dm} {i v:Int} {n:Nat} (h:PL s i) (hn:(uu s)[n]? =some v):zx (kT s) v=some ((kT s).getD n dF).1:=by
 obtain⟨h1,h2⟩:=ag7 hn
 rw[<-h1]
 exact I5 (anG h) h2
theorem ae6 {s:dm} {v:Int} (h:v∉uu s):zx (kT s) v=none:=by
 apply Ah
 intro m hm e
 apply h
 rw[kD hm,mY]at e
 rw[qO]at hm
 rw[List.getD_eq_getElem?_getD,List.getElem?_eq_getElem hm]at e
 rw[<-e]
 exact List.getElem_mem hm
theorem agh {s:dm} {i v:Int} {n:Nat} (h:PL s i) (hn:(uu s)[n]? =some v):atM s v=((n+1:Nat):Int):=by
 unfold atM;rw[ajc h.up hn]
theorem ag8 {s:dm} {v:Int} (h:v∉uu s):atM s v=0:=by
 unfold atM
 have:(uu s).findIdx? (· ==v)=none:=by
  rw[List.findIdx?_eq_none_iff]
  intro x hx
  by_cases e:x=v
  ·exact absurd (e▸hx) h
  ·simp[e]
 rw[this]
def fK (s:List UInt8) (k:Nat):dm×Bool:=jq (s.take k) 0 bY
theorem SN: ∀(l m:List UInt8) (a:Int) (x:dm×Bool),jq (l++m) a x=jq m (a+l.length) (jq l a x)
 |[],m,a,x=>by simp[jq]
 |b::l,m,a,x=>by
  rw[List.cons_append,jq,jq,SN l m]
  congr 1
  simp;omega
theorem yL {s:List UInt8} {k:Nat} (h:k<s.length):fK s (k+1)=dn (fK s k).1 (fK s k).2 (aI s k) k:=by
 unfold fK
 rw[List.take_add_one,List.getElem?_eq_getElem h,Option.toList_some,SN,jq,jq,byte_at h,List.length_take,Nat.min_eq_left (by omega)]
 simp[gm]
theorem pK (s:List UInt8) (k:Nat):eu (fK s k).1/\(fK s k).1.length<=k+1:=by
 have h:=tH (s.take k) 0 bY iC
 refine⟨h.1, ?_⟩
 have h2:=h.2
 have:bY.1.length=1:=rfl
 rw[List.length_take]at h2
 unfold fK;omega
theorem AX (s:List UInt8): ∀k,k<=s.length->PL (fK s k).1 k
 |0,_=>ahk
 |k+1,h=>by
  rw[yL (by omega)]
  have:=ajX (pK s k).1 (AX s k (by omega)) (fK s k).2 (aI s k)
  simpa using this
end Go.Proofs.YtihafdllichkeaaGreatDoor
namespace Go.Proofs.YtihafdllichkeaaGreatDoor
open Go.RowKit
set_option linter.unusedVariables false
set_option linter.unusedSimpArgs false
set_option maxRecDepth 100000
abbrev RSt:=List UInt8×(List Int×(Bool×Unit))
def dS:RSt:=([],([],(false,())))
def nS (s:List UInt8) (n:Nat):List RSt:=(List.range n).map fun k=>wC (fK s k)
theorem kW (s:List UInt8) (n:Nat):(nS s n).length=n:=by simp[nS]
theorem BG (s:List UInt8) {n k:Nat} (h:k<n):ay (nS s n) dS k=wC (fK s k):=by
 rw[kC (by rw[kW];exact h)]
 simp[nS]
theorem Tu (s:List UInt8) (hs:s.length<=100000): ∀(N k:Nat),s.length-k<N->k<=s.length->
  vU N s (k:Int) (nS s (k+1))=some (.inl ((s,()),(nS s (s.length+1),())))
 |0,k,h,_=>by omega
 |N+1,k,h,hk=>by
  rw[vU,FV]
  by_cases e:k<s.length
  ·have hg:=pK s k
   have hn:ay (nS s (k+1)) ([],([],(false,()))) (au (k:Int))=wC (fK s k):=by
    rw[show au (k:Int)=k from rfl];exact BG s (by omega)
   have hstep:AO (so (fK s k).1,(po (fK s k).1,((fK s k).2,()))) (aI s (k:Int)) (k:Int)=some (wC (fK s (k+1)),()):=by
    rw[yL e];exact XA hg.1 (by omega) _ (jk s k) _
   have hcat:az (nS s (k+1)) [wC (fK s (k+1))]=nS s (k+2):=by
    unfold az nS
    rw[List.range_succ (n:=k+1),List.map_append];rfl
   rw[aK (dM (by rw[aB];omega)),aK (dw (by omega) (by rw[kW];omega)),aK (dw (by omega) (by omega)),aK (qm (by rw[kW];simp only[au];omega)),hn]
   simp only[wC]
   rw[hstep,ae]
   simp only
   rw[hcat,aK (by unfold aZ;rw[kW];exact decide_eq_true (by unfold jg;omega)),bI (by omega) (by omega),show(k:Int)+1=((k+1:Nat):Int) by omega]
   exact Tu s hs N (k+1) (by omega) (by omega)
  ·rw[aU (gp (by rw[aB];omega)),show k=s.length by omega]
theorem ZV (s:List UInt8) (A:List RSt) (out:List iO) (from_:Int) (n:Int) (P:List Int) (m f to_:Int) (op:Bool) (hol:out.length<1000000) (hn:n<1000000)
  (hA:(ay A dS (au (aG .i64 from_ 1))).2.1=P) (hA2:dX A (aG .i64 from_ 1)=true) (hA3:pz (au (aG .i64 from_ 1)) A=true) (hP:1<n->dX P (ag .i64 n 1)=true)
  (j:Nat) (hj:1<n->j<out.length/\(ay out dP j).2.1=af P 0 (ag .i64 n 1)) (hinj: ∀a b,a<out.length->b<out.length->(ay out dP a).2.1=(ay out dP b).2.1->a=b):
  ∀(N k:Nat),out.length-k<N->k<=out.length->
  qE N s from_ n (k:Int) m f to_ (if 1<n/\j<k then(j:Int)else-1) op out A=some (.inl ((s,from_,n,()),((m,f,to_,(if 1<n then(j:Int)else-1),op,()),out,A,())))
 |0,k,h,_=>by omega
 |N+1,k,h,hk=>by
  rw[qE,Bl]
  by_cases e:k<out.length
  ·have ih:=ZV s A out from_ n P m f to_ op hol hn hA hA2 hA3 hP j hj hinj N (k+1) (by omega) (by omega)
   rw[aK (dM (by rw[aB];omega)),bI (a:=(k:Int)) (by omega) (by omega),show(k:Int)+1=((k+1:Nat):Int) by omega]
   by_cases e1:1<n
   ·obtain⟨hj1,hj2⟩:=hj e1
    have hA':(ay A ([],([],(false,()))) (au (aG .i64 from_ 1))).2.1=P:=hA
    rw[aK (dM e1),aK (dw (by omega) (by omega)),aK (qm (by simp only[au];omega)),hA2,hA3,hA',hP e1]
    simp only[cond_true]
    by_cases e2:k=j
    ·subst e2
     have:(ay out (0,(0,(0,(0,(false,()))))) (au (k:Int))).2.1=af P 0 (ag .i64 n 1):=hj2
     rw[if_pos ⟨e1,by omega⟩]at ih
     rw[aK (dJ this)]
     exact ih
    ·have: ¬(ay out (0,(0,(0,(0,(false,()))))) (au (k:Int))).2.1=af P 0 (ag .i64 n 1):=fun he=>e2 (hinj k j e hj1 (he.trans hj2.symm))
     rw[aU (bU this)]
     by_cases e3:j<k
     ·rw[if_pos ⟨e1,by omega⟩]at ih ⊢;exact ih
     ·rw[if_neg (fun h=>by omega)]at ih ⊢;exact ih
   ·rw[if_neg (fun h=>e1 h.1)]at ih ⊢
    rw[aU (gp e1)]
    exact ih
  ·rw[aU (gp (by rw[aB];omega))]
   by_cases e1:1<n
   ·rw[if_pos ⟨e1,by have:=(hj e1).1;omega⟩,if_pos e1]
   ·rw[if_neg (fun h=>e1 h.1),if_neg e1]
theorem Nc (s:List UInt8) (hs:s.length<=100000) (out:List iO) (f:Nat) (n:Nat) (up:Int): ∀(N k:Nat) (m:Int) (p:iO),s.length+1-k<N->f<k->k<=s.length->
  (uu (fK s k).1)[n]? =some (f:Int)->p.1=counts ((kT (fK s k).1).getD n dF).1->p.2.1=f->p.2.2.2.2.1=true->p.2.2.2.1=up->
  ou N s (f:Int) ((n+1:Nat):Int) (k:Int) m f (s.length:Int) up true out (nS s (s.length+1))=
   some (.inl ((s,(f:Int),()),(((qp (s.drop k) k (fK s k) p).1,(f:Int),(if(qp (s.drop k) k (fK s k) p).2.2.2.2.1=true then(s.length:Int)else(qp (s.drop k) k (fK s k) p).2.2.1),up,(qp (s.drop k) k (fK s k) p).2.2.2.2.1,()),out,nS s (s.length+1),())))
   /\(qp (s.drop k) k (fK s k) p).2.2.2.1=up
 |0,k,m,p,h,_,_,_,_,_,_,_=>by omega
 |N+1,k,m,p,h,hf,hk,hpl,hp1,hp2,hp3,hp4=>by
  have hg:=pK s k
  have hPL:=AX s k hk
  obtain⟨hfr,hfl⟩:=ag7 hpl
  have hn:ay (nS s (s.length+1)) ([],([],(false,()))) (au (k:Int))=wC (fK s k):=by
   rw[show au (k:Int)=k from rfl];exact BG s (by omega)
  have hin:dX (nS s (s.length+1)) (k:Int)=true:=dw (by omega) (by rw[kW];omega)
  have hlt:pz (au (k:Int)) (nS s (s.length+1))=true:=qm (by rw[kW];simp only[au];omega)
  obtain⟨hso,hsi⟩:=asN hg.1 hfl
  have hmo:=aci hg.1 hfl
  rw[ou,ui,aK (pX (by rw[aB];omega)),hin,hlt,hn]
  simp only[cond_true,wC]
  rw[amo hg.1 (by omega),ae,agh hPL hpl,aU (bU (by omega)),hsi,hso]
  simp only[cond_true]
  rw[amq hmo.1 hmo.2,ae,bI (by omega) (by omega),show(k:Int)+1=((k+1:Nat):Int) by omega]
  simp only
  by_cases e:k<s.length
  ·have hd:s.drop k=s[k]::s.drop (k+1):=List.drop_eq_getElem_cons e
   have hst:=yL e
   have hb:aI s (k:Int)=gm s[k]:=byte_at e
   rw[hb]at hst
   have hgy:=pK s (k+1)
   have hPLy:=AX s (k+1) (by omega)
   have hfe:qp (s.drop k) k (fK s k) p=qp (s.drop (k+1)) ((k+1:Nat):Int) (fK s (k+1)) (jI (kT (fK s (k+1)).1) k p):=by
    rw[hd,qp,<-hst];rfl
   rw[hfe]
   rcases stay hg.1 hPL hpl (fK s k).2 (gm s[k])with h1|h1
   ·rw[<-hst]at h1
    have hu:jI (kT (fK s (k+1)).1) k p=(counts ((kT (fK s (k+1)).1).getD n dF).1,p.2):=by
     unfold jI
     rw[if_pos hp3,hp2,agb hPLy h1]
    rw[hu]
    exact Nc s hs out f n up N (k+1) _ _ (by omega) (by omega) (by omega) h1 rfl hp2 hp3 hp4
   ·rw[<-hst]at h1
    have hu:jI (kT (fK s (k+1)).1) k p=AQ (k+1) p:=by
     unfold jI
     rw[if_pos hp3,hp2,ae6 h1]
    have hn':ay (nS s (s.length+1)) ([],([],(false,()))) (au ((k+1:Nat):Int))=wC (fK s (k+1)):=by
     rw[show au ((k+1:Nat):Int)=k+1 from rfl];exact BG s (by omega)
    have hin':dX (nS s (s.length+1)) ((k+1:Nat):Int)=true:=dw (by omega) (by rw[kW];omega)
    have hlt':pz (au ((k+1:Nat):Int)) (nS s (s.length+1))=true:=qm (by rw[kW];simp only[au];omega)
    rw[hu,La _ _ _ _ rfl]
    obtain⟨N',rfl⟩: ∃N',N=N'+1:=⟨N-1,by omega⟩
    rw[ou,ui,aK (pX (by rw[aB];omega)),hin',hlt',hn']
    simp only[cond_true,wC]
    rw[amo hgy.1 (by omega),ae,ag8 h1,aK (dJ rfl)]
    refine⟨?_,hp4⟩
    simp only[AQ,hp1]
    rfl
  ·have hkl:k=s.length:=by omega
   subst hkl
   rw[List.drop_length,qp]
   obtain⟨N',rfl⟩: ∃N',N=N'+1:=⟨N-1,by omega⟩
   rw[ou,ui,aU (H5 (by rw[aB];omega)),if_pos hp3,hp3,hp1]
   exact⟨rfl,hp4⟩
theorem abX (F:List yM) (a:Int):Qc F a=decide ((F.map (·.2.1)).getLast?=some a):=by
 unfold Qc
 rw[List.getLast?_map]
 cases F.getLast? with
 |none=>rfl
 |some f=>simp
theorem Qa (s:List UInt8) (hs:s.length<=100000): ∀(N k:Nat) (out:List iO),s.length-k<N->k<=s.length->out.length<=k->
  (∀a b,a<out.length->b<out.length->(ay out dP a).2.1=(ay out dP b).2.1->a=b)->(∀p∈out,p.2.1<(k:Int))->(∀v∈uu (fK s k).1,v∈out.map (·.2.1))->
  rq N s (k:Int) out (nS s (s.length+1))=some (.inl ((),(out++(nP (s.drop k) k (fK s k) (out.map (·.2.1))).map (nV s),())))
 |0,k,out,h,_,_,_,_,_=>by omega
 |N+1,k,out,h,hk,hol,hinj,hlt,hex=>by
  rw[rq,FN]
  by_cases e:k<s.length
  ·have hd:s.drop k=s[k]::s.drop (k+1):=List.drop_eq_getElem_cons e
   have hst:=yL e
   have hb:aI s (k:Int)=gm s[k]:=byte_at e
   rw[hb]at hst
   have hg:=pK s k
   have hPL:=AX s k hk
   have hgy:=pK s (k+1)
   have hPLy:=AX s (k+1) (by omega)
   have hk1:aG .i64 (k:Int) 1=((k+1:Nat):Int):=by rw[bI (by omega) (by omega)];omega
   have hn:ay (nS s (s.length+1)) ([],([],(false,()))) (au ((k+1:Nat):Int))=wC (fK s (k+1)):=by
    rw[show au ((k+1:Nat):Int)=k+1 from rfl];exact BG s (by omega)
   have hin:dX (nS s (s.length+1)) ((k+1:Nat):Int)=true:=dw (by omega) (by rw[kW];omega)
   have hltl:pz (au ((k+1:Nat):Int)) (nS s (s.length+1))=true:=qm (by rw[kW];simp only[au];omega)
   rw[aK (dM (by rw[aB];omega)),hk1,hin,hltl,hn,hd,nP,<-hst]
   simp only[cond_true,wC]
   rw[amo hgy.1 (by omega),ae,abX,mY]
   obtain⟨c,hc,hpl⟩:=Bg hg.1 (fK s k).2 (gm s[k]) k
   rw[<-hst]at hpl
   have hcl:((uu (fK s k).1).take c).length=c:=by rw[List.length_take];omega
   have hexy: ∀v∈(uu (fK s k).1).take c,v∈out.map (·.2.1):=fun v hv=>hex v (List.mem_of_mem_take hv)
   rcases hpl with hpl|hpl
   ·
    have hno:(k:Int)∉uu (fK s (k+1)).1:=fun hv=>by
     rw[hpl]at hv
     have:=hPL.lt _ (List.mem_of_mem_take hv);omega
    have hl: ¬(uu (fK s (k+1)).1).getLast?=some (k:Int):=fun hv=>hno (List.mem_of_getLast? hv)
    rw[ag8 hno,aK (dJ rfl),decide_eq_false hl]
    simp only[Bool.false_eq_true,if_false]
    exact Qa s hs N (k+1) out (by omega) (by omega) (by omega) hinj (fun p hp=>by have:=hlt p hp;omega) (fun v hv=>by rw[hpl]at hv;exact hexy v hv)
   ·have hidx:(uu (fK s (k+1)).1)[c]? =some (k:Int):=by
     rw[hpl,List.getElem?_append_right (by omega),hcl];simp
    have hl:(uu (fK s (k+1)).1).getLast?=some (k:Int):=by rw[hpl];simp
    have hlen:(kT (fK s (k+1)).1).length=c+1:=by rw[qO,hpl,List.length_append,hcl];rfl
    rw[agh hPLy hidx,aU (bU (by omega)),decide_eq_true hl]
    simp only[if_true]
    have hfly:=CG (fK s (k+1)).1
    have hgy2:=hgy.2
    have hP1:1<((c+1:Nat):Int)->dX (po (fK s (k+1)).1) (ag .i64 ((c+1:Nat):Int) 1)=true:=fun h1=>by
     rw[fU (by omega) (by omega)]
     refine dw (by omega) ?_
     rw[IK]
     have:=CG (fK s (k+1)).1
     omega
    obtain⟨t,ht⟩:=ag0 hgy.1
    have hgp:1<((c+1:Nat):Int)->af (po (fK s (k+1)).1) 0 (ag .i64 ((c+1:Nat):Int) 1)=((kT (fK s (k+1)).1).getD (c-1) dF).2.1:=fun h1=>by
     rw[fU (by omega) (by omega),ht,kD (by omega),mY]
     unfold af
     rw[show(((c+1:Nat):Int)-1).toNat=(c-1)+1 by omega,List.getD_cons_succ]
    have hupex: ∃j:Nat,1<((c+1:Nat):Int)->j<out.length/\(ay out dP j).2.1=((kT (fK s (k+1)).1).getD (c-1) dF).2.1/\ahU (out.map (·.2.1)) ((kT (fK s (k+1)).1).getD (c-1) dF).2.1=(j:Int):=by
     by_cases h1:1<((c+1:Nat):Int)
     ·have hmem:((kT (fK s (k+1)).1).getD (c-1) dF).2.1∈out.map (·.2.1):=by
       refine hexy _ ?_
       rw[kD (by omega),mY,hpl,List.getD_eq_getElem?_getD,List.getElem?_append_left (by omega),List.getElem?_eq_getElem (by omega)]
       exact List.getElem_mem _
      obtain⟨j,hj1,hj2⟩:=List.getElem_of_mem hmem
      rw[List.length_map]at hj1
      rw[List.getElem_map]at hj2
      have hj3:(ay out dP j).2.1=((kT (fK s (k+1)).1).getD (c-1) dF).2.1:=by rw[kC hj1];exact hj2
      exact⟨j,fun _=>⟨hj1,hj3,by rw[<-hj3];exact SV hinj hj1⟩⟩
     ·exact⟨0,fun h2=>absurd h2 h1⟩
    obtain⟨j,hj⟩:=hupex
    have hup:=ZV s (nS s (s.length+1)) out (k:Int) ((c+1:Nat):Int) (po (fK s (k+1)).1) 0 (k:Int) (s.length:Int) true (by omega) (by have:=CG (fK s (k+1)).1;omega)
     (by rw[hk1];exact congrArg (·.2.1) hn) (by rw[hk1];exact hin) (by rw[hk1];exact hltl) hP1 j (fun h1=>⟨(hj h1).1,(hj h1).2.1.trans (hgp h1).symm⟩) hinj aO 0 (dh (by omega)) (by omega)
    rw[if_neg (by omega)]at hup
    rw[show qE aO s (k:Int) ((c+1:Nat):Int) 0 0 (k:Int) (ah s) (-1) true out (nS s (s.length+1))=_ from hup,ae]
    simp only[bF]
    have hnew:sH (kT (fK s (k+1)).1) k (out.map (·.2.1))=(counts ((kT (fK s (k+1)).1).getD c dF).1,(k:Int),0,(if 1<((c+1:Nat):Int)then(j:Int)else-1),true,()):=by
     unfold sH
     have hgD:(kT (fK s (k+1)).1).getLastD dF=(kT (fK s (k+1)).1).getD c dF:=by
      rw[List.getLastD_eq_getLast?,List.getLast?_eq_getElem?,hlen,List.getD_eq_getElem?_getD];rfl
     rw[hgD,hlen]
     by_cases h1:1<((c+1:Nat):Int)
     ·rw[if_neg (by omega),if_pos h1,show c+1-2=c-1 by omega,(hj h1).2.2]
     ·rw[if_pos (by omega),if_neg h1]
    obtain⟨hsc,hscu⟩:=Nc s hs out k c (if 1<((c+1:Nat):Int)then(j:Int)else-1) aO (k+1) 0 (sH (kT (fK s (k+1)).1) k (out.map (·.2.1))) (dh (by omega)) (by omega) (by omega) hidx (by rw[hnew]) (by rw[hnew]) (by rw[hnew]) (by rw[hnew])
    rw[hk1,hsc,ae]
    simp only
    have hff:=yK (s.drop (k+1)) ((k+1:Nat):Int) (fK s (k+1)) (sH (kT (fK s (k+1)).1) k (out.map (·.2.1)))
    have hnf:(sH (kT (fK s (k+1)).1) k (out.map (·.2.1))).2.1=(k:Int):=rfl
    rw[hnf]at hff
    rw[show((k:Int)+1)=((k+1:Nat):Int) by omega]
    generalize hq:qp (s.drop (k+1)) ((k+1:Nat):Int) (fK s (k+1)) (sH (kT (fK s (k+1)).1) k (out.map (·.2.1)))=q at*
    have hfit: ∀x:iO,aZ (az out [x]) 40=true:=fun x=>by
     unfold aZ az
     exact decide_eq_true (by rw[List.length_append];simp only[List.length_cons,List.length_nil];unfold jg;omega)
    have go:rq N s ((k+1:Nat):Int) (out++[nV s q]) (nS s (s.length+1))=some (.inl ((),(out++(q::nP (s.drop (k+1)) ((k+1:Nat):Int) (fK s (k+1)) (out.map (·.2.1)++[(k:Int)])).map (nV s),()))):=by
     have hfq:(nV s q).2.1=(k:Int):=(DJ s q).trans hff
     have hn1: ∀a,a<out.length->ay (out++[nV s q]) dP a=ay out dP a:=fun a ha=>by
      unfold ay
      rw[List.getD_eq_getElem?_getD,List.getD_eq_getElem?_getD,List.getElem?_append_left ha]
     have hn2:ay (out++[nV s q]) dP out.length=nV s q:=by
      unfold ay
      rw[List.getD_eq_getElem?_getD,List.getElem?_append_right (Nat.le_refl _)];simp
     have hltn: ∀a,a<out.length->(ay out dP a).2.1<(k:Int):=fun a ha=>by rw[kC ha];exact hlt _ (List.getElem_mem ha)
     have ih:=Qa s hs N (k+1) (out++[nV s q]) (by omega) (by omega) (by simp;omega)
      (fun a b ha hb he=>by
       rw[List.length_append]at ha hb
       simp only[List.length_cons,List.length_nil]at ha hb
       rcases Nat.lt_or_ge a out.length with h1|h1<;>rcases Nat.lt_or_ge b out.length with h2|h2
       ·rw[hn1 a h1,hn1 b h2]at he;exact hinj a b h1 h2 he
       ·rw[hn1 a h1,show b=out.length by omega,hn2,hfq]at he;have:=hltn a h1;omega
       ·rw[hn1 b h2,show a=out.length by omega,hn2,hfq]at he;have:=hltn b h2;omega
       ·omega)
      (fun p hp=>by
       rcases List.mem_append.1 hp with h1|h1
       ·have:=hlt p h1;omega
       ·rw[List.mem_singleton.1 h1,hfq];omega)
      (fun v hv=>by
       rw[hpl]at hv
       rw[List.map_append]
       rcases List.mem_append.1 hv with h1|h1
       ·exact List.mem_append_left _ (hexy v h1)
       ·rw[List.mem_singleton.1 h1]
        exact List.mem_append_right _ (by simp[hfq]))
     rw[ih]
     rw[List.map_append,List.append_assoc,List.map_cons]
     simp only[List.map_cons,List.map_nil,hfq]
     rfl
    by_cases e12:q.1=12
    ·rw[aK (dJ e12),hk1,ajq (by omega) (by omega),ae,hfit,cond_true]
     have hpe:=U1 (s.drop (k+1))
     rw[List.length_drop]at hpe
     rw[bI (by omega) (by omega)]
     have hfin:nV s q=(q.1,(k:Int),((k+1:Nat):Int)+((prl (s.drop (k+1)):Nat):Int),(if 1<((c+1:Nat):Int)then(j:Int)else-1),false,()):=by
      unfold nV
      rw[if_pos e12,hff,hscu,show((k:Int)+1).toNat=k+1 by omega,show(k:Int)+1=((k+1:Nat):Int) by omega]
     rw[<-hfin]
     exact go
    ·rw[aU (bU e12),hk1,hfit,cond_true]
     have hfin:nV s q=(q.1,(k:Int),(if q.2.2.2.2.1=true then(s.length:Int)else q.2.2.1),(if 1<((c+1:Nat):Int)then(j:Int)else-1),q.2.2.2.2.1,()):=by
      unfold nV
      rw[if_neg e12]
      by_cases ho:q.2.2.2.2.1=true
      ·rw[if_pos ho,if_pos ho,hff,hscu,ho]
      ·rw[if_neg ho,if_neg ho,<-hff,<-hscu]
     rw[<-hfin]
     exact go
  ·rw[aU (gp (by rw[aB];omega)),List.drop_of_length_le (by omega),nP];simp
theorem aud (s:List UInt8) (hs:s.length<=100000):Y3 s=some (aJ s,()):=by
 unfold Y3
 have h1:=Tu s hs aO 0 (ES (by omega)) (by omega)
 have h2:=Qa s hs aO 0 [] (ES (by omega)) (by omega) (by simp) (fun a b ha=>by cases ha) (fun p hp=>by cases hp) (fun v hv=>by cases hv)
 rw[show Ik=some (wC bY,()) from rfl,ae,show vU aO s 0 [(wC bY,()).1]=_ from h1,ae]
 simp only[bF]
 rw[show rq aO s 0 [] (nS s (s.length+1))=_ from h2,ae]
 simp only[List.nil_append,List.drop_zero]
 rw[qU];rfl
end Go.Proofs.YtihafdllichkeaaGreatDoor
namespace Go.Proofs.YtihafdllichkeaaGreatDoor
open Go.RowKit
set_option linter.unusedVariables false
set_option linter.unusedSimpArgs false
set_option maxRecDepth 100000
theorem Wx {g:Int×Int} {f:Int×Int} {r:dm} (hg:eu (f::g::r)):g.1≠13:=by
 have:=hg.2.2.1
 unfold JC at this;omega
theorem yu {m:Int} {f:Int×Int} {r:dm} (hf:f.1=m\/m≠13/\f.1≠13) (hr: ∀g r',r=g::r'->g.1≠13) (hr0:r=[]->m≠13) (fr:Bool) (b i:Int):
  ∀g r',(gI m (f::r) fr b i).1=g::r'->g.1=13->g.2=i:=by
 intro g r' h h13
 have hh: ∀{x:Int×Int} {y:dm},x::y=g::r'->x=g:=fun h=>(List.cons.inj h).1
 have keep:m≠13->f::r=g::r'->False:=fun hm h=>by
  have:=hh h
  subst this
  rcases hf with e|⟨_,e⟩<;>omega
 have tl:r=g::r'->False:=fun h=>hr g r' h h13
 have psh: ∀k,(k,i)::f::r=g::r'->g.2=i:=fun k h=>by rw[<-hh h]
 unfold gI at h
 split at h
 ·rename_i hm
  have hm13:m≠13:=by omega
  unfold CQ at h
  repeat' split at h
  all_goals first|exact psh _ h|exact(keep hm13 h).elim|exact(tl h).elim
 ·split at h
  ·exact(tl h).elim
  ·rename_i hm13
   have inn: ∀s',xH (f::r) b i=some s'->s'=g::r'->g.2=i:=fun s' hs e=>by
    subst e
    unfold xH at hs
    split at hs
    ·exact psh 13 (Option.some.inj hs)
    ·split at hs
     ·exact psh 12 (Option.some.inj hs)
     ·split at hs
      ·exact psh 6 (Option.some.inj hs)
      ·cases hs
   have chg:(11,((f::r).headD (0,0)).2)::(f::r).tail=g::r'->False:=fun h=>by
    have:=hh h;subst this;simp at h13
   split at h
   ·split at h
    ·exact(tl h).elim
    ·exact(keep hm13 h).elim
   ·split at h
    ·split at h
     ·exact(tl h).elim
     ·exact(keep hm13 h).elim
    ·split at h
     ·split at h
      ·exact(tl h).elim
      ·split at h
       ·exact psh _ h
       ·exact(keep hm13 h).elim
     ·split at h
      ·rename_i s' hs
       exact inn s' hs h
      ·repeat' split at h
       all_goals first
        |exact psh _ h
        |exact(keep hm13 h).elim
        |exact(tl h).elim
        |exact(chg h).elim
theorem aez {s:dm} (hg:eu s) (fr:Bool) (b i:Int): ∀g∈(dn s fr b i).1,g.1=13->g.2=i:=by
 have key: ∀g r',(dn s fr b i).1=g::r'->g.1=13->g.2=i:=by
  cases s with
  |nil=>cases hg
  |cons f r=>
  intro g r' h h13
  have hh: ∀{x:Int×Int} {y:dm},x::y=g::r'->x=g:=fun h=>(List.cons.inj h).1
  have hr: ∀g r',r=g::r'->g.1≠13:=fun g r' e=>by subst e;exact Wx hg
  have hr2: ∀g g' r',r=g::g'::r'->g'.1≠13:=fun g g' r' e=>by subst e;exact Wx hg.2.2.2
  have ch: ∀k:Int,k≠13->(k,f.2)::r=g::r'->False:=fun k hk h=>by
   have:=hh h;subst this;exact hk h13
  simp only[dn]at h
  split at h
  ·split at h
   ·exact(ch 3 (by omega) h).elim
   ·split at h
    ·refine(ch _ ?_ h).elim
     split<;>omega
    ·split at h
     ·exact(hr _ _ h h13).elim
     ·cases r with
      |nil=>rename_i e12 _ _ _;have:f.1=0:=hg;omega
      |cons q r=>
       exact yu (.inl rfl) (fun g r' e=>hr2 q g r' (by rw[e])) (fun _=>by simpa using hr q r rfl) fr b i g r' h h13
  ·split at h
   ·split at h
    ·exact(ch 9 (by omega) h).elim
    ·exact yu (f:=(1,f.2)) (.inl rfl) hr (fun _=>by omega) fr b i g r' h h13
   ·split at h
    ·split at h
     ·exact(hr _ _ h h13).elim
     ·exact yu (f:=(9,f.2)) (.inl rfl) hr (fun _=>by omega) fr b i g r' h h13
    ·refine yu (.inl rfl) hr (fun e=> ?_) fr b i g r' h h13
     subst e
     have:f.1=0:=hg
     omega
 have hgs:=(good_step hg fr b i).1
 revert key hgs
 generalize (dn s fr b i).1=y
 intro key hgs g hm h13
 cases y with
 |nil=>cases hm
 |cons f r=>
  rcases List.mem_cons.1 hm with e|hm
  ·subst e;exact key _ _ rfl h13
  ·exfalso
   clear key
   induction r generalizing f with
   |nil=>cases hm
   |cons q r ih=>
    rcases List.mem_cons.1 hm with e|hm2
    ·subst e;exact Wx hgs h13
    ·exact ih q hgs.2.2.2 (List.mem_cons_of_mem _ hm2) hm2
def PI (p:iO) (a:Int):Prop:=
 0<=p.2.1/\p.2.1<a/\(p.2.2.2.2.1=true/\(p.1=13->p.2.1+1=a)\/p.2.2.2.2.1=false/\p.2.1+2<=p.2.2.1/\p.2.2.1<=a/\(p.1=13->p.2.2.1=p.2.1+2))
theorem ads {m:Int} (h:counts m=13):m=13:=by
 unfold counts at h
 split at h
 ·omega
 ·split at h
  ·omega
  ·exact h
theorem ajF {s:dm} {f:yM} (h:f∈kT s):(f.1,f.2.1)∈s:=by
 unfold kT at h
 rw[List.mem_reverse,List.mem_map]at h
 obtain⟨g,hg,rfl⟩:=h
 exact(List.dropLast_sublist s).subset hg
theorem acZ {F:List yM} {v m:Int} (h:zx F v=some m): ∃f∈F,f.2.1=v/\f.1=m:=by
 unfold zx at h
 obtain⟨f,hf,rfl⟩:=Option.map_eq_some_iff.1 h
 exact⟨f,List.mem_of_find?_eq_some hf,by simpa using List.find?_some hf,rfl⟩
theorem alp {s:dm} (hg:eu s) (fr:Bool) (b a:Int) {p:iO} (h:PI p a):PI (jI (kT (dn s fr b a).1) a p) (a+1):=by
 obtain⟨h0,h1,h2⟩:=h
 unfold jI
 rcases h2 with ⟨ho,h3⟩|⟨ho,h3,h4,h5⟩
 ·rw[if_pos ho]
  split
  ·rename_i m hm
   refine⟨h0,by simp only;omega,.inl ⟨ho,fun h=> ?_⟩⟩
   have hm13:m=13:=ads h
   obtain⟨f,hf,hv,e⟩:=acZ hm
   have:=aez hg fr b a _ (ajF hf) (by simp only;omega)
   simp only at this ⊢
   omega
  ·refine⟨h0,by simp only[AQ];omega,.inr ⟨rfl,by simp only[AQ];omega,by simp[AQ],fun h=> ?_⟩⟩
   have:=h3 h
   simp only[AQ];omega
 ·rw[if_neg (by rw[ho];simp)]
  exact⟨h0,by omega,.inr ⟨ho,h3,by omega,h5⟩⟩
theorem alN {s:dm} (hg:eu s) (fr:Bool) (b:Int) {a:Int} (h0:0<=a) (l:List Int):PI (sH (kT (dn s fr b a).1) a l) (a+1):=
 ⟨h0,by simp only[sH];omega,.inl ⟨rfl,fun h=>by simp only[sH]⟩⟩
theorem Yh: ∀(l:List UInt8) (a:Int) (x:dm×Bool) (p:iO),eu x.1->PI p a->PI (qp l a x p) (a+l.length)
 |[],a,x,p,_,h=>by simpa [qp] using h
 |b::l,a,x,p,hg,h=>by
  rw[qp]
  have:=Yh l (a+1) (dn x.1 x.2 (gm b) a) _ (good_step hg _ _ _).1 (alp hg x.2 (gm b) a h)
  rw[show a+((b::l).length:Int)=a+1+l.length by simp;omega]
  exact this
theorem Qo: ∀(l:List UInt8) (a:Int) (x:dm×Bool) (fr:List Int),0<=a->eu x.1-> ∀p∈nP l a x fr,PI p (a+l.length)/\a<=p.2.1
 |[],a,x,fr,_,_,p,h=>by cases h
 |b::l,a,x,fr,h0,hg,p,h=>by
  have hgs:=(good_step hg x.2 (gm b) a).1
  have ih: ∀fr',p∈nP l (a+1) (dn x.1 x.2 (gm b) a) fr'->PI p (a+((b::l).length:Int))/\a<=p.2.1:=fun fr' hp=>by
   have:=Qo l (a+1) _ fr' (by omega) hgs p hp
   rw[show a+((b::l).length:Int)=a+1+l.length by simp;omega]
   exact⟨this.1,by omega⟩
  rw[nP]at h
  split at h
  ·rcases List.mem_cons.1 h with rfl|h
   ·have:=Yh l (a+1) _ _ hgs (alN hg x.2 (gm b) h0 fr)
    rw[show a+((b::l).length:Int)=a+1+l.length by simp;omega]
    refine⟨this, ?_⟩
    rw[yK];simp[sH]
   ·exact ih _ h
  ·exact ih _ h
theorem Ob: ∀(l:List UInt8) (a:Int) (x:dm×Bool) (fr:List Int),0<=a->eu x.1->(nP l a x fr).Pairwise (fun p q=>p.2.1<q.2.1)
 |[],a,x,fr,_,_=>List.Pairwise.nil
 |b::l,a,x,fr,h0,hg=>by
  have hgs:=(good_step hg x.2 (gm b) a).1
  rw[nP]
  split
  ·refine List.Pairwise.cons (fun p hp=> ?_) (Ob l (a+1) _ _ (by omega) hgs)
   have:=(Qo l (a+1) _ _ (by omega) hgs p hp).2
   rw[yK]
   simp only[sH];omega
  ·exact Ob l (a+1) _ _ (by omega) hgs
structure PF (s:List UInt8) (p:iO):Prop where
 f0:0<=p.2.1
 f1:p.2.1<s.length
 t0:p.2.1<p.2.2.1
 t1:p.2.2.1<=s.length
 op:p.2.2.2.2.1=true->p.2.2.1=s.length/\p.1≠12
 sh:p.2.2.2.2.1=false->p.1≠12->p.2.1+2<=p.2.2.1
 es:p.1=13->p.2.2.1<=p.2.1+2
 dl:p.1=12->p.2.2.1=p.2.1+1+((prl (s.drop (p.2.1+1).toNat):Nat):Int)
theorem ac0 (s:List UInt8): ∀p∈aJ s,PF s p:=by
 intro p hp
 rw[qU]at hp
 obtain⟨q,hq,rfl⟩:=List.mem_map.1 hp
 obtain⟨⟨h0,h1,h2⟩,_⟩:=Qo s 0 bY [] (by omega) iC q hq
 rw[Int.zero_add]at h1 h2
 have hl:=U1 (s.drop (q.2.1+1).toNat)
 rw[List.length_drop]at hl
 unfold nV
 split
 ·rename_i h12
  exact⟨h0,h1,by simp only;omega,by simp only;omega,fun h=>(by cases h),fun _ h=>absurd h12 h,fun h=>(by simp only at h;omega),fun _=>rfl⟩
 ·rename_i h12
  split
  ·rename_i ho
   refine⟨h0,h1,h1,Int.le_refl _,fun _=>⟨rfl,h12⟩,fun h=>(by cases h),fun h=> ?_,fun h=>absurd h h12⟩
   rcases h2 with ⟨_,h3⟩|⟨h3,_⟩
   ·have:=h3 h;simp only;omega
   ·rw[ho]at h3;cases h3
  ·rename_i ho
   rcases h2 with ⟨h3,_⟩|⟨h3,h4,h5,h6⟩
   ·exact absurd h3 ho
   ·exact⟨h0,h1,by omega,h5,fun h=>absurd h ho,fun _ _=>h4,fun h=>by have:=h6 h;omega,fun h=>absurd h h12⟩
theorem LW (s:List UInt8):(aJ s).Pairwise (fun p q=>p.2.1<q.2.1):=by
 rw[qU]
 refine List.pairwise_map.2 ((Ob s 0 bY [] (by omega) iC).imp fun h=> ?_)
 rw[DJ,DJ];exact h
theorem uA (s:List UInt8):(aJ s).length<=s.length:=by
 have h: ∀(l:List UInt8) (a:Int) (x:dm×Bool) (fr:List Int),(nP l a x fr).length<=l.length:=by
  intro l
  induction l with
  |nil=>intro a x fr;exact Nat.le_refl 0
  |cons b l ih=>
   intro a x fr
   rw[nP]
   split
   ·simp only[List.length_cons];have:=ih (a+1) (dn x.1 x.2 (gm b) a) (fr++[a]);omega
   ·have:=ih (a+1) (dn x.1 x.2 (gm b) a) fr;simp only[List.length_cons];omega
 rw[qU,List.length_map]
 exact h s 0 bY []
end Go.Proofs.YtihafdllichkeaaGreatDoor
namespace Go.Proofs.YtihafdllichkeaaGreatDoor
open Go.RowKit
set_option linter.unusedVariables false
set_option linter.unusedSimpArgs false
set_option maxRecDepth 100000
def pW (L:List iO) (v:Int):Option iO:=L.find? fun p=>p.2.1==v
theorem Io {L:List iO} {v:Int} {p:iO} (h:pW L v=some p):p∈L/\p.2.1=v:=
 ⟨List.mem_of_find?_eq_some h,by simpa using List.find?_some h⟩
theorem qA {s:List UInt8} {v:Int} {p:iO} (h:pW (aJ s) v=some p):PF s p/\p.2.1=v:=
 ⟨ac0 s p (Io h).1,(Io h).2⟩
def lone (p:iO):Bool:=decide (p.1=12)&&decide (p.2.2.1=p.2.1+1)
def jS (s:List UInt8) (p:iO):List UInt8:=sub s p.2.1 p.2.2.1
def qC (p:iO):Int:=if p.2.2.2.2.1=true then p.2.2.1 else p.2.2.1-1
def J8 (s:List UInt8) (p:iO):List UInt8:=
 if p.2.2.1=p.2.1+2/\aI s (p.2.1+1)≠10 then sub s (p.2.1+1) p.2.2.1 else []
def Kr (s:List UInt8) (p:iO):List UInt8:=
 if p.2.2.1=p.2.1+2 then
  (if aI s (p.2.1+1)=36\/aI s (p.2.1+1)=96\/aI s (p.2.1+1)=34\/aI s (p.2.1+1)=92 then sub s (p.2.1+1) p.2.2.1
  else if aI s (p.2.1+1)=10 then []else jS s p)
 else []
def eY (s:List UInt8) (L:List iO) (at_:Int):Int×List UInt8×Bool:=
 match pW L at_ with
 |none=>(at_+1,sub s at_ (at_+1),false)
 |some p=>if lone p=true then(at_+1,sub s at_ (at_+1),false)
  else if p.1=13 then(p.2.2.1,Kr s p,false)
  else(p.2.2.1,jS s p,true)
def mD (s:List UInt8) (L:List iO) (to_:Int):Nat->Int->List UInt8
 |0,_=>[]
 |n+1,at_=>if at_<to_ then(eY s L at_).2.1++mD s L to_ n (eY s L at_).1 else []
def stepT (s:List UInt8) (L:List iO) (at_:Int):Int×List UInt8:=
 match pW L at_ with
 |none=>(at_+1,sub s at_ (at_+1))
 |some p=>if lone p=true\/p.1=14 then(p.2.2.1,jS s p)
  else if p.1=13 then(p.2.2.1,J8 s p)
  else if p.1=4 then(p.2.2.1,sub s (p.2.1+1) (qC p))
  else if p.1=5 then(p.2.2.1,mD s L (qC p) s.length (p.2.1+1))
  else(p.2.2.1,jS s p)
def jd (s:List UInt8) (L:List iO):Nat->Int->List UInt8
 |0,_=>[]
 |n+1,at_=>if at_<s.length then(stepT s L at_).2++jd s L n (stepT s L at_).1 else []
def BN (s:List UInt8):List UInt8:=jd s (aJ s) s.length 0
theorem JR {s:List UInt8} {at_:Int}:at_<(eY s (aJ s) at_).1:=by
 unfold eY
 split
 ·simp only;omega
 ·rename_i p hp
  obtain⟨h,e⟩:=qA hp
  have:=h.t0
  split
  ·simp only;omega
  ·split<;>simp only<;>omega
theorem Ia {s:List UInt8} {at_:Int}:at_<(stepT s (aJ s) at_).1:=by
 unfold stepT
 split
 ·simp only;omega
 ·rename_i p hp
  obtain⟨h,e⟩:=qA hp
  have:=h.t0
  repeat' split
  all_goals (simp only;omega)
theorem UL {s:List UInt8} {at_:Int} (h0:at_<s.length):(stepT s (aJ s) at_).1<=s.length:=by
 unfold stepT
 split
 ·simp only;omega
 ·rename_i p hp
  obtain⟨h,e⟩:=qA hp
  have:=h.t1
  repeat' split
  all_goals (simp only;omega)
theorem Ee (s:List UInt8) (to_:Int): ∀(n m:Nat) (at_:Int),to_-at_<=n->to_-at_<=m->mD s (aJ s) to_ n at_=mD s (aJ s) to_ m at_
 |0,0,_,_,_=>rfl
 |0,m+1,at_,h,_=>by rw[mD,mD,if_neg (by omega)]
 |n+1,0,at_,_,h=>by rw[mD,mD,if_neg (by omega)]
 |n+1,m+1,at_,h1,h2=>by
  rw[mD,mD]
  split
  ·have:= @JR s at_
   rw[Ee s to_ n m _ (by omega) (by omega)]
  ·rfl
theorem Az (s:List UInt8): ∀(n m:Nat) (at_:Int),(s.length:Int)-at_<=n->(s.length:Int)-at_<=m->jd s (aJ s) n at_=jd s (aJ s) m at_
 |0,0,_,_,_=>rfl
 |0,m+1,at_,h,_=>by rw[jd,jd,if_neg (by omega)]
 |n+1,0,at_,_,h=>by rw[jd,jd,if_neg (by omega)]
 |n+1,m+1,at_,h1,h2=>by
  rw[jd,jd]
  split
  ·have:= @Ia s at_
   rw[Az s n m _ (by omega) (by omega)]
  ·rfl
theorem qg {α:Type} (l:List α) (a b:Int):(sub l a b).length<=l.length:=by
 unfold sub
 simp only[List.length_drop,List.length_take];omega
theorem Df (s:List UInt8) (L:List iO) (at_:Int):(eY s L at_).2.1.length<=s.length:=by
 unfold eY
 split
 ·exact qg s _ _
 ·split
  ·exact qg s _ _
  ·split
   ·simp only;unfold Kr jS
    repeat' split
    all_goals first|exact qg s _ _|exact Nat.zero_le _
   ·exact qg s _ _
theorem TD (s:List UInt8) (L:List iO) (to_:Int): ∀(n:Nat) (at_:Int),(mD s L to_ n at_).length<=n*s.length
 |0,_=>by simp[mD]
 |n+1,at_=>by
  rw[mD]
  split
  ·have:=Df s L at_
   have:=TD s L to_ n (eY s L at_).1
   rw[List.length_append,Nat.succ_mul];omega
  ·exact Nat.zero_le _
theorem Dj (s:List UInt8) (L:List iO) (at_:Int):(stepT s L at_).2.length<=s.length*s.length+s.length:=by
 have h: ∀a b,(sub s a b).length<=s.length*s.length+s.length:=fun a b=>Nat.le_trans (qg s a b) (Nat.le_add_left _ _)
 unfold stepT
 split
 ·exact h _ _
 ·split
  ·exact h _ _
  ·split
   ·simp only;unfold J8
    split
    ·exact h _ _
    ·exact Nat.zero_le _
   ·split
    ·exact h _ _
    ·split
     ·exact Nat.le_trans (TD _ _ _ _ _) (Nat.le_add_right _ _)
     ·exact h _ _
theorem LJ (s:List UInt8) (L:List iO): ∀(n:Nat) (at_:Int),(jd s L n at_).length<=n*(s.length*s.length+s.length)
 |0,_=>by simp[jd]
 |n+1,at_=>by
  rw[jd]
  split
  ·have:=Dj s L at_
   have:=LJ s L n (stepT s L at_).1
   rw[List.length_append,Nat.succ_mul];omega
  ·exact Nat.zero_le _
end Go.Proofs.YtihafdllichkeaaGreatDoor
namespace Go.Proofs.YtihafdllichkeaaGreatDoor
open Go.RowKit
set_option linter.unusedVariables false
set_option linter.unusedSimpArgs false
set_option maxRecDepth 100000
set_option maxHeartbeats 4000000
noncomputable def aa7:Code:=(Tryz.f148.body).getD .skip
noncomputable def agK:Code:=cA (cA (cA (cB (cB (cA (cA (cB (cA (cA (cB (cA (cB (cB (aa7))))))))))))))
noncomputable def agU:Code:=cA (cA (cB (cA (cB (cB (aa7))))))
def aes:dB:=⟨[0,5,9,10,100007],[],[0,5,9,10],[],[6,7],[]⟩
def aef:dB:=⟨[0,5,8,9,100003],[],[0],[],[6,7],[]⟩
def Rh:SP:=⟨us [.v .str,.u,.u,.u,.u,.ptr 1000005 0,.u,.u,.u,.v (.int .i64),.v (.int .i64)] 63,[.box 1000005 129 [.v .str,.v .bool]]⟩
def Qg:SP:=⟨us [.v .str,.u,.u,.u,.u,.ptr 1000005 0,.u,.u,.u,.v (.int .i64),.v (.int .i64)] 63,[.box 1000005 129 [.v .str,.v .bool]]⟩
def NQ:SP:=⟨us [.u,.u,.u,.u,.u,.u,.v (.int .i64),.v (.int .i64)] 66,[]⟩
def FT {γ:Type} (rec:(List UInt8)->Int->Int->(List UInt8)->Bool->Option γ) (kE:(List UInt8)->Int->Int->(List UInt8)->Bool->Option γ) (kR:Int->Int->Option γ) (v0:List UInt8) (v1:Int) (v2:Int) (v3:List UInt8) (v4:Bool):Option γ:=
 bif v4 then
  bif(fD v2 v1)then
   bif(dX v0 v2)then
    bif(aH (aI v0 v2) 9)then
     rec v0 v1 (aG .i64 v2 1) v3 v4
    else
    kE v0 v1 v2 v3 v4
   else
   none
  else
  kE v0 v1 v2 v3 v4
 else
 kE v0 v1 v2 v3 v4
def o5:Nat->(List UInt8)->Int->Int->(List UInt8)->Bool->Option (Qg.den⊕NQ.den)
 |0,_,_,_,_,_=>none
 |n+1,v0,v1,v2,v3,v4=>FT (o5 n) (fun e0 e1 e2 e3 e4=>some (.inl ((e0,e1,e2,()),((e3,e4,()),())))) (fun r0 r1=>some (.inr ((r0,r1,()),()))) v0 v1 v2 v3 v4
noncomputable def Yw:bG:=dO aes Rh Qg NQ (.exit 2) (fun v=>o5 aO v.1.1 v.1.2.1 v.1.2.2.1 v.2.1.1 v.2.1.2.1) 6
def OZ:SP:=⟨us [.v .str,.u,.u,.u,.u,.ptr 1000005 0,.u,.u,.v (.int .i64),.v (.int .i64)] 64,[.box 1000005 129 [.v .str,.v .bool]]⟩
def Gl:SP:=⟨us [.v .str] 73,[]⟩
def Gx:SP:=⟨us [.u,.u,.u,.u,.u,.u,.v (.int .i64),.v (.int .i64)] 66,[]⟩
def yC {γ:Type} (rec:(List UInt8)->Int->Int->(List UInt8)->Bool->Option γ) (kE:(List UInt8)->Option γ) (kR:Int->Int->Option γ) (v0:List UInt8) (v1:Int) (v2:Int) (v3:List UInt8) (v4:Bool):Option γ:=
 bif(leI v2 (ah v0))then
  bif(fD v2 (ah v0))then
   bif(dX v0 v2)then
    bif(!(aH (aI v0 v2) 10))then
     rec v0 v1 (aG .i64 v2 1) v3 v4
    else
    bif(aH v2 (ah v0))then
     bif(aH v1 v2)then
      rec v0 v1 (aG .i64 v2 1) v3 v4
     else
     ai (o5 aO v0 v2 v1 v3 v4) fun y0=>
      bF y0 (fun a1=>
       bif(bu (ah a1.1.1) a1.1.2.2.1 a1.1.2.1)then
        bif(cO (sub a1.1.1 a1.1.2.2.1 a1.1.2.1) a1.2.1.1)then
         bif(fD a1.1.2.1 (ah a1.1.1))then
          kR (aG .i64 a1.1.2.1 1) 1
         else
         kR a1.1.2.1 1
        else
        rec a1.1.1 (aG .i64 a1.1.2.1 1) (aG .i64 a1.1.2.1 1) a1.2.1.1 a1.2.1.2.1
       else
       none) (fun b1=>
       kR b1.1.1 b1.1.2.1)
    else
    ai (o5 aO v0 v2 v1 v3 v4) fun y0=>
     bF y0 (fun a1=>
      bif(bu (ah a1.1.1) a1.1.2.2.1 a1.1.2.1)then
       bif(cO (sub a1.1.1 a1.1.2.2.1 a1.1.2.1) a1.2.1.1)then
        bif(fD a1.1.2.1 (ah a1.1.1))then
         kR (aG .i64 a1.1.2.1 1) 1
        else
        kR a1.1.2.1 1
       else
       rec a1.1.1 (aG .i64 a1.1.2.1 1) (aG .i64 a1.1.2.1 1) a1.2.1.1 a1.2.1.2.1
      else
      none) (fun b1=>
      kR b1.1.1 b1.1.2.1)
   else
   none
  else
  bif(aH v2 (ah v0))then
   bif(aH v1 v2)then
    rec v0 v1 (aG .i64 v2 1) v3 v4
   else
   ai (o5 aO v0 v2 v1 v3 v4) fun y0=>
    bF y0 (fun a1=>
     bif(bu (ah a1.1.1) a1.1.2.2.1 a1.1.2.1)then
      bif(cO (sub a1.1.1 a1.1.2.2.1 a1.1.2.1) a1.2.1.1)then
       bif(fD a1.1.2.1 (ah a1.1.1))then
        kR (aG .i64 a1.1.2.1 1) 1
       else
       kR a1.1.2.1 1
      else
      rec a1.1.1 (aG .i64 a1.1.2.1 1) (aG .i64 a1.1.2.1 1) a1.2.1.1 a1.2.1.2.1
     else
     none) (fun b1=>
     kR b1.1.1 b1.1.2.1)
  else
  ai (o5 aO v0 v2 v1 v3 v4) fun y0=>
   bF y0 (fun a1=>
    bif(bu (ah a1.1.1) a1.1.2.2.1 a1.1.2.1)then
     bif(cO (sub a1.1.1 a1.1.2.2.1 a1.1.2.1) a1.2.1.1)then
      bif(fD a1.1.2.1 (ah a1.1.1))then
       kR (aG .i64 a1.1.2.1 1) 1
      else
      kR a1.1.2.1 1
     else
     rec a1.1.1 (aG .i64 a1.1.2.1 1) (aG .i64 a1.1.2.1 1) a1.2.1.1 a1.2.1.2.1
    else
    none) (fun b1=>
    kR b1.1.1 b1.1.2.1)
 else
 kE v0
def nH:Nat->(List UInt8)->Int->Int->(List UInt8)->Bool->Option (Gl.den⊕Gx.den)
 |0,_,_,_,_,_=>none
 |n+1,v0,v1,v2,v3,v4=>yC (nH n) (fun e0=>some (.inl ((e0,()),()))) (fun r0 r1=>some (.inr ((r0,r1,()),()))) v0 v1 v2 v3 v4
noncomputable def YB:bG:=dO aef OZ Gl Gx (.exit 0) (fun v=>nH aO v.1.1 v.1.2.1 v.1.2.2.1 v.2.1.1 v.2.1.2.1) 12
def Zt (x0:List UInt8) (x1:Int) (x2:(List UInt8)×(Bool×Unit)):Option (Int×Int×Unit):=
 ai (nH aO x0 x1 x1 x2.1 x2.2.1) fun y0=>
  bF y0 (fun a1=>
   some ((ah a1.1.1),(0,()))) (fun b1=>
   some (b1.1.1,(b1.1.2.1,())))
def Xo:Sum:=(⟨[.str,.int .i64,.pair .str (.pair .bool .unit)],[(.int .i64,false),(.int .i64,false)],fun x=>Zt x.1 x.2.1 x.2.2.1⟩:Sum)
noncomputable def Oj:Env:=dH Tryz.prog tt 148 [] [(7,aes),(3,aef)] [(7,Yw),(3,YB)]
def YH {γ:Type} (a:Rh.den->Option γ) (b:Qg.den->Option γ) (c:NQ.den->Option γ) (v:Rh.den):Option γ:=FT (fun v0 v1 v2 v3 v4=>a ((v0,v1,v2,()),((v3,v4,()),()))) (fun e0 e1 e2 e3 e4=>b ((e0,e1,e2,()),((e3,e4,()),()))) (fun r0 r1=>c ((r0,r1,()),())) v.1.1 v.1.2.1 v.1.2.2.1 v.2.1.1 v.2.1.2.1
theorem akh:di Oj 148 agK Yw:=wG (YH) (lp:=fun n (v:Rh.den)=>o5 n v.1.1 v.1.2.1 v.1.2.2.1 v.2.1.1 v.2.1.2.1) (by kernel_rfl) (fun _=>rfl) (fun _ _=>rfl) (fun d n K v=>by kernel_rfl) (by intros;simp only[YH,FT,bg,bn,ae,aV,bi])
def Z5 {γ:Type} (a:OZ.den->Option γ) (b:Gl.den->Option γ) (c:Gx.den->Option γ) (v:OZ.den):Option γ:=yC (fun v0 v1 v2 v3 v4=>a ((v0,v1,v2,()),((v3,v4,()),()))) (fun e0=>b ((e0,()),())) (fun r0 r1=>c ((r0,r1,()),())) v.1.1 v.1.2.1 v.1.2.2.1 v.2.1.1 v.2.1.2.1
theorem ajx:di Oj 148 agU YB:=wG (Z5) (lp:=fun n (v:OZ.den)=>nH n v.1.1 v.1.2.1 v.1.2.2.1 v.2.1.1 v.2.1.2.1) (by kernel_rfl) (fun _=>rfl) (fun _ _=>rfl) (fun d n K v=>by kernel_rfl) (by intros;simp only[Z5,yC,bg,bn,ae,aV,bi])
theorem amT:bZ aa7=[agK,agU]:=by kernel_rfl
theorem am7:cZ Oj 148 aa7:=bP aa7 (fun _=>rfl) (by rw[amT];exact(aC ⟨fL (by kernel_rfl) (akh),(aC ⟨fL (by kernel_rfl) (ajx),aN⟩)⟩))
theorem abI:bJ Oj:=bz tok mixed bV (sg:=[]) aN (fn:=Tryz.f148) (c:=aa7) (by kernel_rfl) (by kernel_rfl) (am7) bW bC
theorem aaE:bD Tryz.prog 148 Xo:=ed abI (by decide) fun x=>by kernel_rfl
noncomputable def agQ:Code:=(Tryz.f149.body).getD .skip
noncomputable def afz:Code:=cA (cA (cA (cB (agQ))))
def ahf:dB:=⟨[0,1,100001],[],[1],[],[4],[]⟩
def Nr:SP:=⟨us [.v .str,.v (.int .i64)] 40,[]⟩
def Gh:SP:=⟨us [.u,.v (.int .i64)] 40,[]⟩
def Gs:SP:=⟨us [.u,.u,.u,.u,.v (.int .i64)] 37,[]⟩
def FB {γ:Type} (rec:(List UInt8)->Int->Option γ) (kE:Int->Option γ) (kR:Int->Option γ) (v0:List UInt8) (v1:Int):Option γ:=
 bif(fD v1 (ah v0))then
  bif(dX v0 v1)then
   bif(aH (aI v0 v1) 32)then
    rec v0 (aG .i64 v1 1)
   else
   bif(dX v0 v1)then
    bif(aH (aI v0 v1) 9)then
     rec v0 (aG .i64 v1 1)
    else
    bif(dX v0 v1)then
     bif(aH (aI v0 v1) 92)then
      bif(fD (aG .i64 v1 1) (ah v0))then
       bif(dX v0 (aG .i64 v1 1))then
        bif(aH (aI v0 (aG .i64 v1 1)) 10)then
         rec v0 (aG .i64 v1 2)
        else
        kE v1
       else
       none
      else
      kE v1
     else
     kE v1
    else
    none
   else
   none
  else
  none
 else
 kE v1
def vN:Nat->(List UInt8)->Int->Option (Gh.den⊕Gs.den)
 |0,_,_=>none
 |n+1,v0,v1=>FB (vN n) (fun e0=>some (.inl ((e0,()),()))) (fun r0=>some (.inr ((r0,()),()))) v0 v1
noncomputable def YP:bG:=dO ahf Nr Gh Gs (.exit 0) (fun v=>vN aO v.1.1 v.1.2.1) 6
def ZA (x0:List UInt8) (x1:Int):Option (Int×Unit):=
 ai (vN aO x0 x1) fun y0=>
  bF y0 (fun a1=>
   some (a1.1.1,())) (fun b1=>
   some (b1.1.1,()))
def Vg:Sum:=(⟨[.str,.int .i64],[(.int .i64,false)],fun x=>ZA x.1 x.2.1⟩:Sum)
noncomputable def XN:Env:=dH Tryz.prog tt 149 [] [(1,ahf)] [(1,YP)]
def YZ {γ:Type} (a:Nr.den->Option γ) (b:Gh.den->Option γ) (c:Gs.den->Option γ) (v:Nr.den):Option γ:=FB (fun v0 v1=>a ((v0,v1,()),())) (fun e0=>b ((e0,()),())) (fun r0=>c ((r0,()),())) v.1.1 v.1.2.1
theorem ajg:di XN 149 afz YP:=wG (YZ) (lp:=fun n (v:Nr.den)=>vN n v.1.1 v.1.2.1) (by kernel_rfl) (fun _=>rfl) (fun _ _=>rfl) (fun d n K v=>by kernel_rfl) (by intros;simp only[YZ,FB,bg,bn,ae,aV,bi])
theorem anN:bZ agQ=[afz]:=by kernel_rfl
theorem alc:cZ XN 149 agQ:=bP agQ (fun _=>rfl) (by rw[anN];exact(aC ⟨fL (by kernel_rfl) (ajg),aN⟩))
theorem ab6:bJ XN:=bz tok mixed bV (sg:=[]) aN (fn:=Tryz.f149) (c:=agQ) (by kernel_rfl) (by kernel_rfl) (alc) bW bC
theorem adz:bD Tryz.prog 149 Vg:=ed ab6 (by decide) fun x=>by kernel_rfl
noncomputable def ag5:Code:=(Tryz.f151.body).getD .skip
noncomputable def ahZ:Code:=cA (cA (cA (cB (cB (cB (ag5))))))
def agC:dB:=⟨[3,100004],[],[3],[],[2],[]⟩
def Oc:SP:=⟨us [.u,.u,.u,.v .str] 29,[]⟩
def NR:SP:=⟨us [.u,.u,.u,.v .str] 29,[]⟩
def OH:SP:=⟨us [.u,.u,.v .str] 30,[]⟩
def QA {γ:Type} (rec:(List UInt8)->Option γ) (kE:(List UInt8)->Option γ) (kR:(List UInt8)->Option γ) (v0:List UInt8):Option γ:=
 bif(fD 0 (ah v0))then
  bif(dX v0 (ag .i64 (ah v0) 1))then
   bif(aH (aI v0 (ag .i64 (ah v0) 1)) 32)then
    bif(bu (ah v0) 0 (ag .i64 (ah v0) 1))then
     rec (sub v0 0 (ag .i64 (ah v0) 1))
    else
    none
   else
   kE v0
  else
  none
 else
 kE v0
def Gv:Nat->(List UInt8)->Option (NR.den⊕OH.den)
 |0,_=>none
 |n+1,v0=>QA (Gv n) (fun e0=>some (.inl ((e0,()),()))) (fun r0=>some (.inr ((r0,()),()))) v0
noncomputable def Yq:bG:=dO agC Oc NR OH (.exit 0) (fun v=>Gv aO v.1.1) 6
def EU (x0:Int):Option ((List UInt8)×Unit):=
 bif(fD x0 1)then
  some ([],())
 else
 bif(fD 17 x0)then
  some ([],())
 else
 bif(bu (ah [38,38,32,124,124,32,59,59,32,60,60,32,60,60,45,62,62,32,60,38,32,62,38,32,60,62,32,62,124,32,60,32,32,62,32,32,38,32,32,59,32,32,124,32,32,40,32,32,41,32,32]) (ac2 .i64 3 (ag .i64 x0 1)) (ac2 .i64 3 x0))then
  ai (Gv aO (sub [38,38,32,124,124,32,59,59,32,60,60,32,60,60,45,62,62,32,60,38,32,62,38,32,60,62,32,62,124,32,60,32,32,62,32,32,38,32,32,59,32,32,124,32,32,40,32,32,41,32,32] (ac2 .i64 3 (ag .i64 x0 1)) (ac2 .i64 3 x0))) fun y0=>
   bF y0 (fun a1=>
    some (a1.1.1,())) (fun b1=>
    some (b1.1.1,()))
 else
 none
def Jo:Sum:=(⟨[.int .i64],[(.str,false)],fun x=>EU x.1⟩:Sum)
noncomputable def X3:Env:=dH Tryz.prog tt 151 [] [(4,agC)] [(4,Yq)]
def Zc {γ:Type} (a:Oc.den->Option γ) (b:NR.den->Option γ) (c:OH.den->Option γ) (v:Oc.den):Option γ:=QA (fun v0=>a ((v0,()),())) (fun e0=>b ((e0,()),())) (fun r0=>c ((r0,()),())) v.1.1
theorem ajn:di X3 151 ahZ Yq:=wG (Zc) (lp:=fun n (v:Oc.den)=>Gv n v.1.1) (by kernel_rfl) (fun _=>rfl) (fun _ _=>rfl) (fun d n K v=>by kernel_rfl) (by intros;simp only[Zc,QA,bg,bn,ae,aV,bi])
theorem alQ:bZ ag5=[ahZ]:=by kernel_rfl
theorem alk:cZ X3 151 ag5:=bP ag5 (fun _=>rfl) (by rw[alQ];exact(aC ⟨fL (by kernel_rfl) (ajn),aN⟩))
theorem aa3:bJ X3:=bz tok mixed bV (sg:=[]) aN (fn:=Tryz.f151) (c:=ag5) (by kernel_rfl) (by kernel_rfl) (alk) bW bC
theorem Md:bD Tryz.prog 151 Jo:=ed aa3 (by decide) fun x=>by kernel_rfl
noncomputable def aeH:Code:=(Tryz.f150.body).getD .skip
noncomputable def aeN:Code:=cA (cA (cB (cA (cB (cB (aeH))))))
def agt:dB:=⟨[0,1,5,6,100003],[],[5],[],[4],[]⟩
def PU:SP:=⟨us [.v .str,.v (.int .i64),.u,.u,.u,.v (.int .i64),.v (.int .i64)] 35,[]⟩
def Q8:SP:=⟨us [.u,.u,.u,.u,.u,.v (.int .i64)] 36,[]⟩
def NH:SP:=⟨us [.u,.u,.u,.u,.v (.int .i64)] 37,[]⟩
def CB {γ:Type} (rec:(List UInt8)->Int->Int->Int->Option γ) (kE:Int->Option γ) (kR:Int->Option γ) (v0:List UInt8) (v1:Int) (v2:Int) (v3:Int):Option γ:=
 bif(leI v3 17)then
  ai (EU v3) fun y0=>
   bif(leI (ah y0.1) (ag .i64 (ah v0) v1))then
    bif(bu (ah v0) v1 (aG .i64 v1 (ah y0.1)))then
     bif(cO (sub v0 v1 (aG .i64 v1 (ah y0.1))) y0.1)then
      ai (EU v2) fun y1=>
       bif(fD (ah y1.1) (ah y0.1))then
        rec v0 v1 v3 (aG .i64 v3 1)
       else
       rec v0 v1 v2 (aG .i64 v3 1)
     else
     rec v0 v1 v2 (aG .i64 v3 1)
    else
    none
   else
   rec v0 v1 v2 (aG .i64 v3 1)
 else
 kE v2
def qR:Nat->(List UInt8)->Int->Int->Int->Option (Q8.den⊕NH.den)
 |0,_,_,_,_=>none
 |n+1,v0,v1,v2,v3=>CB (qR n) (fun e0=>some (.inl ((e0,()),()))) (fun r0=>some (.inr ((r0,()),()))) v0 v1 v2 v3
noncomputable def Zp:bG:=dO agt PU Q8 NH (.exit 0) (fun v=>qR aO v.1.1 v.1.2.1 v.1.2.2.1 v.1.2.2.2.1) 6
def Sz (x0:List UInt8) (x1:Int):Option (Int×Unit):=
 ai (qR aO x0 x1 0 1) fun y0=>
  bF y0 (fun a1=>
   some (a1.1.1,())) (fun b1=>
   some (b1.1.1,()))
def Vw:Sum:=(⟨[.str,.int .i64],[(.int .i64,false)],fun x=>Sz x.1 x.2.1⟩:Sum)
noncomputable def Vt:Env:=dH Tryz.prog tt 150 [(151,Jo)] [(3,agt)] [(3,Zp)]
def aab {γ:Type} (a:PU.den->Option γ) (b:Q8.den->Option γ) (c:NH.den->Option γ) (v:PU.den):Option γ:=CB (fun v0 v1 v2 v3=>a ((v0,v1,v2,v3,()),())) (fun e0=>b ((e0,()),())) (fun r0=>c ((r0,()),())) v.1.1 v.1.2.1 v.1.2.2.1 v.1.2.2.2.1
theorem aiZ:di Vt 150 aeN Zp:=wG (aab) (lp:=fun n (v:PU.den)=>qR n v.1.1 v.1.2.1 v.1.2.2.1 v.1.2.2.2.1) (by kernel_rfl) (fun _=>rfl) (fun _ _=>rfl) (fun d n K v=>by kernel_rfl) (by intros;simp only[aab,CB,bg,bn,ae,aV,bi])
theorem anw:bZ aeH=[aeN]:=by kernel_rfl
theorem anu:cZ Vt 150 aeH:=bP aeH (fun _=>rfl) (by rw[anw];exact(aC ⟨fL (by kernel_rfl) (aiZ),aN⟩))
theorem abU:bJ Vt:=bz tok mixed bV (sg:=[(151,Jo)]) (aC ⟨(Md),aN⟩) (fn:=Tryz.f150) (c:=aeH) (by kernel_rfl) (by kernel_rfl) (anu) bW bC
theorem ab9:bD Tryz.prog 150 Vw:=ed abU (by decide) fun x=>by kernel_rfl
def wK (x0:List UInt8):Option (Bool×Unit):=
 ai (ahQ x0) fun y0=>
  bif(cO y0.1.1 [84])then
   some (true,())
  else
  some ((cO y0.1.1 [84,76]),())
def XD:Sum:=(⟨[.str],[(.bool,false)],fun x=>wK x.1⟩:Sum)
noncomputable def anF:Env:=dH Tryz.prog tt 154 [(53,Ut)] [] []
theorem aaY:bJ anF:=bz tok mixed bV (sg:=[(53,Ut)]) (aC ⟨(TU),aN⟩) (fn:=Tryz.f154) (c:=(Tryz.f154.body).getD .skip) (by kernel_rfl) (by kernel_rfl) (aS (fun _=>rfl) (fun _=>rfl) _) bW bC
theorem adh:bD Tryz.prog 154 XD:=ed aaY (by decide) fun x=>by kernel_rfl
end Go.Proofs.YtihafdllichkeaaGreatDoor
namespace Go.Proofs.YtihafdllichkeaaGreatDoor
open Go.RowKit
set_option linter.unusedVariables false
set_option linter.unusedSimpArgs false
set_option maxRecDepth 100000
def jJ (b:Int):Bool:=decide (b=32)||decide (b=9)
def xO (b:Int):Bool:=decide (b=124)||decide (b=38)||decide (b=59)||decide (b=60)||decide (b=62)||decide (b=40)||decide (b=41)
theorem anh: ∀n:Fin 256,(match Cc ((n.val:Nat):Int)with|some (k,_)=>(aH k 1==jJ ((n.val:Nat):Int))&&(aH k 3==xO ((n.val:Nat):Int))|none=>false)=true:=by decide+kernel
theorem ak8 {b:Int} (h:isByte b): ∃k,Cc b=some (k,())/\aH k 1=jJ b/\aH k 3=xO b:=by
 obtain⟨n,rfl⟩:=IC h
 have:=anh n
 split at this
 ·rename_i k u hk
  simp only[Bool.and_eq_true,beq_iff_eq]at this
  exact⟨k,hk,this.1,this.2⟩
 ·cases this
def MG:List (List UInt8):=[[38,38],[124,124],[59,59],[60,60],[60,60,45],[62,62],[60,38],[62,38],[60,62],[62,124],[60],[62],[38],[59],[124],[40],[41]]
def UZ (u:List UInt8):Nat:=match MG.findIdx? (· ==u)with
 |some j=>j+1
 |none=>0
theorem ad2: ∀n:Fin 18,n.val≠0->agJ ((n.val:Nat):Int)=some (MG.getD (n.val-1) [],()):=by decide+kernel
theorem NS {α:Type} (p:α->Bool) (l:List α) {k:Nat} (h:k<l.length):(l.drop k).findIdx? p=if p l[k]=true then some 0 else((l.drop (k+1)).findIdx? p).map (· +1):=by
 rw[List.drop_eq_getElem_cons h,List.findIdx?_cons]
theorem MP (u:List UInt8): ∀(d N k:Nat),k+d=17->d<N->
  rP N u ((k+1:Nat):Int)=some (match(MG.drop k).findIdx? (· ==u)with
   |some j=>.inr ((((k+j+1:Nat):Int),()),())
   |none=>.inl ((),()))
 |d,0,k,_,h=>by omega
 |0,N+1,k,h,_=>by
  have hk:k=17:=by omega
  subst hk
  rw[rP,CJ]
  rfl
 |d+1,N+1,k,h,hN=>by
  have hk:k<MG.length:=by show k<17;omega
  have ht:=ad2 ⟨k+1,by omega⟩ (by simp)
  simp only[Nat.add_sub_cancel]at ht
  rw[rP,CJ,aK (pX (by omega)),ht,ae,NS _ _ hk]
  have hg:MG.getD k []=MG[k]:=by rw[List.getD_eq_getElem?_getD,List.getElem?_eq_getElem hk];rfl
  simp only[hg,cO]
  by_cases e:(MG[k]==u)=true
  ·rw[e];simp
  ·rw[Bool.not_eq_true]at e
   rw[e,bI (by omega) (by omega),show((k+1:Nat):Int)+1=((k+1+1:Nat):Int) by omega]
   simp only[cond_false]
   rw[MP u d N (k+1) (by omega) (by omega)]
   cases (MG.drop (k+1)).findIdx? (· ==u)with
   |none=>rfl
   |some j=>
    rw[Option.map_some]
    simp only
    rw[show k+1+j+1=k+(j+1)+1 by omega];rfl
theorem anJ (u:List UInt8) (h:UZ u≠0):u∈MG:=by
 unfold UZ at h
 split at h
 ·rename_i j hj
  obtain⟨hl,he,_⟩:=List.findIdx?_eq_some_iff_getElem.1 hj
  have:=eq_of_beq he
  rw[<-this];exact List.getElem_mem hl
 ·exact absurd rfl h
theorem aea (u:List UInt8):UW u=some (((UZ u:Nat):Int),()):=by
 rw[UW]
 by_cases e:u=[]
 ·subst e;rfl
 ·rw[aU (by unfold cO;simpa using e)]
  have h:=MP u 17 aO 0 rfl (dh (by omega))
  rw[List.drop_zero]at h
  rw[show rP aO u 1=_ from h,ae]
  unfold UZ
  cases MG.findIdx? (· ==u)with
  |none=>rfl
  |some j=>simp[bF]
def Gg (t:List UInt8):Nat->Nat×Nat
 |0=>(0,0)
 |n+1=>if UZ (t.take (n+1))≠0 then(UZ (t.take (n+1)),n+1)else Gg t n
theorem uq (s:List UInt8) (a n:Nat):sub s (a:Int) ((a+n:Nat):Int)=(s.drop a).take n:=by
 simp only[sub,Int.toNat_natCast]
 rw[List.drop_take]
 simp
theorem SA (s:List UInt8) (hs:s.length<1000000) (a:Nat): ∀(n N:Nat),n<N->a+n<=s.length->
  vC N s (a:Int) 0 (n:Int)=some (.inl (((((Gg (s.drop a) n).1:Nat):Int),(((Gg (s.drop a) n).2:Nat):Int),()),()))
 |n,0,h,_=>by omega
 |0,N+1,_,_=>by
  rw[vC,AZ];rfl
 |n+1,N+1,h,hn=>by
  rw[vC,AZ,aK (dM (by omega)),bI (by omega) (by omega),show(a:Int)+((n+1:Nat):Int)=((a+(n+1):Nat):Int) by omega,
   aK (dC (by omega) (by omega) (by rw[aB];omega)),uq,aea,ae,Gg]
  by_cases e:UZ ((s.drop a).take (n+1))=0
  ·rw[e]
   simp only[show(!aH ((0:Nat):Int) 0)=false from rfl,cond_false,ne_eq,not_true_eq_false,if_false]
   rw[fU (by omega) (by omega),show((n+1:Nat):Int)-1=(n:Int) by omega]
   exact SA s hs a n N (by omega) (by omega)
  ·rw[if_pos e]
   simp only[bU (a:=((UZ ((s.drop a).take (n+1)):Nat):Int)) (b:=0) (by omega),Bool.not_false,cond_true]
def vK (t:List UInt8):Nat×Nat:=Gg t (min 3 t.length)
theorem aj7 {c:UInt8} {t:List UInt8} (h:c::t∈MG):xO (c.toNat:Int)=true:=by
 have: ∀u∈MG,(match u with|c::_=>xO (c.toNat:Int)|[]=>true)=true:=by decide
 exact this _ h
theorem aak {c:UInt8} {t:List UInt8} (h:xO (c.toNat:Int)=false): ∀n,Gg (c::t) n=(0,0)
 |0=>rfl
 |n+1=>by
  rw[Gg,if_neg,aak h n]
  intro he
  have:=aj7 (anJ _ he)
  rw[h]at this;cases this
theorem auu {s:List UInt8} (hs:s.length<1000000) {a:Nat} (ha:a<s.length):Y6 s a=some ((((vK (s.drop a)).1:Nat):Int),((((vK (s.drop a)).2:Nat):Int),())):=by
 rw[Y6,aU (iq (by omega)),aU (EO (by rw[aB];omega)),aK (dw (by omega) (by omega))]
 obtain⟨k,h1,_,h3⟩:=ak8 (jk s a)
 rw[h1,ae]
 simp only[h3]
 have hd:=List.drop_eq_getElem_cons ha
 rw[byte_at ha]
 cases hm:xO (s[a].toNat:Int)with
 |false=>
  unfold vK
  rw[hd,aak hm];rfl
 |true=>
  simp only[Bool.not_true,cond_false]
  have hmin:yV 3 (ag .i64 (ah s) (a:Int))=((min 3 (s.drop a).length:Nat):Int):=by
   rw[aB,fU (by omega) (by omega),List.length_drop]
   simp only[yV]
   split<;>omega
  rw[hmin,SA s hs a _ aO (dh (by omega)) (by rw[List.length_drop];omega),ae]
  rfl
theorem FQ (t:List UInt8):(vK t).2<=t.length/\((vK t).2=0↔(vK t).1=0)/\(vK t).1<=17:=by
 have h: ∀n,(Gg t n).2<=n/\((Gg t n).2=0↔(Gg t n).1=0)/\(Gg t n).1<=17:=by
  intro n
  induction n with
  |zero=>exact⟨Nat.le_refl _,Iff.rfl,by simp[Gg]⟩
  |succ n ih=>
   rw[Gg]
   split
   ·rename_i e
    refine⟨Nat.le_refl _,⟨fun h=>absurd h (by simp),fun h=>absurd h e⟩, ?_⟩
    unfold UZ
    split
    ·rename_i j hj
     have:=(List.findIdx?_eq_some_iff_getElem.1 hj).1
     have hl:MG.length=17:=rfl
     simp only;omega
    ·exact Nat.zero_le _
   ·exact⟨by have:=ih.1;omega,ih.2⟩
 have:=h (min 3 t.length)
 exact⟨by unfold vK;have:=this.1;omega,this.2⟩
theorem akX (c:UInt8): ∀l:List UInt8,Lib.indexByte l c=if(l.takeWhile (· !=c)).length<l.length then(((l.takeWhile (· !=c)).length:Nat):Int)else-1
 |[]=>rfl
 |b::l=>by
  unfold Lib.indexByte
  rw[akX c l]
  by_cases e:b=c
  ·subst e;simp
  ·have e1:(b==c)=false:=by simpa using e
   have e2:(b !=c)=true:=by simpa using e
   have e3:(b::l).takeWhile (fun x=>x !=c)=b::l.takeWhile (fun x=>x !=c):=by rw[List.takeWhile_cons,e2];rfl
   rw[e1,e3]
   simp only[Bool.false_eq_true,if_false,List.length_cons]
   by_cases h:(l.takeWhile (fun x=>x !=c)).length<l.length
   ·have e4:((((l.takeWhile (fun x=>x !=c)).length:Nat):Int)== -1)=false:=by
     rw[beq_eq_false_iff_ne];omega
    rw[if_pos h]
    simp only[e4,Bool.false_eq_true,if_false]
    rw[if_pos (by omega)];omega
   ·rw[if_neg h]
    simp only[BEq.rfl,if_true]
    rw[if_neg (by omega)]
def fP (s:List UInt8) (a:Nat):Nat:=a+((s.drop a).takeWhile (· !=10)).length
theorem qy (s:List UInt8) (a:Nat):a<=fP s a:=Nat.le_add_right _ _
theorem qf {s:List UInt8} {a:Nat} (h:a<=s.length):fP s a<=s.length:=by
 have:=wo (· !=10) (s.drop a)
 rw[List.length_drop]at this
 unfold fP;omega
theorem aeU {s:List UInt8} (hs:s.length<1000000) {a:Nat} (ha:a<=s.length):MN s a=some (((fP s a:Nat):Int),(decide (fP s a<s.length),())):=by
 have hle:=qf ha
 have hge:=qy s a
 rw[MN,aK (dC (by omega) (by rw[aB];omega) (by omega)),ae3,ahL,ae,ae]
 have h1:sub s (a:Int) (ah s)=s.drop a:=by simp[sub,aB]
 have h2:ibW (sub s (a:Int) (ah s)) 10=if fP s a<s.length then((fP s a-a:Nat):Int)else-1:=by
  rw[h1]
  unfold ibW
  rw[show(10:Int).toNat.toUInt8=10 from rfl,akX,List.length_drop]
  unfold fP at*
  by_cases h:((s.drop a).takeWhile (· !=10)).length<s.length-a
  ·rw[if_pos h,if_pos (by omega)];congr 1;omega
  ·rw[if_neg h,if_neg (by omega)]
 rw[h2]
 by_cases h:fP s a<s.length
 ·rw[if_pos h,aK (pX (by omega)),bI (by omega) (by omega),decide_eq_true h]
  congr 2;omega
 ·rw[if_neg h,aU (EO (by omega)),decide_eq_false h,aB]
  congr 2;omega
def oH:List UInt8->Nat
 |[]=>0
 |[c]=>if jJ (c.toNat:Int)=true then 1 else 0
 |c::d::t=>if jJ (c.toNat:Int)=true then oH (d::t)+1 else if c=92/\d=10 then oH t+2 else 0
theorem Ro: ∀t:List UInt8,oH t<=t.length
 |[]=>Nat.le_refl _
 |[c]=>by rw[oH];split<;>simp
 |c::d::t=>by
  have h1:=Ro (d::t)
  have h2:=Ro t
  rw[oH]
  simp only[List.length_cons]at*
  split
  ·omega
  ·split<;>omega
def oI (t:List UInt8):Bool:=match t with
 |c::d::_=>decide (c=92)&&decide (d=10)
 |_=>false
theorem amk (t:List UInt8):ZG t [92,10]=some (oI t,()):=by
 rw[ZG,ahg]
 cases t with
 |nil=>rfl
 |cons c t=>
  cases t with
  |nil=>rfl
  |cons d t=>
   have h1:leI (ah [(92:UInt8),10]) (ah (c::d::t))=true:=pX (by rw[aB,aB];simp only[List.length_cons,List.length_nil];omega)
   have h2:bu (ah (c::d::t)) 0 (ah [(92:UInt8),10])=true:=dC (by omega) (by rw[aB];simp) (by rw[aB,aB];simp only[List.length_cons,List.length_nil];omega)
   have h3:sub (c::d::t) 0 (ah [(92:UInt8),10])=[c,d]:=by simp[sub,aB]
   simp only[h1,h2,h3,cond_true,ae]
   simp[oI,cO,Bool.beq_eq_decide_eq]
theorem ahc {s:List UInt8} {a:Nat} (ha:a<=s.length):TV s a=some (oI (s.drop a),()):=by
 rw[TV,aK (dC (by omega) (by rw[aB];omega) (by omega)),show sub s (a:Int) (ah s)=s.drop a by simp[sub,aB],amk,ae]
theorem BQ {c:UInt8} {t:List UInt8}:oH (c::t)=if jJ (c.toNat:Int)=true then oH t+1 else if oI (c::t)=true then oH (t.drop 1)+2 else 0:=by
 cases t with
 |nil=>rw[oH];simp[oI,oH]
 |cons d t=>rw[oH];simp[oI]
theorem zV {s:List UInt8} (hs:s.length<1000000): ∀(N a:Nat),s.length-a<N->a<=s.length->
  ∃o,yR N s (a:Int)=some o/\bF o (fun a1=>some (a1.1.1,())) (fun b1=>some (b1.1.1,()))=some ((((a+oH (s.drop a):Nat):Int)),())
 |0,a,h,_=>by omega
 |N+1,a,h,ha=>by
  rw[yR,FI]
  by_cases e:a<s.length
  ·obtain⟨k,h1,h2,_⟩:=ak8 (jk s a)
   have hd:=List.drop_eq_getElem_cons e
   rw[aK (dM (by rw[aB];omega)),aK (dw (by omega) (by omega)),h1,ae]
   simp only[h2]
   rw[byte_at e,hd,BQ]
   by_cases hb:jJ (s[a].toNat:Int)=true
   ·rw[hb,cond_true,if_pos rfl,bI (by omega) (by omega),show(a:Int)+1=((a+1:Nat):Int) by omega]
    obtain⟨o,o1,o2⟩:=zV hs N (a+1) (by omega) (by omega)
    exact⟨o,o1,by rw[o2];congr 2;omega⟩
   ·rw[Bool.not_eq_true]at hb
    rw[hb,cond_false,if_neg (by simp),ahc (by omega),ae,hd]
    cases hc:oI (s[a]::s.drop (a+1))with
    |true=>
     have hlen:a+2<=s.length:=by
      rw[<-hd]at hc
      rcases Nat.lt_or_ge s.length (a+2)with hl|hl
      ·have:(s.drop a).length=1:=by rw[List.length_drop];omega
       obtain⟨x,hx⟩:=List.length_eq_one_iff.1 this
       rw[hx]at hc;cases hc
      ·exact hl
     simp only[cond_true,if_true]
     rw[bI (by omega) (by omega),show(a:Int)+2=((a+2:Nat):Int) by omega,List.drop_drop,show a+1+1=a+2 from rfl]
     obtain⟨o,o1,o2⟩:=zV hs N (a+2) (by omega) (by omega)
     exact⟨o,o1,by rw[o2];congr 2;omega⟩
    |false=>
     simp only[cond_false,Bool.false_eq_true,if_false,Nat.add_zero]
     exact⟨_,rfl,rfl⟩
  ·rw[aU (gp (by rw[aB];omega)),List.drop_of_length_le (by omega)]
   exact⟨_,rfl,rfl⟩
theorem ai1 {s:List UInt8} (hs:s.length<1000000) {a:Nat} (ha:a<=s.length):Sl s a=some ((((a+oH (s.drop a):Nat):Int)),()):=by
 rw[Sl]
 obtain⟨o,o1,o2⟩:=zV hs aO a (dh (by omega)) ha
 rw[o1,ae]
 exact o2
def tu (t:List UInt8):Nat:=if iT t≠0/\(t.drop (iT t)).head?=some 60\/iT t≠0/\(t.drop (iT t)).head?=some 62 then iT t else 0
theorem Fz (t:List UInt8):iT t<=t.length:=wo _ _
theorem agq {s:List UInt8} (hs:s.length<1000000) {a:Nat} (ha:a<=s.length):JO s a=some ((((a+tu (s.drop a):Nat):Int)),()):=by
 have hle:=Fz (s.drop a)
 rw[List.length_drop]at hle
 rw[JO,Si hs ha,ae]
 simp only
 rw[bI (by omega) (by omega),show(a:Int)+((iT (s.drop a):Nat):Int)=((a+iT (s.drop a):Nat):Int) by omega]
 unfold tu
 by_cases h0:iT (s.drop a)=0
 ·rw[aU (iq (by omega)),if_neg (by omega)];rfl
 ·rw[aK (dM (by omega))]
  by_cases h1:a+iT (s.drop a)<s.length
  ·have hd:((s.drop a).drop (iT (s.drop a))).head?=some s[a+iT (s.drop a)]:=by
    rw[List.drop_drop,List.drop_eq_getElem_cons h1];rfl
   rw[aK (dM (by rw[aB];omega)),aK (dw (by omega) (by omega)),byte_at h1,hd]
   by_cases e1:s[a+iT (s.drop a)]=60
   ·rw[e1,if_pos (.inl ⟨h0,rfl⟩)];rfl
   ·have e1':((s[a+iT (s.drop a)].toNat:Nat):Int)≠60:=fun h=>e1 (UInt8.toNat_inj.1 (by rw[show(60:UInt8).toNat=60 from rfl];omega))
    rw[aU (bU e1'),aK (dw (by omega) (by omega))]
    by_cases e2:s[a+iT (s.drop a)]=62
    ·rw[e2,if_pos (.inr ⟨h0,rfl⟩)];rfl
    ·have e2':((s[a+iT (s.drop a)].toNat:Nat):Int)≠62:=fun h=>e2 (UInt8.toNat_inj.1 (by rw[show(62:UInt8).toNat=62 from rfl];omega))
     rw[aU (bU e2'),if_neg (by simp[e1,e2])]
     simp
  ·have hd:((s.drop a).drop (iT (s.drop a))).head?=none:=by
    rw[List.drop_drop,List.drop_of_length_le (by omega)];rfl
   rw[aU (iq (by rw[aB];omega)),hd,if_neg (by simp)];simp
theorem VQ: ∀n:Fin 15,(match ZI ((n.val:Nat):Int)with|some (t,_)=>(t==([]:List UInt8))==(decide (n.val=0)||decide (n.val=12))&&decide (t.length<=2)|none=>false)=true:=by decide+kernel
theorem ag9 {m:Int} (h0:0<=m) (h1:m<=14): ∃t,ZI m=some (t,())/\(t=[]↔m=0\/m=12)/\t.length<=2:=by
 have:=VQ ⟨m.toNat,by omega⟩
 rw[show((m.toNat:Nat):Int)=m by omega]at this
 split at this
 ·rename_i t u ht
  simp only[Bool.and_eq_true,beq_iff_eq,decide_eq_true_eq]at this
  refine⟨t,ht, ?_,this.2⟩
  have h:=this.1
  by_cases e:t=[]
  ·rw[e]at h
   simp only[BEq.rfl]at h
   have:=h.symm
   simp only[Bool.or_eq_true,decide_eq_true_eq]at this
   exact⟨fun _=>by omega,fun _=>e⟩
  ·have h':(t==([]:List UInt8))=false:=by simpa using e
   rw[h']at h
   have:=h.symm
   simp only[Bool.or_eq_false_iff,decide_eq_false_iff_not]at this
   exact⟨fun h=>absurd h e,fun h=>by omega⟩
 ·cases this
def CU (s:dm):Bool:=s.all fun f=>decide (f.1=0)||decide (f.1=12)
theorem AY (F:List yM) (hF:F.length<1000000) (hm: ∀f∈F,0<=f.1/\f.1<=14): ∀(N k:Nat) (a b:List UInt8) (t:List Int),k<N->k<=F.length->t.length<=2*(F.length-k)->
  ∃t',jZ N ((k:Int)-1) a b F t=some (.inl ((),((a,()),(),(),()),((b,()),(F,()),(),t',())))/\(t'=[]↔t=[]/\ ∀f∈F.take k,f.1=0\/f.1=12)
 |0,k,a,b,t,h,_,_=>by omega
 |N+1,0,a,b,t,h,_,_=>by
  rw[jZ,oq]
  refine⟨t,rfl, ?_⟩
  simp
 |N+1,k+1,a,b,t,h,hk,ht=>by
  rw[jZ,oq]
  have hk':k<F.length:=by omega
  have hg:af F (0,(0,())) (k:Int)=F[k]:=by
   unfold af
   rw[Int.toNat_natCast,List.getD_eq_getElem?_getD,List.getElem?_eq_getElem hk'];rfl
  have hb:=hm F[k] (List.getElem_mem hk')
  obtain⟨c,c1,c2,c3⟩:=ag9 hb.1 hb.2
  have hfit:aZ (az t (ak c)) 1=true:=by
   simp only[aZ,az,ak,List.length_append,List.length_map,decide_eq_true_eq,jg];omega
  rw[show((k+1:Nat):Int)-1=(k:Int) by omega,aK (pX (by omega)),aK (dw (by omega) (by omega)),hg,c1,ae]
  simp only[hfit,eG,cond_true]
  rw[fU (by omega) (by omega)]
  obtain⟨t',h1,h2⟩:=AY F hF hm N k a b (az t (ak c)) (by omega) (by omega) (by simp only[az,ak,List.length_append,List.length_map];omega)
  refine⟨t',h1, ?_⟩
  rw[h2,List.take_add_one,List.getElem?_eq_getElem hk']
  have:az t (ak c)=[]↔t=[]/\(F[k].1=0\/F[k].1=12):=by
   rw[<-c2]
   unfold az ak
   simp
  rw[this]
  simp only[Option.toList_some,List.mem_append,List.mem_singleton]
  constructor
  ·rintro ⟨⟨e1,e2⟩,e3⟩
   exact⟨e1,fun f hf=>hf.elim (e3 f) (fun e=>by rw[e];exact e2)⟩
  ·rintro ⟨e1,e2⟩
   exact⟨⟨e1,e2 _ (.inr rfl)⟩,fun f hf=>e2 f (.inl hf)⟩
theorem abm (w:List UInt8) (hw:w.length<=100000): ∃t,TA w=some (t,())/\(!cO t [])= !CU (jq w 0 bY).1:=by
 have hg:=tH w 0 bY iC
 have hl:bY.1.length=1:=rfl
 have hm:=vz hg.1
 rw[TA,akn w hw,ae]
 obtain⟨t',h1,h2⟩:=AY (lo (jq w 0 bY).1) (by rw[jl];omega) (fun f hf=>by
  unfold lo at hf
  rw[List.mem_reverse,List.mem_map]at hf
  obtain⟨g,hg,rfl⟩:=hf
  exact hm g hg) aO (lo (jq w 0 bY).1).length [] [] [] (dh (by rw[jl];omega)) (Nat.le_refl _) (by simp)
 simp only
 rw[aB,fU (by rw[jl];omega) (by rw[jl];omega),h1,ae]
 refine⟨_,rfl, ?_⟩
 congr 1
 simp only
 rw[List.take_length]at h2
 have h3:(∀f∈lo (jq w 0 bY).1,f.1=0\/f.1=12)↔CU (jq w 0 bY).1=true:=by
  unfold CU lo
  simp only[List.mem_reverse,List.mem_map,List.all_eq_true,Bool.or_eq_true,decide_eq_true_eq]
  exact⟨fun h f hf=>h _ ⟨f,hf,rfl⟩,fun h f ⟨g,hg,e⟩=>by subst e;exact h g hg⟩
 rw[h3]at h2
 unfold cO
 cases hs:CU (jq w 0 bY).1 with
 |true=>rw[h2.2 ⟨rfl,hs⟩];rfl
 |false=>
  have:t'≠[]:=fun e=>by have:=(h2.1 e).2;rw[hs]at this;cases this
  cases t' with
  |nil=>exact absurd rfl this
  |cons x y=>rfl
def lJ (s:List UInt8) (tabs:Bool) (a:Nat):List UInt8:=if tabs=true then((s.take (fP s a)).drop a).dropWhile (· ==9)else(s.take (fP s a)).drop a
def jR (s:List UInt8) (a:Nat):Nat:=if fP s a<s.length then fP s a+1 else fP s a
def kM (s w:List UInt8) (tabs:Bool):Nat->Nat->Nat×Bool
 |0,a=>(a,false)
 |n+1,a=>if a<s.length then(if lJ s tabs a=w then(jR s a,true)else kM s w tabs n (jR s a))else(a,false)
theorem UJ {s:List UInt8} {a:Nat} (h:a<s.length):a<jR s a/\jR s a<=s.length:=by
 have h1:=qy s a
 have h2:=qf (s:=s) (a:=a) (by omega)
 unfold jR
 split<;>omega
theorem JE: ∀(l:List UInt8) (N:Nat),l.length<N->uY N l 9=some (.inl ((l.dropWhile (· ==9),()),()))
 |l,0,h=>by omega
 |[],N+1,_=>by rw[uY,CP];rfl
 |c::l,N+1,h=>by
  rw[uY,CP,aK (dM (by rw[aB];simp only[List.length_cons];omega)),aK (dw (by omega) (by simp only[List.length_cons];omega)),show aI (c::l) 0=(c.toNat:Int) from rfl]
  by_cases e:c=9
  ·subst e
   rw[show aH (((9:UInt8).toNat:Nat):Int) 9=true from rfl,cond_true,aK (dC (by omega) (by rw[aB];simp only[List.length_cons];omega) (by omega))]
   rw[show sub ((9:UInt8)::l) 1 (ah ((9:UInt8)::l))=l by simp[sub,aB],JE l N (by simp at h;omega)]
   simp
  ·rw[aU (bU (fun h=>e (UInt8.toNat_inj.1 (by rw[show(9:UInt8).toNat=9 from rfl];omega)))),List.dropWhile_cons_of_neg (by simpa using e)]
theorem aip (l:List UInt8) (hl:l.length<1000000):ZU l 9=some (l.dropWhile (· ==9),()):=by
 rw[ZU,JE l aO (dh (by omega)),ae];rfl
theorem KT {s w:List UInt8} (hs:s.length<1000000) (tabs:Bool): ∀(N a:Nat),s.length-a<N->a<=s.length->
  qL N s (a:Int) w tabs=some (if(kM s w tabs N a).2=true then .inr (((((kM s w tabs N a).1:Nat):Int),true,()),())else .inl (((((kM s w tabs N a).1:Nat):Int),()),()))
 |0,a,h,_=>by omega
 |N+1,a,h,ha=>by
  rw[qL,Gw,kM]
  by_cases e:a<s.length
  ·have h1:=qy s a
   have h2:=qf (s:=s) (a:=a) (by omega)
   have hn:=UJ e
   have ih:=KT (w:=w) hs tabs N (jR s a) (by omega) (by omega)
   have hsub:sub s (a:Int) ((fP s a:Nat):Int)=(s.take (fP s a)).drop a:=by simp[sub]
   have hfin: ∀(x:List UInt8),x=lJ s tabs a->
     (bif decide (fP s a<s.length)then
      bif cO x w then(some (.inr ((aG .i64 ((fP s a:Nat):Int) 1,true,()),())):Option (Gq.den⊕F7.den))
      else qL N s (aG .i64 ((fP s a:Nat):Int) 1) w tabs
     else bif cO x w then some (.inr ((((fP s a:Nat):Int),true,()),()))
      else qL N s ((fP s a:Nat):Int) w tabs)=
     some (if(if lJ s tabs a=w then(jR s a,true)else kM s w tabs N (jR s a)).2=true
      then .inr (((((if lJ s tabs a=w then(jR s a,true)else kM s w tabs N (jR s a)).1:Nat):Int),true,()),())
      else .inl (((((if lJ s tabs a=w then(jR s a,true)else kM s w tabs N (jR s a)).1:Nat):Int),()),())):=by
    intro x hx
    subst hx
    have hw:cO (lJ s tabs a) w=decide (lJ s tabs a=w):=by
     unfold cO;by_cases e:lJ s tabs a=w<;>simp[e]
    rw[hw]
    by_cases hl:fP s a<s.length
    ·have hnx:jR s a=fP s a+1:=by unfold jR;rw[if_pos hl]
     rw[decide_eq_true hl,cond_true,bI (by omega) (by omega),show((fP s a:Nat):Int)+1=((jR s a:Nat):Int) by omega]
     by_cases hw:lJ s tabs a=w
     ·rw[decide_eq_true hw,if_pos hw];rfl
     ·rw[decide_eq_false hw,if_neg hw,cond_false,ih]
    ·have hnx:jR s a=fP s a:=by unfold jR;rw[if_neg hl]
     rw[decide_eq_false hl,cond_false,<-hnx]
     by_cases hw:lJ s tabs a=w
     ·rw[decide_eq_true hw,if_pos hw];rfl
     ·rw[decide_eq_false hw,if_neg hw,cond_false,ih]
   rw[aK (dM (by rw[aB];omega)),aeU hs (by omega),ae,if_pos e]
   simp only
   rw[aK (dC (by omega) (by omega) (by rw[aB];omega)),hsub]
   cases tabs with
   |false=>exact hfin _ (by rw[lJ,if_neg (by simp)])
   |true=>
    simp only[cond_true]
    by_cases e0:(s.take (fP s a)).drop a=[]
    ·rw[e0,show cO ([]:List UInt8) []=true from rfl,cond_true]
     exact hfin _ (by rw[lJ,if_pos rfl,e0];rfl)
    ·rw[aU (by unfold cO;simpa using e0)]
     refine(aU (by rfl)).trans ?_
     refine(aK (by rfl)).trans ?_
     refine(aK (by rfl)).trans ?_
     refine(aK (by rfl)).trans ?_
     refine(aK (by rfl)).trans ?_
     rw[show aI [9] 0=9 from rfl]
     rw[aip _ (by rw[List.length_drop,List.length_take];omega),ae]
     exact hfin _ (by rw[lJ,if_pos rfl])
  ·rw[aU (gp (by rw[aB];omega)),if_neg e];rfl
def vY (s w:List UInt8) (tabs:Bool) (a:Nat):Nat×Bool:=kM s w tabs aO a
theorem amj {s:List UInt8} (hs:s.length<1000000) (d:List UInt8×Bool×Unit) {a:Nat} (ha:a<=s.length):Yf s a d=some ((((vY s d.1 d.2.1 a).1:Nat):Int),((vY s d.1 d.2.1 a).2,())):=by
 rw[Yf,KT hs d.2.1 aO a (dh (by omega)) ha,ae]
 unfold vY
 cases h:(kM s d.1 d.2.1 aO a).2 with
 |true=>simp[bF]
 |false=>simp[bF]
end Go.Proofs.YtihafdllichkeaaGreatDoor
namespace Go.Proofs.YtihafdllichkeaaGreatDoor
open Go.RowKit
set_option linter.unusedVariables false
set_option linter.unusedSimpArgs false
set_option maxRecDepth 100000
def Dx (n:Nat):List UInt8:=if n=0 then []else MG.getD (n-1) []
def PQ (u t:List UInt8):Bool:=decide (t.take u.length=u)
def mi (t:List UInt8):Nat->Nat
 |0=>0
 |n+1=>if PQ (Dx (n+1)) t=true/\(Dx (mi t n)).length<(Dx (n+1)).length then n+1 else mi t n
theorem Dp: ∀n:Fin 18,EU ((n.val:Nat):Int)=some (Dx n.val,()):=by decide+kernel
theorem Z4: ∀n:Fin 18,(Dx n.val).length<=3:=by decide+kernel
theorem S9 (t:List UInt8): ∀n,mi t n<=n
 |0=>Nat.le_refl _
 |n+1=>by rw[mi];split<;>have:=S9 t n<;>omega
theorem UM (s:List UInt8) (hs:s.length<1000000) {a:Nat} (ha:a<=s.length): ∀(d N k:Nat),k+d=17->d<N->
  qR N s (a:Int) ((mi (s.drop a) k:Nat):Int) ((k+1:Nat):Int)=some (.inl ((((mi (s.drop a) 17:Nat):Int),()),()))
 |d,0,k,_,h=>by omega
 |0,N+1,k,h,_=>by
  have hk:k=17:=by omega
  subst hk
  rw[qR,CB]
  rfl
 |d+1,N+1,k,h,hN=>by
  have ht:=Dp ⟨k+1,by omega⟩
  have hb:=S9 (s.drop a) k
  have hbt:=Dp ⟨mi (s.drop a) k,by omega⟩
  have hl:=Z4 ⟨k+1,by omega⟩
  simp only at ht hbt hl
  rw[qR,CB,aK (pX (by omega)),ht,ae]
  simp only
  rw[bI (a:=((k+1:Nat):Int)) (by omega) (by omega),show((k+1:Nat):Int)+1=((k+1+1:Nat):Int) by omega,aB,aB,fU (by omega) (by omega)]
  have ih:=UM s hs ha d N (k+1) (by omega) (by omega)
  rw[mi]at ih
  by_cases e:a+(Dx (k+1)).length<=s.length
  ·rw[aK (pX (by omega)),bI (by omega) (by omega),show(a:Int)+(((Dx (k+1)).length:Nat):Int)=((a+(Dx (k+1)).length:Nat):Int) by omega,aK (dC (by omega) (by omega) (by omega)),uq]
   have hp:cO ((s.drop a).take (Dx (k+1)).length) (Dx (k+1))=PQ (Dx (k+1)) (s.drop a):=by
    unfold cO PQ;by_cases e:(s.drop a).take (Dx (k+1)).length=Dx (k+1)<;>simp[e]
   rw[hp]
   cases hx:PQ (Dx (k+1)) (s.drop a)with
   |false=>rw[cond_false];rw[hx,if_neg (by simp)]at ih;exact ih
   |true=>
    rw[hx]at ih
    rw[cond_true,hbt,ae]
    simp only[aB]
    by_cases e2:(Dx (mi (s.drop a) k)).length<(Dx (k+1)).length
    ·rw[aK (dM (by omega))];rw[if_pos ⟨rfl,e2⟩]at ih;exact ih
    ·rw[aU (iq (by omega))];rw[if_neg (fun h=>e2 h.2)]at ih;exact ih
  ·rw[aU (EO (by omega))]
   have hx:PQ (Dx (k+1)) (s.drop a)=false:=by
    unfold PQ
    refine decide_eq_false fun h=> ?_
    have:=congrArg List.length h
    rw[List.length_take,List.length_drop]at this
    omega
   rw[hx,if_neg (by simp)]at ih
   exact ih
theorem aoN (s:List UInt8) (hs:s.length<1000000) {a:Nat} (ha:a<=s.length):Sz s a=some (((mi (s.drop a) 17:Nat):Int),()):=by
 rw[Sz]
 have h:=UM s hs ha 17 aO 0 rfl (dh (by omega))
 rw[show qR aO s (a:Int) 0 1=_ from h,ae]
 rfl
def opB:List UInt8:=[38,124,59,60,62,45,40,41]
def qI (c:UInt8):UInt8:=if opB.contains c=true then c else 0
theorem QF: ∀(x u:List UInt8),(∀c∈u,opB.contains c=true)->(x.map qI=u↔x=u)
 |[],[],_=>Iff.rfl
 |[],_::_,_=>by simp
 |_::_,[],_=>by simp
 |c::x,d::u,h=>by
  have h0:=h d (List.mem_cons_self ..)
  have ih:=QF x u fun c hc=>h c (List.mem_cons_of_mem _ hc)
  rw[List.map_cons,List.cons.injEq,List.cons.injEq,ih]
  have:qI c=d↔c=d:=by
   unfold qI
   split
   ·exact Iff.rfl
   ·rename_i hc
    constructor
    ·intro e
     rw[<-e]at h0
     exact absurd h0 (by decide)
    ·intro e
     rw[e]at hc
     exact absurd h0 hc
  rw[this]
theorem Kw: ∀u∈MG,∀c∈u,opB.contains c=true:=by decide
theorem ahw (x:List UInt8):UZ (x.map qI)=UZ x:=by
 unfold UZ
 have:MG.findIdx? (· ==x.map qI)=MG.findIdx? (· ==x):=by
  have h: ∀l:List (List UInt8),(∀u∈l,∀c∈u,opB.contains c=true)->l.findIdx? (· ==x.map qI)=l.findIdx? (· ==x):=by
   intro l
   induction l with
   |nil=>intro _;rfl
   |cons u l ih=>
    intro h
    have e:(u==x.map qI)=(u==x):=by
     have:=QF x u (h u (List.mem_cons_self ..))
     rw[Bool.eq_iff_iff,beq_iff_eq,beq_iff_eq]
     exact⟨fun e=>(this.1 e.symm).symm,fun e=>(this.2 e.symm).symm⟩
    rw[List.findIdx?_cons,List.findIdx?_cons,e,ih fun u hu=>h u (List.mem_cons_of_mem _ hu)]
  exact h MG Kw
 rw[this]
theorem ad5 (t:List UInt8):vK t=vK ((t.take 3).map qI):=by
 have h: ∀n,n<=3->Gg t n=Gg ((t.take 3).map qI) n:=by
  intro n hn
  induction n with
  |zero=>rfl
  |succ n ih=>
   rw[Gg,Gg,<-List.map_take,List.take_take,Nat.min_eq_left hn,ahw,ih (by omega)]
 unfold vK
 rw[List.length_map,List.length_take,h _ (by omega)]
 congr 1;omega
theorem Jv (t:List UInt8): ∀n,n<=17->mi t n=mi ((t.take 3).map qI) n
 |0,_=>rfl
 |n+1,hn=>by
  have ih:=Jv t n (by omega)
  have hl:=Z4 ⟨n+1,by omega⟩
  simp only at hl
  have e:PQ (Dx (n+1)) t=PQ (Dx (n+1)) ((t.take 3).map qI):=by
   unfold PQ
   rw[<-List.map_take,List.take_take,Nat.min_eq_left hl]
   have hb: ∀c∈Dx (n+1),opB.contains c=true:=by
    have:Dx (n+1)∈MG:=by
     have ht: ∀n:Fin 17,Dx (n.val+1)∈MG:=by decide+kernel
     exact ht ⟨n,by omega⟩
    exact Kw _ this
   rw[decide_eq_decide,QF _ _ hb]
  rw[mi,mi,e,ih]
def nB (n:Fin 9):UInt8:=([0,38,124,59,60,62,45,40,41]:List UInt8).getD n.val 0
def okB (t:List UInt8):Bool:=vK t==(mi t 17,(Dx (mi t 17)).length)
theorem ok0:okB []=true:=by decide+kernel
theorem ok1: ∀a,okB [nB a]=true:=by decide+kernel
theorem ok2: ∀a b,okB [nB a,nB b]=true:=by decide+kernel
theorem ok3: ∀a b c,okB [nB a,nB b,nB c]=true:=by decide+kernel
theorem yj (c:UInt8): ∃n,qI c=nB n:=by
 unfold qI
 split
 ·rename_i h
  have: ∀d∈opB,∃n,d=nB n:=by decide
  exact this c (by simpa using h)
 ·exact⟨0,rfl⟩
theorem YM (t:List UInt8):vK t=(mi t 17,(Dx (mi t 17)).length):=by
 rw[ad5,Jv t 17 (Nat.le_refl _)]
 have h:okB ((t.take 3).map qI)=true:=by
  have hl:(t.take 3).length<=3:=by rw[List.length_take];omega
  rcases h:t.take 3 with _|⟨a,_|⟨b,_|⟨c,_|⟨d,l⟩⟩⟩⟩
  ·exact ok0
  ·obtain⟨x,hx⟩:=yj a
   simp only[List.map_cons,List.map_nil,hx];exact ok1 x
  ·obtain⟨x,hx⟩:=yj a
   obtain⟨y,hy⟩:=yj b
   simp only[List.map_cons,List.map_nil,hx,hy];exact ok2 x y
  ·obtain⟨x,hx⟩:=yj a
   obtain⟨y,hy⟩:=yj b
   obtain⟨z,hz⟩:=yj c
   simp only[List.map_cons,List.map_nil,hx,hy,hz];exact ok3 x y z
  ·rw[h]at hl
   simp only[List.length_cons]at hl;omega
 exact eq_of_beq h
theorem asD (s:List UInt8) (hs:s.length<1000000) {a:Nat} (ha:a<=s.length):Sz s a=some ((((vK (s.drop a)).1:Nat):Int),()):=by
 rw[aoN s hs ha,YM]
theorem ajT (t:List UInt8):EU (((vK t).1:Nat):Int)=some (Dx (vK t).1,())/\(Dx (vK t).1).length=(vK t).2:=by
 have h:=(FQ t).2.2
 refine⟨Dp ⟨(vK t).1,by omega⟩, ?_⟩
 rw[YM]
theorem EW {s:List UInt8} (hs:s.length<1000000): ∀(N a:Nat),s.length-a<N->a<=s.length->
  ∃o,vN N s (a:Int)=some o/\bF o (fun a1=>some (a1.1.1,())) (fun b1=>some (b1.1.1,()))=some ((((a+oH (s.drop a):Nat):Int)),())
 |0,a,h,_=>by omega
 |N+1,a,h,ha=>by
  rw[vN,FB]
  by_cases e:a<s.length
  ·have hd:=List.drop_eq_getElem_cons e
   have hin:dX s (a:Int)=true:=dw (by omega) (by omega)
   rw[aK (dM (by rw[aB];omega)),hin,byte_at e,hd,BQ]
   simp only[cond_true]
   have step: ∀m:Nat,a+m<=s.length->1<=m-> ∃o,vN N s (aG .i64 (a:Int) (m:Int))=some o/\bF o (fun a1=>some (a1.1.1,())) (fun b1=>some (b1.1.1,()))=some ((((a+(oH (s.drop (a+m))+m):Nat):Int)),()):=fun m hm h1=>by
    obtain⟨o,o1,o2⟩:=EW hs N (a+m) (by omega) hm
    rw[bI (by omega) (by omega),show(a:Int)+(m:Int)=((a+m:Nat):Int) by omega]
    exact⟨o,o1,by rw[o2];congr 2;omega⟩
   by_cases h32:s[a]=32
   ·have:jJ (s[a].toNat:Int)=true:=by rw[h32];rfl
    rw[this,if_pos rfl,h32]
    exact step 1 (by omega) (by omega)
   ·have h32':aH (s[a].toNat:Int) 32=false:=bU fun h=>h32 (UInt8.toNat_inj.1 (by rw[show(32:UInt8).toNat=32 from rfl];omega))
    by_cases h9:s[a]=9
    ·have:jJ (s[a].toNat:Int)=true:=by rw[h9];rfl
     rw[this,if_pos rfl,h32',h9]
     exact step 1 (by omega) (by omega)
    ·have h9':aH (s[a].toNat:Int) 9=false:=bU fun h=>h9 (UInt8.toNat_inj.1 (by rw[show(9:UInt8).toNat=9 from rfl];omega))
     have hb:jJ (s[a].toNat:Int)=false:=by
      unfold jJ
      rw[eU]at h32' h9'
      rw[h32',h9'];rfl
     rw[hb,if_neg (by simp),h32',h9']
     simp only[cond_false]
     have hstop:oI (s[a]::s.drop (a+1))=false-> ∃o:Gh.den⊕Gs.den,some (.inl (((a:Int),()),()))=some o/\bF o (fun a1=>some (a1.1.1,())) (fun b1=>some (b1.1.1,()))=some ((((a+(if oI (s[a]::s.drop (a+1))=true then oH ((s.drop (a+1)).drop 1)+2 else 0):Nat):Int)),()):=fun h=>by
      rw[h,if_neg (by simp)]
      exact⟨_,rfl,rfl⟩
     by_cases h92:s[a]=92
     ·rw[h92,show aH (((92:UInt8).toNat:Nat):Int) 92=true from rfl,cond_true,bI (by omega) (by omega),show(a:Int)+1=((a+1:Nat):Int) by omega]
      rw[h92]at hstop
      by_cases e1:a+1<s.length
      ·have hd1:=List.drop_eq_getElem_cons e1
       rw[aK (dM (by rw[aB];omega)),aK (dw (by omega) (by omega)),byte_at e1]
       by_cases h10:s[a+1]=10
       ·rw[h10,show aH (((10:UInt8).toNat:Nat):Int) 10=true from rfl,cond_true]
        have hc:oI (92::s.drop (a+1))=true:=by rw[hd1,h10];rfl
        rw[hc,if_pos rfl,List.drop_drop]
        exact step 2 (by omega) (by omega)
       ·rw[aU (bU fun h=>h10 (UInt8.toNat_inj.1 (by rw[show(10:UInt8).toNat=10 from rfl];omega)))]
        refine hstop ?_
        rw[hd1];simp[oI,h10]
      ·rw[aU (iq (by rw[aB];omega))]
       refine hstop ?_
       rw[List.drop_of_length_le (by omega)];rfl
     ·rw[aU (bU fun h=>h92 (UInt8.toNat_inj.1 (by rw[show(92:UInt8).toNat=92 from rfl];omega)))]
      refine hstop ?_
      cases s.drop (a+1)with
      |nil=>rfl
      |cons d t=>simp[oI,h92]
  ·rw[aU (gp (by rw[aB];omega)),List.drop_of_length_le (by omega)]
   exact⟨_,rfl,rfl⟩
theorem aju {s:List UInt8} (hs:s.length<1000000) {a:Nat} (ha:a<=s.length):ZA s a=some ((((a+oH (s.drop a):Nat):Int)),()):=by
 rw[ZA]
 obtain⟨o,o1,o2⟩:=EW hs aO a (dh (by omega)) ha
 rw[o1,ae]
 exact o2
theorem LC {s w:List UInt8} (hs:s.length<1000000) {i:Nat} (hi:i<=s.length) (tabs:Bool): ∀(N k:Nat),i-k<N->k<=i->
  ∃k':Nat,o5 N s (i:Int) (k:Int) w tabs=some (.inl ((s,(i:Int),(k':Int),()),((w,tabs,()),())))/\k'<=i/\k<=k'/\(s.take i).drop k'=if tabs=true then((s.take i).drop k).dropWhile (· ==9)else(s.take i).drop k
 |0,k,h,_=>by omega
 |N+1,k,h,hk=>by
  rw[o5,FT]
  cases tabs with
  |false=>exact⟨k,rfl,hk,Nat.le_refl _,by rw[if_neg (by simp)]⟩
  |true=>
   simp only[cond_true]
   by_cases e:k<i
   ·have hk2:k<(s.take i).length:=by rw[List.length_take];omega
    have hd:=List.drop_eq_getElem_cons hk2
    rw[List.getElem_take]at hd
    rw[aK (dM (by omega)),aK (dw (by omega) (by omega)),byte_at (by omega)]
    by_cases h9:s[k]=9
    ·rw[h9,show aH (((9:UInt8).toNat:Nat):Int) 9=true from rfl,cond_true,bI (by omega) (by omega),show(k:Int)+1=((k+1:Nat):Int) by omega]
     obtain⟨k',h1,h2,h3,h4⟩:=LC hs hi true N (k+1) (by omega) (by omega)
     exact⟨k',h1,h2,by omega,by rw[h4,if_pos rfl,if_pos trivial,hd,h9];simp⟩
    ·rw[aU (bU fun h=>h9 (UInt8.toNat_inj.1 (by rw[show(9:UInt8).toNat=9 from rfl];omega)))]
     exact⟨k,rfl,hk,Nat.le_refl _,by rw[if_pos trivial,hd,List.dropWhile_cons_of_neg (by simpa using h9)]⟩
   ·rw[aU (gp (by omega))]
    refine⟨k,rfl,hk,Nat.le_refl _, ?_⟩
    rw[if_pos trivial,List.drop_of_length_le (by rw[List.length_take];omega)];rfl
theorem LZ {s:List UInt8} {f i:Nat} (h1:f<=i) (h2:i<fP s f) (h3:i<s.length):s[i]≠10:=by
 have:=EL (· !=10) (s.drop f) (i-f) (by rw[List.length_drop];omega) (by unfold fP at h2;omega)
 rw[List.getElem_drop]at this
 simpa [show f+(i-f)=i by omega] using this
theorem JM {s:List UInt8} {f:Nat} (h3:fP s f<s.length):s[fP s f]=10:=by
 have:=xA (· !=10) (s.drop f) (by rw[List.length_drop];unfold fP at h3;omega)
 rw[List.getElem_drop]at this
 simpa [fP] using this
def as3 (s:List UInt8) (h:Nat×Bool):Gl.den⊕Gx.den:=if h.2=true then .inr ((((h.1:Nat):Int),1,()),())else .inl ((s,()),())
theorem zC {s w:List UInt8} (hs:s.length<1000000) (tabs:Bool): ∀(N f i M:Nat),s.length+1-i<N->f<=i->i<=fP s f->f<=s.length->s.length-f<M->
  nH N s (f:Int) (i:Int) w tabs=some (as3 s (kM s w tabs M f))
 |0,f,i,M,h,_,_,_,_=>by omega
 |N+1,f,i,0,h,hfi,hil,hf,hM=>by omega
 |N+1,f,i,M+1,h,hfi,hil,hf,hM=>by
  have hle:=qf hf
  have ew:cO (lJ s tabs f) w=decide (lJ s tabs f=w):=by
   unfold cO;by_cases e:lJ s tabs f=w<;>simp[e]
  have stop: ∀N,0<N->nH N s ((s.length+1:Nat):Int) ((s.length+1:Nat):Int) w tabs=some (.inl ((s,()),()))/\nH N s (f:Int) ((s.length+1:Nat):Int) w tabs=some (.inl ((s,()),())):=fun N hN=>by
   obtain⟨n,rfl⟩: ∃n,N=n+1:=⟨N-1,by omega⟩
   constructor
   ·rw[nH,yC,aU (EO (by rw[aB];omega))]
   ·rw[nH,yC,aU (EO (by rw[aB];omega))]
  have hend: ∀m,kM s w tabs m s.length=(s.length,false):=fun m=>by
   cases m with
   |zero=>rfl
   |succ m=>rw[kM,if_neg (by omega)]
  rw[nH,yC,aK (pX (by rw[aB];omega))]
  by_cases e:i<fP s f
  ·have hi:i<s.length:=by omega
   rw[aK (dM (by rw[aB];omega)),aK (dw (by omega) (by omega)),byte_at hi,bU fun h=>LZ hfi e hi (UInt8.toNat_inj.1 (by rw[show(10:UInt8).toNat=10 from rfl];omega))]
   simp only[Bool.not_false,cond_true]
   rw[bI (by omega) (by omega),show(i:Int)+1=((i+1:Nat):Int) by omega]
   exact zC hs tabs N f (i+1) (M+1) (by omega) (by omega) (by omega) hf hM
  ·have hi:i=fP s f:=by omega
   obtain⟨k',t1,t2,t3,t4⟩:=LC (w:=w) hs (i:=i) (by omega) tabs aO f (dh (by omega)) hfi
   have hT:sub s (k':Int) (i:Int)=lJ s tabs f:=by
    unfold lJ
    rw[show sub s (k':Int) (i:Int)=(s.take i).drop k' by simp[sub],t4,hi]
   by_cases hl:i<s.length
   ·have h10:s[i]=10:=by subst hi;exact JM hl
    have hnx:jR s f=i+1:=by unfold jR;rw[<-hi,if_pos hl]
    rw[aK (dM (by rw[aB];omega)),aK (dw (by omega) (by omega)),byte_at hl,h10,show aH (((10:UInt8).toNat:Nat):Int) 10=true from rfl]
    simp only[Bool.not_true,cond_false]
    rw[aU (bU (by rw[aB];omega)),t1,ae]
    simp only[bF]
    rw[aK (dC (by omega) (by omega) (by rw[aB];omega)),hT,ew,kM,if_pos (by omega),hnx]
    rw[aK (dM (by rw[aB];omega)),bI (by omega) (by omega),show(i:Int)+1=((i+1:Nat):Int) by omega]
    by_cases hw:lJ s tabs f=w
    ·rw[decide_eq_true hw,cond_true,if_pos hw];rfl
    ·rw[decide_eq_false hw,cond_false,if_neg hw]
     exact zC hs tabs N (i+1) (i+1) M (by omega) (Nat.le_refl _) (qy s _) (by omega) (by omega)
   ·have hi2:i=s.length:=by omega
    rw[aU (iq (by rw[aB];omega)),aK (dJ (by rw[aB];omega))]
    by_cases hfi2:f=i
    ·rw[aK (dJ (by omega)),bI (by omega) (by omega),show(i:Int)+1=((s.length+1:Nat):Int) by omega,(stop N (by omega)).2,hfi2,hi2,hend];rfl
    ·have hnx:jR s f=s.length:=by unfold jR;rw[<-hi,if_neg hl];exact hi2
     rw[aU (bU (by omega)),t1,ae]
     simp only[bF]
     rw[aK (dC (by omega) (by omega) (by rw[aB];omega)),hT,ew,kM,if_pos (by omega),hnx]
     rw[aU (iq (by rw[aB];omega))]
     by_cases hw:lJ s tabs f=w
     ·rw[decide_eq_true hw,cond_true,if_pos hw,hi2];rfl
     ·rw[decide_eq_false hw,cond_false,if_neg hw,hend,bI (by omega) (by omega),show(i:Int)+1=((s.length+1:Nat):Int) by omega,(stop N (by omega)).1];rfl
theorem Em (s w:List UInt8) (tabs:Bool): ∀(N a:Nat),s.length-a<N->a<=s.length->(kM s w tabs N a).1<=s.length/\((kM s w tabs N a).2=false->(kM s w tabs N a).1=s.length)/\(a<s.length->a<(kM s w tabs N a).1)
 |0,a,h,_=>by omega
 |N+1,a,h,ha=>by
  rw[kM]
  by_cases e:a<s.length
  ·have hn:=UJ e
   rw[if_pos e]
   split
   ·exact⟨hn.2,fun h=>(by cases h),fun _=>hn.1⟩
   ·have ih:=Em s w tabs N (jR s a) (by omega) hn.2
    refine⟨ih.1,ih.2.1,fun _=> ?_⟩
    rcases Nat.lt_or_ge (jR s a) s.length with h'|h'
    ·have:=ih.2.2 h';omega
    ·cases N with
     |zero=>omega
     |succ N=>rw[kM,if_neg (by omega)];exact hn.1
  ·rw[if_neg e]
   exact⟨ha,fun _=>(by simp only;omega),fun h=>absurd h e⟩
theorem alo {s:List UInt8} (hs:s.length<1000000) (d:List UInt8×Bool×Unit) {a:Nat} (ha:a<=s.length):Zt s a d=some ((((vY s d.1 d.2.1 a).1:Nat):Int),((if(vY s d.1 d.2.1 a).2=true then 1 else 0),())):=by
 rw[Zt,zC hs d.2.1 aO a a aO (dh (by omega)) (Nat.le_refl _) (qy s a) ha (dh (by omega)),ae]
 have h2:=(Em s d.1 d.2.1 aO a (dh (by omega)) ha).2.1
 unfold as3 vY
 cases h:(kM s d.1 d.2.1 aO a).2 with
 |true=>simp[bF]
 |false=>simp[bF,aB,h2 h]
theorem aha {s:dm} (hg:eu s):CU s=(cO (so s) [84]||cO (so s) [84,76]):=by
 rw[agc hg,Z9 hg]
 match s,hg with
 |[],hg=>cases hg
 |[f],hg=>have h:f.1=0:=hg;simp[CU,h]
 |[f,g],hg=>
  have h1:=hg.1
  have h0:g.1=0:=hg.2.2.2
  simp[CU,h0]
  omega
 |f::g::h::r,hg=>
  have h1:=hg.2.2.2.1
  have h2:=hg.2.2.1
  unfold JC at h2
  simp only[CU,List.all_cons]
  have:(decide (g.1=0)||decide (g.1=12))=false:=by simp;omega
  rw[this];simp
end Go.Proofs.YtihafdllichkeaaGreatDoor
namespace Go.Proofs.YtihafdllichkeaaGreatDoor
open Go.RowKit
set_option linter.unusedVariables false
set_option linter.unusedSimpArgs false
set_option maxRecDepth 100000
set_option maxHeartbeats 4000000
noncomputable def afj:Code:=(Tryz.f272.body).getD .skip
noncomputable def ahS:Code:=cA (cA (cB (cA (cB (afj)))))
def agL:dB:=⟨[0,1,4,6,100002],[],[4],[],[4,5],[]⟩
def OA:SP:=⟨us [.v (.list (.pair (.int .i64) (.pair (.int .i64) (.pair (.int .i64) (.pair (.int .i64) (.pair .bool .unit)))))),.v (.int .i64),.u,.u,.ptr 1000004 0,.u,.v (.int .i64)] 18,[.box 1000004 215 [.v (.int .i64),.v (.int .i64),.v (.int .i64),.v (.int .i64),.v .bool]]⟩
def Nv:SP:=⟨us [.u,.u,.u,.u,.ptr 1000004 0] 20,[.box 1000004 215 [.v (.int .i64),.v (.int .i64),.v (.int .i64),.v (.int .i64),.v .bool]]⟩
def Rk:SP:=⟨us [.u,.u,.u,.u,.ptr 1000004 0,.v (.int .i64)] 19,[.box 1000004 215 [.v (.int .i64),.v (.int .i64),.v (.int .i64),.v (.int .i64),.v .bool]]⟩
def Gm {γ:Type} (rec:(List (Int×Int×Int×Int×Bool×Unit))->Int->Int->Int->Int->Int->Int->Bool->Option γ) (kE:Int->Int->Int->Int->Bool->Option γ) (kR:Int->Int->Int->Int->Int->Bool->Option γ) (v0:List (Int×Int×Int×Int×Bool×Unit)) (v1:Int) (v2:Int) (v3:Int) (v4:Int) (v5:Int) (v6:Int) (v7:Bool):Option γ:=
 bif(fD v2 (ah v0))then
  bif(dX v0 v2)then
   bif(aH (af v0 (0,(0,(0,(0,(false,()))))) v2).2.1 v1)then
    bif(dX v0 v2)then
     kR 1 (af v0 (0,(0,(0,(0,(false,()))))) v2).1 (af v0 (0,(0,(0,(0,(false,()))))) v2).2.1 (af v0 (0,(0,(0,(0,(false,()))))) v2).2.2.1 (af v0 (0,(0,(0,(0,(false,()))))) v2).2.2.2.1 (af v0 (0,(0,(0,(0,(false,()))))) v2).2.2.2.2.1
    else
    none
   else
   rec v0 v1 (aG .i64 v2 1) v3 v4 v5 v6 v7
  else
  none
 else
 kE v3 v4 v5 v6 v7
def ve:Nat->(List (Int×Int×Int×Int×Bool×Unit))->Int->Int->Int->Int->Int->Int->Bool->Option (Nv.den⊕Rk.den)
 |0,_,_,_,_,_,_,_,_=>none
 |n+1,v0,v1,v2,v3,v4,v5,v6,v7=>Gm (ve n) (fun e0 e1 e2 e3 e4=>some (.inl ((),((e0,e1,e2,e3,e4,()),())))) (fun r0 r1 r2 r3 r4 r5=>some (.inr ((r0,()),((r1,r2,r3,r4,r5,()),())))) v0 v1 v2 v3 v4 v5 v6 v7
noncomputable def Zn:bG:=dO agL OA Nv Rk (.exit 0) (fun v=>ve aO v.1.1 v.1.2.1 v.1.2.2.1 v.2.1.1 v.2.1.2.1 v.2.1.2.2.1 v.2.1.2.2.2.1 v.2.1.2.2.2.2.1) 6
def SB (x0:List (Int×Int×Int×Int×Bool×Unit)) (x1:Int):Option ((Int×Int×Int×Int×Bool×Unit)×Int×Unit):=
 ai (ve aO x0 x1 0 0 0 0 0 false) fun y0=>
  bF y0 (fun a1=>
   some ((0,(0,(0,(0,(false,()))))),(0,()))) (fun b1=>
   some ((b1.2.1.1,(b1.2.1.2.1,(b1.2.1.2.2.1,(b1.2.1.2.2.2.1,(b1.2.1.2.2.2.2.1,()))))),(b1.1.1,())))
def JQ:Sum:=(⟨[.list (.pair (.int .i64) (.pair (.int .i64) (.pair (.int .i64) (.pair (.int .i64) (.pair .bool .unit))))),.int .i64],[(.pair (.int .i64) (.pair (.int .i64) (.pair (.int .i64) (.pair (.int .i64) (.pair .bool .unit)))),false),(.int .i64,false)],fun x=>SB x.1 x.2.1⟩:Sum)
noncomputable def Xm:Env:=dH Tryz.prog tt 272 [] [(2,agL)] [(2,Zn)]
def Y2 {γ:Type} (a:OA.den->Option γ) (b:Nv.den->Option γ) (c:Rk.den->Option γ) (v:OA.den):Option γ:=Gm (fun v0 v1 v2 v3 v4 v5 v6 v7=>a ((v0,v1,v2,()),((v3,v4,v5,v6,v7,()),()))) (fun e0 e1 e2 e3 e4=>b ((),((e0,e1,e2,e3,e4,()),()))) (fun r0 r1 r2 r3 r4 r5=>c ((r0,()),((r1,r2,r3,r4,r5,()),()))) v.1.1 v.1.2.1 v.1.2.2.1 v.2.1.1 v.2.1.2.1 v.2.1.2.2.1 v.2.1.2.2.2.1 v.2.1.2.2.2.2.1
theorem ai5:di Xm 272 ahS Zn:=wG (Y2) (lp:=fun n (v:OA.den)=>ve n v.1.1 v.1.2.1 v.1.2.2.1 v.2.1.1 v.2.1.2.1 v.2.1.2.2.1 v.2.1.2.2.2.1 v.2.1.2.2.2.2.1) (by kernel_rfl) (fun _=>rfl) (fun _ _=>rfl) (fun d n K v=>by kernel_rfl) (by intros;simp only[Y2,Gm,bg,bn,ae,aV,bi])
theorem alv:bZ afj=[ahS]:=by kernel_rfl
theorem als:cZ Xm 272 afj:=bP afj (fun _=>rfl) (by rw[alv];exact(aC ⟨fL (by kernel_rfl) (ai5),aN⟩))
theorem ado:bJ Xm:=bz tok mixed bV (sg:=[]) aN (fn:=Tryz.f272) (c:=afj) (by kernel_rfl) (by kernel_rfl) (als) bW bC
theorem MK:bD Tryz.prog 272 JQ:=ed ado (by decide) fun x=>by kernel_rfl
def zg (x0:List (Bool×Bool×(List UInt8)×(Unit))) (x1:List UInt8) (x2:Bool):Option ((List (Bool×Bool×(List UInt8)×(Unit)))×Unit):=
 bif(fD 0 (ah x0))then
  bif(!x2)then
   bif(dX x0 (ag .i64 (ah x0) 1))then
    bif(bu (ah x0) 0 (ag .i64 (ah x0) 1))then
     bif(fG (af x0 (false,(false,([],()))) (ag .i64 (ah x0) 1)).2.2.1 x1)then
      bif(dR (.pair .bool (.pair .bool (.pair .str .unit))) x0 x0)then
       bif(aH (ah x0) (ah x0))then
        bif(aH (ag .i64 (ah x0) 1) (ag .i64 (ah x0) 1))then
         bif(bu (ah x0) 0 (ag .i64 (ah x0) 1))then
          bif(dR (.pair .bool (.pair .bool (.pair .str .unit))) (sub x0 0 (ag .i64 (ah x0) 1)) (sub x0 0 (ag .i64 (ah x0) 1)))then
           bif(cO (af x0 (false,(false,([],()))) (ag .i64 (ah x0) 1)).2.2.1 (af x0 (false,(false,([],()))) (ag .i64 (ah x0) 1)).2.2.1)then
            bif(cO x1 x1)then
             bif(fG (af x0 (false,(false,([],()))) (ag .i64 (ah x0) 1)).2.2.1 x1)then
              bif(cO (az (af x0 (false,(false,([],()))) (ag .i64 (ah x0) 1)).2.2.1 x1) (az (af x0 (false,(false,([],()))) (ag .i64 (ah x0) 1)).2.2.1 x1))then
               bif((fF false false)&&((fF false false)&&((cO (az (af x0 (false,(false,([],()))) (ag .i64 (ah x0) 1)).2.2.1 x1) (az (af x0 (false,(false,([],()))) (ag .i64 (ah x0) 1)).2.2.1 x1))&&true)))then
                bif(aZ (az [] (sub x0 0 (ag .i64 (ah x0) 1))) 24)then
                 bif(dR (.pair .bool (.pair .bool (.pair .str .unit))) x0 x0)then
                  bif(aH (ah x0) (ah x0))then
                   bif(aH (ag .i64 (ah x0) 1) (ag .i64 (ah x0) 1))then
                    bif(cO (af x0 (false,(false,([],()))) (ag .i64 (ah x0) 1)).2.2.1 (af x0 (false,(false,([],()))) (ag .i64 (ah x0) 1)).2.2.1)then
                     bif(cO x1 x1)then
                      bif(fG (af x0 (false,(false,([],()))) (ag .i64 (ah x0) 1)).2.2.1 x1)then
                       bif(cO (az (af x0 (false,(false,([],()))) (ag .i64 (ah x0) 1)).2.2.1 x1) (az (af x0 (false,(false,([],()))) (ag .i64 (ah x0) 1)).2.2.1 x1))then
                        bif((fF false false)&&((fF false false)&&((cO (az (af x0 (false,(false,([],()))) (ag .i64 (ah x0) 1)).2.2.1 x1) (az (af x0 (false,(false,([],()))) (ag .i64 (ah x0) 1)).2.2.1 x1))&&true)))then
                         bif(dR (.pair .bool (.pair .bool (.pair .str .unit))) x0 x0)then
                          bif(aH (ah x0) (ah x0))then
                           bif(aH (ag .i64 (ah x0) 1) (ag .i64 (ah x0) 1))then
                            bif(bu (ah x0) 0 (ag .i64 (ah x0) 1))then
                             bif(dR (.pair .bool (.pair .bool (.pair .str .unit))) (sub x0 0 (ag .i64 (ah x0) 1)) (sub x0 0 (ag .i64 (ah x0) 1)))then
                              bif(cO (af x0 (false,(false,([],()))) (ag .i64 (ah x0) 1)).2.2.1 (af x0 (false,(false,([],()))) (ag .i64 (ah x0) 1)).2.2.1)then
                               bif(cO x1 x1)then
                                bif(fG (af x0 (false,(false,([],()))) (ag .i64 (ah x0) 1)).2.2.1 x1)then
                                 bif(cO (az (af x0 (false,(false,([],()))) (ag .i64 (ah x0) 1)).2.2.1 x1) (az (af x0 (false,(false,([],()))) (ag .i64 (ah x0) 1)).2.2.1 x1))then
                                  bif(aZ (az (az [] (sub x0 0 (ag .i64 (ah x0) 1))) [(false,(false,((az (af x0 (false,(false,([],()))) (ag .i64 (ah x0) 1)).2.2.1 x1),())))]) 24)then
                                   bif(dR (.pair .bool (.pair .bool (.pair .str .unit))) x0 x0)then
                                    bif(aH (ah x0) (ah x0))then
                                     bif(aH (ag .i64 (ah x0) 1) (ag .i64 (ah x0) 1))then
                                      bif(bu (ah x0) 0 (ag .i64 (ah x0) 1))then
                                       bif(dR (.pair .bool (.pair .bool (.pair .str .unit))) (sub x0 0 (ag .i64 (ah x0) 1)) (sub x0 0 (ag .i64 (ah x0) 1)))then
                                        bif(cO (af x0 (false,(false,([],()))) (ag .i64 (ah x0) 1)).2.2.1 (af x0 (false,(false,([],()))) (ag .i64 (ah x0) 1)).2.2.1)then
                                         bif(cO x1 x1)then
                                          bif(fG (af x0 (false,(false,([],()))) (ag .i64 (ah x0) 1)).2.2.1 x1)then
                                           bif(cO (az (af x0 (false,(false,([],()))) (ag .i64 (ah x0) 1)).2.2.1 x1) (az (af x0 (false,(false,([],()))) (ag .i64 (ah x0) 1)).2.2.1 x1))then
                                            bif((fF false false)&&((fF false false)&&((cO (az (af x0 (false,(false,([],()))) (ag .i64 (ah x0) 1)).2.2.1 x1) (az (af x0 (false,(false,([],()))) (ag .i64 (ah x0) 1)).2.2.1 x1))&&true)))then
                                             ai (bif(dR (.pair .bool (.pair .bool (.pair .str .unit))) x0 x0)then(bif(aH (ah x0) (ah x0))then(bif(aH (ag .i64 (ah x0) 1) (ag .i64 (ah x0) 1))then(bif(bu (ah x0) 0 (ag .i64 (ah x0) 1))then(bif(dR (.pair .bool (.pair .bool (.pair .str .unit))) (sub x0 0 (ag .i64 (ah x0) 1)) (sub x0 0 (ag .i64 (ah x0) 1)))then(bif(cO (af x0 (false,(false,([],()))) (ag .i64 (ah x0) 1)).2.2.1 (af x0 (false,(false,([],()))) (ag .i64 (ah x0) 1)).2.2.1)then(bif(cO x1 x1)then(bif(fG (af x0 (false,(false,([],()))) (ag .i64 (ah x0) 1)).2.2.1 x1)then(bif(cO (az (af x0 (false,(false,([],()))) (ag .i64 (ah x0) 1)).2.2.1 x1) (az (af x0 (false,(false,([],()))) (ag .i64 (ah x0) 1)).2.2.1 x1))then(bif(aZ (az [] (sub x0 0 (ag .i64 (ah x0) 1))) 24)then(bif(dR (.pair .bool (.pair .bool (.pair .str .unit))) x0 x0)then(bif(aH (ah x0) (ah x0))then(bif(aH (ag .i64 (ah x0) 1) (ag .i64 (ah x0) 1))then(bif(cO (af x0 (false,(false,([],()))) (ag .i64 (ah x0) 1)).2.2.1 (af x0 (false,(false,([],()))) (ag .i64 (ah x0) 1)).2.2.1)then(bif(cO x1 x1)then(bif(fG (af x0 (false,(false,([],()))) (ag .i64 (ah x0) 1)).2.2.1 x1)then(bif(cO (az (af x0 (false,(false,([],()))) (ag .i64 (ah x0) 1)).2.2.1 x1) (az (af x0 (false,(false,([],()))) (ag .i64 (ah x0) 1)).2.2.1 x1))then(bif((fF false false)&&((fF false false)&&((cO (az (af x0 (false,(false,([],()))) (ag .i64 (ah x0) 1)).2.2.1 x1) (az (af x0 (false,(false,([],()))) (ag .i64 (ah x0) 1)).2.2.1 x1))&&true)))then(bif(aZ (az (az [] (sub x0 0 (ag .i64 (ah x0) 1))) [(false,(false,((az (af x0 (false,(false,([],()))) (ag .i64 (ah x0) 1)).2.2.1 x1),())))]) 24)then(bif(dR (.pair .bool (.pair .bool (.pair .str .unit))) x0 x0)then(bif(aH (ah x0) (ah x0))then(bif(aH (ag .i64 (ah x0) 1) (ag .i64 (ah x0) 1))then(bif(bu (ah x0) 0 (ag .i64 (ah x0) 1))then(bif(dR (.pair .bool (.pair .bool (.pair .str .unit))) (sub x0 0 (ag .i64 (ah x0) 1)) (sub x0 0 (ag .i64 (ah x0) 1)))then(bif(cO (af x0 (false,(false,([],()))) (ag .i64 (ah x0) 1)).2.2.1 (af x0 (false,(false,([],()))) (ag .i64 (ah x0) 1)).2.2.1)then(bif(cO x1 x1)then(bif(fG (af x0 (false,(false,([],()))) (ag .i64 (ah x0) 1)).2.2.1 x1)then(bif(cO (az (af x0 (false,(false,([],()))) (ag .i64 (ah x0) 1)).2.2.1 x1) (az (af x0 (false,(false,([],()))) (ag .i64 (ah x0) 1)).2.2.1 x1))then(bif((fF false false)&&((fF false false)&&((cO (az (af x0 (false,(false,([],()))) (ag .i64 (ah x0) 1)).2.2.1 x1) (az (af x0 (false,(false,([],()))) (ag .i64 (ah x0) 1)).2.2.1 x1))&&true)))then(bif((((dR (.pair .bool (.pair .bool (.pair .str .unit))) x0 x0)&&((cO x1 x1)&&((fF x2 x2)&&((aH (ah x0) (ah x0))&&((dR (.pair .bool (.pair .bool (.pair .str .unit))) x0 x0)&&((aH (ah x0) (ah x0))&&((aH (ah x0) (ah x0))&&((fF (fD 0 (ah x0)) (fD 0 (ah x0)))&&((fF true true)&&((fF x2 x2)&&((fF (!x2) (!x2))&&((fF (!x2) (!x2))&&((dR (.pair .bool (.pair .bool (.pair .str .unit))) x0 x0)&&((aH (ah x0) (ah x0))&&((aH (ag .i64 (ah x0) 1) (ag .i64 (ah x0) 1))&&(((fF (af x0 (false,(false,([],()))) (ag .i64 (ah x0) 1)).1 (af x0 (false,(false,([],()))) (ag .i64 (ah x0) 1)).1)&&((fF (af x0 (false,(false,([],()))) (ag .i64 (ah x0) 1)).2.1 (af x0 (false,(false,([],()))) (ag .i64 (ah x0) 1)).2.1)&&((cO (af x0 (false,(false,([],()))) (ag .i64 (ah x0) 1)).2.2.1 (af x0 (false,(false,([],()))) (ag .i64 (ah x0) 1)).2.2.1)&&true)))&&(((fF (af x0 (false,(false,([],()))) (ag .i64 (ah x0) 1)).1 (af x0 (false,(false,([],()))) (ag .i64 (ah x0) 1)).1)&&((fF (af x0 (false,(false,([],()))) (ag .i64 (ah x0) 1)).2.1 (af x0 (false,(false,([],()))) (ag .i64 (ah x0) 1)).2.1)&&((cO (af x0 (false,(false,([],()))) (ag .i64 (ah x0) 1)).2.2.1 (af x0 (false,(false,([],()))) (ag .i64 (ah x0) 1)).2.2.1)&&true)))&&((dR (.pair .bool (.pair .bool (.pair .str .unit))) x0 x0)&&((aH (ah x0) (ah x0))&&((aH (ag .i64 (ah x0) 1) (ag .i64 (ah x0) 1))&&((dR (.pair .bool (.pair .bool (.pair .str .unit))) (sub x0 0 (ag .i64 (ah x0) 1)) (sub x0 0 (ag .i64 (ah x0) 1)))&&((cO (af x0 (false,(false,([],()))) (ag .i64 (ah x0) 1)).2.2.1 (af x0 (false,(false,([],()))) (ag .i64 (ah x0) 1)).2.2.1)&&((cO x1 x1)&&((cO (az (af x0 (false,(false,([],()))) (ag .i64 (ah x0) 1)).2.2.1 x1) (az (af x0 (false,(false,([],()))) (ag .i64 (ah x0) 1)).2.2.1 x1))&&(((fF false false)&&((fF false false)&&((cO (az (af x0 (false,(false,([],()))) (ag .i64 (ah x0) 1)).2.2.1 x1) (az (af x0 (false,(false,([],()))) (ag .i64 (ah x0) 1)).2.2.1 x1))&&true)))&&true)))))))))))))))))))))))))&&(((dR (.pair .bool (.pair .bool (.pair .str .unit))) [(false,(false,((az (af x0 (false,(false,([],()))) (ag .i64 (ah x0) 1)).2.2.1 x1),())))] [(false,(false,((az (af x0 (false,(false,([],()))) (ag .i64 (ah x0) 1)).2.2.1 x1),())))])&&((dR (.pair .bool (.pair .bool (.pair .str .unit))) (az (az [] (sub x0 0 (ag .i64 (ah x0) 1))) [(false,(false,((az (af x0 (false,(false,([],()))) (ag .i64 (ah x0) 1)).2.2.1 x1),())))]) (az (az [] (sub x0 0 (ag .i64 (ah x0) 1))) [(false,(false,((az (af x0 (false,(false,([],()))) (ag .i64 (ah x0) 1)).2.2.1 x1),())))]))&&(((fF (af x0 (false,(false,([],()))) (ag .i64 (ah x0) 1)).1 (af x0 (false,(false,([],()))) (ag .i64 (ah x0) 1)).1)&&((fF (af x0 (false,(false,([],()))) (ag .i64 (ah x0) 1)).2.1 (af x0 (false,(false,([],()))) (ag .i64 (ah x0) 1)).2.1)&&((cO (af x0 (false,(false,([],()))) (ag .i64 (ah x0) 1)).2.2.1 (af x0 (false,(false,([],()))) (ag .i64 (ah x0) 1)).2.2.1)&&true)))&&true)))&&true))&&true)then(some ())else(none))else(none))else(none))else(none))else(none))else(none))else(none))else(none))else(none))else(none))else(none))else(none))else(none))else(none))else(none))else(none))else(none))else(none))else(none))else(none))else(none))else(none))else(none))else(none))else(none))else(none))else(none))else(none))else(none))else(none)) fun y0=>
                                              ai (bif(dR (.pair .bool (.pair .bool (.pair .str .unit))) x0 x0)then(bif(aH (ah x0) (ah x0))then(bif(aH (ag .i64 (ah x0) 1) (ag .i64 (ah x0) 1))then(bif(bu (ah x0) 0 (ag .i64 (ah x0) 1))then(bif(dR (.pair .bool (.pair .bool (.pair .str .unit))) (sub x0 0 (ag .i64 (ah x0) 1)) (sub x0 0 (ag .i64 (ah x0) 1)))then(bif(cO (af x0 (false,(false,([],()))) (ag .i64 (ah x0) 1)).2.2.1 (af x0 (false,(false,([],()))) (ag .i64 (ah x0) 1)).2.2.1)then(bif(cO x1 x1)then(bif(fG (af x0 (false,(false,([],()))) (ag .i64 (ah x0) 1)).2.2.1 x1)then(bif(cO (az (af x0 (false,(false,([],()))) (ag .i64 (ah x0) 1)).2.2.1 x1) (az (af x0 (false,(false,([],()))) (ag .i64 (ah x0) 1)).2.2.1 x1))then(bif(dR (.pair .bool (.pair .bool (.pair .str .unit))) x0 x0)then(bif(aH (ah x0) (ah x0))then(bif(aH (ag .i64 (ah x0) 1) (ag .i64 (ah x0) 1))then(bif(bu (ah x0) 0 (ag .i64 (ah x0) 1))then(bif(dR (.pair .bool (.pair .bool (.pair .str .unit))) (sub x0 0 (ag .i64 (ah x0) 1)) (sub x0 0 (ag .i64 (ah x0) 1)))then(bif(cO (af x0 (false,(false,([],()))) (ag .i64 (ah x0) 1)).2.2.1 (af x0 (false,(false,([],()))) (ag .i64 (ah x0) 1)).2.2.1)then(bif(cO x1 x1)then(bif(fG (af x0 (false,(false,([],()))) (ag .i64 (ah x0) 1)).2.2.1 x1)then(bif(cO (az (af x0 (false,(false,([],()))) (ag .i64 (ah x0) 1)).2.2.1 x1) (az (af x0 (false,(false,([],()))) (ag .i64 (ah x0) 1)).2.2.1 x1))then(bif((fF false false)&&((fF false false)&&((cO (az (af x0 (false,(false,([],()))) (ag .i64 (ah x0) 1)).2.2.1 x1) (az (af x0 (false,(false,([],()))) (ag .i64 (ah x0) 1)).2.2.1 x1))&&true)))then(bif(aZ (az [] (sub x0 0 (ag .i64 (ah x0) 1))) 24)then(bif(dR (.pair .bool (.pair .bool (.pair .str .unit))) x0 x0)then(bif(aH (ah x0) (ah x0))then(bif(aH (ag .i64 (ah x0) 1) (ag .i64 (ah x0) 1))then(bif(cO (af x0 (false,(false,([],()))) (ag .i64 (ah x0) 1)).2.2.1 (af x0 (false,(false,([],()))) (ag .i64 (ah x0) 1)).2.2.1)then(bif(cO x1 x1)then(bif(fG (af x0 (false,(false,([],()))) (ag .i64 (ah x0) 1)).2.2.1 x1)then(bif(cO (az (af x0 (false,(false,([],()))) (ag .i64 (ah x0) 1)).2.2.1 x1) (az (af x0 (false,(false,([],()))) (ag .i64 (ah x0) 1)).2.2.1 x1))then(bif((fF false false)&&((fF false false)&&((cO (az (af x0 (false,(false,([],()))) (ag .i64 (ah x0) 1)).2.2.1 x1) (az (af x0 (false,(false,([],()))) (ag .i64 (ah x0) 1)).2.2.1 x1))&&true)))then(bif(aZ (az (az [] (sub x0 0 (ag .i64 (ah x0) 1))) [(false,(false,((az (af x0 (false,(false,([],()))) (ag .i64 (ah x0) 1)).2.2.1 x1),())))]) 24)then(bif(dR (.pair .bool (.pair .bool (.pair .str .unit))) x0 x0)then(bif(aH (ah x0) (ah x0))then(bif(aH (ag .i64 (ah x0) 1) (ag .i64 (ah x0) 1))then(bif(bu (ah x0) 0 (ag .i64 (ah x0) 1))then(bif(dR (.pair .bool (.pair .bool (.pair .str .unit))) (sub x0 0 (ag .i64 (ah x0) 1)) (sub x0 0 (ag .i64 (ah x0) 1)))then(bif(cO (af x0 (false,(false,([],()))) (ag .i64 (ah x0) 1)).2.2.1 (af x0 (false,(false,([],()))) (ag .i64 (ah x0) 1)).2.2.1)then(bif(cO x1 x1)then(bif(fG (af x0 (false,(false,([],()))) (ag .i64 (ah x0) 1)).2.2.1 x1)then(bif(cO (az (af x0 (false,(false,([],()))) (ag .i64 (ah x0) 1)).2.2.1 x1) (az (af x0 (false,(false,([],()))) (ag .i64 (ah x0) 1)).2.2.1 x1))then(bif((fF false false)&&((fF false false)&&((cO (az (af x0 (false,(false,([],()))) (ag .i64 (ah x0) 1)).2.2.1 x1) (az (af x0 (false,(false,([],()))) (ag .i64 (ah x0) 1)).2.2.1 x1))&&true)))then(bif((((dR (.pair .bool (.pair .bool (.pair .str .unit))) x0 x0)&&((cO x1 x1)&&((fF x2 x2)&&((aH (ah x0) (ah x0))&&((dR (.pair .bool (.pair .bool (.pair .str .unit))) x0 x0)&&((aH (ah x0) (ah x0))&&((aH (ah x0) (ah x0))&&((fF (fD 0 (ah x0)) (fD 0 (ah x0)))&&((fF true true)&&((fF x2 x2)&&((fF (!x2) (!x2))&&((fF (!x2) (!x2))&&((dR (.pair .bool (.pair .bool (.pair .str .unit))) x0 x0)&&((aH (ah x0) (ah x0))&&((aH (ag .i64 (ah x0) 1) (ag .i64 (ah x0) 1))&&(((fF (af x0 (false,(false,([],()))) (ag .i64 (ah x0) 1)).1 (af x0 (false,(false,([],()))) (ag .i64 (ah x0) 1)).1)&&((fF (af x0 (false,(false,([],()))) (ag .i64 (ah x0) 1)).2.1 (af x0 (false,(false,([],()))) (ag .i64 (ah x0) 1)).2.1)&&((cO (af x0 (false,(false,([],()))) (ag .i64 (ah x0) 1)).2.2.1 (af x0 (false,(false,([],()))) (ag .i64 (ah x0) 1)).2.2.1)&&true)))&&(((fF (af x0 (false,(false,([],()))) (ag .i64 (ah x0) 1)).1 (af x0 (false,(false,([],()))) (ag .i64 (ah x0) 1)).1)&&((fF (af x0 (false,(false,([],()))) (ag .i64 (ah x0) 1)).2.1 (af x0 (false,(false,([],()))) (ag .i64 (ah x0) 1)).2.1)&&((cO (af x0 (false,(false,([],()))) (ag .i64 (ah x0) 1)).2.2.1 (af x0 (false,(false,([],()))) (ag .i64 (ah x0) 1)).2.2.1)&&true)))&&((dR (.pair .bool (.pair .bool (.pair .str .unit))) x0 x0)&&((aH (ah x0) (ah x0))&&((aH (ag .i64 (ah x0) 1) (ag .i64 (ah x0) 1))&&((dR (.pair .bool (.pair .bool (.pair .str .unit))) (sub x0 0 (ag .i64 (ah x0) 1)) (sub x0 0 (ag .i64 (ah x0) 1)))&&((cO (af x0 (false,(false,([],()))) (ag .i64 (ah x0) 1)).2.2.1 (af x0 (false,(false,([],()))) (ag .i64 (ah x0) 1)).2.2.1)&&((cO x1 x1)&&((cO (az (af x0 (false,(false,([],()))) (ag .i64 (ah x0) 1)).2.2.1 x1) (az (af x0 (false,(false,([],()))) (ag .i64 (ah x0) 1)).2.2.1 x1))&&(((fF false false)&&((fF false false)&&((cO (az (af x0 (false,(false,([],()))) (ag .i64 (ah x0) 1)).2.2.1 x1) (az (af x0 (false,(false,([],()))) (ag .i64 (ah x0) 1)).2.2.1 x1))&&true)))&&true)))))))))))))))))))))))))&&(((dR (.pair .bool (.pair .bool (.pair .str .unit))) [(false,(false,((az (af x0 (false,(false,([],()))) (ag .i64 (ah x0) 1)).2.2.1 x1),())))] [(false,(false,((az (af x0 (false,(false,([],()))) (ag .i64 (ah x0) 1)).2.2.1 x1),())))])&&((dR (.pair .bool (.pair .bool (.pair .str .unit))) (az (az [] (sub x0 0 (ag .i64 (ah x0) 1))) [(false,(false,((az (af x0 (false,(false,([],()))) (ag .i64 (ah x0) 1)).2.2.1 x1),())))]) (az (az [] (sub x0 0 (ag .i64 (ah x0) 1))) [(false,(false,((az (af x0 (false,(false,([],()))) (ag .i64 (ah x0) 1)).2.2.1 x1),())))]))&&(((fF (af x0 (false,(false,([],()))) (ag .i64 (ah x0) 1)).1 (af x0 (false,(false,([],()))) (ag .i64 (ah x0) 1)).1)&&((fF (af x0 (false,(false,([],()))) (ag .i64 (ah x0) 1)).2.1 (af x0 (false,(false,([],()))) (ag .i64 (ah x0) 1)).2.1)&&((cO (af x0 (false,(false,([],()))) (ag .i64 (ah x0) 1)).2.2.1 (af x0 (false,(false,([],()))) (ag .i64 (ah x0) 1)).2.2.1)&&true)))&&true)))&&true))&&true)then(some ())else(none))else(none))else(none))else(none))else(none))else(none))else(none))else(none))else(none))else(none))else(none))else(none))else(none))else(none))else(none))else(none))else(none))else(none))else(none))else(none))else(none))else(none))else(none))else(none))else(none))else(none))else(none))else(none))else(none))else(none))else(none))else(none))else(none))else(none))else(none))else(none))else(none))else(none))else(none))else(none)) fun y1=>
                                               some ((az (az [] (sub x0 0 (ag .i64 (ah x0) 1))) [(false,(false,((az (af x0 (false,(false,([],()))) (ag .i64 (ah x0) 1)).2.2.1 x1),())))]),())
                                            else
                                            none
                                           else
                                           none
                                          else
                                          none
                                         else
                                         none
                                        else
                                        none
                                       else
                                       none
                                      else
                                      none
                                     else
                                     none
                                    else
                                    none
                                   else
                                   none
                                  else
                                  none
                                 else
                                 none
                                else
                                none
                               else
                               none
                              else
                              none
                             else
                             none
                            else
                            none
                           else
                           none
                          else
                          none
                         else
                         none
                        else
                        none
                       else
                       none
                      else
                      none
                     else
                     none
                    else
                    none
                   else
                   none
                  else
                  none
                 else
                 none
                else
                none
               else
               none
              else
              none
             else
             none
            else
            none
           else
           none
          else
          none
         else
         none
        else
        none
       else
       none
      else
      none
     else
     none
    else
    none
   else
   none
  else
  bif(aZ (az [] x0) 24)then
   bif(aZ (az (az [] x0) [(false,(false,(x1,())))]) 24)then
    some ((az (az [] x0) [(false,(false,(x1,())))]),())
   else
   none
  else
  none
 else
 bif(aZ (az [] x0) 24)then
  bif(aZ (az (az [] x0) [(false,(false,(x1,())))]) 24)then
   some ((az (az [] x0) [(false,(false,(x1,())))]),())
  else
  none
 else
 none
def Xd:Sum:=(⟨[.list (.pair .bool (.pair .bool (.pair .str .unit))),.str,.bool],[(.list (.pair .bool (.pair .bool (.pair .str .unit))),true)],fun x=>zg x.1 x.2.1 x.2.2.1⟩:Sum)
noncomputable def amV:Env:=dH Tryz.prog tt 273 [] [] []
theorem abz:bJ amV:=bz tok mixed bV (sg:=[]) aN (fn:=Tryz.f273) (c:=(Tryz.f273.body).getD .skip) (by kernel_rfl) (by kernel_rfl) (aS (fun _=>rfl) (fun _=>rfl) _) bW bC
theorem aaB:bD Tryz.prog 273 Xd:=ed abz (by decide) fun x=>by kernel_rfl
noncomputable def afH:Code:=(Tryz.f274.body).getD .skip
noncomputable def agP:Code:=cA (cA (cA (cB (cB (cB (cB (afH)))))))
def ahl:dB:=⟨[0,1,3,9,10,11,100004],[(9,(.pair .bool (.pair .bool (.pair .str .unit))))],[9,10],[],[8],[(8,(.pair .bool (.pair .bool (.pair .str .unit))))]⟩
def PV:SP:=⟨us [.v .str,.v (.list (.pair (.int .i64) (.pair (.int .i64) (.pair (.int .i64) (.pair (.int .i64) (.pair .bool .unit)))))),.u,.v (.int .i64),.u,.u,.u,.u,.u,.slc 1800009,.v .str,.v (.int .i64)] 112,[.arr 1800009 (.pair .bool (.pair .bool (.pair .str .unit)))]⟩
def QV:SP:=⟨us [.u,.u,.u,.u,.u,.u,.u,.u,.u,.slc 1800009,.v .str] 113,[.arr 1800009 (.pair .bool (.pair .bool (.pair .str .unit)))]⟩
def Ot:SP:=⟨us [.u,.u,.u,.u,.u,.u,.u,.u,.v (.list (.pair .bool (.pair .bool (.pair .str .unit))))] 115,[]⟩
def Gn {γ:Type} (rec:(List UInt8)->(List (Int×Int×Int×Int×Bool×Unit))->Int->(List UInt8)->Int->(List (Bool×Bool×(List UInt8)×(Unit)))->Option γ) (kE:(List UInt8)->(List (Bool×Bool×(List UInt8)×(Unit)))->Option γ) (kR:(List (Bool×Bool×(List UInt8)×(Unit)))->Option γ) (v0:List UInt8) (v1:List (Int×Int×Int×Int×Bool×Unit)) (v2:Int) (v3:List UInt8) (v4:Int) (v5:List (Bool×Bool×(List UInt8)×(Unit))):Option γ:=
 bif(fD v4 v2)then
  ai (SB v1 v4) fun y0=>
   bif(aH y0.2.1 0)then
    bif(bu (ah v0) v4 (aG .i64 v4 1))then
     bif(fG v3 (sub v0 v4 (aG .i64 v4 1)))then
      rec v0 v1 v2 (az v3 (sub v0 v4 (aG .i64 v4 1))) (aG .i64 v4 1) v5
     else
     none
    else
    none
   else
   bif(aH y0.1.1 12)then
    bif(aH y0.1.2.2.1 (aG .i64 v4 1))then
     bif(bu (ah v0) v4 (aG .i64 v4 1))then
      bif(fG v3 (sub v0 v4 (aG .i64 v4 1)))then
       rec v0 v1 v2 (az v3 (sub v0 v4 (aG .i64 v4 1))) (aG .i64 v4 1) v5
      else
      none
     else
     none
    else
    bif(aH y0.1.1 13)then
     bif(aH y0.1.2.2.1 (aG .i64 v4 2))then
      bif(dX v0 (aG .i64 v4 1))then
       bif(aH (aI v0 (aG .i64 v4 1)) 36)then
        bif(bu (ah v0) (aG .i64 v4 1) (aG .i64 v4 2))then
         bif(fG v3 (sub v0 (aG .i64 v4 1) (aG .i64 v4 2)))then
          rec v0 v1 v2 (az v3 (sub v0 (aG .i64 v4 1) (aG .i64 v4 2))) y0.1.2.2.1 v5
         else
         none
        else
        none
       else
       bif(aH (aI v0 (aG .i64 v4 1)) 96)then
        bif(bu (ah v0) (aG .i64 v4 1) (aG .i64 v4 2))then
         bif(fG v3 (sub v0 (aG .i64 v4 1) (aG .i64 v4 2)))then
          rec v0 v1 v2 (az v3 (sub v0 (aG .i64 v4 1) (aG .i64 v4 2))) y0.1.2.2.1 v5
         else
         none
        else
        none
       else
       bif(aH (aI v0 (aG .i64 v4 1)) 34)then
        bif(bu (ah v0) (aG .i64 v4 1) (aG .i64 v4 2))then
         bif(fG v3 (sub v0 (aG .i64 v4 1) (aG .i64 v4 2)))then
          rec v0 v1 v2 (az v3 (sub v0 (aG .i64 v4 1) (aG .i64 v4 2))) y0.1.2.2.1 v5
         else
         none
        else
        none
       else
       bif(aH (aI v0 (aG .i64 v4 1)) 92)then
        bif(bu (ah v0) (aG .i64 v4 1) (aG .i64 v4 2))then
         bif(fG v3 (sub v0 (aG .i64 v4 1) (aG .i64 v4 2)))then
          rec v0 v1 v2 (az v3 (sub v0 (aG .i64 v4 1) (aG .i64 v4 2))) y0.1.2.2.1 v5
         else
         none
        else
        none
       else
       bif(!(aH (aI v0 (aG .i64 v4 1)) 10))then
        bif(bu (ah v0) v4 (aG .i64 v4 2))then
         bif(fG v3 (sub v0 v4 (aG .i64 v4 2)))then
          rec v0 v1 v2 (az v3 (sub v0 v4 (aG .i64 v4 2))) y0.1.2.2.1 v5
         else
         none
        else
        none
       else
       rec v0 v1 v2 v3 y0.1.2.2.1 v5
      else
      none
     else
     rec v0 v1 v2 v3 y0.1.2.2.1 v5
    else
    bif(!(cO v3 []))then
     bif(aZ (az v5 [(false,(true,(v3,())))]) 24)then
      bif(bu (ah v0) v4 y0.1.2.2.1)then
       bif(aZ (az (az v5 [(false,(true,(v3,())))]) [(true,(true,((sub v0 v4 y0.1.2.2.1),())))]) 24)then
        rec v0 v1 v2 [] y0.1.2.2.1 (az (az v5 [(false,(true,(v3,())))]) [(true,(true,((sub v0 v4 y0.1.2.2.1),())))])
       else
       none
      else
      none
     else
     none
    else
    bif(bu (ah v0) v4 y0.1.2.2.1)then
     bif(aZ (az v5 [(true,(true,((sub v0 v4 y0.1.2.2.1),())))]) 24)then
      rec v0 v1 v2 [] y0.1.2.2.1 (az v5 [(true,(true,((sub v0 v4 y0.1.2.2.1),())))])
     else
     none
    else
    none
   else
   bif(aH y0.1.1 13)then
    bif(aH y0.1.2.2.1 (aG .i64 v4 2))then
     bif(dX v0 (aG .i64 v4 1))then
      bif(aH (aI v0 (aG .i64 v4 1)) 36)then
       bif(bu (ah v0) (aG .i64 v4 1) (aG .i64 v4 2))then
        bif(fG v3 (sub v0 (aG .i64 v4 1) (aG .i64 v4 2)))then
         rec v0 v1 v2 (az v3 (sub v0 (aG .i64 v4 1) (aG .i64 v4 2))) y0.1.2.2.1 v5
        else
        none
       else
       none
      else
      bif(aH (aI v0 (aG .i64 v4 1)) 96)then
       bif(bu (ah v0) (aG .i64 v4 1) (aG .i64 v4 2))then
        bif(fG v3 (sub v0 (aG .i64 v4 1) (aG .i64 v4 2)))then
         rec v0 v1 v2 (az v3 (sub v0 (aG .i64 v4 1) (aG .i64 v4 2))) y0.1.2.2.1 v5
        else
        none
       else
       none
      else
      bif(aH (aI v0 (aG .i64 v4 1)) 34)then
       bif(bu (ah v0) (aG .i64 v4 1) (aG .i64 v4 2))then
        bif(fG v3 (sub v0 (aG .i64 v4 1) (aG .i64 v4 2)))then
         rec v0 v1 v2 (az v3 (sub v0 (aG .i64 v4 1) (aG .i64 v4 2))) y0.1.2.2.1 v5
        else
        none
       else
       none
      else
      bif(aH (aI v0 (aG .i64 v4 1)) 92)then
       bif(bu (ah v0) (aG .i64 v4 1) (aG .i64 v4 2))then
        bif(fG v3 (sub v0 (aG .i64 v4 1) (aG .i64 v4 2)))then
         rec v0 v1 v2 (az v3 (sub v0 (aG .i64 v4 1) (aG .i64 v4 2))) y0.1.2.2.1 v5
        else
        none
       else
       none
      else
      bif(!(aH (aI v0 (aG .i64 v4 1)) 10))then
       bif(bu (ah v0) v4 (aG .i64 v4 2))then
        bif(fG v3 (sub v0 v4 (aG .i64 v4 2)))then
         rec v0 v1 v2 (az v3 (sub v0 v4 (aG .i64 v4 2))) y0.1.2.2.1 v5
        else
        none
       else
       none
      else
      rec v0 v1 v2 v3 y0.1.2.2.1 v5
     else
     none
    else
    rec v0 v1 v2 v3 y0.1.2.2.1 v5
   else
   bif(!(cO v3 []))then
    bif(aZ (az v5 [(false,(true,(v3,())))]) 24)then
     bif(bu (ah v0) v4 y0.1.2.2.1)then
      bif(aZ (az (az v5 [(false,(true,(v3,())))]) [(true,(true,((sub v0 v4 y0.1.2.2.1),())))]) 24)then
       rec v0 v1 v2 [] y0.1.2.2.1 (az (az v5 [(false,(true,(v3,())))]) [(true,(true,((sub v0 v4 y0.1.2.2.1),())))])
      else
      none
     else
     none
    else
    none
   else
   bif(bu (ah v0) v4 y0.1.2.2.1)then
    bif(aZ (az v5 [(true,(true,((sub v0 v4 y0.1.2.2.1),())))]) 24)then
     rec v0 v1 v2 [] y0.1.2.2.1 (az v5 [(true,(true,((sub v0 v4 y0.1.2.2.1),())))])
    else
    none
   else
   none
 else
 kE v3 v5
def nD:Nat->(List UInt8)->(List (Int×Int×Int×Int×Bool×Unit))->Int->(List UInt8)->Int->(List (Bool×Bool×(List UInt8)×(Unit)))->Option (QV.den⊕Ot.den)
 |0,_,_,_,_,_,_=>none
 |n+1,v0,v1,v2,v3,v4,v5=>Gn (nD n) (fun e0 e1=>some (.inl ((e0,()),(e1,())))) (fun r0=>some (.inr ((r0,()),()))) v0 v1 v2 v3 v4 v5
noncomputable def Yu:bG:=dO ahl PV QV Ot (.exit 0) (fun v=>nD aO v.1.1 v.1.2.1 v.1.2.2.1 v.1.2.2.2.1 v.1.2.2.2.2.1 v.2.1) 6
def zn (x0:List UInt8) (x1:List (Int×Int×Int×Int×Bool×Unit)) (x2:Int) (x3:Int):Option ((List (Bool×Bool×(List UInt8)×(Unit)))×Unit):=
 ai (nD aO x0 x1 x3 [] x2 []) fun y0=>
  bF y0 (fun a1=>
   bif(!(cO a1.1.1 []))then
    bif(aZ (az a1.2.1 [(false,(true,(a1.1.1,())))]) 24)then
     some ((az a1.2.1 [(false,(true,(a1.1.1,())))]),())
    else
    none
   else
   bif(aH (ah a1.2.1) 0)then
    bif(aZ (az a1.2.1 [(false,(true,(a1.1.1,())))]) 24)then
     some ((az a1.2.1 [(false,(true,(a1.1.1,())))]),())
    else
    none
   else
   some (a1.2.1,())) (fun b1=>
   some (b1.1.1,()))
def Vr:Sum:=(⟨[.str,.list (.pair (.int .i64) (.pair (.int .i64) (.pair (.int .i64) (.pair (.int .i64) (.pair .bool .unit))))),.int .i64,.int .i64],[(.list (.pair .bool (.pair .bool (.pair .str .unit))),false)],fun x=>zn x.1 x.2.1 x.2.2.1 x.2.2.2.1⟩:Sum)
noncomputable def U9:Env:=dH Tryz.prog tt 274 [(272,JQ)] [(4,ahl)] [(4,Yu)]
def Z7 {γ:Type} (a:PV.den->Option γ) (b:QV.den->Option γ) (c:Ot.den->Option γ) (v:PV.den):Option γ:=Gn (fun v0 v1 v2 v3 v4 v5=>a ((v0,v1,v2,v3,v4,()),(v5,()))) (fun e0 e1=>b ((e0,()),(e1,()))) (fun r0=>c ((r0,()),())) v.1.1 v.1.2.1 v.1.2.2.1 v.1.2.2.2.1 v.1.2.2.2.2.1 v.2.1
theorem ajo:di U9 274 agP Yu:=wG (Z7) (lp:=fun n (v:PV.den)=>nD n v.1.1 v.1.2.1 v.1.2.2.1 v.1.2.2.2.1 v.1.2.2.2.2.1 v.2.1) (by kernel_rfl) (fun _=>rfl) (fun _ _=>rfl) (fun d n K v=>by kernel_rfl) (by intros;simp only[Z7,Gn,bg,bn,ae,aV,bi])
theorem amN:bZ afH=[agP]:=by kernel_rfl
theorem anz:cZ U9 274 afH:=bP afH (fun _=>rfl) (by rw[amN];exact(aC ⟨fL (by kernel_rfl) (ajo),aN⟩))
theorem aaP:bJ U9:=bz tok mixed bV (sg:=[(272,JQ)]) (aC ⟨(MK),aN⟩) (fn:=Tryz.f274) (c:=afH) (by kernel_rfl) (by kernel_rfl) (anz) bW bC
theorem aa6:bD Tryz.prog 274 Vr:=ed aaP (by decide) fun x=>by kernel_rfl
noncomputable def afT:Code:=(Tryz.f214.body).getD .skip
noncomputable def aen:Code:=cA (cA (cA (cB (cB (cB (cB (cB (afT))))))))
def aeJ:dB:=⟨[0,3,4,5,6,100005],[(4,.pair (.list .bool) (.pair .bool (.pair .bool (.pair .str .unit))))],[4],[],[2],[(2,(.pair .bool (.pair .bool (.pair .str .unit))))]⟩
def PT:SP:=⟨us [.v .str,.u,.u,.v (.list (.pair (.int .i64) (.pair (.int .i64) (.pair (.int .i64) (.pair (.int .i64) (.pair .bool .unit)))))),.slc 1800004,.v .bool,.v (.int .i64)] 130,[.arr 1800004 (.pair .bool (.pair .bool (.pair .str .unit)))]⟩
def OM:SP:=⟨us [.u,.u,.u,.u,.slc 1800004] 132,[.arr 1800004 (.pair .bool (.pair .bool (.pair .str .unit)))]⟩
def Om:SP:=⟨us [.u,.u,.v (.list (.pair .bool (.pair .bool (.pair .str .unit))))] 134,[]⟩
def FZ {γ:Type} (rec:(List UInt8)->(List (Int×Int×Int×Int×Bool×Unit))->Bool->Int->(List (Bool×Bool×(List UInt8)×(Unit)))->Option γ) (kE:(List (Bool×Bool×(List UInt8)×(Unit)))->Option γ) (kR:(List (Bool×Bool×(List UInt8)×(Unit)))->Option γ) (v0:List UInt8) (v1:List (Int×Int×Int×Int×Bool×Unit)) (v2:Bool) (v3:Int) (v4:List (Bool×Bool×(List UInt8)×(Unit))):Option γ:=
 bif(fD v3 (ah v0))then
  ai (SB v1 v3) fun y0=>
   bif(aH y0.2.1 0)then
    bif(aH y0.2.1 1)then
     bif(bu (ah v0) v3 y0.1.2.2.1)then
      ai (zg v4 (sub v0 v3 y0.1.2.2.1) v2) fun y1=>
       rec v0 v1 false y0.1.2.2.1 y1.1
     else
     none
    else
    bif(bu (ah v0) v3 (aG .i64 v3 1))then
     ai (zg v4 (sub v0 v3 (aG .i64 v3 1)) v2) fun y1=>
      rec v0 v1 false (aG .i64 v3 1) y1.1
    else
    none
   else
   bif(aH y0.1.1 14)then
    bif(aH y0.2.1 1)then
     bif(bu (ah v0) v3 y0.1.2.2.1)then
      ai (zg v4 (sub v0 v3 y0.1.2.2.1) v2) fun y1=>
       rec v0 v1 false y0.1.2.2.1 y1.1
     else
     none
    else
    bif(bu (ah v0) v3 (aG .i64 v3 1))then
     ai (zg v4 (sub v0 v3 (aG .i64 v3 1)) v2) fun y1=>
      rec v0 v1 false (aG .i64 v3 1) y1.1
    else
    none
   else
   bif(aH y0.1.1 12)then
    bif(aH y0.1.2.2.1 (aG .i64 v3 1))then
     bif(aH y0.2.1 1)then
      bif(bu (ah v0) v3 y0.1.2.2.1)then
       ai (zg v4 (sub v0 v3 y0.1.2.2.1) v2) fun y1=>
        rec v0 v1 false y0.1.2.2.1 y1.1
      else
      none
     else
     bif(bu (ah v0) v3 (aG .i64 v3 1))then
      ai (zg v4 (sub v0 v3 (aG .i64 v3 1)) v2) fun y1=>
       rec v0 v1 false (aG .i64 v3 1) y1.1
     else
     none
    else
    bif(aH y0.1.1 13)then
     bif(aH y0.1.2.2.1 (aG .i64 y0.1.2.1 2))then
      bif(dX v0 (aG .i64 y0.1.2.1 1))then
       bif(!(aH (aI v0 (aG .i64 y0.1.2.1 1)) 10))then
        bif(bu (ah v0) (aG .i64 y0.1.2.1 1) y0.1.2.2.1)then
         bif(aZ (az v4 [(false,(true,((sub v0 (aG .i64 y0.1.2.1 1) y0.1.2.2.1),())))]) 24)then
          rec v0 v1 true y0.1.2.2.1 (az v4 [(false,(true,((sub v0 (aG .i64 y0.1.2.1 1) y0.1.2.2.1),())))])
         else
         none
        else
        none
       else
       rec v0 v1 v2 y0.1.2.2.1 v4
      else
      none
     else
     rec v0 v1 v2 y0.1.2.2.1 v4
    else
    bif(aH y0.1.1 4)then
     bif y0.1.2.2.2.2.1 then
      bif(bu (ah v0) (aG .i64 y0.1.2.1 1) y0.1.2.2.1)then
       bif(aZ (az v4 [(false,(true,((sub v0 (aG .i64 y0.1.2.1 1) y0.1.2.2.1),())))]) 24)then
        rec v0 v1 true y0.1.2.2.1 (az v4 [(false,(true,((sub v0 (aG .i64 y0.1.2.1 1) y0.1.2.2.1),())))])
       else
       none
      else
      none
     else
     bif(bu (ah v0) (aG .i64 y0.1.2.1 1) (ag .i64 y0.1.2.2.1 1))then
      bif(aZ (az v4 [(false,(true,((sub v0 (aG .i64 y0.1.2.1 1) (ag .i64 y0.1.2.2.1 1)),())))]) 24)then
       rec v0 v1 true y0.1.2.2.1 (az v4 [(false,(true,((sub v0 (aG .i64 y0.1.2.1 1) (ag .i64 y0.1.2.2.1 1)),())))])
      else
      none
     else
     none
    else
    bif(aH y0.1.1 5)then
     bif y0.1.2.2.2.2.1 then
      ai (zn v0 v1 (aG .i64 y0.1.2.1 1) y0.1.2.2.1) fun y1=>
       bif(aZ (az v4 y1.1) 24)then
        rec v0 v1 true y0.1.2.2.1 (az v4 y1.1)
       else
       none
     else
     ai (zn v0 v1 (aG .i64 y0.1.2.1 1) (ag .i64 y0.1.2.2.1 1)) fun y1=>
      bif(aZ (az v4 y1.1) 24)then
       rec v0 v1 true y0.1.2.2.1 (az v4 y1.1)
      else
      none
    else
    bif(bu (ah v0) y0.1.2.1 y0.1.2.2.1)then
     bif(aZ (az v4 [(true,(false,((sub v0 y0.1.2.1 y0.1.2.2.1),())))]) 24)then
      rec v0 v1 true y0.1.2.2.1 (az v4 [(true,(false,((sub v0 y0.1.2.1 y0.1.2.2.1),())))])
     else
     none
    else
    none
   else
   bif(aH y0.1.1 13)then
    bif(aH y0.1.2.2.1 (aG .i64 y0.1.2.1 2))then
     bif(dX v0 (aG .i64 y0.1.2.1 1))then
      bif(!(aH (aI v0 (aG .i64 y0.1.2.1 1)) 10))then
       bif(bu (ah v0) (aG .i64 y0.1.2.1 1) y0.1.2.2.1)then
        bif(aZ (az v4 [(false,(true,((sub v0 (aG .i64 y0.1.2.1 1) y0.1.2.2.1),())))]) 24)then
         rec v0 v1 true y0.1.2.2.1 (az v4 [(false,(true,((sub v0 (aG .i64 y0.1.2.1 1) y0.1.2.2.1),())))])
        else
        none
       else
       none
      else
      rec v0 v1 v2 y0.1.2.2.1 v4
     else
     none
    else
    rec v0 v1 v2 y0.1.2.2.1 v4
   else
   bif(aH y0.1.1 4)then
    bif y0.1.2.2.2.2.1 then
     bif(bu (ah v0) (aG .i64 y0.1.2.1 1) y0.1.2.2.1)then
      bif(aZ (az v4 [(false,(true,((sub v0 (aG .i64 y0.1.2.1 1) y0.1.2.2.1),())))]) 24)then
       rec v0 v1 true y0.1.2.2.1 (az v4 [(false,(true,((sub v0 (aG .i64 y0.1.2.1 1) y0.1.2.2.1),())))])
      else
      none
     else
     none
    else
    bif(bu (ah v0) (aG .i64 y0.1.2.1 1) (ag .i64 y0.1.2.2.1 1))then
     bif(aZ (az v4 [(false,(true,((sub v0 (aG .i64 y0.1.2.1 1) (ag .i64 y0.1.2.2.1 1)),())))]) 24)then
      rec v0 v1 true y0.1.2.2.1 (az v4 [(false,(true,((sub v0 (aG .i64 y0.1.2.1 1) (ag .i64 y0.1.2.2.1 1)),())))])
     else
     none
    else
    none
   else
   bif(aH y0.1.1 5)then
    bif y0.1.2.2.2.2.1 then
     ai (zn v0 v1 (aG .i64 y0.1.2.1 1) y0.1.2.2.1) fun y1=>
      bif(aZ (az v4 y1.1) 24)then
       rec v0 v1 true y0.1.2.2.1 (az v4 y1.1)
      else
      none
    else
    ai (zn v0 v1 (aG .i64 y0.1.2.1 1) (ag .i64 y0.1.2.2.1 1)) fun y1=>
     bif(aZ (az v4 y1.1) 24)then
      rec v0 v1 true y0.1.2.2.1 (az v4 y1.1)
     else
     none
   else
   bif(bu (ah v0) y0.1.2.1 y0.1.2.2.1)then
    bif(aZ (az v4 [(true,(false,((sub v0 y0.1.2.1 y0.1.2.2.1),())))]) 24)then
     rec v0 v1 true y0.1.2.2.1 (az v4 [(true,(false,((sub v0 y0.1.2.1 y0.1.2.2.1),())))])
    else
    none
   else
   none
 else
 kE v4
def je:Nat->(List UInt8)->(List (Int×Int×Int×Int×Bool×Unit))->Bool->Int->(List (Bool×Bool×(List UInt8)×(Unit)))->Option (OM.den⊕Om.den)
 |0,_,_,_,_,_=>none
 |n+1,v0,v1,v2,v3,v4=>FZ (je n) (fun e0=>some (.inl ((),(e0,())))) (fun r0=>some (.inr ((r0,()),()))) v0 v1 v2 v3 v4
noncomputable def aae:bG:=dO aeJ PT OM Om (.exit 0) (fun v=>je aO v.1.1 v.1.2.1 v.1.2.2.1 v.1.2.2.2.1 v.2.1) 6
def ZP (x0:List UInt8):Option ((List (Bool×Bool×(List UInt8)×(Unit)))×Unit):=
 ai (Y3 x0) fun y0=>
  ai (je aO x0 y0.1 true 0 []) fun y1=>
   bF y1 (fun a2=>
    some (a2.2.1,())) (fun b2=>
    some (b2.1.1,()))
def X9:Sum:=(⟨[.str],[(.list (.pair .bool (.pair .bool (.pair .str .unit))),false)],fun x=>ZP x.1⟩:Sum)
noncomputable def VV:Env:=dH Tryz.prog tt 214 [(271,WZ),(272,JQ),(273,Xd),(274,Vr)] [(5,aeJ)] [(5,aae)]
def aap {γ:Type} (a:PT.den->Option γ) (b:OM.den->Option γ) (c:Om.den->Option γ) (v:PT.den):Option γ:=FZ (fun v0 v1 v2 v3 v4=>a ((v0,v1,v2,v3,()),(v4,()))) (fun e0=>b ((),(e0,()))) (fun r0=>c ((r0,()),())) v.1.1 v.1.2.1 v.1.2.2.1 v.1.2.2.2.1 v.2.1
theorem aif:di VV 214 aen aae:=wG (aap) (lp:=fun n (v:PT.den)=>je n v.1.1 v.1.2.1 v.1.2.2.1 v.1.2.2.2.1 v.2.1) (by kernel_rfl) (fun _=>rfl) (fun _ _=>rfl) (fun d n K v=>by kernel_rfl) (by intros;simp only[aap,FZ,bg,bn,ae,aV,bi])
theorem amM:bZ afT=[aen]:=by kernel_rfl
theorem anZ:cZ VV 214 afT:=bP afT (fun _=>rfl) (by rw[amM];exact(aC ⟨fL (by kernel_rfl) (aif),aN⟩))
theorem aaM:bJ VV:=bz tok mixed bV (sg:=[(271,WZ),(272,JQ),(273,Xd),(274,Vr)]) (aC ⟨(acI),(aC ⟨(MK),(aC ⟨(aaB),(aC ⟨(aa6),aN⟩)⟩)⟩)⟩) (fn:=Tryz.f214) (c:=afT) (by kernel_rfl) (by kernel_rfl) (anZ) bW bC
theorem acR:bD Tryz.prog 214 X9:=ed aaM (by decide) fun x=>by kernel_rfl
noncomputable def agw:Code:=(Tryz.f153.body).getD .skip
noncomputable def afJ:Code:=cA (cA (cB (cA (cB (cB (cB (agw)))))))
def afu:dB:=⟨[3,4,5,100004],[],[4],[],[2],[]⟩
def Nu:SP:=⟨us [.u,.u,.u,.v (.list (.pair .bool (.pair .bool (.pair .str .unit)))),.v .str,.v (.int .i64)] 16,[]⟩
def Qh:SP:=⟨us [.u,.u,.u,.u,.v .str] 17,[]⟩
def O9:SP:=⟨us [.u,.u,.v .str] 19,[]⟩
def FP {γ:Type} (rec:(List (Bool×Bool×(List UInt8)×(Unit)))->(List UInt8)->Int->Option γ) (kE:(List UInt8)->Option γ) (kR:(List UInt8)->Option γ) (v0:List (Bool×Bool×(List UInt8)×(Unit))) (v1:List UInt8) (v2:Int):Option γ:=
 bif(fD v2 (ah v0))then
  bif(dX v0 v2)then
   bif(fG v1 (af v0 (false,(false,([],()))) v2).2.2.1)then
    rec v0 (az v1 (af v0 (false,(false,([],()))) v2).2.2.1) (aG .i64 v2 1)
   else
   none
  else
  none
 else
 kE v1
def uy:Nat->(List (Bool×Bool×(List UInt8)×(Unit)))->(List UInt8)->Int->Option (Qh.den⊕O9.den)
 |0,_,_,_=>none
 |n+1,v0,v1,v2=>FP (uy n) (fun e0=>some (.inl ((e0,()),()))) (fun r0=>some (.inr ((r0,()),()))) v0 v1 v2
noncomputable def Zh:bG:=dO afu Nu Qh O9 (.exit 0) (fun v=>uy aO v.1.1 v.1.2.1 v.1.2.2.1) 6
def Jq (x0:List UInt8):Option ((List UInt8)×Unit):=
 ai (ZP x0) fun y0=>
  ai (uy aO y0.1 [] 0) fun y1=>
   bF y1 (fun a2=>
    some (a2.1.1,())) (fun b2=>
    some (b2.1.1,()))
def XE:Sum:=(⟨[.str],[(.str,false)],fun x=>Jq x.1⟩:Sum)
noncomputable def Vk:Env:=dH Tryz.prog tt 153 [(214,X9)] [(4,afu)] [(4,Zh)]
def ZM {γ:Type} (a:Nu.den->Option γ) (b:Qh.den->Option γ) (c:O9.den->Option γ) (v:Nu.den):Option γ:=FP (fun v0 v1 v2=>a ((v0,v1,v2,()),())) (fun e0=>b ((e0,()),())) (fun r0=>c ((r0,()),())) v.1.1 v.1.2.1 v.1.2.2.1
theorem aiM:di Vk 153 afJ Zh:=wG (ZM) (lp:=fun n (v:Nu.den)=>uy n v.1.1 v.1.2.1 v.1.2.2.1) (by kernel_rfl) (fun _=>rfl) (fun _ _=>rfl) (fun d n K v=>by kernel_rfl) (by intros;simp only[ZM,FP,bg,bn,ae,aV,bi])
theorem alr:bZ agw=[afJ]:=by kernel_rfl
theorem amf:cZ Vk 153 agw:=bP agw (fun _=>rfl) (by rw[alr];exact(aC ⟨fL (by kernel_rfl) (aiM),aN⟩))
theorem acw:bJ Vk:=bz tok mixed bV (sg:=[(214,X9)]) (aC ⟨(acR),aN⟩) (fn:=Tryz.f153) (c:=agw) (by kernel_rfl) (by kernel_rfl) (amf) bW bC
theorem abo:bD Tryz.prog 153 XE:=ed acw (by decide) fun x=>by kernel_rfl
end Go.Proofs.YtihafdllichkeaaGreatDoor
namespace Go.Proofs.YtihafdllichkeaaGreatDoor
open Go.RowKit
set_option linter.unusedVariables false
set_option linter.unusedSimpArgs false
set_option maxRecDepth 100000
abbrev Pce:=Bool×Bool×List UInt8×Unit
def dPc:Pce:=(false,(false,([],())))
def gW (l:List Pce):List UInt8:=(l.map (·.2.2.1)).flatten
theorem nN (a b:List Pce):gW (a++b)=gW a++gW b:=by simp[gW]
theorem qG (x y:Bool) (t:List UInt8):gW [(x,(y,(t,())))]=t:=by simp[gW]
theorem KY (L:List iO) (hl:L.length<1000000) (v:Int) (m f t u:Int) (o:Bool): ∀(N k:Nat),L.length-k<N->k<=L.length->
  ve N L v (k:Int) m f t u o=some (match(L.drop k).find? (fun p=>p.2.1==v)with
   |none=>.inl ((),((m,f,t,u,o,()),()))
   |some p=>.inr ((1,()),((p.1,p.2.1,p.2.2.1,p.2.2.2.1,p.2.2.2.2.1,()),())))
 |0,k,h,_=>by omega
 |N+1,k,h,hk=>by
  rw[ve,Gm]
  by_cases e:k<L.length
  ·have hg:af L (0,(0,(0,(0,(false,()))))) (k:Int)=L[k]:=by
    unfold af
    rw[Int.toNat_natCast,List.getD_eq_getElem?_getD,List.getElem?_eq_getElem e];rfl
   rw[aK (dM (by rw[aB];omega)),aK (dw (by omega) (by omega)),hg,List.drop_eq_getElem_cons e,List.find?_cons]
   by_cases h1:L[k].2.1=v
   ·rw[aK (dJ h1),aK (dw (by omega) (by omega))]
    have:(L[k].2.1==v)=true:=by simpa using h1
    rw[this]
   ·have:(L[k].2.1==v)=false:=by simpa using h1
    rw[aU (bU h1),bI (by omega) (by omega),show(k:Int)+1=((k+1:Nat):Int) by omega,KY L hl v m f t u o N (k+1) (by omega) (by omega),this]
  ·rw[aU (gp (by rw[aB];omega)),List.drop_of_length_le (by omega)];rfl
theorem ahq (L:List iO) (hl:L.length<1000000) (v:Int):SB L v=some (match pW L v with
  |none=>((0,(0,(0,(0,(false,()))))),(0,()))
  |some p=>(p,(1,()))):=by
 rw[SB]
 have h:=KY L hl v 0 0 0 0 false aO 0 (dh (by omega)) (by omega)
 rw[show ve aO L v 0 0 0 0 0 false=_ from h,ae,List.drop_zero]
 unfold pW
 cases L.find? (fun p=>p.2.1==v)with
 |none=>rfl
 |some p=>rfl
theorem aoK (s:List UInt8) (a b:Int):(sub s a b).length<=(b-a).toNat:=by
 unfold sub
 simp only[List.length_drop,List.length_take];omega
theorem Wn {a b:List UInt8} (h:a.length+b.length<=140737488355328):fG a b=true:=by
 unfold fG jg;simpa using h
theorem mg {α:Type} {l:List α} {k:Nat} (h:l.length*k<=140737488355328):aZ l k=true:=by
 unfold aZ jg;simpa using h
theorem IZ (s:List UInt8) (hs:s.length<=10000) {to_:Int} (hto:to_<=s.length): ∀(N:Nat) (at_:Int) (here:List UInt8) (out:List Pce),0<N->to_-at_<N->0<=at_->at_<=s.length->(here.length:Int)<=10000*at_->(out.length:Int)<=2*at_->
  ∃here' out',nD N s (aJ s) to_ here at_ out=some (.inl ((here',()),(out',())))/\gW out'++here'=gW out++here++mD s (aJ s) to_ N at_/\(here'.length:Int)<=10000*s.length/\(out'.length:Int)<=2*s.length
 |0,at_,here,out,hN,_,_,_,_,_=>by
  omega
 |N+1,at_,here,out,hN,h,h0,h1,hh,ho=>by
  rw[nD,Gn,mD]
  by_cases e:at_<to_
  ·have hpl:=uA s
   have hup:= @JR s at_
   have hsl:=Df s (aJ s) at_
   have keep: ∀(c:List UInt8) (nx:Int),c=(eY s (aJ s) at_).2.1->nx=(eY s (aJ s) at_).1->nx<=s.length->
     ∃here' out',nD N s (aJ s) to_ (az here c) nx out=some (.inl ((here',()),(out',())))/\gW out'++here'=gW out++here++((eY s (aJ s) at_).2.1++mD s (aJ s) to_ N (eY s (aJ s) at_).1)/\(here'.length:Int)<=10000*s.length/\(out'.length:Int)<=2*s.length:=by
    intro c nx hc hnx hle
    subst hc hnx
    obtain⟨here',out',r1,r2,r3,r4⟩:=IZ s hs hto N (eY s (aJ s) at_).1 (az here (eY s (aJ s) at_).2.1) out (by omega) (by omega) (by omega) hle (by unfold az;rw[List.length_append];omega) (by omega)
    refine⟨here',out',r1, ?_,r3,r4⟩
    rw[r2]
    unfold az
    simp only[List.append_assoc]
   have push: ∀(l:List Pce) (nx:Int),gW l=here++(eY s (aJ s) at_).2.1->l.length<=2->nx=(eY s (aJ s) at_).1->nx<=s.length->
     ∃here' out',nD N s (aJ s) to_ [] nx (out++l)=some (.inl ((here',()),(out',())))/\gW out'++here'=gW out++here++((eY s (aJ s) at_).2.1++mD s (aJ s) to_ N (eY s (aJ s) at_).1)/\(here'.length:Int)<=10000*s.length/\(out'.length:Int)<=2*s.length:=by
    intro l nx hl hl2 hnx hle
    subst hnx
    obtain⟨here',out',r1,r2,r3,r4⟩:=IZ s hs hto N (eY s (aJ s) at_).1 [] (out++l) (by omega) (by omega) (by omega) hle (by simp;omega) (by rw[List.length_append];omega)
    refine⟨here',out',r1, ?_,r3,r4⟩
    rw[r2,nN,hl]
    simp only[List.append_assoc,List.nil_append]
   have hroom: ∀c:List UInt8,c.length<=10000->fG here c=true:=fun c hc=>Wn (by omega)
   have hfit1: ∀x,aZ (az out [x]) 24=true:=fun x=>mg (by unfold az;simp only[List.length_append,List.length_singleton];omega)
   have hfit2: ∀x y,aZ (az (az out [x]) [y]) 24=true:=fun x y=>mg (by unfold az;simp only[List.length_append,List.length_singleton];omega)
   have hsub: ∀a b:Int,(sub s a b).length<=10000:=fun a b=>Nat.le_trans (qg s a b) hs
   have ha1:aG .i64 at_ 1=at_+1:=bI (by omega) (by omega)
   have ha2:aG .i64 at_ 2=at_+2:=bI (by omega) (by omega)
   have hp1:bu (ah s) at_ (at_+1)=true:=dC h0 (by omega) (by rw[aB];omega)
   rw[aK (dM e),if_pos e,ahq (aJ s) (by omega),ae]
   cases hf:pW (aJ s) at_ with
   |none=>
    have hst:eY s (aJ s) at_=(at_+1,sub s at_ (at_+1),false):=by unfold eY;rw[hf]
    simp only[ha1]
    rw[show aH 0 0=true from rfl,cond_true,hp1,cond_true,hroom _ (hsub _ _),cond_true]
    exact keep _ _ (by rw[hst]) (by rw[hst]) (by omega)
   |some p=>
    obtain⟨pf,hpe⟩:=qA hf
    have t0:=pf.t0
    have t1:=pf.t1
    simp only[ha1,ha2]
    rw[show aH 1 0=false from rfl,cond_false]
    by_cases hlone:lone p=true
    ·have hst:eY s (aJ s) at_=(at_+1,sub s at_ (at_+1),false):=by unfold eY;rw[hf];simp only;rw[if_pos hlone]
     unfold lone at hlone
     simp only[Bool.and_eq_true,decide_eq_true_eq]at hlone
     rw[aK (dJ hlone.1),aK (dJ (by omega)),hp1,cond_true,hroom _ (hsub _ _),cond_true]
     exact keep _ _ (by rw[hst]) (by rw[hst]) (by omega)
    ·have hl': ¬(p.1=12/\p.2.2.1=at_+1):=fun h=>hlone (by unfold lone;rw[hpe];simp[h])
     have hp2:bu (ah s) at_ p.2.2.1=true:=dC h0 (by omega) (by rw[aB];omega)
     by_cases h13:p.1=13
     ·have hst:eY s (aJ s) at_=(p.2.2.1,Kr s p,false):=by unfold eY;rw[hf];simp only;rw[if_neg hlone,if_pos h13]
      rw[aU (bU (by omega)),aK (dJ h13)]
      by_cases hto2:p.2.2.1=at_+2
      ·have hin:dX s (at_+1)=true:=dw (by omega) (by omega)
       have hp3:bu (ah s) (at_+1) (at_+2)=true:=dC (by omega) (by omega) (by rw[aB];omega)
       have hp4:bu (ah s) at_ (at_+2)=true:=dC (by omega) (by omega) (by rw[aB];omega)
       have hesc:Kr s p=(if aI s (at_+1)=36\/aI s (at_+1)=96\/aI s (at_+1)=34\/aI s (at_+1)=92 then sub s (at_+1) (at_+2)
         else if aI s (at_+1)=10 then []else sub s at_ (at_+2)):=by
        unfold Kr jS
        rw[hpe,if_pos (by omega),hto2]
       rw[aK (dJ hto2),hin,cond_true]
       by_cases b1:aI s (at_+1)=36
       ·rw[aK (dJ b1),hp3,cond_true,hroom _ (hsub _ _),cond_true]
        exact keep _ _ (by rw[hst,hesc,if_pos (.inl b1)]) (by rw[hst]) (by omega)
       ·rw[aU (bU b1)]
        by_cases b2:aI s (at_+1)=96
        ·rw[aK (dJ b2),hp3,cond_true,hroom _ (hsub _ _),cond_true]
         exact keep _ _ (by rw[hst,hesc,if_pos (.inr (.inl b2))]) (by rw[hst]) (by omega)
        ·rw[aU (bU b2)]
         by_cases b3:aI s (at_+1)=34
         ·rw[aK (dJ b3),hp3,cond_true,hroom _ (hsub _ _),cond_true]
          exact keep _ _ (by rw[hst,hesc,if_pos (.inr (.inr (.inl b3)))]) (by rw[hst]) (by omega)
         ·rw[aU (bU b3)]
          by_cases b4:aI s (at_+1)=92
          ·rw[aK (dJ b4),hp3,cond_true,hroom _ (hsub _ _),cond_true]
           exact keep _ _ (by rw[hst,hesc,if_pos (.inr (.inr (.inr b4)))]) (by rw[hst]) (by omega)
          ·rw[aU (bU b4)]
           have hno: ¬(aI s (at_+1)=36\/aI s (at_+1)=96\/aI s (at_+1)=34\/aI s (at_+1)=92):=by omega
           by_cases b5:aI s (at_+1)=10
           ·rw[dJ b5]
            simp only[Bool.not_true,cond_false]
            have:=keep [] p.2.2.1 (by rw[hst,hesc,if_neg hno,if_pos b5]) (by rw[hst]) (by omega)
            rwa [show az here ([]:List UInt8)=here by simp[az]]at this
           ·rw[bU b5]
            simp only[Bool.not_false,cond_true]
            rw[hp4,cond_true,hroom _ (hsub _ _),cond_true]
            exact keep _ _ (by rw[hst,hesc,if_neg hno,if_neg b5]) (by rw[hst]) (by omega)
      ·rw[aU (bU hto2)]
       have:=keep [] p.2.2.1 (by rw[hst];unfold Kr;rw[if_neg (by omega)]) (by rw[hst]) (by omega)
       rwa [show az here ([]:List UInt8)=here by simp[az]]at this
     ·have hst:eY s (aJ s) at_=(p.2.2.1,jS s p,true):=by unfold eY;rw[hf];simp only;rw[if_neg hlone,if_neg h13]
      have hby:jS s p=sub s at_ p.2.2.1:=by unfold jS;rw[hpe]
      have fin: ∃here' out',(bif !cO here []then
        bif aZ (az out [(false,(true,(here,())))]) 24 then
         bif bu (ah s) at_ p.2.2.1 then
          bif aZ (az (az out [(false,(true,(here,())))]) [(true,(true,(sub s at_ p.2.2.1,())))]) 24 then
           nD N s (aJ s) to_ [] p.2.2.1 (az (az out [(false,(true,(here,())))]) [(true,(true,(sub s at_ p.2.2.1,())))])
          else none
         else none
        else none
       else bif bu (ah s) at_ p.2.2.1 then
        bif aZ (az out [(true,(true,(sub s at_ p.2.2.1,())))]) 24 then
         nD N s (aJ s) to_ [] p.2.2.1 (az out [(true,(true,(sub s at_ p.2.2.1,())))])
        else none
       else none)=some (.inl ((here',()),(out',())))/\gW out'++here'=gW out++here++((eY s (aJ s) at_).2.1++mD s (aJ s) to_ N (eY s (aJ s) at_).1)/\(here'.length:Int)<=10000*s.length/\(out'.length:Int)<=2*s.length:=by
       by_cases he:here=[]
       ·have:=push [(true,(true,(sub s at_ p.2.2.1,())))] p.2.2.1 (by rw[qG,he,hst,hby];rfl) (by simp) (by rw[hst]) (by omega)
        rw[show(!cO here [])=false by rw[he];rfl,cond_false,hp2,cond_true,hfit1,cond_true]
        exact this
       ·have:=push ([(false,(true,(here,())))]++[(true,(true,(sub s at_ p.2.2.1,())))]) p.2.2.1 (by rw[nN,qG,qG,hst,hby]) (by simp) (by rw[hst]) (by omega)
        rw[show(!cO here [])=true by unfold cO;simpa using he,cond_true,hfit1,cond_true,hp2,cond_true,hfit2,cond_true]
        rw[<-List.append_assoc]at this
        exact this
      by_cases h12:p.1=12
      ·rw[aK (dJ h12),aU (bU (fun h=>hl' ⟨h12,h⟩)),aU (bU h13)];exact fin
      ·rw[aU (bU h12),aU (bU h13)];exact fin
  ·rw[aU (gp e),if_neg e]
   exact⟨here,out,rfl,by simp,by omega,by omega⟩
theorem afv (s:List UInt8) (hs:s.length<=10000) {from_ to_:Int} (h0:0<=from_) (h1:from_<=s.length) (hto:to_<=s.length):
  ∃out,zn s (aJ s) from_ to_=some (out,())/\gW out=mD s (aJ s) to_ s.length from_/\out.length<=2*s.length+1:=by
 obtain⟨here,out,r1,r2,r3,r4⟩:=IZ s hs hto aO from_ [] [] (by unfold aO;omega) (by have:=dh (n:=s.length) (by omega);omega) h0 h1 (by simp;omega) (by simp;omega)
 have hm:mD s (aJ s) to_ aO from_=mD s (aJ s) to_ s.length from_:=Ee s to_ _ _ _ (by have:=dh (n:=s.length) (by omega);omega) (by omega)
 rw[hm,show gW []=([]:List UInt8) from rfl,List.nil_append,List.nil_append]at r2
 rw[zn,r1,ae]
 simp only[bF]
 have hfit: ∀x,aZ (az out [x]) 24=true:=fun x=>mg (by unfold az;simp only[List.length_append,List.length_singleton];omega)
 by_cases he:here=[]
 ·rw[show(!cO here [])=false by rw[he];rfl,cond_false]
  subst he
  rw[List.append_nil]at r2
  by_cases ho:out.length=0
  ·rw[aK (dJ (by rw[aB];omega)),hfit,cond_true]
   exact⟨_,rfl,by unfold az;rw[nN,qG,r2,List.append_nil],by unfold az;simp only[List.length_append,List.length_singleton];omega⟩
  ·rw[aU (bU (by rw[aB];omega))]
   exact⟨_,rfl,r2,by omega⟩
 ·rw[show(!cO here [])=true by unfold cO;simpa using he,cond_true,hfit,cond_true]
  exact⟨_,rfl,by unfold az;rw[nN,qG,r2],by unfold az;simp only[List.length_append,List.length_singleton];omega⟩
theorem lV (l:List Pce) (x:Pce):gW (l++[x])=gW l++x.2.2.1:=by simp[gW]
theorem age (out:List Pce) (t:List UInt8) (fresh:Bool) (ho:out.length<1000000000) (ht:(gW out).length+t.length<=100000000000000):
  ∃out',zg out t fresh=some (out',())/\gW out'=gW out++t/\out'.length<=out.length+1:=by
 have one: ∃out',(bif aZ (az [] out) 24 then bif aZ (az (az [] out) [(false,(false,(t,())))]) 24 then some ((az (az [] out) [(false,(false,(t,())))]),())else none else none)=some (out',())/\gW out'=gW out++t/\out'.length<=out.length+1:=by
  rw[aK (mg (by unfold az;simp only[List.nil_append];omega)),aK (mg (by unfold az;simp only[List.nil_append,List.length_append,List.length_singleton];omega))]
  exact⟨_,rfl,by unfold az;rw[List.nil_append,nN,qG],by unfold az;simp⟩
 rw[zg]
 rcases List.eq_nil_or_concat out with rfl|⟨l,x,rfl⟩
 ·rw[show fD 0 (ah ([]:List Pce))=false from rfl,cond_false];exact one
 ·rw[List.concat_eq_append]at*
  cases fresh with
  |true=>
   rw[aK (dM (by rw[aB];simp only[List.length_append,List.length_singleton];omega)),show(!true)=false from rfl,cond_false];exact one
  |false=>
   rw[lV,List.length_append]at ht
   rw[List.length_append,List.length_singleton]at ho
   have hL:ag .i64 (ah (l++[x])) 1=(l.length:Int):=by rw[aB,fU (by simp only[List.length_append,List.length_singleton];omega) (by simp only[List.length_append,List.length_singleton];omega)];simp
   have hg:af (l++[x]) (false,(false,([],()))) (l.length:Int)=x:=tK rfl
   have hin:dX (l++[x]) (l.length:Int)=true:=dw (by omega) (by simp only[List.length_append,List.length_singleton];omega)
   have hpt:bu (ah (l++[x])) 0 (l.length:Int)=true:=dC (by omega) (by omega) (by rw[aB];simp only[List.length_append,List.length_singleton];omega)
   have hsb:sub (l++[x]) 0 (l.length:Int)=l:=by simp[sub]
   have hrm:fG x.2.2.1 t=true:=Wn (by omega)
   have hf1:aZ (az [] l) 24=true:=mg (by unfold az;simp only[List.nil_append];omega)
   have hf2: ∀y,aZ (az (az [] l) [y]) 24=true:=fun y=>mg (by unfold az;simp only[List.nil_append,List.length_append,List.length_singleton];omega)
   rw[aK (dM (by rw[aB];simp only[List.length_append,List.length_singleton];omega))]
   simp only[Bool.not_false,cond_true,hL,hg,hin,hpt,hsb,hrm,hf1,hf2,eG,jF,eX,fB,Bool.and_true,ae]
   exact⟨_,rfl,by unfold az;rw[List.nil_append,nN,qG,lV,List.append_assoc],by unfold az;simp⟩
theorem Fj (s:List UInt8) (hs:s.length<=10000): ∀(N:Nat) (at_:Int) (fresh:Bool) (out:List Pce),(s.length:Int)-at_<N->0<=at_->at_<=s.length->((gW out).length:Int)<=100010000*at_->(out.length:Int)<=30000*at_->
  ∃out',je N s (aJ s) fresh at_ out=some (.inl ((),(out',())))/\gW out'=gW out++jd s (aJ s) N at_/\(out'.length:Int)<=30000*s.length
 |0,at_,fresh,out,h,_,_,_,_=>by omega
 |N+1,at_,fresh,out,h,h0,h1,ht,ho=>by
  rw[je,FZ,jd]
  by_cases e:at_<s.length
  ·have hpl:=uA s
   have hup:= @Ia s at_
   have hle:=UL (s:=s) e
   have hsl:(stepT s (aJ s) at_).2.length<=100010000:=by
    have h1:=Dj s (aJ s) at_
    have h2:s.length*s.length<=10000*10000:=Nat.mul_le_mul hs hs
    omega
   have go: ∀(l:List Pce) (f:Bool),gW l=gW out++(stepT s (aJ s) at_).2->l.length<=out.length+20002->
     ∃out',je N s (aJ s) f (stepT s (aJ s) at_).1 l=some (.inl ((),(out',())))/\gW out'=gW out++((stepT s (aJ s) at_).2++jd s (aJ s) N (stepT s (aJ s) at_).1)/\(out'.length:Int)<=30000*s.length:=by
    intro l f hl hn
    obtain⟨out',r1,r2,r3⟩:=Fj s hs N (stepT s (aJ s) at_).1 f l (by omega) (by omega) hle (by rw[hl,List.length_append];omega) (by omega)
    exact⟨out',r1,by rw[r2,hl,List.append_assoc],r3⟩
   have pln: ∀(t:List UInt8) (nx:Int),t=(stepT s (aJ s) at_).2->nx=(stepT s (aJ s) at_).1->
     ∃out',(ai (zg out t fresh) fun y1=>je N s (aJ s) false nx y1.1)=some (.inl ((),(out',())))/\gW out'=gW out++((stepT s (aJ s) at_).2++jd s (aJ s) N (stepT s (aJ s) at_).1)/\(out'.length:Int)<=30000*s.length:=by
    intro t nx e1 e2
    subst e1 e2
    obtain⟨o,p1,p2,p3⟩:=age out (stepT s (aJ s) at_).2 fresh (by omega) (by omega)
    rw[p1,ae]
    exact go o false p2 (by omega)
   have psh: ∀(x:Pce) (nx:Int),x.2.2.1=(stepT s (aJ s) at_).2->nx=(stepT s (aJ s) at_).1->
     ∃out',(bif aZ (az out [x]) 24 then je N s (aJ s) true nx (az out [x])else none)=some (.inl ((),(out',())))/\gW out'=gW out++((stepT s (aJ s) at_).2++jd s (aJ s) N (stepT s (aJ s) at_).1)/\(out'.length:Int)<=30000*s.length:=by
    intro x nx e1 e2
    subst e2
    rw[aK (mg (by unfold az;simp only[List.length_append,List.length_singleton];omega))]
    exact go _ true (by unfold az;rw[lV,e1]) (by unfold az;simp)
   have skip: ∀(nx:Int),(stepT s (aJ s) at_).2=[]->nx=(stepT s (aJ s) at_).1->
     ∃out',je N s (aJ s) fresh nx out=some (.inl ((),(out',())))/\gW out'=gW out++((stepT s (aJ s) at_).2++jd s (aJ s) N (stepT s (aJ s) at_).1)/\(out'.length:Int)<=30000*s.length:=by
    intro nx e1 e2
    subst e2
    exact go out fresh (by rw[e1,List.append_nil]) (by omega)
   have ha1:aG .i64 at_ 1=at_+1:=bI (by omega) (by omega)
   have hp1:bu (ah s) at_ (at_+1)=true:=dC h0 (by omega) (by rw[aB];omega)
   rw[aK (dM (b:=ah s) e),if_pos e,ahq (aJ s) (by omega),ae]
   cases hf:pW (aJ s) at_ with
   |none=>
    have hst:stepT s (aJ s) at_=(at_+1,sub s at_ (at_+1)):=by unfold stepT;rw[hf]
    simp only[ha1]
    rw[show aH 0 0=true from rfl,cond_true,show aH 0 1=false from rfl,cond_false,hp1,cond_true]
    exact pln _ _ (by rw[hst]) (by rw[hst])
   |some p=>
    obtain⟨pf,hpe⟩:=qA hf
    have t0:=pf.t0
    have t1:=pf.t1
    have hby:jS s p=sub s at_ p.2.2.1:=by unfold jS;rw[hpe]
    have hp2:bu (ah s) at_ p.2.2.1=true:=dC h0 (by omega) (by rw[aB];omega)
    have ha1':aG .i64 p.2.1 1=at_+1:=by rw[hpe];exact ha1
    have ha2':aG .i64 p.2.1 2=at_+2:=by rw[hpe];exact bI (by omega) (by omega)
    have hs1:ag .i64 p.2.2.1 1=p.2.2.1-1:=fU (by omega) (by omega)
    simp only[ha1,ha1',ha2',hs1]
    rw[show aH 1 0=false from rfl,cond_false,show aH 1 1=true from rfl]
    simp only[cond_true]
    by_cases hpl':lone p=true\/p.1=14
    ·have hst:stepT s (aJ s) at_=(p.2.2.1,jS s p):=by unfold stepT;rw[hf];simp only;rw[if_pos hpl']
     have:=pln (sub s at_ p.2.2.1) p.2.2.1 (by rw[hst,hby]) (by rw[hst])
     by_cases h14:p.1=14
     ·rw[aK (dJ h14),hp2,cond_true];exact this
     ·have hlone:lone p=true:=hpl'.resolve_right h14
      unfold lone at hlone
      simp only[Bool.and_eq_true,decide_eq_true_eq]at hlone
      rw[aU (bU h14),aK (dJ hlone.1),aK (dJ (by omega)),hp2,cond_true];exact this
    ·have hl': ¬(p.1=12/\p.2.2.1=at_+1):=fun h=>hpl' (.inl (by unfold lone;rw[hpe];simp[h]))
     have h14:p.1≠14:=fun h=>hpl' (.inr h)
     rw[aU (bU h14)]
     by_cases h13:p.1=13
     ·have hst:stepT s (aJ s) at_=(p.2.2.1,J8 s p):=by unfold stepT;rw[hf];simp only;rw[if_neg hpl',if_pos h13]
      rw[aU (bU (by omega)),aK (dJ h13)]
      by_cases hto2:p.2.2.1=at_+2
      ·rw[aK (dJ hto2),aK (dw (by omega) (by omega))]
       by_cases b5:aI s (at_+1)=10
       ·rw[dJ b5]
        simp only[Bool.not_true,cond_false]
        exact skip _ (by rw[hst];unfold J8;rw[hpe,if_neg (by omega)]) (by rw[hst])
       ·rw[bU b5]
        simp only[Bool.not_false,cond_true]
        rw[aK (dC (by omega) (by omega) (by rw[aB];omega))]
        exact psh _ _ (by rw[hst];unfold J8;rw[hpe,if_pos ⟨by omega,b5⟩]) (by rw[hst])
      ·rw[aU (bU hto2)]
       exact skip _ (by rw[hst];unfold J8;rw[hpe,if_neg (by omega)]) (by rw[hst])
     ·have rest: ∃out',(bif aH p.1 4 then
        bif p.2.2.2.2.1 then
         bif bu (ah s) (at_+1) p.2.2.1 then
          bif aZ (az out [(false,(true,(sub s (at_+1) p.2.2.1,())))]) 24 then
           je N s (aJ s) true p.2.2.1 (az out [(false,(true,(sub s (at_+1) p.2.2.1,())))])
          else none
         else none
        else bif bu (ah s) (at_+1) (p.2.2.1-1)then
         bif aZ (az out [(false,(true,(sub s (at_+1) (p.2.2.1-1),())))]) 24 then
          je N s (aJ s) true p.2.2.1 (az out [(false,(true,(sub s (at_+1) (p.2.2.1-1),())))])
         else none
        else none
       else bif aH p.1 5 then
        bif p.2.2.2.2.1 then
         ai (zn s (aJ s) (at_+1) p.2.2.1) fun y1=>
          bif aZ (az out y1.1) 24 then je N s (aJ s) true p.2.2.1 (az out y1.1)else none
        else
         ai (zn s (aJ s) (at_+1) (p.2.2.1-1)) fun y1=>
          bif aZ (az out y1.1) 24 then je N s (aJ s) true p.2.2.1 (az out y1.1)else none
       else bif bu (ah s) p.2.1 p.2.2.1 then
        bif aZ (az out [(true,(false,(sub s p.2.1 p.2.2.1,())))]) 24 then
         je N s (aJ s) true p.2.2.1 (az out [(true,(false,(sub s p.2.1 p.2.2.1,())))])
        else none
       else none)=some (.inl ((),(out',())))/\gW out'=gW out++((stepT s (aJ s) at_).2++jd s (aJ s) N (stepT s (aJ s) at_).1)/\(out'.length:Int)<=30000*s.length:=by
       by_cases h4:p.1=4
       ·have hst:stepT s (aJ s) at_=(p.2.2.1,sub s (p.2.1+1) (qC p)):=by unfold stepT;rw[hf];simp only;rw[if_neg hpl',if_neg h13,if_pos h4]
        rw[aK (dJ h4)]
        cases hop:p.2.2.2.2.1 with
        |true=>
         rw[cond_true,aK (dC (by omega) (by omega) (by rw[aB];omega))]
         exact psh _ _ (by rw[hst,hpe];unfold qC;rw[hop,if_pos rfl]) (by rw[hst])
        |false=>
         have:=pf.sh hop (by omega)
         rw[cond_false,aK (dC (by omega) (by omega) (by rw[aB];omega))]
         exact psh _ _ (by rw[hst,hpe];unfold qC;rw[hop,if_neg (by simp)]) (by rw[hst])
       ·rw[aU (bU h4)]
        by_cases h5:p.1=5
        ·have hst:stepT s (aJ s) at_=(p.2.2.1,mD s (aJ s) (qC p) s.length (p.2.1+1)):=by unfold stepT;rw[hf];simp only;rw[if_neg hpl',if_neg h13,if_neg h4,if_pos h5]
         rw[aK (dJ h5)]
         have dbl: ∀to_:Int,to_=qC p->to_<=s.length-> ∃out',(ai (zn s (aJ s) (at_+1) to_) fun y1=>
           bif aZ (az out y1.1) 24 then je N s (aJ s) true p.2.2.1 (az out y1.1)else none)=some (.inl ((),(out',())))/\gW out'=gW out++((stepT s (aJ s) at_).2++jd s (aJ s) N (stepT s (aJ s) at_).1)/\(out'.length:Int)<=30000*s.length:=by
          intro to_ hte hto
          obtain⟨o,d1,d2,d3⟩:=afv s hs (from_:=at_+1) (to_:=to_) (by omega) (by omega) hto
          rw[d1,ae]
          simp only
          rw[aK (mg (by unfold az;rw[List.length_append];omega))]
          have:=go (az out o) true (by unfold az;rw[nN,d2,hst,hpe,hte]) (by unfold az;rw[List.length_append];omega)
          rw[show p.2.2.1=(stepT s (aJ s) at_).1 by rw[hst]]
          exact this
         cases hop:p.2.2.2.2.1 with
         |true=>rw[cond_true];exact dbl _ (by unfold qC;rw[hop,if_pos rfl]) (by omega)
         |false=>rw[cond_false];exact dbl _ (by unfold qC;rw[hop,if_neg (by simp)]) (by omega)
        ·have hst:stepT s (aJ s) at_=(p.2.2.1,jS s p):=by unfold stepT;rw[hf];simp only;rw[if_neg hpl',if_neg h13,if_neg h4,if_neg h5]
         rw[aU (bU h5),aK (dC (by omega) (by omega) (by rw[aB];omega))]
         exact psh _ _ (by rw[hst];rfl) (by rw[hst])
      by_cases h12:p.1=12
      ·rw[aK (dJ h12),aU (bU (fun h=>hl' ⟨h12,h⟩)),aU (bU h13)];exact rest
      ·rw[aU (bU h12),aU (bU h13)];exact rest
  ·rw[aU (gp (by rw[aB];omega)),if_neg e]
   exact⟨out,rfl,by simp,by omega⟩
theorem IR (l:List Pce) (hl:l.length<1000000000) (ht:(gW l).length<=100000000000000): ∀(N k:Nat),l.length-k<N->k<=l.length->
  uy N l (gW (l.take k)) (k:Int)=some (.inl ((gW l,()),()))
 |0,k,h,_=>by omega
 |N+1,k,h,hk=>by
  rw[uy,FP]
  by_cases e:k<l.length
  ·have hg:af l (false,(false,([],()))) (k:Int)=l[k]:=by
    unfold af
    rw[Int.toNat_natCast,List.getD_eq_getElem?_getD,List.getElem?_eq_getElem e];rfl
   have hts:gW (l.take (k+1))=gW (l.take k)++l[k].2.2.1:=by rw[List.take_add_one,List.getElem?_eq_getElem e,Option.toList_some,lV]
   have hlen:(gW (l.take (k+1))).length<=(gW l).length:=by
    conv=>rhs;rw[<-List.take_append_drop (k+1) l,nN]
    rw[List.length_append];omega
   rw[aK (dM (by rw[aB];omega)),aK (dw (by omega) (by omega)),hg,aK (Wn (by rw[hts,List.length_append]at hlen;omega)),bI (by omega) (by omega),show(k:Int)+1=((k+1:Nat):Int) by omega,
    show az (gW (l.take k)) l[k].2.2.1=gW (l.take (k+1)) from hts.symm]
   exact IR l hl ht N (k+1) (by omega) (by omega)
  ·rw[aU (gp (by rw[aB];omega)),List.take_of_length_le (by omega)]
theorem abG (s:List UInt8) (hs:s.length<=10000):(BN s).length<=1000100000000:=by
 have h:=LJ s (aJ s) s.length 0
 have h2:s.length*s.length<=10000*10000:=Nat.mul_le_mul hs hs
 have h3:s.length*(s.length*s.length+s.length)<=10000*(10000*10000+10000):=Nat.mul_le_mul hs (by omega)
 unfold BN;omega
theorem amg (s:List UInt8) (hs:s.length<=10000):Jq s=some (BN s,()):=by
 obtain⟨out,h1,h2,h3⟩:=Fj s hs aO 0 true [] (by have:=dh (n:=s.length) (by omega);omega) (by omega) (by omega) (by simp[gW]) (by simp)
 have hm:jd s (aJ s) aO 0=BN s:=Az s _ _ _ (by have:=dh (n:=s.length) (by omega);omega) (by omega)
 have hp:ZP s=some (out,()):=by
  rw[ZP,aud s (by omega),ae]
  simp only
  rw[h1,ae];rfl
 have ht:gW out=BN s:=by rw[h2,hm];rfl
 have hbl:=abG s hs
 rw[Jq,hp,ae]
 simp only
 have h4:=IR out (by omega) (by rw[ht];omega) aO 0 (dh (by omega)) (by omega)
 rw[show uy aO out [] 0=_ from h4,ae,<-ht]
 rfl
end Go.Proofs.YtihafdllichkeaaGreatDoor
namespace Go.Proofs.YtihafdllichkeaaGreatDoor
open Go.RowKit
set_option linter.unusedVariables false
set_option linter.unusedSimpArgs false
set_option maxRecDepth 100000
set_option maxHeartbeats 4000000
noncomputable def b90:Code:=(Tryz.f90.body).getD .skip
noncomputable def aei:Code:=cA (cA (cA (cB (cA (cB (cA (cB (cB (cB (cB (cB (b90))))))))))))
noncomputable def ahR:Code:=cA (cA (cA (cB (cB (cB (cB (cB (cB (cB (cB (b90)))))))))))
def ah0:dB:=⟨[0,1,6,7,11,12,100014],[],[1,6,7,11,12],[],[6,7],[]⟩
def aeX:dB:=⟨[0,1,5,6,7,11,14,100023],[],[0,1,5,6,7,11,14],[],[6,7],[]⟩
def Q4:SP:=⟨us [.v .str,.v (.int .i64),.u,.u,.u,.u,.ptr 1000006 0,.ptr 1000007 0,.u,.u,.u,.ptr 1000011 0,.v (.int .i64)] 173,[.box 1000011 91 [.v (.int .i64),.v (.list (.pair .str (.pair .bool .unit))),.v .bool],.box 1000007 91 [.v (.int .i64),.nils,.v .bool],.box 1000006 46 [.v (.int .i64),.v (.int .i64),.v (.int .i64),.v .bool]]⟩
def Oh:SP:=⟨us [.u,.v (.int .i64),.u,.u,.u,.u,.ptr 1000006 0,.ptr 1000007 0,.u,.u,.u,.ptr 1000011 0,.v (.int .i64)] 173,[.box 1000011 91 [.v (.int .i64),.v (.list (.pair .str (.pair .bool .unit))),.v .bool],.box 1000007 91 [.v (.int .i64),.nils,.v .bool],.box 1000006 46 [.v (.int .i64),.v (.int .i64),.v (.int .i64),.v .bool]]⟩
def QQ:SP:=⟨us [] 186,[]⟩
def FU {γ:Type} (rec:(List UInt8)->Int->Int->Int->(List ((List UInt8)×(Bool×Unit)))->Bool->Int->Bool->Int->Int->Int->Bool->Option γ) (kE:Int->Int->Int->(List ((List UInt8)×(Bool×Unit)))->Bool->Int->Bool->Int->Int->Int->Bool->Option γ) (kR:Option γ) (v0:List UInt8) (v1:Int) (v2:Int) (v3:Int) (v4:List ((List UInt8)×(Bool×Unit))) (v5:Bool) (v6:Int) (v7:Bool) (v8:Int) (v9:Int) (v10:Int) (v11:Bool):Option γ:=
 bif(fD v2 (ah v0))then
  bif(dX v0 v2)then
   bif(!(aH (aI v0 v2) 10))then
    rec v0 v1 (aG .i64 v2 1) v3 v4 v5 v6 v7 v8 v9 v10 v11
   else
   kE v1 v2 v3 v4 v5 v6 v7 v8 v9 v10 v11
  else
  none
 else
 kE v1 v2 v3 v4 v5 v6 v7 v8 v9 v10 v11
def yF:Nat->(List UInt8)->Int->Int->Int->(List ((List UInt8)×(Bool×Unit)))->Bool->Int->Bool->Int->Int->Int->Bool->Option (Oh.den⊕QQ.den)
 |0,_,_,_,_,_,_,_,_,_,_,_,_=>none
 |n+1,v0,v1,v2,v3,v4,v5,v6,v7,v8,v9,v10,v11=>FU (yF n) (fun e0 e1 e2 e3 e4 e5 e6 e7 e8 e9 e10=>some (.inl ((e0,e1,()),((e2,e3,e4,()),(e5,e6,()),(e7,e8,e9,e10,()),())))) (some (.inr ((),()))) v0 v1 v2 v3 v4 v5 v6 v7 v8 v9 v10 v11
noncomputable def aag:bG:=dO ah0 Q4 Oh QQ (.exit 0) (fun v=>yF aO v.1.1 v.1.2.1 v.1.2.2.1 v.2.1.1 v.2.1.2.1 v.2.1.2.2.1 v.2.2.1.1 v.2.2.1.2.1 v.2.2.2.1.1 v.2.2.2.1.2.1 v.2.2.2.1.2.2.1 v.2.2.2.1.2.2.2.1) 6
def PP:SP:=⟨us [.v .str,.v (.int .i64),.u,.u,.u,.ptr 1000005 0,.ptr 1000006 0,.ptr 1000007 0,.u,.u,.u,.ptr 1000011 0,.u,.u,.v (.int .i64)] 171,[.box 1000011 91 [.v (.int .i64),.v (.list (.pair .str (.pair .bool .unit))),.v .bool],.box 1000007 91 [.v (.int .i64),.nils,.v .bool],.box 1000006 46 [.v (.int .i64),.v (.int .i64),.v (.int .i64),.v .bool],.box 1000005 91 [.v (.int .i64),.v (.list (.pair .str (.pair .bool .unit))),.v .bool]]⟩
def PK:SP:=⟨us [.v .str,.v (.int .i64),.u,.u,.u,.ptr 1000005 0,.ptr 1000006 0,.ptr 1000007 0,.u,.u,.u,.ptr 1000011 0,.u,.u,.v (.int .i64)] 171,[.box 1000011 91 [.v (.int .i64),.v (.list (.pair .str (.pair .bool .unit))),.v .bool],.box 1000007 91 [.v (.int .i64),.nils,.v .bool],.box 1000006 46 [.v (.int .i64),.v (.int .i64),.v (.int .i64),.v .bool],.box 1000005 91 [.v (.int .i64),.v (.list (.pair .str (.pair .bool .unit))),.v .bool]]⟩
def Nk:SP:=⟨us [] 186,[]⟩
def Gj {γ:Type} (rec:(List UInt8)->Int->Int->Int->(List ((List UInt8)×(Bool×Unit)))->Bool->Int->Bool->Int->Int->Int->Bool->Int->(List ((List UInt8)×(Bool×Unit)))->Bool->Option γ) (kE:(List UInt8)->Int->Int->Int->(List ((List UInt8)×(Bool×Unit)))->Bool->Int->Bool->Int->Int->Int->Bool->Int->(List ((List UInt8)×(Bool×Unit)))->Bool->Option γ) (kR:Option γ) (v0:List UInt8) (v1:Int) (v2:Int) (v3:Int) (v4:List ((List UInt8)×(Bool×Unit))) (v5:Bool) (v6:Int) (v7:Bool) (v8:Int) (v9:Int) (v10:Int) (v11:Bool) (v12:Int) (v13:List ((List UInt8)×(Bool×Unit))) (v14:Bool):Option γ:=
 bif(fD v2 (ah v0))then
  bif(dX v0 v2)then
   ai (Rq (aI v0 v2)) fun y0=>
    bif(aH y0.1 6)then
     rec v0 v1 (aG .i64 v2 1) v3 v4 v5 v6 v7 v8 v9 v10 v11 v12 v13 v14
    else
    kE v0 v1 v2 v3 v4 v5 v6 v7 v8 v9 v10 v11 v12 v13 v14
  else
  none
 else
 kE v0 v1 v2 v3 v4 v5 v6 v7 v8 v9 v10 v11 v12 v13 v14
def yS:Nat->(List UInt8)->Int->Int->Int->(List ((List UInt8)×(Bool×Unit)))->Bool->Int->Bool->Int->Int->Int->Bool->Int->(List ((List UInt8)×(Bool×Unit)))->Bool->Option (PK.den⊕Nk.den)
 |0,_,_,_,_,_,_,_,_,_,_,_,_,_,_,_=>none
 |n+1,v0,v1,v2,v3,v4,v5,v6,v7,v8,v9,v10,v11,v12,v13,v14=>Gj (yS n) (fun e0 e1 e2 e3 e4 e5 e6 e7 e8 e9 e10 e11 e12 e13 e14=>some (.inl ((e0,e1,e2,()),((e3,e4,e5,()),(e6,e7,()),(e8,e9,e10,e11,()),(e12,e13,e14,()),())))) (some (.inr ((),()))) v0 v1 v2 v3 v4 v5 v6 v7 v8 v9 v10 v11 v12 v13 v14
noncomputable def Z8:bG:=dO aeX PP PK Nk (.exit 2) (fun v=>yS aO v.1.1 v.1.2.1 v.1.2.2.1 v.2.1.1 v.2.1.2.1 v.2.1.2.2.1 v.2.2.1.1 v.2.2.1.2.1 v.2.2.2.1.1 v.2.2.2.1.2.1 v.2.2.2.1.2.2.1 v.2.2.2.1.2.2.2.1 v.2.2.2.2.1.1 v.2.2.2.2.1.2.1 v.2.2.2.2.1.2.2.1) 12
def aet (x0:List UInt8) (x1:Int) (x2:Int×(List ((List UInt8)×(Bool×Unit)))×(Bool×Unit)):Option ((Int×Int×Int×Bool×Unit)×(Int×(List ((List UInt8)×(Bool×Unit)))×(Bool×Unit))×Unit):=
 bif x2.2.2.1 then
  bif(dX x2.2.1 0)then
   ai (Zt x0 x1 (af x2.2.1 ([],(false,())) 0)) fun y0=>
    bif(aH y0.2.1 0)then
     bif((aH x2.1 x2.1)&&((dR (.pair .str (.pair .bool .unit)) x2.2.1 x2.2.1)&&((fF x2.2.2.1 x2.2.2.1)&&true)))then
      some ((7,(x1,(y0.1,(true,())))),((x2.1,(x2.2.1,(x2.2.2.1,()))),()))
     else
     none
    else
    bif(bu (ah x2.2.1) 1 (ah x2.2.1))then
     bif(aH x2.1 x2.1)then
      bif(dR (.pair .str (.pair .bool .unit)) x2.2.1 x2.2.1)then
       bif(bu (ah x2.2.1) 1 (ah x2.2.1))then
        bif(dR (.pair .str (.pair .bool .unit)) (sub x2.2.1 1 (ah x2.2.1)) (sub x2.2.1 1 (ah x2.2.1)))then
         bif(dR (.pair .str (.pair .bool .unit)) x2.2.1 x2.2.1)then
          bif(aH (ah x2.2.1) (ah x2.2.1))then
           bif(fF (fD 1 (ah x2.2.1)) (fD 1 (ah x2.2.1)))then
            bif((aH x2.1 x2.1)&&((dR (.pair .str (.pair .bool .unit)) (sub x2.2.1 1 (ah x2.2.1)) (sub x2.2.1 1 (ah x2.2.1)))&&((fF (fD 1 (ah x2.2.1)) (fD 1 (ah x2.2.1)))&&true)))then
             some ((7,(x1,(y0.1,(false,())))),((x2.1,((sub x2.2.1 1 (ah x2.2.1)),((fD 1 (ah x2.2.1)),()))),()))
            else
            none
           else
           none
          else
          none
         else
         none
        else
        none
       else
       none
      else
      none
     else
     none
    else
    none
  else
  none
 else
 ai (ZA x0 x1) fun y0=>
  bif(fD x1 y0.1)then
   bif((aH x2.1 x2.1)&&((dR (.pair .str (.pair .bool .unit)) x2.2.1 x2.2.1)&&((fF x2.2.2.1 x2.2.2.1)&&true)))then
    some ((1,(x1,(y0.1,(false,())))),((x2.1,(x2.2.1,(x2.2.2.1,()))),()))
   else
   none
  else
  bif(dX x0 x1)then
   bif(aH (aI x0 x1) 10)then
    bif(dR (.pair .str (.pair .bool .unit)) x2.2.1 x2.2.1)then
     bif(dR (.pair .str (.pair .bool .unit)) x2.2.1 x2.2.1)then
      bif(aH (ah x2.2.1) (ah x2.2.1))then
       bif(fF (fD 0 (ah x2.2.1)) (fD 0 (ah x2.2.1)))then
        bif((aH 0 0)&&((dR (.pair .str (.pair .bool .unit)) x2.2.1 x2.2.1)&&((fF (fD 0 (ah x2.2.1)) (fD 0 (ah x2.2.1)))&&true)))then
         some ((2,(x1,((aG .i64 x1 1),(false,())))),((0,(x2.2.1,((fD 0 (ah x2.2.1)),()))),()))
        else
        none
       else
       none
      else
      none
     else
     none
    else
    none
   else
   bif(dX x0 x1)then
    bif(aH (aI x0 x1) 35)then
     ai (yF aO x0 x1 x1 0 x2.2.1 false 0 false 0 0 0 false) fun y1=>
      bF y1 (fun a2=>
       bif((aH a2.2.1.1 a2.2.1.1)&&((dR (.pair .str (.pair .bool .unit)) a2.2.1.2.1 a2.2.1.2.1)&&((fF a2.2.1.2.2.1 a2.2.1.2.2.1)&&true)))then
        some ((3,(a2.1.1,(a2.1.2.1,(false,())))),((a2.2.1.1,(a2.2.1.2.1,(a2.2.1.2.2.1,()))),()))
       else
       none) (fun b2=>
       none)
    else
    ai (Sz x0 x1) fun y1=>
     bif(fD 0 y1.1)then
      bif(aH y1.1 4)then
       ai (EU y1.1) fun y2=>
        bif((aH y1.1 y1.1)&&((dR (.pair .str (.pair .bool .unit)) x2.2.1 x2.2.1)&&((fF false false)&&true)))then
         some ((4,(x1,((aG .i64 x1 (ah y2.1)),(false,())))),((y1.1,(x2.2.1,(false,()))),()))
        else
        none
      else
      bif(aH y1.1 5)then
       ai (EU y1.1) fun y2=>
        bif((aH y1.1 y1.1)&&((dR (.pair .str (.pair .bool .unit)) x2.2.1 x2.2.1)&&((fF false false)&&true)))then
         some ((4,(x1,((aG .i64 x1 (ah y2.1)),(false,())))),((y1.1,(x2.2.1,(false,()))),()))
        else
        none
      else
      ai (EU y1.1) fun y2=>
       bif((aH 0 0)&&((dR (.pair .str (.pair .bool .unit)) x2.2.1 x2.2.1)&&((fF false false)&&true)))then
        some ((4,(x1,((aG .i64 x1 (ah y2.1)),(false,())))),((0,(x2.2.1,(false,()))),()))
       else
       none
     else
     ai (yS aO x0 x1 x1 0 x2.2.1 false 0 false 0 0 0 false x2.1 x2.2.1 x2.2.2.1) fun y2=>
      bF y2 (fun a3=>
       bif(fD a3.1.2.1 a3.1.2.2.1)then
        bif(fD a3.1.2.2.1 (ah a3.1.1))then
         bif(dX a3.1.1 a3.1.2.2.1)then
          bif(aH (aI a3.1.1 a3.1.2.2.1) 60)then
           bif((aH a3.2.1.1 a3.2.1.1)&&((dR (.pair .str (.pair .bool .unit)) a3.2.1.2.1 a3.2.1.2.1)&&((fF a3.2.1.2.2.1 a3.2.1.2.2.1)&&true)))then
            some ((5,(a3.1.2.1,(a3.1.2.2.1,(false,())))),((a3.2.1.1,(a3.2.1.2.1,(a3.2.1.2.2.1,()))),()))
           else
           none
          else
          bif(dX a3.1.1 a3.1.2.2.1)then
           bif(aH (aI a3.1.1 a3.1.2.2.1) 62)then
            bif((aH a3.2.1.1 a3.2.1.1)&&((dR (.pair .str (.pair .bool .unit)) a3.2.1.2.1 a3.2.1.2.1)&&((fF a3.2.1.2.2.1 a3.2.1.2.2.1)&&true)))then
             some ((5,(a3.1.2.1,(a3.1.2.2.1,(false,())))),((a3.2.1.1,(a3.2.1.2.1,(a3.2.1.2.2.1,()))),()))
            else
            none
           else
           ai (EN a3.1.1 a3.1.2.1) fun y4=>
            bif(bu (ah a3.1.1) a3.1.2.1 y4.1)then
             bif(!(aH a3.2.2.2.2.1.1 0))then
              bif(dR (.pair .str (.pair .bool .unit)) a3.2.2.2.2.1.2.1 a3.2.2.2.2.1.2.1)then
               bif(cO (sub a3.1.1 a3.1.2.1 y4.1) (sub a3.1.1 a3.1.2.1 y4.1))then
                bif(aH a3.2.2.2.2.1.1 a3.2.2.2.2.1.1)then
                 bif(fF (aH a3.2.2.2.2.1.1 5) (aH a3.2.2.2.2.1.1 5))then
                  bif(aZ (az [] a3.2.2.2.2.1.2.1) 24)then
                   bif(cO (sub a3.1.1 a3.1.2.1 y4.1) (sub a3.1.1 a3.1.2.1 y4.1))then
                    bif(aH a3.2.2.2.2.1.1 a3.2.2.2.2.1.1)then
                     bif(fF (aH a3.2.2.2.2.1.1 5) (aH a3.2.2.2.2.1.1 5))then
                      ai (Jq (sub a3.1.1 a3.1.2.1 y4.1)) fun y5=>
                       bif(dR (.pair .str (.pair .bool .unit)) a3.2.2.2.2.1.2.1 a3.2.2.2.2.1.2.1)then
                        bif(cO (sub a3.1.1 a3.1.2.1 y4.1) (sub a3.1.1 a3.1.2.1 y4.1))then
                         bif(aH a3.2.2.2.2.1.1 a3.2.2.2.2.1.1)then
                          bif(fF (aH a3.2.2.2.2.1.1 5) (aH a3.2.2.2.2.1.1 5))then
                           bif(((cO (sub a3.1.1 a3.1.2.1 y4.1) (sub a3.1.1 a3.1.2.1 y4.1))&&true)&&((cO y5.1 y5.1)&&true))then
                            bif(aZ (az (az [] a3.2.2.2.2.1.2.1) [(y5.1,((aH a3.2.2.2.2.1.1 5),()))]) 24)then
                             bif(dR (.pair .str (.pair .bool .unit)) a3.2.2.2.2.1.2.1 a3.2.2.2.2.1.2.1)then
                              bif(cO (sub a3.1.1 a3.1.2.1 y4.1) (sub a3.1.1 a3.1.2.1 y4.1))then
                               bif(aH a3.2.2.2.2.1.1 a3.2.2.2.2.1.1)then
                                bif(fF (aH a3.2.2.2.2.1.1 5) (aH a3.2.2.2.2.1.1 5))then
                                 bif((cO y5.1 y5.1)&&((fF (aH a3.2.2.2.2.1.1 5) (aH a3.2.2.2.2.1.1 5))&&true))then
                                  ai (wK (sub a3.1.1 a3.1.2.1 y4.1)) fun y6=>
                                   bif((aH a3.2.1.1 a3.2.1.1)&&((fF a3.2.1.2.2.1 a3.2.1.2.2.1)&&true))then
                                    some ((6,(a3.1.2.1,(y4.1,((!y6.1),())))),((a3.2.1.1,((az (az [] a3.2.2.2.2.1.2.1) [(y5.1,((aH a3.2.2.2.2.1.1 5),()))]),(a3.2.1.2.2.1,()))),()))
                                   else
                                   none
                                 else
                                 none
                                else
                                none
                               else
                               none
                              else
                              none
                             else
                             none
                            else
                            none
                           else
                           none
                          else
                          none
                         else
                         none
                        else
                        none
                       else
                       none
                     else
                     none
                    else
                    none
                   else
                   none
                  else
                  none
                 else
                 none
                else
                none
               else
               none
              else
              none
             else
             ai (wK (sub a3.1.1 a3.1.2.1 y4.1)) fun y5=>
              bif((aH a3.2.1.1 a3.2.1.1)&&((dR (.pair .str (.pair .bool .unit)) a3.2.1.2.1 a3.2.1.2.1)&&((fF a3.2.1.2.2.1 a3.2.1.2.2.1)&&true)))then
               some ((6,(a3.1.2.1,(y4.1,((!y5.1),())))),((a3.2.1.1,(a3.2.1.2.1,(a3.2.1.2.2.1,()))),()))
              else
              none
            else
            none
          else
          none
         else
         none
        else
        ai (EN a3.1.1 a3.1.2.1) fun y4=>
         bif(bu (ah a3.1.1) a3.1.2.1 y4.1)then
          bif(!(aH a3.2.2.2.2.1.1 0))then
           bif(dR (.pair .str (.pair .bool .unit)) a3.2.2.2.2.1.2.1 a3.2.2.2.2.1.2.1)then
            bif(cO (sub a3.1.1 a3.1.2.1 y4.1) (sub a3.1.1 a3.1.2.1 y4.1))then
             bif(aH a3.2.2.2.2.1.1 a3.2.2.2.2.1.1)then
              bif(fF (aH a3.2.2.2.2.1.1 5) (aH a3.2.2.2.2.1.1 5))then
               bif(aZ (az [] a3.2.2.2.2.1.2.1) 24)then
                bif(cO (sub a3.1.1 a3.1.2.1 y4.1) (sub a3.1.1 a3.1.2.1 y4.1))then
                 bif(aH a3.2.2.2.2.1.1 a3.2.2.2.2.1.1)then
                  bif(fF (aH a3.2.2.2.2.1.1 5) (aH a3.2.2.2.2.1.1 5))then
                   ai (Jq (sub a3.1.1 a3.1.2.1 y4.1)) fun y5=>
                    bif(dR (.pair .str (.pair .bool .unit)) a3.2.2.2.2.1.2.1 a3.2.2.2.2.1.2.1)then
                     bif(cO (sub a3.1.1 a3.1.2.1 y4.1) (sub a3.1.1 a3.1.2.1 y4.1))then
                      bif(aH a3.2.2.2.2.1.1 a3.2.2.2.2.1.1)then
                       bif(fF (aH a3.2.2.2.2.1.1 5) (aH a3.2.2.2.2.1.1 5))then
                        bif(((cO (sub a3.1.1 a3.1.2.1 y4.1) (sub a3.1.1 a3.1.2.1 y4.1))&&true)&&((cO y5.1 y5.1)&&true))then
                         bif(aZ (az (az [] a3.2.2.2.2.1.2.1) [(y5.1,((aH a3.2.2.2.2.1.1 5),()))]) 24)then
                          bif(dR (.pair .str (.pair .bool .unit)) a3.2.2.2.2.1.2.1 a3.2.2.2.2.1.2.1)then
                           bif(cO (sub a3.1.1 a3.1.2.1 y4.1) (sub a3.1.1 a3.1.2.1 y4.1))then
                            bif(aH a3.2.2.2.2.1.1 a3.2.2.2.2.1.1)then
                             bif(fF (aH a3.2.2.2.2.1.1 5) (aH a3.2.2.2.2.1.1 5))then
                              bif((cO y5.1 y5.1)&&((fF (aH a3.2.2.2.2.1.1 5) (aH a3.2.2.2.2.1.1 5))&&true))then
                               ai (wK (sub a3.1.1 a3.1.2.1 y4.1)) fun y6=>
                                bif((aH a3.2.1.1 a3.2.1.1)&&((fF a3.2.1.2.2.1 a3.2.1.2.2.1)&&true))then
                                 some ((6,(a3.1.2.1,(y4.1,((!y6.1),())))),((a3.2.1.1,((az (az [] a3.2.2.2.2.1.2.1) [(y5.1,((aH a3.2.2.2.2.1.1 5),()))]),(a3.2.1.2.2.1,()))),()))
                                else
                                none
                              else
                              none
                             else
                             none
                            else
                            none
                           else
                           none
                          else
                          none
                         else
                         none
                        else
                        none
                       else
                       none
                      else
                      none
                     else
                     none
                    else
                    none
                  else
                  none
                 else
                 none
                else
                none
               else
               none
              else
              none
             else
             none
            else
            none
           else
           none
          else
          ai (wK (sub a3.1.1 a3.1.2.1 y4.1)) fun y5=>
           bif((aH a3.2.1.1 a3.2.1.1)&&((dR (.pair .str (.pair .bool .unit)) a3.2.1.2.1 a3.2.1.2.1)&&((fF a3.2.1.2.2.1 a3.2.1.2.2.1)&&true)))then
            some ((6,(a3.1.2.1,(y4.1,((!y5.1),())))),((a3.2.1.1,(a3.2.1.2.1,(a3.2.1.2.2.1,()))),()))
           else
           none
         else
         none
       else
       ai (EN a3.1.1 a3.1.2.1) fun y4=>
        bif(bu (ah a3.1.1) a3.1.2.1 y4.1)then
         bif(!(aH a3.2.2.2.2.1.1 0))then
          bif(dR (.pair .str (.pair .bool .unit)) a3.2.2.2.2.1.2.1 a3.2.2.2.2.1.2.1)then
           bif(cO (sub a3.1.1 a3.1.2.1 y4.1) (sub a3.1.1 a3.1.2.1 y4.1))then
            bif(aH a3.2.2.2.2.1.1 a3.2.2.2.2.1.1)then
             bif(fF (aH a3.2.2.2.2.1.1 5) (aH a3.2.2.2.2.1.1 5))then
              bif(aZ (az [] a3.2.2.2.2.1.2.1) 24)then
               bif(cO (sub a3.1.1 a3.1.2.1 y4.1) (sub a3.1.1 a3.1.2.1 y4.1))then
                bif(aH a3.2.2.2.2.1.1 a3.2.2.2.2.1.1)then
                 bif(fF (aH a3.2.2.2.2.1.1 5) (aH a3.2.2.2.2.1.1 5))then
                  ai (Jq (sub a3.1.1 a3.1.2.1 y4.1)) fun y5=>
                   bif(dR (.pair .str (.pair .bool .unit)) a3.2.2.2.2.1.2.1 a3.2.2.2.2.1.2.1)then
                    bif(cO (sub a3.1.1 a3.1.2.1 y4.1) (sub a3.1.1 a3.1.2.1 y4.1))then
                     bif(aH a3.2.2.2.2.1.1 a3.2.2.2.2.1.1)then
                      bif(fF (aH a3.2.2.2.2.1.1 5) (aH a3.2.2.2.2.1.1 5))then
                       bif(((cO (sub a3.1.1 a3.1.2.1 y4.1) (sub a3.1.1 a3.1.2.1 y4.1))&&true)&&((cO y5.1 y5.1)&&true))then
                        bif(aZ (az (az [] a3.2.2.2.2.1.2.1) [(y5.1,((aH a3.2.2.2.2.1.1 5),()))]) 24)then
                         bif(dR (.pair .str (.pair .bool .unit)) a3.2.2.2.2.1.2.1 a3.2.2.2.2.1.2.1)then
                          bif(cO (sub a3.1.1 a3.1.2.1 y4.1) (sub a3.1.1 a3.1.2.1 y4.1))then
                           bif(aH a3.2.2.2.2.1.1 a3.2.2.2.2.1.1)then
                            bif(fF (aH a3.2.2.2.2.1.1 5) (aH a3.2.2.2.2.1.1 5))then
                             bif((cO y5.1 y5.1)&&((fF (aH a3.2.2.2.2.1.1 5) (aH a3.2.2.2.2.1.1 5))&&true))then
                              ai (wK (sub a3.1.1 a3.1.2.1 y4.1)) fun y6=>
                               bif((aH a3.2.1.1 a3.2.1.1)&&((fF a3.2.1.2.2.1 a3.2.1.2.2.1)&&true))then
                                some ((6,(a3.1.2.1,(y4.1,((!y6.1),())))),((a3.2.1.1,((az (az [] a3.2.2.2.2.1.2.1) [(y5.1,((aH a3.2.2.2.2.1.1 5),()))]),(a3.2.1.2.2.1,()))),()))
                               else
                               none
                             else
                             none
                            else
                            none
                           else
                           none
                          else
                          none
                         else
                         none
                        else
                        none
                       else
                       none
                      else
                      none
                     else
                     none
                    else
                    none
                   else
                   none
                 else
                 none
                else
                none
               else
               none
              else
              none
             else
             none
            else
            none
           else
           none
          else
          none
         else
         ai (wK (sub a3.1.1 a3.1.2.1 y4.1)) fun y5=>
          bif((aH a3.2.1.1 a3.2.1.1)&&((dR (.pair .str (.pair .bool .unit)) a3.2.1.2.1 a3.2.1.2.1)&&((fF a3.2.1.2.2.1 a3.2.1.2.2.1)&&true)))then
           some ((6,(a3.1.2.1,(y4.1,((!y5.1),())))),((a3.2.1.1,(a3.2.1.2.1,(a3.2.1.2.2.1,()))),()))
          else
          none
        else
        none) (fun b3=>
       none)
   else
   none
  else
  none
def UA:Sum:=(⟨[.str,.int .i64,.pair (.int .i64) (.pair (.list (.pair .str (.pair .bool .unit))) (.pair .bool .unit))],[(.pair (.int .i64) (.pair (.int .i64) (.pair (.int .i64) (.pair .bool .unit))),false),(.pair (.int .i64) (.pair (.list (.pair .str (.pair .bool .unit))) (.pair .bool .unit)),false)],fun x=>aet x.1 x.2.1 x.2.2.1⟩:Sum)
noncomputable def aao:Env:=dH Tryz.prog tt 90 [(44,Bh),(148,Xo),(149,Vg),(150,Vw),(151,Jo),(152,WQ),(153,XE),(154,XD)] [(14,ah0),(23,aeX)] [(14,aag),(23,Z8)]
def aac {γ:Type} (a:Q4.den->Option γ) (b:Oh.den->Option γ) (c:QQ.den->Option γ) (v:Q4.den):Option γ:=FU (fun v0 v1 v2 v3 v4 v5 v6 v7 v8 v9 v10 v11=>a ((v0,v1,v2,()),((v3,v4,v5,()),(v6,v7,()),(v8,v9,v10,v11,()),()))) (fun e0 e1 e2 e3 e4 e5 e6 e7 e8 e9 e10=>b ((e0,e1,()),((e2,e3,e4,()),(e5,e6,()),(e7,e8,e9,e10,()),()))) (c ((),())) v.1.1 v.1.2.1 v.1.2.2.1 v.2.1.1 v.2.1.2.1 v.2.1.2.2.1 v.2.2.1.1 v.2.2.1.2.1 v.2.2.2.1.1 v.2.2.2.1.2.1 v.2.2.2.1.2.2.1 v.2.2.2.1.2.2.2.1
theorem aig:di aao 90 aei aag:=wG (aac) (lp:=fun n (v:Q4.den)=>yF n v.1.1 v.1.2.1 v.1.2.2.1 v.2.1.1 v.2.1.2.1 v.2.1.2.2.1 v.2.2.1.1 v.2.2.1.2.1 v.2.2.2.1.1 v.2.2.2.1.2.1 v.2.2.2.1.2.2.1 v.2.2.2.1.2.2.2.1) (by kernel_rfl) (fun _=>rfl) (fun _ _=>rfl) (fun d n K v=>by kernel_rfl) (by intros;simp only[aac,FU,bg,bn,ae,aV,bi])
def aaq {γ:Type} (a:PP.den->Option γ) (b:PK.den->Option γ) (c:Nk.den->Option γ) (v:PP.den):Option γ:=Gj (fun v0 v1 v2 v3 v4 v5 v6 v7 v8 v9 v10 v11 v12 v13 v14=>a ((v0,v1,v2,()),((v3,v4,v5,()),(v6,v7,()),(v8,v9,v10,v11,()),(v12,v13,v14,()),()))) (fun e0 e1 e2 e3 e4 e5 e6 e7 e8 e9 e10 e11 e12 e13 e14=>b ((e0,e1,e2,()),((e3,e4,e5,()),(e6,e7,()),(e8,e9,e10,e11,()),(e12,e13,e14,()),()))) (c ((),())) v.1.1 v.1.2.1 v.1.2.2.1 v.2.1.1 v.2.1.2.1 v.2.1.2.2.1 v.2.2.1.1 v.2.2.1.2.1 v.2.2.2.1.1 v.2.2.2.1.2.1 v.2.2.2.1.2.2.1 v.2.2.2.1.2.2.2.1 v.2.2.2.2.1.1 v.2.2.2.2.1.2.1 v.2.2.2.2.1.2.2.1
theorem aiL:di aao 90 ahR Z8:=wG (aaq) (lp:=fun n (v:PP.den)=>yS n v.1.1 v.1.2.1 v.1.2.2.1 v.2.1.1 v.2.1.2.1 v.2.1.2.2.1 v.2.2.1.1 v.2.2.1.2.1 v.2.2.2.1.1 v.2.2.2.1.2.1 v.2.2.2.1.2.2.1 v.2.2.2.1.2.2.2.1 v.2.2.2.2.1.1 v.2.2.2.2.1.2.1 v.2.2.2.2.1.2.2.1) (by kernel_rfl) (fun _=>rfl) (fun _ _=>rfl) (fun d n K v=>by kernel_rfl) (by intros;simp only[aaq,Gj,bg,bn,ae,aV,bi])
theorem apu:bZ b90=[aei,ahR]:=by kernel_rfl
theorem aon:cZ aao 90 b90:=bP b90 (fun _=>rfl) (by rw[apu];exact(aC ⟨fL (by kernel_rfl) (aig),(aC ⟨fL (by kernel_rfl) (aiL),aN⟩)⟩))
theorem ah4:bJ aao:=bz tok mixed bV (sg:=[(44,Bh),(148,Xo),(149,Vg),(150,Vw),(151,Jo),(152,WQ),(153,XE),(154,XD)]) (aC ⟨(Cb),(aC ⟨(aaE),(aC ⟨(adz),(aC ⟨(ab9),(aC ⟨(Md),(aC ⟨(ab8),(aC ⟨(abo),(aC ⟨(adh),aN⟩)⟩)⟩)⟩)⟩)⟩)⟩)⟩) (fn:=Tryz.f90) (c:=b90) (by kernel_rfl) (by kernel_rfl) (aon) bW bC
theorem Ti:bD Tryz.prog 90 UA:=ed ah4 (by decide) fun x=>by kernel_rfl
noncomputable def b74:Code:=(Tryz.f74.body).getD .skip
noncomputable def ak6:Code:=cA (cA (cA (cB (cB (cB (cB (b74)))))))
def akY:dB:=⟨[0,3,4,5,6,100004],[(4,(.pair (.int .i64) (.pair (.int .i64) (.pair (.int .i64) (.pair .bool .unit)))))],[3,4,5],[],[2,3],[(2,(.pair (.int .i64) (.pair (.int .i64) (.pair (.int .i64) (.pair .bool .unit)))))]⟩
def Yn:SP:=⟨us [.v .str,.u,.u,.ptr 1000003 0,.slc 1800004,.ptr 1000005 0,.v (.int .i64)] 23,[.arr 1800004 (.pair (.int .i64) (.pair (.int .i64) (.pair (.int .i64) (.pair .bool .unit)))),.box 1000005 91 [.v (.int .i64),.v (.list (.pair .str (.pair .bool .unit))),.v .bool],.box 1000003 91 [.v (.int .i64),.nils,.v .bool]]⟩
def WE:SP:=⟨us [.u,.u,.u,.ptr 1000003 0,.slc 1800004,.ptr 1000005 0] 24,[.arr 1800004 (.pair (.int .i64) (.pair (.int .i64) (.pair (.int .i64) (.pair .bool .unit)))),.box 1000005 91 [.v (.int .i64),.v (.list (.pair .str (.pair .bool .unit))),.v .bool],.box 1000003 91 [.v (.int .i64),.nils,.v .bool]]⟩
def Ye:SP:=⟨us [.u,.u,.v (.list (.pair (.int .i64) (.pair (.int .i64) (.pair (.int .i64) (.pair .bool .unit)))))] 27,[]⟩
def OI {γ:Type} (rec:(List UInt8)->Int->(List (Int×Int×Int×Bool×Unit))->Int->(List ((List UInt8)×(Bool×Unit)))->Bool->Int->Bool->Option γ) (kE:(List (Int×Int×Int×Bool×Unit))->Int->(List ((List UInt8)×(Bool×Unit)))->Bool->Int->Bool->Option γ) (kR:(List (Int×Int×Int×Bool×Unit))->Option γ) (v0:List UInt8) (v1:Int) (v2:List (Int×Int×Int×Bool×Unit)) (v3:Int) (v4:List ((List UInt8)×(Bool×Unit))) (v5:Bool) (v6:Int) (v7:Bool):Option γ:=
 bif(fD v1 (ah v0))then
  ai (aet v0 v1 (v3,(v4,(v5,())))) fun y0=>
   bif(aZ (az v2 [(y0.1.1,(y0.1.2.1,(y0.1.2.2.1,(y0.1.2.2.2.1,()))))]) 32)then
    rec v0 y0.1.2.2.1 (az v2 [(y0.1.1,(y0.1.2.1,(y0.1.2.2.1,(y0.1.2.2.2.1,()))))]) y0.2.1.1 y0.2.1.2.1 y0.2.1.2.2.1 v6 v7
   else
   none
 else
 kE v2 v3 v4 v5 v6 v7
def zZ:Nat->(List UInt8)->Int->(List (Int×Int×Int×Bool×Unit))->Int->(List ((List UInt8)×(Bool×Unit)))->Bool->Int->Bool->Option (WE.den⊕Ye.den)
 |0,_,_,_,_,_,_,_,_=>none
 |n+1,v0,v1,v2,v3,v4,v5,v6,v7=>OI (zZ n) (fun e0 e1 e2 e3 e4 e5=>some (.inl ((),(e0,(e1,e2,e3,()),(e4,e5,()),())))) (fun r0=>some (.inr ((r0,()),()))) v0 v1 v2 v3 v4 v5 v6 v7
noncomputable def aeK:bG:=dO akY Yn WE Ye (.exit 0) (fun v=>zZ aO v.1.1 v.1.2.1 v.2.1 v.2.2.1.1 v.2.2.1.2.1 v.2.2.1.2.2.1 v.2.2.2.1.1 v.2.2.2.1.2.1) 6
def aeS (x0:List UInt8):Option ((List (Int×Int×Int×Bool×Unit))×(Int×(List ((List UInt8)×(Bool×Unit)))×(Bool×Unit))×Unit):=
 ai (zZ aO x0 0 [] 0 [] false 0 false) fun y0=>
  bF y0 (fun a1=>
   some (a1.2.1,((a1.2.2.1.1,(a1.2.2.1.2.1,(a1.2.2.1.2.2.1,()))),()))) (fun b1=>
   none)
def RQ:Sum:=(⟨[.str],[(.list (.pair (.int .i64) (.pair (.int .i64) (.pair (.int .i64) (.pair .bool .unit)))),false),(.pair (.int .i64) (.pair (.list (.pair .str (.pair .bool .unit))) (.pair .bool .unit)),false)],fun x=>aeS x.1⟩:Sum)
noncomputable def adX:Env:=dH Tryz.prog tt 74 [(90,UA)] [(4,akY)] [(4,aeK)]
def agY {γ:Type} (a:Yn.den->Option γ) (b:WE.den->Option γ) (c:Ye.den->Option γ) (v:Yn.den):Option γ:=OI (fun v0 v1 v2 v3 v4 v5 v6 v7=>a ((v0,v1,()),(v2,(v3,v4,v5,()),(v6,v7,()),()))) (fun e0 e1 e2 e3 e4 e5=>b ((),(e0,(e1,e2,e3,()),(e4,e5,()),()))) (fun r0=>c ((r0,()),())) v.1.1 v.1.2.1 v.2.1 v.2.2.1.1 v.2.2.1.2.1 v.2.2.1.2.2.1 v.2.2.2.1.1 v.2.2.2.1.2.1
theorem amm:di adX 74 ak6 aeK:=wG (agY) (lp:=fun n (v:Yn.den)=>zZ n v.1.1 v.1.2.1 v.2.1 v.2.2.1.1 v.2.2.1.2.1 v.2.2.1.2.2.1 v.2.2.2.1.1 v.2.2.2.1.2.1) (by kernel_rfl) (fun _=>rfl) (fun _ _=>rfl) (fun d n K v=>by kernel_rfl) (by intros;simp only[agY,OI,bg,bn,ae,aV,bi])
theorem aoS:bZ b74=[ak6]:=by kernel_rfl
theorem asx:cZ adX 74 b74:=bP b74 (fun _=>rfl) (by rw[aoS];exact(aC ⟨fL (by kernel_rfl) (amm),aN⟩))
theorem aeF:bJ adX:=bz tok mixed bV (sg:=[(90,UA)]) (aC ⟨(Ti),aN⟩) (fn:=Tryz.f74) (c:=b74) (by kernel_rfl) (by kernel_rfl) (asx) bW bC
theorem UE:bD Tryz.prog 74 RQ:=ed aeF (by decide) fun x=>by kernel_rfl
noncomputable def b67:Code:=(Tryz.f67.body).getD .skip
noncomputable def akF:Code:=cA (cA (cB (cA (cB (cB (cB (b67)))))))
def ako:dB:=⟨[0,3,5,6,100004],[(5,(.pair (.int .i64) (.pair .str (.pair (.int .i64) (.pair (.int .i64) .unit)))))],[5],[],[2],[(2,(.pair (.int .i64) (.pair .str (.pair (.int .i64) (.pair (.int .i64) .unit)))))]⟩
def Zj:SP:=⟨us [.v .str,.u,.u,.v (.list (.pair (.int .i64) (.pair (.int .i64) (.pair (.int .i64) (.pair .bool .unit))))),.u,.slc 1800005,.v (.int .i64)] 59,[.arr 1800005 (.pair (.int .i64) (.pair .str (.pair (.int .i64) (.pair (.int .i64) .unit))))]⟩
def Vo:SP:=⟨us [.u,.u,.u,.u,.u,.slc 1800005] 60,[.arr 1800005 (.pair (.int .i64) (.pair .str (.pair (.int .i64) (.pair (.int .i64) .unit))))]⟩
def Ws:SP:=⟨us [.u,.u,.v (.list (.pair (.int .i64) (.pair .str (.pair (.int .i64) (.pair (.int .i64) .unit)))))] 63,[]⟩
def NE {γ:Type} (rec:(List UInt8)->(List (Int×Int×Int×Bool×Unit))->Int->(List (Int×(List UInt8)×(Int×Int×Unit)))->Option γ) (kE:(List (Int×(List UInt8)×(Int×Int×Unit)))->Option γ) (kR:(List (Int×(List UInt8)×(Int×Int×Unit)))->Option γ) (v0:List UInt8) (v1:List (Int×Int×Int×Bool×Unit)) (v2:Int) (v3:List (Int×(List UInt8)×(Int×Int×Unit))):Option γ:=
 bif(fD v2 (ah v1))then
  bif(dX v1 v2)then
   bif(aH (af v1 (0,(0,(0,(false,())))) v2).1 2)then
    bif(dX v1 v2)then
     bif(dX v1 v2)then
      bif(dX v1 v2)then
       bif(dX v1 v2)then
        bif(bu (ah v0) (af v1 (0,(0,(0,(false,())))) v2).2.1 (af v1 (0,(0,(0,(false,())))) v2).2.2.1)then
         bif(aZ (az v3 [((af v1 (0,(0,(0,(false,())))) v2).1,((sub v0 (af v1 (0,(0,(0,(false,())))) v2).2.1 (af v1 (0,(0,(0,(false,())))) v2).2.2.1),((af v1 (0,(0,(0,(false,())))) v2).2.1,((af v1 (0,(0,(0,(false,())))) v2).2.2.1,()))))]) 40)then
          rec v0 v1 (aG .i64 v2 1) (az v3 [((af v1 (0,(0,(0,(false,())))) v2).1,((sub v0 (af v1 (0,(0,(0,(false,())))) v2).2.1 (af v1 (0,(0,(0,(false,())))) v2).2.2.1),((af v1 (0,(0,(0,(false,())))) v2).2.1,((af v1 (0,(0,(0,(false,())))) v2).2.2.1,()))))])
         else
         none
        else
        none
       else
       none
      else
      none
     else
     none
    else
    none
   else
   bif(aH (af v1 (0,(0,(0,(false,())))) v2).1 4)then
    bif(dX v1 v2)then
     bif(dX v1 v2)then
      bif(dX v1 v2)then
       bif(dX v1 v2)then
        bif(bu (ah v0) (af v1 (0,(0,(0,(false,())))) v2).2.1 (af v1 (0,(0,(0,(false,())))) v2).2.2.1)then
         bif(aZ (az v3 [((af v1 (0,(0,(0,(false,())))) v2).1,((sub v0 (af v1 (0,(0,(0,(false,())))) v2).2.1 (af v1 (0,(0,(0,(false,())))) v2).2.2.1),((af v1 (0,(0,(0,(false,())))) v2).2.1,((af v1 (0,(0,(0,(false,())))) v2).2.2.1,()))))]) 40)then
          rec v0 v1 (aG .i64 v2 1) (az v3 [((af v1 (0,(0,(0,(false,())))) v2).1,((sub v0 (af v1 (0,(0,(0,(false,())))) v2).2.1 (af v1 (0,(0,(0,(false,())))) v2).2.2.1),((af v1 (0,(0,(0,(false,())))) v2).2.1,((af v1 (0,(0,(0,(false,())))) v2).2.2.1,()))))])
         else
         none
        else
        none
       else
       none
      else
      none
     else
     none
    else
    none
   else
   bif(aH (af v1 (0,(0,(0,(false,())))) v2).1 5)then
    bif(dX v1 v2)then
     bif(dX v1 v2)then
      bif(dX v1 v2)then
       bif(dX v1 v2)then
        bif(bu (ah v0) (af v1 (0,(0,(0,(false,())))) v2).2.1 (af v1 (0,(0,(0,(false,())))) v2).2.2.1)then
         bif(aZ (az v3 [((af v1 (0,(0,(0,(false,())))) v2).1,((sub v0 (af v1 (0,(0,(0,(false,())))) v2).2.1 (af v1 (0,(0,(0,(false,())))) v2).2.2.1),((af v1 (0,(0,(0,(false,())))) v2).2.1,((af v1 (0,(0,(0,(false,())))) v2).2.2.1,()))))]) 40)then
          rec v0 v1 (aG .i64 v2 1) (az v3 [((af v1 (0,(0,(0,(false,())))) v2).1,((sub v0 (af v1 (0,(0,(0,(false,())))) v2).2.1 (af v1 (0,(0,(0,(false,())))) v2).2.2.1),((af v1 (0,(0,(0,(false,())))) v2).2.1,((af v1 (0,(0,(0,(false,())))) v2).2.2.1,()))))])
         else
         none
        else
        none
       else
       none
      else
      none
     else
     none
    else
    none
   else
   bif(aH (af v1 (0,(0,(0,(false,())))) v2).1 6)then
    bif(dX v1 v2)then
     bif(dX v1 v2)then
      bif(dX v1 v2)then
       bif(dX v1 v2)then
        bif(bu (ah v0) (af v1 (0,(0,(0,(false,())))) v2).2.1 (af v1 (0,(0,(0,(false,())))) v2).2.2.1)then
         bif(aZ (az v3 [((af v1 (0,(0,(0,(false,())))) v2).1,((sub v0 (af v1 (0,(0,(0,(false,())))) v2).2.1 (af v1 (0,(0,(0,(false,())))) v2).2.2.1),((af v1 (0,(0,(0,(false,())))) v2).2.1,((af v1 (0,(0,(0,(false,())))) v2).2.2.1,()))))]) 40)then
          rec v0 v1 (aG .i64 v2 1) (az v3 [((af v1 (0,(0,(0,(false,())))) v2).1,((sub v0 (af v1 (0,(0,(0,(false,())))) v2).2.1 (af v1 (0,(0,(0,(false,())))) v2).2.2.1),((af v1 (0,(0,(0,(false,())))) v2).2.1,((af v1 (0,(0,(0,(false,())))) v2).2.2.1,()))))])
         else
         none
        else
        none
       else
       none
      else
      none
     else
     none
    else
    none
   else
   rec v0 v1 (aG .i64 v2 1) v3
  else
  none
 else
 kE v3
def wS:Nat->(List UInt8)->(List (Int×Int×Int×Bool×Unit))->Int->(List (Int×(List UInt8)×(Int×Int×Unit)))->Option (Vo.den⊕Ws.den)
 |0,_,_,_,_=>none
 |n+1,v0,v1,v2,v3=>NE (wS n) (fun e0=>some (.inl ((),(e0,())))) (fun r0=>some (.inr ((r0,()),()))) v0 v1 v2 v3
noncomputable def aee:bG:=dO ako Zj Vo Ws (.exit 0) (fun v=>wS aO v.1.1 v.1.2.1 v.1.2.2.1 v.2.1) 6
def al0 (x0:List UInt8):Option ((List (Int×(List UInt8)×(Int×Int×Unit)))×Unit):=
 ai (aeS x0) fun y0=>
  ai (wS aO x0 y0.1 0 []) fun y1=>
   bF y1 (fun a2=>
    some (a2.2.1,())) (fun b2=>
    some (b2.1.1,()))
def ash:Sum:=(⟨[.str],[(.list (.pair (.int .i64) (.pair .str (.pair (.int .i64) (.pair (.int .i64) .unit)))),false)],fun x=>al0 x.1⟩:Sum)
noncomputable def agj:Env:=dH Tryz.prog tt 67 [(74,RQ)] [(4,ako)] [(4,aee)]
def ae5 {γ:Type} (a:Zj.den->Option γ) (b:Vo.den->Option γ) (c:Ws.den->Option γ) (v:Zj.den):Option γ:=NE (fun v0 v1 v2 v3=>a ((v0,v1,v2,()),(v3,()))) (fun e0=>b ((),(e0,()))) (fun r0=>c ((r0,()),())) v.1.1 v.1.2.1 v.1.2.2.1 v.2.1
theorem amh:di agj 67 akF aee:=wG (ae5) (lp:=fun n (v:Zj.den)=>wS n v.1.1 v.1.2.1 v.1.2.2.1 v.2.1) (by kernel_rfl) (fun _=>rfl) (fun _ _=>rfl) (fun d n K v=>by kernel_rfl) (by intros;simp only[ae5,NE,bg,bn,ae,aV,bi])
theorem asF:bZ b67=[akF]:=by kernel_rfl
theorem apa:cZ agj 67 b67:=bP b67 (fun _=>rfl) (by rw[asF];exact(aC ⟨fL (by kernel_rfl) (amh),aN⟩))
theorem ahW:bJ agj:=bz tok mixed bV (sg:=[(74,RQ)]) (aC ⟨(UE),aN⟩) (fn:=Tryz.f67) (c:=b67) (by kernel_rfl) (by kernel_rfl) (apa) bW bC
theorem aoj:bD Tryz.prog 67 ash:=ed ahW (by decide) fun x=>by kernel_rfl
end Go.Proofs.YtihafdllichkeaaGreatDoor
namespace Go.Proofs.YtihafdllichkeaaGreatDoor
open Go.RowKit
set_option linter.unusedVariables false
set_option linter.unusedSimpArgs false
set_option maxRecDepth 100000
abbrev Tok:=Int×Int×Int×Bool×Unit
abbrev Dlm:=List UInt8×Bool×Unit
abbrev Uj:=Int×List Dlm×Bool×Unit
def dDl:Dlm:=([],(false,()))
def l7 (s:List UInt8) (a:Nat):Nat:=a+tN (s.drop a) a bY
def P8 (s:List UInt8) (a b:Nat):List UInt8:=(s.take b).drop a
def YV (w:List UInt8):Bool:=CU (jq w 0 bY).1
theorem IW {s:List UInt8} {a:Nat} (h:a<=s.length):a<=l7 s a/\l7 s a<=s.length:=by
 have:=YX (s.drop a) a bY
 rw[List.length_drop]at this
 unfold l7;omega
def iD (s:List UInt8) (a:Nat):Tok:=
 if oH (s.drop a)≠0 then(1,a,((a+oH (s.drop a):Nat):Int),false,())
 else if aI s a=10 then(2,a,((a+1:Nat):Int),false,())
 else if aI s a=35 then(3,a,(fP s a:Nat),false,())
 else if(vK (s.drop a)).2≠0 then(4,a,((a+(vK (s.drop a)).2:Nat):Int),false,())
 else if tu (s.drop a)≠0 then(5,a,((a+tu (s.drop a):Nat):Int),false,())
 else(6,a,(l7 s a:Nat), !YV (P8 s a (l7 s a)),())
def jf (s:List UInt8) (a:Nat) (x:Uj):Uj:=
 if oH (s.drop a)≠0 then(x.1,x.2.1,false,())
 else if aI s a=10 then(0,x.2.1,decide (0<x.2.1.length),())
 else if aI s a=35 then(0,x.2.1,false,())
 else if(vK (s.drop a)).2≠0 then((if(vK (s.drop a)).1=4\/(vK (s.drop a)).1=5 then(((vK (s.drop a)).1:Nat):Int)else 0),x.2.1,false,())
 else if tu (s.drop a)≠0 then(0,x.2.1,false,())
 else(0,(if x.1=0 then x.2.1 else x.2.1++[(BN (P8 s a (l7 s a)),decide (x.1=5),())]),false,())
def ji (s:List UInt8) (a:Nat) (x:Uj):Tok×Uj:=
 if x.2.2.1=true then
  (if(vY s (x.2.1.headD dDl).1 (x.2.1.headD dDl).2.1 a).2=true then((7,a,((vY s (x.2.1.headD dDl).1 (x.2.1.headD dDl).2.1 a).1:Nat),false,()),(x.1,x.2.1.tail,decide (1<x.2.1.length),()))
  else((7,a,((vY s (x.2.1.headD dDl).1 (x.2.1.headD dDl).2.1 a).1:Nat),true,()),x))
 else(iD s a,jf s a x)
theorem agd {c:UInt8} {t:List UInt8} (h:xO (c.toNat:Int)=true):(vK (c::t)).2≠0:=by
 have h1:UZ [c]≠0:=by
  have: ∀n:Fin 256,xO ((n.val:Nat):Int)=true->UZ [UInt8.ofNat n.val]≠0:=by decide+kernel
  have:=this ⟨c.toNat,c.toNat_lt⟩ h
  simpa using this
 have h2: ∀n,(Gg (c::t) (n+1)).2≠0:=by
  intro n
  induction n with
  |zero=>rw[Gg,if_pos (by simpa using h1)];simp
  |succ n ih=>
   rw[Gg]
   split
   ·simp
   ·exact ih
 unfold vK
 rw[show min 3 (c::t).length=(min 3 (c::t).length-1)+1 by simp only[List.length_cons];omega]
 exact h2 _
theorem xk {s:List UInt8} (hs:s.length<=10000) {a:Nat} (ha:a<s.length) (x:Uj):(a:Int)<(ji s a x).1.2.2.1/\(ji s a x).1.2.2.1<=s.length/\(ji s a x).1.2.1=a:=by
 unfold ji
 split
 ·have h:=Em s (x.2.1.headD dDl).1 (x.2.1.headD dDl).2.1 aO a (dh (by omega)) (by omega)
  have h2:=h.2.2 ha
  have h1:=h.1
  unfold vY
  split<;>exact⟨by simp only;omega,by simp only;omega,rfl⟩
 ·unfold iD
  have hd:=List.drop_eq_getElem_cons ha
  split
  ·have:=Ro (s.drop a)
   rw[List.length_drop]at this
   exact⟨by simp only;omega,by simp only;omega,rfl⟩
  ·split
   ·exact⟨by simp only;omega,by simp only;omega,rfl⟩
   ·split
    ·rename_i h35
     have h1:=qy s a
     have h2:=qf (s:=s) (a:=a) (by omega)
     have h3:fP s a≠a:=by
      intro e
      have:=JM (s:=s) (f:=a) (by omega)
      simp only[e]at this
      rw[byte_at ha,this]at h35
      exact absurd h35 (by decide)
     exact⟨by simp only;omega,by simp only;omega,rfl⟩
    ·split
     ·have:=(FQ (s.drop a)).1
      rw[List.length_drop]at this
      exact⟨by simp only;omega,by simp only;omega,rfl⟩
     ·split
      ·rename_i hn
       have h1:=Fz (s.drop a)
       rw[List.length_drop]at h1
       have:tu (s.drop a)<=iT (s.drop a):=by unfold tu;split<;>omega
       exact⟨by simp only;omega,by simp only;omega,rfl⟩
      ·rename_i hb h10 _ ho _
       have hw:=IW (s:=s) (a:=a) (by omega)
       have:tN (s.drop a) a bY≠0:=by
        rw[hd,tN]
        have he:mf bY.1 (gm s[a])=false:=by
         unfold mf
         have:wu (gm s[a])=false:=by
          have hbl:jJ (s[a].toNat:Int)=false:=by
           rw[hd,BQ]at hb
           cases hq:jJ (s[a].toNat:Int)with
           |false=>rfl
           |true=>rw[hq]at hb;simp at hb
          have hme:xO (s[a].toNat:Int)=false:=by
           cases hq:xO (s[a].toNat:Int)with
           |false=>rfl
           |true=>rw[hd]at ho;exact absurd (agd hq) ho
          rw[byte_at ha]at h10
          unfold jJ at hbl
          unfold xO at hme
          unfold wu gm
          simp only[Bool.or_eq_false_iff,decide_eq_false_iff_not]at hbl hme ⊢
          omega
         rw[this];rfl
        rw[he];simp
       unfold l7 at hw ⊢
       exact⟨by simp only;omega,by simp only;omega,rfl⟩
end Go.Proofs.YtihafdllichkeaaGreatDoor
namespace Go.Proofs.YtihafdllichkeaaGreatDoor
open Go.RowKit
set_option linter.unusedVariables false
set_option linter.unusedSimpArgs false
set_option maxRecDepth 100000
theorem SH {s:List UInt8} (hs:s.length<1000000) {a:Nat} (ha:a<=s.length) (v1 v3:Int) (v4:List Dlm) (v5:Bool) (v6:Int) (v7:Bool) (v8 v9 v10:Int) (v11:Bool): ∀(N i:Nat),s.length-i<N->a<=i->i<=fP s a->
  yF N s v1 (i:Int) v3 v4 v5 v6 v7 v8 v9 v10 v11=some (.inl ((v1,((fP s a:Nat):Int),()),((v3,v4,v5,()),(v6,v7,()),(v8,v9,v10,v11,()),())))
 |0,i,h,_,hi=>by have:=qf ha;omega
 |N+1,i,h,hai,hi=>by
  have hle:=qf ha
  rw[yF,FU]
  by_cases e:i<fP s a
  ·have hi':i<s.length:=by omega
   rw[aK (dM (by rw[aB];omega)),aK (dw (by omega) (by omega)),byte_at hi',bU fun h=>LZ hai e hi' (UInt8.toNat_inj.1 (by rw[show(10:UInt8).toNat=10 from rfl];omega))]
   simp only[Bool.not_false,cond_true]
   rw[bI (by omega) (by omega),show(i:Int)+1=((i+1:Nat):Int) by omega]
   exact SH hs ha v1 v3 v4 v5 v6 v7 v8 v9 v10 v11 N (i+1) (by omega) (by omega) (by omega)
  ·have hi2:i=fP s a:=by omega
   by_cases hl:i<s.length
   ·have h10:s[i]=10:=by subst hi2;exact JM hl
    rw[aK (dM (by rw[aB];omega)),aK (dw (by omega) (by omega)),byte_at hl,h10,show aH (((10:UInt8).toNat:Nat):Int) 10=true from rfl]
    simp only[Bool.not_true,cond_false]
    rw[hi2]
   ·rw[aU (gp (by rw[aB];omega)),hi2]
theorem RJ {s:List UInt8} (hs:s.length<1000000) {a:Nat} (ha:a<=s.length) (v1 v3:Int) (v4:List Dlm) (v5:Bool) (v6:Int) (v7:Bool) (v8 v9 v10:Int) (v11:Bool) (v12:Int) (v13:List Dlm) (v14:Bool): ∀(N k:Nat),s.length-(a+k)<N->k<=iT (s.drop a)->
  yS N s v1 ((a+k:Nat):Int) v3 v4 v5 v6 v7 v8 v9 v10 v11 v12 v13 v14=some (.inl ((s,v1,((a+iT (s.drop a):Nat):Int),()),((v3,v4,v5,()),(v6,v7,()),(v8,v9,v10,v11,()),(v12,v13,v14,()),())))
 |0,k,h,hk=>by omega
 |N+1,k,h,hk=>by
  have hle:=Fz (s.drop a)
  have hld:=List.length_drop (i:=a) (l:=s)
  rw[yS,Gj]
  by_cases e:a+k<s.length
  ·have hkd:k<(s.drop a).length:=by omega
   have hg:(s.drop a)[k]=s[a+k]:=by rw[List.getElem_drop]
   obtain⟨_,_,c,h1,_,h2⟩:=oh s[a+k]
   rw[aK (dM (by rw[aB];omega)),aK (dw (by omega) (by omega)),byte_at e,h1,ae]
   simp only[h2]
   by_cases hk2:k<iT (s.drop a)
   ·have:=EL JY (s.drop a) k hkd hk2
    rw[hg]at this
    rw[this,cond_true,bI (by omega) (by omega),show((a+k:Nat):Int)+1=((a+(k+1):Nat):Int) by omega]
    exact RJ hs ha v1 v3 v4 v5 v6 v7 v8 v9 v10 v11 v12 v13 v14 N (k+1) (by omega) (by omega)
   ·obtain rfl:k=iT (s.drop a):=by omega
    have:=xA JY (s.drop a) hkd
    rw[show JY s[a+iT (s.drop a)]=false by rw[<-hg];exact this,cond_false]
  ·obtain rfl:k=iT (s.drop a):=by omega
   rw[aU (gp (by rw[aB];omega))]
theorem afR (w:List UInt8) (hw:w.length<=100000):wK w=some (YV w,()):=by
 have hg:=(tH w 0 bY iC).1
 rw[wK,akK w hw,ae]
 unfold YV wC
 rw[aha hg]
 simp only
 cases cO (so (jq w 0 bY).1) [84]with
 |true=>rfl
 |false=>rfl
theorem P5 {s:List UInt8} {a b:Nat}:sub s (a:Int) (b:Int)=P8 s a b:=by simp[sub,P8]
theorem JB {s:List UInt8} {a b:Nat}:(P8 s a b).length<=s.length:=by
 unfold P8
 rw[List.length_drop,List.length_take];omega
theorem acE {s:List UInt8} (hs:s.length<=10000) {a:Nat} (ha:a<s.length):EN s (a:Int)=some (((l7 s a:Nat):Int),()):=by
 rw[asY s (by omega) (by omega) (by omega),Int.toNat_natCast]
 have:tN (s.drop a) (a:Int) bY=tN (s.drop a) a bY:=rfl
 unfold l7
 congr 2
theorem amx {s:List UInt8} (hs:s.length<=10000) {a:Nat} (ha:a<s.length) (x:Uj) (hp:x.2.2.1=true->x.2.1≠[]) (hl:x.2.1.length<=1000000):
  aet s a x=some ((ji s a x).1,((ji s a x).2,())):=by
 obtain⟨aw,pd,bd,u⟩:=x
 cases u
 simp only at hp hl
 unfold ji
 rw[aet]
 cases bd with
 |true=>
  obtain⟨d,r,rfl⟩: ∃d r,pd=d::r:=by
   cases pd with
   |nil=>exact absurd rfl (hp rfl)
   |cons d r=>exact⟨d,r,rfl⟩
  simp only[cond_true,if_true]
  rw[aK (dw (by omega) (by simp only[List.length_cons];omega)),show af (d::r) ([],(false,())) 0=d from rfl,alo (by omega) d (by omega),ae]
  simp only[List.headD_cons]
  by_cases hh:(vY s d.1 d.2.1 a).2=true
  rotate_left
  ·rw[Bool.not_eq_true]at hh
   simp only[hh,Bool.false_eq_true,if_false,show aH 0 0=true from rfl,cond_true,eG,fB,eX,Bool.and_true]
  ·have hsb:sub (d::r) 1 (ah (d::r))=r:=by simp[sub,aB]
   have hlt:fD 1 (ah (d::r))=decide (1<(d::r).length):=by
    unfold fD ah
    rw[decide_eq_decide];omega
   simp only[hh,if_true,show aH 1 0=false from rfl,cond_false,cond_true,eG,fB,eX,Bool.and_true,hsb]
   have hpt:bu (ah (d::r)) 1 (ah (d::r))=true:=dC (by omega) (by rw[aB];simp only[List.length_cons];omega) (by omega)
   simp only[hpt,hlt,cond_true]
   rfl
 |false=>
  have hlt:fD 0 (ah pd)=decide (0<pd.length):=by
   unfold fD ah
   rw[decide_eq_decide];omega
  have hin:dX s (a:Int)=true:=dw (by omega) (by omega)
  simp only[cond_false,Bool.false_eq_true,if_false]
  rw[aju (by omega) (by omega),ae]
  simp only
  by_cases hb:oH (s.drop a)=0
  ·rw[aU (iq (by omega)),hin,cond_true]
   by_cases h10:aI s a=10
   ·rw[aK (dJ h10)]
    simp only[eG,fB,eX,Bool.and_true,cond_true,hlt,show aH 0 0=true from rfl]
    rw[bI (by omega) (by omega),show(a:Int)+1=((a+1:Nat):Int) by omega]
    simp[iD,jf,hb,h10]
   ·rw[aU (bU h10)]
    by_cases h35:aI s a=35
    ·rw[aK (dJ h35),SH (by omega) (a:=a) (by omega) _ _ _ _ _ _ _ _ _ _ aO a (dh (by omega)) (Nat.le_refl _) (qy s a),ae]
     simp only[bF,eG,fB,eX,Bool.and_true,cond_true]
     simp[iD,jf,hb,h35]
    ·obtain⟨t1,t2⟩:=ajT (s.drop a)
     obtain⟨o1,o2,o3⟩:=FQ (s.drop a)
     rw[List.length_drop]at o1
     rw[aU (bU h35),asD s (by omega) (by omega),ae]
     simp only
     by_cases ho:(vK (s.drop a)).2=0
     ·have ho1:=o2.1 ho
      rw[ho1,aU (show fD 0 ((0:Nat):Int)=false from rfl)]
      have hd:=RJ (s:=s) (by omega) (a:=a) (by omega) (a:Int) 0 pd false 0 false 0 0 0 false aw pd false aO 0 (dh (by omega)) (by omega)
      rw[Nat.add_zero]at hd
      rw[hd,ae]
      simp only[bF]
      have hrg:=Fz (s.drop a)
      rw[List.length_drop]at hrg
      have hwl:=IW (s:=s) (a:=a) (by omega)
      have word: ∀(hn:tu (s.drop a)=0),(ai (EN s (a:Int)) fun y4=>
        bif bu (ah s) (a:Int) y4.1 then
         bif !aH aw 0 then
          bif dR (.pair .str (.pair .bool .unit)) pd pd then
           bif cO (sub s (a:Int) y4.1) (sub s (a:Int) y4.1)then
            bif aH aw aw then
             bif fF (aH aw 5) (aH aw 5)then
              bif aZ (az [] pd) 24 then
               bif cO (sub s (a:Int) y4.1) (sub s (a:Int) y4.1)then
                bif aH aw aw then
                 bif fF (aH aw 5) (aH aw 5)then
                  ai (Jq (sub s (a:Int) y4.1)) fun y5=>
                   bif dR (.pair .str (.pair .bool .unit)) pd pd then
                    bif cO (sub s (a:Int) y4.1) (sub s (a:Int) y4.1)then
                     bif aH aw aw then
                      bif fF (aH aw 5) (aH aw 5)then
                       bif((cO (sub s (a:Int) y4.1) (sub s (a:Int) y4.1)&&true)&&(cO y5.1 y5.1&&true))then
                        bif aZ (az (az [] pd) [(y5.1,(aH aw 5,()))]) 24 then
                         bif dR (.pair .str (.pair .bool .unit)) pd pd then
                          bif cO (sub s (a:Int) y4.1) (sub s (a:Int) y4.1)then
                           bif aH aw aw then
                            bif fF (aH aw 5) (aH aw 5)then
                             bif(cO y5.1 y5.1&&(fF (aH aw 5) (aH aw 5)&&true))then
                              ai (wK (sub s (a:Int) y4.1)) fun y6=>
                               bif(aH 0 0&&(fF false false&&true))then
                                some (((6:Int),((a:Int),(y4.1,(!y6.1,())))),(((0:Int),(az (az [] pd) [(y5.1,(aH aw 5,()))],(false,()))),()))
                               else none
                             else none
                            else none
                           else none
                          else none
                         else none
                        else none
                       else none
                      else none
                     else none
                    else none
                   else none
                 else none
                else none
               else none
              else none
             else none
            else none
           else none
          else none
         else ai (wK (sub s (a:Int) y4.1)) fun y5=>
          bif(aH 0 0&&(dR (.pair .str (.pair .bool .unit)) pd pd&&(fF false false&&true)))then
           some (((6:Int),((a:Int),(y4.1,(!y5.1,())))),(((0:Int),(pd,(false,()))),()))
          else none
        else none)=some (((6:Int),((a:Int),(((l7 s a:Nat):Int),(!YV (P8 s a (l7 s a)),())))),(((0:Int),((if aw=0 then pd else pd++[(BN (P8 s a (l7 s a)),decide (aw=5),())]),(false,()))),())):=by
       intro hn
       have hcl:=JB (s:=s) (a:=a) (b:=l7 s a)
       rw[acE hs ha,ae]
       simp only
       rw[aK (dC (by omega) (by omega) (by rw[aB];omega)),P5]
       by_cases h0:aw=0
       ·subst h0
        rw[show(!aH 0 0)=false from rfl,cond_false,afR _ (by omega),ae,if_pos rfl]
        simp only[eG,fB,eX,Bool.and_true,cond_true]
       ·rw[bU h0,if_neg h0]
        have hf1:aZ (az [] pd) 24=true:=mg (by unfold az;simp only[List.nil_append];omega)
        have hf2: ∀y,aZ (az (az [] pd) [y]) 24=true:=fun y=>mg (by unfold az;simp only[List.nil_append,List.length_append,List.length_singleton];omega)
        simp only[Bool.not_false,eG,jF,fB,eX,Bool.and_true,cond_true,hf1]
        rw[amg _ (by omega),ae]
        simp only[eG,jF,fB,eX,Bool.and_true,cond_true,hf2]
        rw[afR _ (by omega),ae]
        simp only[eU]
        rfl
      by_cases hg:iT (s.drop a)=0
      ·have hn:tu (s.drop a)=0:=by unfold tu;rw[if_neg (by simp[hg])]
       rw[aU (iq (by omega))]
       refine(word hn).trans ?_
       simp[iD,jf,hb,h10,h35,ho,hn]
      ·rw[aK (dM (by omega))]
       by_cases h1:a+iT (s.drop a)<s.length
       ·have hdd:((s.drop a).drop (iT (s.drop a))).head?=some s[a+iT (s.drop a)]:=by
         rw[List.drop_drop,List.drop_eq_getElem_cons h1];rfl
        have hin2:dX s ((a+iT (s.drop a):Nat):Int)=true:=dw (by omega) (by omega)
        rw[aK (dM (by rw[aB];omega)),hin2,cond_true,byte_at h1]
        by_cases e1:s[a+iT (s.drop a)]=60
        ·have hn:tu (s.drop a)=iT (s.drop a):=by unfold tu;rw[hdd,e1,if_pos (.inl ⟨hg,rfl⟩)]
         rw[e1,show aH (((60:UInt8).toNat:Nat):Int) 60=true from rfl]
         simp only[eG,fB,eX,Bool.and_true,cond_true]
         simp[iD,jf,hb,h10,h35,ho,hn,hg]
        ·rw[aU (bU fun h=>e1 (UInt8.toNat_inj.1 (by rw[show(60:UInt8).toNat=60 from rfl];omega))),cond_true]
         by_cases e2:s[a+iT (s.drop a)]=62
         ·have hn:tu (s.drop a)=iT (s.drop a):=by unfold tu;rw[hdd,e2,if_pos (.inr ⟨hg,rfl⟩)]
          rw[e2,show aH (((62:UInt8).toNat:Nat):Int) 62=true from rfl]
          simp only[eG,fB,eX,Bool.and_true,cond_true]
          simp[iD,jf,hb,h10,h35,ho,hn,hg]
         ·have hn:tu (s.drop a)=0:=by unfold tu;rw[hdd,if_neg (by simp[e1,e2])]
          rw[aU (bU fun h=>e2 (UInt8.toNat_inj.1 (by rw[show(62:UInt8).toNat=62 from rfl];omega)))]
          refine(word hn).trans ?_
          simp[iD,jf,hb,h10,h35,ho,hn]
       ·have hdd:((s.drop a).drop (iT (s.drop a))).head?=none:=by
         rw[List.drop_drop,List.drop_of_length_le (by omega)];rfl
        have hn:tu (s.drop a)=0:=by unfold tu;rw[hdd,if_neg (by simp)]
        rw[aU (iq (by rw[aB];omega))]
        refine(word hn).trans ?_
        simp[iD,jf,hb,h10,h35,ho,hn]
     ·have ho1:(vK (s.drop a)).1≠0:=fun h=>ho (o2.2 h)
      rw[aK (dM (by omega))]
      have hadd:aG .i64 (a:Int) (ah (Dx (vK (s.drop a)).1))=((a+(vK (s.drop a)).2:Nat):Int):=by
       rw[aB,t2,bI (by omega) (by omega)];omega
      by_cases h4:(vK (s.drop a)).1=4
      ·rw[aK (dJ (by omega)),t1,ae]
       simp only[eG,fB,eX,Bool.and_true,cond_true,hadd]
       simp[iD,jf,hb,h10,h35,ho,h4]
      ·rw[aU (bU (by omega))]
       by_cases h5:(vK (s.drop a)).1=5
       ·rw[aK (dJ (by omega)),t1,ae]
        simp only[eG,fB,eX,Bool.and_true,cond_true,hadd]
        simp[iD,jf,hb,h10,h35,ho,h5]
       ·rw[aU (bU (by omega)),t1,ae]
        simp only[eG,fB,eX,Bool.and_true,cond_true,hadd]
        simp[iD,jf,hb,h10,h35,ho,h4,h5]
  ·rw[aK (dM (by omega))]
   simp only[eG,fB,eX,Bool.and_true,cond_true]
   simp[iD,jf,hb]
end Go.Proofs.YtihafdllichkeaaGreatDoor
namespace Go.Proofs.YtihafdllichkeaaGreatDoor
open Go.RowKit
set_option linter.unusedVariables false
set_option linter.unusedSimpArgs false
set_option maxRecDepth 100000
def mF (s:List UInt8):Nat->Nat->List Tok->Uj->List Tok×Uj
 |0,_,l,x=>(l,x)
 |n+1,a,l,x=>if a<s.length then mF s n (ji s a x).1.2.2.1.toNat (l++[(ji s a x).1]) (ji s a x).2 else(l,x)
def gX (s:List UInt8):List Tok×Uj:=mF s (s.length+1) 0 [] (0,[],false,())
def OkX (x:Uj):Prop:=x.2.2.1=true->x.2.1≠[]
theorem JD (s:List UInt8) (a:Nat) {x:Uj} (h:OkX x):OkX (ji s a x).2/\(ji s a x).2.2.1.length<=x.2.1.length+1:=by
  obtain⟨aw,pd,bd,u⟩:=x
  unfold OkX at*
  unfold ji
  simp only at h ⊢
  split
  · split
    · refine⟨fun hb=> ?_,by simp only[List.length_tail];omega⟩
      simp only[decide_eq_true_eq]at hb
      intro e
      have:=congrArg List.length e
      simp only[List.length_tail,List.length_nil]at this
      omega
    · exact⟨h,by simp only;omega⟩
  · unfold jf
    repeat' split
    all_goals refine⟨fun hb=> ?_, ?_⟩
    all_goals first
      |exact absurd hb Bool.false_ne_true
      | (simp only[decide_eq_true_eq]at hb
         intro e
         simp only at e
         rw[e]at hb
         simp at hb;done)
      | (simp only;omega)
      | (simp only[List.length_append,List.length_singleton];omega)
theorem Dk {s:List UInt8} (hs:s.length<=10000): ∀(n m a:Nat) (l:List Tok) (x:Uj),s.length<n+a->s.length<m+a->mF s n a l x=mF s m a l x
 |0,0,a,l,x,_,_=>rfl
 |0,m+1,a,l,x,h,_=>by rw[mF,mF,if_neg (by omega)]
 |n+1,0,a,l,x,_,h=>by rw[mF,mF,if_neg (by omega)]
 |n+1,m+1,a,l,x,h1,h2=>by
  rw[mF,mF]
  split
  ·rename_i ha
   have:=xk hs ha x
   exact Dk hs n m _ _ _ (by omega) (by omega)
  ·rfl
theorem TW {s:List UInt8} (hs:s.length<=10000) (v6:Int) (v7:Bool): ∀(N a:Nat) (l:List Tok) (x:Uj),s.length-a<N->a<=s.length->OkX x->x.2.1.length<=a->l.length<=a->
  zZ N s (a:Int) l x.1 x.2.1 x.2.2.1 v6 v7=some (.inl ((),((mF s N a l x).1,((mF s N a l x).2.1,(mF s N a l x).2.2.1,(mF s N a l x).2.2.2.1,()),(v6,v7,()),())))
 |0,a,l,x,h,_,_,_,_=>by omega
 |N+1,a,l,x,h,ha,hx,hp,hl=>by
  rw[zZ,OI,mF]
  by_cases e:a<s.length
  ·have hto:=xk hs e x
   have hok:=JD s a hx
   have hx':(x.1,(x.2.1,(x.2.2.1,())))=x:=rfl
   rw[aK (dM (by rw[aB];omega)),hx',amx hs e x hx (by omega),ae,if_pos e]
   simp only
   rw[aK (mg (by unfold az;simp only[List.length_append,List.length_singleton];omega))]
   obtain⟨b,hb⟩: ∃b:Nat,(ji s a x).1.2.2.1=(b:Int):=⟨(ji s a x).1.2.2.1.toNat,by omega⟩
   have ih:=TW hs v6 v7 N b (l++[(ji s a x).1]) (ji s a x).2 (by omega) (by omega) hok.1 (by omega) (by simp only[List.length_append,List.length_singleton];omega)
   rw[hb,Int.toNat_natCast]
   rw[<-ih]
   rw[<-hb]
   rfl
  ·rw[aU (gp (by rw[aB];omega)),if_neg e]
theorem akG {s:List UInt8} (hs:s.length<=10000):aeS s=some ((gX s).1,((gX s).2,())):=by
 have h:=TW hs 0 false aO 0 [] (0,[],false,()) (dh (by omega)) (by omega) (fun h=>by cases h) (by simp) (by simp)
 have hm:mF s aO 0 [] (0,[],false,())=gX s:=Dk hs _ _ _ _ _ (by have:=dh (n:=s.length) (by omega);omega) (by omega)
 rw[aeS,show zZ aO s 0 [] 0 [] false 0 false=_ from h,ae,hm]
 rfl
structure OkT (s:List UInt8) (t:Tok):Prop where
 f0:0<=t.2.1
 ft:t.2.1<t.2.2.1
 t1:t.2.2.1<=s.length
theorem ZQ {s:List UInt8} (hs:s.length<=10000): ∀(n a:Nat) (l:List Tok) (x:Uj),OkX x->l.length<=a->a<=s.length->(∀t∈l,OkT s t)->(∀t∈(mF s n a l x).1,OkT s t)/\OkX (mF s n a l x).2/\(mF s n a l x).1.length<=s.length
 |0,a,l,x,hx,hl,ha,h=>⟨h,hx,by rw[mF];simp only;omega⟩
 |n+1,a,l,x,hx,hl,ha,h=>by
  rw[mF]
  split
  ·rename_i e
   have hto:=xk hs e x
   exact ZQ hs n _ _ _ (JD s a hx).1 (by simp only[List.length_append,List.length_singleton];omega) (by omega) (fun t ht=>by
    rcases List.mem_append.1 ht with h1|h1
    ·exact h t h1
    ·rw[List.mem_singleton.1 h1]
     exact⟨by omega,by omega,by omega⟩)
  ·exact⟨h,hx,by simp only;omega⟩
theorem vX {s:List UInt8} (hs:s.length<=10000):(∀t∈(gX s).1,OkT s t)/\OkX (gX s).2/\(gX s).1.length<=s.length:=
 ZQ hs _ _ _ _ (fun h=>by cases h) (by simp) (by omega) (fun t ht=>by cases ht)
def Qp (t:Tok):Bool:=decide (t.1=2)||decide (t.1=4)||decide (t.1=5)||decide (t.1=6)
def asa (s:List UInt8) (t:Tok):Int×List UInt8×Int×Int×Unit:=(t.1,sub s t.2.1 t.2.2.1,t.2.1,t.2.2.1,())
def gJ (s:List UInt8) (l:List Tok):List (Int×List UInt8×Int×Int×Unit):=(l.filter Qp).map (asa s)
theorem EE {s:List UInt8} (hs:s.length<=10000) (l:List Tok) (hl:l.length<=10000) (hok: ∀t∈l,OkT s t): ∀(N k:Nat),l.length-k<N->k<=l.length->
  wS N s l (k:Int) (gJ s (l.take k))=some (.inl ((),(gJ s l,())))
 |0,k,h,_=>by omega
 |N+1,k,h,hk=>by
  rw[wS,NE]
  by_cases e:k<l.length
  ·have hg:af l (0,(0,(0,(false,())))) (k:Int)=l[k]:=by
    unfold af
    rw[Int.toNat_natCast,List.getD_eq_getElem?_getD,List.getElem?_eq_getElem e];rfl
   have hin:dX l (k:Int)=true:=dw (by omega) (by omega)
   obtain⟨o1,o2,o3⟩:=hok _ (List.getElem_mem e)
   have hpt:bu (ah s) l[k].2.1 l[k].2.2.1=true:=dC o1 (by omega) (by rw[aB];omega)
   have hlen:(gJ s (l.take k)).length<=10000:=by
    unfold gJ
    rw[List.length_map]
    have:=List.length_filter_le Qp (l.take k)
    rw[List.length_take]at this;omega
   have hfit: ∀y,aZ (az (gJ s (l.take k)) [y]) 40=true:=fun y=>mg (by unfold az;simp only[List.length_append,List.length_singleton];omega)
   have ih:=EE hs l hl hok N (k+1) (by omega) (by omega)
   have hts:l.take (k+1)=l.take k++[l[k]]:=by rw[List.take_add_one,List.getElem?_eq_getElem e];rfl
   have hadd:aG .i64 (k:Int) 1=((k+1:Nat):Int):=by rw[bI (by omega) (by omega)];omega
   have yes:Qp l[k]=true->wS N s l ((k+1:Nat):Int) (az (gJ s (l.take k)) [(l[k].1,(sub s l[k].2.1 l[k].2.2.1,(l[k].2.1,(l[k].2.2.1,()))))])=some (.inl ((),(gJ s l,()))):=fun hy=>by
    rw[<-ih]
    congr 1
    unfold gJ
    rw[hts,List.filter_append,List.map_append,List.filter_cons_of_pos hy]
    rfl
   rw[aK (dM (by rw[aB];omega)),hin]
   simp only[cond_true,hg,hpt,hfit,hadd]
   unfold Qp at yes
   by_cases h2:l[k].1=2
   ·rw[aK (dJ h2)];exact yes (by simp[h2])
   ·rw[aU (bU h2)]
    by_cases h4:l[k].1=4
    ·rw[aK (dJ h4)];exact yes (by simp[h4])
    ·rw[aU (bU h4)]
     by_cases h5:l[k].1=5
     ·rw[aK (dJ h5)];exact yes (by simp[h5])
     ·rw[aU (bU h5)]
      by_cases h6:l[k].1=6
      ·rw[aK (dJ h6)];exact yes (by simp[h6])
      ·rw[aU (bU h6),<-ih]
       congr 1
       unfold gJ
       rw[hts,List.filter_append,List.filter_cons_of_neg (by unfold Qp;simp[h2,h4,h5,h6])]
       simp
  ·rw[aU (gp (by rw[aB];omega)),List.take_of_length_le (by omega)]
theorem aoW {s:List UInt8} (hs:s.length<=10000):al0 s=some (gJ s (gX s).1,()):=by
 obtain⟨h1,h2,h3⟩:=vX hs
 rw[al0,akG hs,ae]
 simp only
 have h:=EE hs (gX s).1 (by omega) h1 aO 0 (dh (by omega)) (by omega)
 rw[show wS aO s (gX s).1 0 []=_ from h,ae]
 rfl
end Go.Proofs.YtihafdllichkeaaGreatDoor
