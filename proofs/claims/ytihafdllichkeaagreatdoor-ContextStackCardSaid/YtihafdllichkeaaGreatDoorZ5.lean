/- Parts of the proof, joined and shortened by a program: the plain machine, the functions as it prints them, and the mathematics over them. -/
import Derived.Test.YtihafdllichkeaaGreatDoorZ4
namespace Go.Proofs.YtihafdllichkeaaGreatDoor
open Go.RowKit
set_option linter.unusedVariables false
set_option linter.unusedSimpArgs false
set_option maxRecDepth 100000
def lg:List UInt8->Int->dm×Bool->List iO->List iO
 |[],_,_,L=>L
 |b::l,a,x,L=>lg l (a+1) (dn x.1 x.2 (gq b) a) (EX (kT (dn x.1 x.2 (gq b) a).1) a L)
def nU (s:List UInt8) (p:iO):iO:=
 if p.1=12 then(p.1,p.2.1,p.2.1+1+((prl (s.drop (p.2.1+1).toNat):Nat):Int),p.2.2.2.1,false,())
 else if p.2.2.2.2.1=true then(p.1,p.2.1,(s.length:Int),p.2.2.2.1,true,())else p
def aJ (s:List UInt8):List iO:=(lg s 0 bY []).map (nU s)
theorem acM (F:List yH) (a:Int) (L:List iO):(EX F a L).length<=L.length+1:=by
 unfold EX
 rw[List.length_append,List.length_map]
 split<;>simp
theorem Ci (s:dm):(kT s).length<=s.length:=by simp[kT]
theorem aiw {l:List yH} (h:l.length<1000000):kK l=some (l,()):=by
 unfold kK mr
 have:aZ l 16=true:=decide_eq_true (by unfold jh;omega)
 rw[this];rfl
theorem agR (s:List UInt8) (hs:s.length<=100000): ∀(N:Nat) (i:Int) (x:dm×Bool) (L:List iO) (H:List Int),(s.length:Int)-i<N->0<=i->i<=s.length->eu x.1->(x.1.length:Int)<=i+1->Inv L H (kT x.1) i->(L.length:Int)<=i->
  ∃H' F',yw N s (ah s) i x.2 i (lo x.1) H L=some (.inl ((s,()),(H',lg (s.drop i.toNat) i x L,(),())))/\Inv (lg (s.drop i.toNat) i x L) H' F' s.length/\(lg (s.drop i.toNat) i x L).length<=s.length
 |0,i,x,L,H,h,_,_,_,_,_,_=>by omega
 |N+1,i,x,L,H,h,h0,hi,hg,hl,hinv,hLl=>by
  rw[yw,FO]
  by_cases e:i<s.length
  ·obtain⟨b,hd,hb⟩:=drop_at h0 e
   have hst:=good_step hg x.2 (aI s i) i
   have hlen:(lo (dn x.1 x.2 (aI s i) i).1).length≠0:=by
    rw[jk]
    intro e
    rw[List.eq_nil_of_length_eq_zero e]at hst
    exact hst.1
   obtain⟨c,hc,hpl⟩:=AU hg x.2 (aI s i) i
   rw[<-mZ,<-mZ]at hpl
   rw[<-mZ,List.length_map]at hc
   obtain⟨q1,q2,q3,q4⟩:=agG hinv hc hpl
   obtain⟨t,ht⟩:=alW hst.1
   have hfl:=Ci (dn x.1 x.2 (aI s i) i).1
   have hfl0:=Ci x.1
   have hHn:=hinv.len
   have hsee:=an9 (t:=t) (L:=L) (H:=H) (F:=kT (dn x.1 x.2 (aI s i) i).1) (a:=i) h0 (by omega) (by have:=hst.2;omega) (by omega) (by omega)
    (fun j hj=>by
     obtain⟨n,hn,he⟩:=List.getElem_of_mem hj
     have:=hinv.nn n hn
     rw[List.getD_eq_getElem?_getD,List.getElem?_eq_getElem hn]at this
     simp only[Option.getD_some,he]at this
     omega) q1 q2
   have hgl:=acM (kT (dn x.1 x.2 (aI s i) i).1) i L
   obtain⟨H',F',r1,r2,r3⟩:=agR s hs N (i+1) (dn x.1 x.2 (aI s i) i) (EX (kT (dn x.1 x.2 (aI s i) i).1) i L) (O7 L H (kT (dn x.1 x.2 (aI s i) i).1) i).2 (by omega) (by omega) (by omega) hst.1 (by have:=hst.2;omega) (by rw[<-q3];exact q4) (by omega)
   rw[aK (dM (b:=ah s) e),aK (dw h0 e),XO hg (by omega) x.2 (jm s i) h0 (by omega),ae]
   simp only[pst]
   rw[aU (bU (by rw[aB];omega)),aiw (by rw[jk];have:=hst.2;omega),ae]
   simp only
   rw[ht,hsee,ae]
   simp only
   rw[bI (by omega) (by omega),hd,lg,<-hb,q3,<-ht]
   exact⟨H',F',r1,r2,r3⟩
  ·have hi':i=s.length:=by omega
   rw[aU (iq (b:=ah s) (by rw[aB];omega)),xn (by omega),lg]
   exact⟨H,kT x.1,rfl,by rw[<-hi'];exact hinv,by omega⟩
theorem akP (s:List UInt8) (hs:s.length<=100000) (H:List Int): ∀(N i:Nat) (L:List iO),L.length-i<N->i<=L.length->L.length<1000000->(∀j,j<L.length->0<=(ay L dP j).2.1/\(ay L dP j).2.1<s.length)->
  nS N s (ah L) (i:Int) H L=some (.inl ((),(H,L.take i++(L.drop i).map (nU s),(),())))
 |0,i,L,h,_,_,_=>by omega
 |N+1,i,L,h,hi,hl,hf=>by
  rw[nS,CG]
  by_cases e:i<L.length
  ·have hlt:pR (au (i:Int)) L=true:=qp (by simp only[au];omega)
   have hin:dX L (i:Int)=true:=dw (by omega) (by omega)
   have hni:au (i:Int)=i:=by simp[au]
   have gz: ∀x,ay (dD L i x) (0,(0,(0,(0,(false,()))))) i=x:=fun x=>Ba e
   have hlt2:pR i L=true:=by rw[<-hni];exact hlt
   have hfi:=hf i e
   have hpar:KW s (aG .i64 (ay L (0,(0,(0,(0,(false,()))))) i).2.1 1)=some (((prl (s.drop ((ay L dP i).2.1+1).toNat):Nat):Int),()):=by
    have hfi':0<=(ay L (0,(0,(0,(0,(false,()))))) i).2.1/\(ay L (0,(0,(0,(0,(false,()))))) i).2.1<s.length:=hfi
    rw[bI (by omega) (by omega)]
    obtain⟨a,ha⟩: ∃a:Nat,(ay L (0,(0,(0,(0,(false,()))))) i).2.1+1=(a:Int):=⟨((ay L (0,(0,(0,(0,(false,()))))) i).2.1+1).toNat,by omega⟩
    have ha':(ay L dP i).2.1+1=(a:Int):=ha
    rw[ha,ha',Int.toNat_natCast,ai9 (by omega) (by omega)]
   have hadd:aG .i64 (aG .i64 (ay L (0,(0,(0,(0,(false,()))))) i).2.1 1) ((prl (s.drop ((ay L dP i).2.1+1).toNat):Nat):Int)=(ay L dP i).2.1+1+((prl (s.drop ((ay L dP i).2.1+1).toNat):Nat):Int):=by
    have h1:=Wq (s.drop ((ay L dP i).2.1+1).toNat)
    rw[List.length_drop]at h1
    have hfi':0<=(ay L (0,(0,(0,(0,(false,()))))) i).2.1/\(ay L (0,(0,(0,(0,(false,()))))) i).2.1<s.length:=hfi
    rw[bI (a:=(ay L (0,(0,(0,(0,(false,()))))) i).2.1) (by omega) (by omega),bI (by omega) (by omega)];rfl
   have hai:aG .i64 (i:Int) 1=((i+1:Nat):Int):=by rw[bI (by omega) (by omega)];omega
   have go: ∀x,x=nU s (ay L dP i)->nS N s (ah L) ((i+1:Nat):Int) H (dD L i x)=some (.inl ((),(H,L.take i++(L.drop i).map (nU s),(),()))):=fun x hx=>by
    have hfr:(nU s (ay L dP i)).2.1=(ay L dP i).2.1:=by
     unfold nU
     split
     ·rfl
     ·split<;>rfl
    have ih:=akP s hs H N (i+1) (dD L i x) (by rw[uX];omega) (by rw[uX];omega) (by rw[uX];exact hl) (fun j hj=>by
     rw[uX]at hj
     by_cases hji:i=j
     ·subst hji
      have:ay (dD L i x) dP i=x:=Ba e
      rw[this,hx,hfr];exact hfi
     ·rw[Ap hji];exact hf j hj)
    have e1:ah (dD L i x)=ah L:=by rw[aB,aB,uX]
    rw[e1]at ih
    rw[ih]
    congr 4
    have h1:(dD L i x).take (i+1)=L.take i++[x]:=by
     unfold dD
     rw[List.take_add_one,List.getElem?_set_self e,List.take_set_of_le (by omega)];rfl
    have h2:(dD L i x).drop (i+1)=L.drop (i+1):=by
     unfold dD;rw[List.drop_set_of_lt (by omega)]
    rw[h1,h2,List.drop_eq_getElem_cons e,List.map_cons,hx,kJ e,List.append_assoc];rfl
   rw[aK (dM (by rw[aB];omega))]
   simp only[hni,hin,hlt2,YM,gz,Sl,cond_true,RF,Bool.and_true,hai]
   by_cases ho:(ay L dP i).2.2.2.2.1=true
   ·have ho':(ay L (0,(0,(0,(0,(false,()))))) i).2.2.2.2.1=true:=ho
    rw[ho',cond_true]
    by_cases hm:(ay L dP i).1=12
    ·have hm':(ay L (0,(0,(0,(0,(false,()))))) i).1=12:=hm
     rw[hm',aK (dJ rfl),hpar,ae]
     simp only[hadd]
     refine go _ ?_
     unfold nU
     rw[if_pos hm,hm];rfl
    ·have hm': ¬(ay L (0,(0,(0,(0,(false,()))))) i).1=12:=hm
     rw[aU (bU hm')]
     refine go _ ?_
     unfold nU
     rw[if_neg hm,if_pos ho];rfl
   ·have ho':(ay L (0,(0,(0,(0,(false,()))))) i).2.2.2.2.1=false:=Bool.eq_false_iff.2 ho
    rw[ho',cond_false]
    by_cases hm:(ay L dP i).1=12
    ·have hm':(ay L (0,(0,(0,(0,(false,()))))) i).1=12:=hm
     rw[hm',aK (dJ rfl),hpar,ae]
     simp only[hadd]
     refine go _ ?_
     unfold nU
     rw[if_pos hm,hm];rfl
    ·have hm': ¬(ay L (0,(0,(0,(0,(false,()))))) i).1=12:=hm
     rw[aU (bU hm')]
     have hsame:dD L i (ay L dP i)=L:=by
      unfold dD
      rw[kJ e,List.set_getElem_self]
     have:=go (ay L dP i) (by unfold nU;rw[if_neg hm,if_neg ho])
     rw[hsame]at this
     exact this
  ·have hi':i=L.length:=by omega
   rw[aU (gm (by rw[aB];omega)),hi',List.take_length,List.drop_length]
   simp
theorem aa3:Inv [] [] (kT bY.1) 0:={
 len:=rfl
 nn:=fun n hn=>by cases hn
 frm:=fun n hn=>by cases hn
 opn:=fun j hj=>by rw[Yv (by simp)]at hj;cases hj
 lt:=fun j hj=>by cases hj
 inj:=fun i j hi=>by cases hi
 fd:=fun m n hm=>by cases hm}
theorem MW: ∀(l:List UInt8) (a:Int) (x:dm×Bool) (L:List iO),0<=a->(∀p∈L,0<=p.2.1)-> ∀p∈lg l a x L,0<=p.2.1
 |[],a,x,L,ha,h,p,hp=>h p hp
 |b::l,a,x,L,ha,h,p,hp=>by
  rw[lg]at hp
  refine MW l (a+1) _ _ (by omega) (fun p hp=> ?_) p hp
  unfold EX at hp
  rcases List.mem_append.1 hp with h1|h1
  ·obtain⟨q,hq,rfl⟩:=List.mem_map.1 h1
   have:(jI (kT (dn x.1 x.2 (gq b) a).1) a q).2.1=q.2.1:=by
    unfold jI
    split
    ·split<;>rfl
    ·rfl
   rw[this];exact h q hq
  ·split at h1
   ·rw[List.mem_singleton.1 h1];exact ha
   ·cases h1
theorem auT (s:List UInt8) (hs:s.length<=100000):Zq s=some (aJ s,()):=by
 obtain⟨H',F',h1,h2,h3⟩:=agR s hs aO 0 bY [] [] (by have:=EF (n:=s.length) (by omega);omega) (by omega) (by omega) iC (by simp[bY]) aa3 (by simp)
 unfold Zq
 rw[show([(0,(0,()))]:List (Int×Int×Unit))=lo bY.1 from rfl,show(true:Bool)=bY.2 from rfl,h1,ae]
 simp only[bF,Int.toNat_zero,List.drop_zero]at h2 h3 ⊢
 have hnn:=MW s 0 bY [] (by omega) (fun p hp=>by cases hp)
 have h4:=akP s hs H' aO 0 (lg s 0 bY []) (EF (by omega)) (by omega) (by omega) (fun j hj=>by
  refine⟨?_,h2.lt j hj⟩
  rw[kJ hj];exact hnn _ (List.getElem_mem hj))
 rw[show nS aO s (ah (lg s 0 bY [])) 0 H' (lg s 0 bY [])=_ from h4,ae]
 simp[aJ]
end Go.Proofs.YtihafdllichkeaaGreatDoor
namespace Go.Proofs.YtihafdllichkeaaGreatDoor
open Go.RowKit
set_option linter.unusedVariables false
set_option linter.unusedSimpArgs false
set_option maxRecDepth 100000
def qx:List UInt8->Int->dm×Bool->iO->iO
 |[],_,_,p=>p
 |b::l,a,x,p=>qx l (a+1) (dn x.1 x.2 (gq b) a) (jI (kT (dn x.1 x.2 (gq b) a).1) a p)
def nT:List UInt8->Int->dm×Bool->List Int->List iO
 |[],_,_,_=>[]
 |b::l,a,x,fr=>
  if Ol (kT (dn x.1 x.2 (gq b) a).1) a=true then qx l (a+1) (dn x.1 x.2 (gq b) a) (sD (kT (dn x.1 x.2 (gq b) a).1) a fr)::nT l (a+1) (dn x.1 x.2 (gq b) a) (fr++[a])
  else nT l (a+1) (dn x.1 x.2 (gq b) a) fr
theorem MZ (F:List yH) (a:Int) (p:iO):(jI F a p).2.1=p.2.1:=by
 unfold jI
 split
 ·split<;>rfl
 ·rfl
theorem yh: ∀(l:List UInt8) (a:Int) (x:dm×Bool) (p:iO),(qx l a x p).2.1=p.2.1
 |[],_,_,_=>rfl
 |b::l,a,x,p=>by rw[qx,yh l,MZ]
theorem DN (s:List UInt8) (p:iO):(nU s p).2.1=p.2.1:=by
 unfold nU
 split
 ·rfl
 ·split<;>rfl
theorem KT: ∀(l:List UInt8) (a:Int) (x:dm×Bool) (p:iO),p.2.2.2.2.1=false->qx l a x p=p
 |[],_,_,_,_=>rfl
 |b::l,a,x,p,h=>by
  rw[qx]
  have:jI (kT (dn x.1 x.2 (gq b) a).1) a p=p:=by unfold jI;rw[h];rfl
  rw[this]
  exact KT l _ _ p h
theorem Hr: ∀(l:List UInt8) (a:Int) (x:dm×Bool) (L:List iO),lg l a x L=L.map (qx l a x)++nT l a x (L.map (·.2.1))
 |[],a,x,L=>by
  have:(qx [] a x)=id:=rfl
  rw[lg,nT,this];simp
 |b::l,a,x,L=>by
  rw[lg,Hr l,nT]
  have hm:L.map (qx (b::l) a x)=(L.map (jI (kT (dn x.1 x.2 (gq b) a).1) a)).map (qx l (a+1) (dn x.1 x.2 (gq b) a)):=by
   rw[List.map_map];rfl
  have hf:(L.map (jI (kT (dn x.1 x.2 (gq b) a).1) a)).map (·.2.1)=L.map (·.2.1):=by
   rw[List.map_map]
   exact List.map_congr_left fun p _=>MZ _ _ p
  unfold EX
  rw[hm]
  split
  ·rw[List.map_append,List.map_append,hf]
   simp only[List.map_cons,List.map_nil,List.append_assoc,List.cons_append,List.nil_append]
   rfl
  ·rw[List.append_nil,hf]
theorem qX (s:List UInt8):aJ s=(nT s 0 bY []).map (nU s):=by
 unfold aJ
 rw[Hr];rfl
structure PL (x:dm) (i:Int):Prop where
 up:(uu x).Pairwise (· < ·)
 lt: ∀v∈uu x,v<i
theorem aeH:PL bY.1 0:=⟨List.Pairwise.nil,fun v hv=>by cases hv⟩
theorem ajY {s:dm} {i:Int} (hg:eu s) (h:PL s i) (fr:Bool) (b:Int):PL (dn s fr b i).1 (i+1):=by
 obtain⟨c,hc,e|e⟩:=AU hg fr b i
 ·refine⟨by rw[e];exact h.up.sublist (List.take_sublist ..),fun v hv=> ?_⟩
  rw[e]at hv
  have:=h.lt v (List.mem_of_mem_take hv);omega
 ·refine⟨?_,fun v hv=> ?_⟩
  ·rw[e,List.pairwise_append]
   refine⟨h.up.sublist (List.take_sublist ..),List.pairwise_singleton ..,fun a ha b hb=> ?_⟩
   rw[List.mem_singleton.1 hb]
   exact h.lt a (List.mem_of_mem_take ha)
  ·rw[e]at hv
   rcases List.mem_append.1 hv with h1|h1
   ·have:=h.lt v (List.mem_of_mem_take h1);omega
   ·rw[List.mem_singleton.1 h1];omega
theorem Oc {l:List Int} (h:l.Pairwise (· < ·)) {m n:Nat} {v:Int} (hm:l[m]? =some v) (hn:l[n]? =some v):m=n:=by
 obtain⟨m1,m2⟩:=List.getElem?_eq_some_iff.1 hm
 obtain⟨n1,n2⟩:=List.getElem?_eq_some_iff.1 hn
 rw[List.pairwise_iff_getElem]at h
 rcases Nat.lt_trichotomy m n with h1|h1|h1
 ·have:=h m n m1 n1 h1;omega
 ·exact h1
 ·have:=h n m n1 m1 h1;omega
theorem aiP {l:List Int} (h:l.Pairwise (· < ·)) {n:Nat} {v:Int} (hn:l[n]? =some v):l.findIdx? (· ==v)=some n:=by
 obtain⟨n1,n2⟩:=List.getElem?_eq_some_iff.1 hn
 cases hf:l.findIdx? (· ==v)with
 |none=>
  rw[List.findIdx?_eq_none_iff]at hf
  have:=hf v (List.mem_of_getElem? hn)
  simp at this
 |some m=>
  obtain⟨m1,m2,_⟩:=List.findIdx?_eq_some_iff_getElem.1 hf
  have:l[m]? =some v:=by rw[List.getElem?_eq_getElem m1];simpa using m2
  rw[Oc h this hn]
theorem stay {s:dm} {i v:Int} {n:Nat} (hg:eu s) (h:PL s i) (hn:(uu s)[n]? =some v) (fr:Bool) (b:Int):(uu (dn s fr b i).1)[n]? =some v\/v∉uu (dn s fr b i).1:=by
 have hvi:=h.lt v (List.mem_of_getElem? hn)
 obtain⟨c,hc,e|e⟩:=AU hg fr b i<;>rw[e]
 ·by_cases hnc:n<c
  ·left;rw[List.getElem?_take,if_pos hnc];exact hn
  ·right;intro hv
   obtain⟨m,hm⟩:=List.getElem?_of_mem hv
   rw[List.getElem?_take]at hm
   split at hm
   ·rename_i hmc
    have:=Oc h.up hm hn;omega
   ·cases hm
 ·have hcl:((uu s).take c).length=c:=by rw[List.length_take];omega
  by_cases hnc:n<c
  ·left;rw[List.getElem?_append_left (by omega),List.getElem?_take,if_pos hnc];exact hn
  ·right;intro hv
   rcases List.mem_append.1 hv with h1|h1
   ·obtain⟨m,hm⟩:=List.getElem?_of_mem h1
    rw[List.getElem?_take]at hm
    split at hm
    ·rename_i hmc
     have:=Oc h.up hm hn;omega
    ·cases hm
   ·rw[List.mem_singleton.1 h1]at hvi;omega
def atM (s:dm) (v:Int):Int:=match(uu s).findIdx? (· ==v)with
 |some n=>((n+1:Nat):Int)
 |none=>0
theorem ae3 {s:dm} (hg:eu s): ∃t,po s=t::uu s:=by
 have hne:s≠[]:=by rintro rfl;exact hg
 refine⟨(s.getLast hne).2, ?_⟩
 conv=>lhs;rw[<-List.dropLast_concat_getLast hne]
 simp[po,uu]
theorem alV {s:dm} (hg:eu s): ∃t,so s=t::(kT s).map fun f=>letter f.1:=by
 have hne:s≠[]:=by rintro rfl;exact hg
 refine⟨letter (s.getLast hne).1, ?_⟩
 conv=>lhs;rw[<-List.dropLast_concat_getLast hne]
 simp[so,kT,List.map_reverse]
 rfl
theorem YP (v:Int) (S:List UInt8) (P:List Int) (fr:Bool) (hP:P.length<1000000): ∀(N j:Nat),P.length-j<N->
  uG N v (j:Int) S P fr=some (match(P.drop j).findIdx? (· ==v)with|some n=>.inr ((((j+n:Nat):Int),()),())|none=>.inl ((),()))
 |0,j,h=>by omega
 |N+1,j,h=>by
  rw[uG,Gj]
  by_cases e:j<P.length
  ·have hg:af P 0 (j:Int)=P[j]:=by unfold af;rw[Int.toNat_natCast,List.getD_eq_getElem?_getD,List.getElem?_eq_getElem e];rfl
   rw[aK (dM (by rw[aB];omega)),aK (dw (by omega) (by omega)),hg,List.drop_eq_getElem_cons e,List.findIdx?_cons,eQ]
   by_cases e2:P[j]=v
   ·simp[e2]
   ·rw[bI (by omega) (by omega),show(j:Int)+1=((j+1:Nat):Int) by omega,YP v S P fr hP N (j+1) (by omega)]
    simp only[e2,decide_false,cond_false,beq_iff_eq,if_false]
    cases (P.drop (j+1)).findIdx? (· ==v)with
    |none=>rfl
    |some n=>simp only[Option.map_some];rw[show j+1+n=j+(n+1) by omega]
  ·rw[aU (gm (by rw[aB];omega)),List.drop_of_length_le (by omega)];rfl
theorem ame {s:dm} (hg:eu s) (hl:s.length<900000) (fr:Bool) (v:Int):SS (so s,(po s,(fr,()))) v=some (atM s v,()):=by
 unfold SS
 obtain⟨t,ht⟩:=ae3 hg
 have h:=YP v (so s) (po s) fr (by rw[Hg];omega) aO 1 (dh (by rw[Hg];omega))
 rw[show uG aO v 1 (so s) (po s) fr=_ from h,ae,ht]
 simp only[List.drop_succ_cons,List.drop_zero]
 unfold atM
 cases (uu s).findIdx? (· ==v)with
 |none=>rfl
 |some n=>simp only[bF];congr 2;omega
theorem afI: ∀n:Fin 15,YK ((letter ((n.val:Nat):Int)).toNat:Int)=some (counts ((n.val:Nat):Int),()):=by decide+kernel
theorem alR {m:Int} (h0:0<=m) (h1:m<=14):YK ((letter m).toNat:Int)=some (counts m,()):=by
 have:=afI ⟨m.toNat,by omega⟩
 rwa [show(((⟨m.toNat,by omega⟩:Fin 15).val:Nat):Int)=m from Int.toNat_of_nonneg h0]at this
theorem uU: ∀{s:dm},eu s-> ∀f∈s,0<=f.1/\f.1<=14
 |[],h=>by cases h
 |[f],h=>by
  intro g hg
  rw[List.mem_singleton.1 hg]
  have:f.1=0:=h
  omega
 |f::g::r,h=>by
  intro q hq
  rcases List.mem_cons.1 hq with rfl|h1
  ·have:=h.1;have:=h.2.1;omega
  ·exact uU h.2.2.2 q h1
theorem abu {s:dm} (hg:eu s) {n:Nat} (hn:n<(kT s).length):0<=((kT s).getD n dF).1/\((kT s).getD n dF).1<=14:=by
 have hm:(kT s).getD n dF∈kT s:=by rw[List.getD_eq_getElem?_getD,List.getElem?_eq_getElem hn];exact List.getElem_mem hn
 generalize (kT s).getD n dF=q at hm
 unfold kT at hm
 rw[List.mem_reverse,List.mem_map]at hm
 obtain⟨f,hf,rfl⟩:=hm
 exact uU hg f (List.dropLast_subset s hf)
theorem asr {s:dm} (hg:eu s) {n:Nat} (hn:n<(kT s).length):aI (so s) ((n+1:Nat):Int)=((letter ((kT s).getD n dF).1).toNat:Int)/\dX (so s) ((n+1:Nat):Int)=true:=by
 obtain⟨t,ht⟩:=alV hg
 rw[ht]
 refine⟨?_,dw (by omega) (by simp;omega)⟩
 unfold aI
 rw[Int.toNat_natCast,List.getD_cons_succ,List.getD_eq_getElem?_getD,List.getD_eq_getElem?_getD,List.getElem?_map,List.getElem?_eq_getElem hn];rfl
theorem rO (s:dm):(kT s).length=(uu s).length:=by rw[<-mZ,List.length_map]
theorem ahy {s:dm} {n:Nat} {v:Int} (h:(uu s)[n]? =some v):((kT s).getD n dF).2.1=v/\n<(kT s).length:=by
 obtain⟨n1,n2⟩:=List.getElem?_eq_some_iff.1 h
 have hl:n<(kT s).length:=by rw[rO];exact n1
 refine⟨?_,hl⟩
 rw[kF hl,mZ,List.getD_eq_getElem?_getD,h];rfl
theorem ald {s:dm} {i:Int} (h:PL s i): ∀m n,m<(kT s).length->n<(kT s).length->((kT s).getD m dF).2.1=((kT s).getD n dF).2.1->m=n:=fun m n hm hn e=>by
 rw[kF hm,kF hn,mZ]at e
 rw[rO]at hm hn
 rw[List.getD_eq_getElem?_getD,List.getD_eq_getElem?_getD,List.getElem?_eq_getElem hm,List.getElem?_eq_getElem hn]at e
 exact Oc h.up (List.getElem?_eq_getElem hm) (by rw[List.getElem?_eq_getElem hn];exact congrArg some (by simpa using e.symm))
theorem aht {s:dm} {i v:Int} {n:Nat} (h:PL s i) (hn:(uu s)[n]? =some v):zu (kT s) v=some ((kT s).getD n dF).1:=by
 obtain⟨h1,h2⟩:=ahy hn
 rw[<-h1]
 exact Hq (ald h) h2
theorem aex {s:dm} {v:Int} (h:v∉uu s):zu (kT s) v=none:=by
 apply zU
 intro m hm e
 apply h
 rw[kF hm,mZ]at e
 rw[rO]at hm
 rw[List.getD_eq_getElem?_getD,List.getElem?_eq_getElem hm]at e
 rw[<-e]
 exact List.getElem_mem hm
theorem adI {s:dm} {i v:Int} {n:Nat} (h:PL s i) (hn:(uu s)[n]? =some v):atM s v=((n+1:Nat):Int):=by
 unfold atM;rw[aiP h.up hn]
theorem ahe {s:dm} {v:Int} (h:v∉uu s):atM s v=0:=by
 unfold atM
 have:(uu s).findIdx? (· ==v)=none:=by
  rw[List.findIdx?_eq_none_iff]
  intro x hx
  by_cases e:x=v
  ·exact absurd (e▸hx) h
  ·simp[e]
 rw[this]
def fK (s:List UInt8) (k:Nat):dm×Bool:=jq (s.take k) 0 bY
theorem RX: ∀(l m:List UInt8) (a:Int) (x:dm×Bool),jq (l++m) a x=jq m (a+l.length) (jq l a x)
 |[],m,a,x=>by simp[jq]
 |b::l,m,a,x=>by
  rw[List.cons_append,jq,jq,RX l m]
  congr 1
  simp;omega
theorem yx {s:List UInt8} {k:Nat} (h:k<s.length):fK s (k+1)=dn (fK s k).1 (fK s k).2 (aI s k) k:=by
 unfold fK
 rw[List.take_add_one,List.getElem?_eq_getElem h,Option.toList_some,RX,jq,jq,byte_at h,List.length_take,Nat.min_eq_left (by omega)]
 simp[gq]
theorem pU (s:List UInt8) (k:Nat):eu (fK s k).1/\(fK s k).1.length<=k+1:=by
 have h:=ul (s.take k) 0 bY iC
 refine⟨h.1, ?_⟩
 have h2:=h.2
 have:bY.1.length=1:=rfl
 rw[List.length_take]at h2
 unfold fK;omega
theorem BP (s:List UInt8): ∀k,k<=s.length->PL (fK s k).1 k
 |0,_=>aeH
 |k+1,h=>by
  rw[yx (by omega)]
  have:=ajY (pU s k).1 (BP s k (by omega)) (fK s k).2 (aI s k)
  simpa using this
end Go.Proofs.YtihafdllichkeaaGreatDoor
namespace Go.Proofs.YtihafdllichkeaaGreatDoor
open Go.RowKit
set_option linter.unusedVariables false
set_option linter.unusedSimpArgs false
set_option maxRecDepth 100000
abbrev RSt:=List UInt8×(List Int×(Bool×Unit))
def dS:RSt:=([],([],(false,())))
def nZ (s:List UInt8) (n:Nat):List RSt:=(List.range n).map fun k=>wF (fK s k)
theorem kU (s:List UInt8) (n:Nat):(nZ s n).length=n:=by simp[nZ]
theorem BB (s:List UInt8) {n k:Nat} (h:k<n):ay (nZ s n) dS k=wF (fK s k):=by
 rw[kJ (by rw[kU];exact h)]
 simp[nZ]
theorem TQ (s:List UInt8) (hs:s.length<=100000): ∀(N k:Nat),s.length-k<N->k<=s.length->
  vF N s (k:Int) (nZ s (k+1))=some (.inl ((s,()),(nZ s (s.length+1),())))
 |0,k,h,_=>by omega
 |N+1,k,h,hk=>by
  rw[vF,Gi]
  by_cases e:k<s.length
  ·have hg:=pU s k
   have hn:ay (nZ s (k+1)) ([],([],(false,()))) (au (k:Int))=wF (fK s k):=by
    rw[show au (k:Int)=k from rfl];exact BB s (by omega)
   have hstep:BR (so (fK s k).1,(po (fK s k).1,((fK s k).2,()))) (aI s (k:Int)) (k:Int)=some (wF (fK s (k+1)),()):=by
    rw[yx e];exact WQ hg.1 (by omega) _ (jm s k) _
   have hcat:az (nZ s (k+1)) [wF (fK s (k+1))]=nZ s (k+2):=by
    unfold az nZ
    rw[List.range_succ (n:=k+1),List.map_append];rfl
   rw[aK (dM (by rw[aB];omega)),aK (dw (by omega) (by rw[kU];omega)),aK (dw (by omega) (by omega)),aK (qp (by rw[kU];simp only[au];omega)),hn]
   simp only[wF]
   rw[hstep,ae]
   simp only
   rw[hcat,aK (by unfold aZ;rw[kU];exact decide_eq_true (by unfold jh;omega)),bI (by omega) (by omega),show(k:Int)+1=((k+1:Nat):Int) by omega]
   exact TQ s hs N (k+1) (by omega) (by omega)
  ·rw[aU (gm (by rw[aB];omega)),show k=s.length by omega]
theorem Zm (s:List UInt8) (A:List RSt) (out:List iO) (from_:Int) (n:Int) (P:List Int) (m f to_:Int) (op:Bool) (hol:out.length<1000000) (hn:n<1000000)
  (hA:(ay A dS (au (aG .i64 from_ 1))).2.1=P) (hA2:dX A (aG .i64 from_ 1)=true) (hA3:pR (au (aG .i64 from_ 1)) A=true) (hP:1<n->dX P (ag .i64 n 1)=true)
  (j:Nat) (hj:1<n->j<out.length/\(ay out dP j).2.1=af P 0 (ag .i64 n 1)) (hinj: ∀a b,a<out.length->b<out.length->(ay out dP a).2.1=(ay out dP b).2.1->a=b):
  ∀(N k:Nat),out.length-k<N->k<=out.length->
  qB N s from_ n (k:Int) m f to_ (if 1<n/\j<k then(j:Int)else-1) op out A=some (.inl ((s,from_,n,()),((m,f,to_,(if 1<n then(j:Int)else-1),op,()),out,A,())))
 |0,k,h,_=>by omega
 |N+1,k,h,hk=>by
  rw[qB,A7]
  by_cases e:k<out.length
  ·have ih:=Zm s A out from_ n P m f to_ op hol hn hA hA2 hA3 hP j hj hinj N (k+1) (by omega) (by omega)
   rw[aK (dM (by rw[aB];omega)),bI (a:=(k:Int)) (by omega) (by omega),show(k:Int)+1=((k+1:Nat):Int) by omega]
   by_cases e1:1<n
   ·obtain⟨hj1,hj2⟩:=hj e1
    have hA':(ay A ([],([],(false,()))) (au (aG .i64 from_ 1))).2.1=P:=hA
    rw[aK (dM e1),aK (dw (by omega) (by omega)),aK (qp (by simp only[au];omega)),hA2,hA3,hA',hP e1]
    simp only[cond_true]
    by_cases e2:k=j
    ·subst e2
     have:(ay out (0,(0,(0,(0,(false,()))))) (au (k:Int))).2.1=af P 0 (ag .i64 n 1):=hj2
     rw[if_pos ⟨e1,by omega⟩]at ih
     rw[aK (dJ this)]
     exact ih
    ·have: ¬(ay out (0,(0,(0,(0,(false,()))))) (au (k:Int))).2.1=af P 0 (ag .i64 n 1):=fun he=>e2 (hinj k j e hj1 (he.trans hj2.symm))
     rw[aU (bU this)]
     by_cases e3:j<k
     ·rw[if_pos ⟨e1,by omega⟩]at ih ⊢;exact ih
     ·rw[if_neg (fun h=>by omega)]at ih ⊢;exact ih
   ·rw[if_neg (fun h=>e1 h.1)]at ih ⊢
    rw[aU (gm e1)]
    exact ih
  ·rw[aU (gm (by rw[aB];omega))]
   by_cases e1:1<n
   ·rw[if_pos ⟨e1,by have:=(hj e1).1;omega⟩,if_pos e1]
   ·rw[if_neg (fun h=>e1 h.1),if_neg e1]
theorem MN (s:List UInt8) (hs:s.length<=100000) (out:List iO) (f:Nat) (n:Nat) (up:Int): ∀(N k:Nat) (m:Int) (p:iO),s.length+1-k<N->f<k->k<=s.length->
  (uu (fK s k).1)[n]? =some (f:Int)->p.1=counts ((kT (fK s k).1).getD n dF).1->p.2.1=f->p.2.2.2.2.1=true->p.2.2.2.1=up->
  nM N s (f:Int) ((n+1:Nat):Int) (k:Int) m f (s.length:Int) up true out (nZ s (s.length+1))=
   some (.inl ((s,(f:Int),()),(((qx (s.drop k) k (fK s k) p).1,(f:Int),(if(qx (s.drop k) k (fK s k) p).2.2.2.2.1=true then(s.length:Int)else(qx (s.drop k) k (fK s k) p).2.2.1),up,(qx (s.drop k) k (fK s k) p).2.2.2.2.1,()),out,nZ s (s.length+1),())))
   /\(qx (s.drop k) k (fK s k) p).2.2.2.1=up
 |0,k,m,p,h,_,_,_,_,_,_,_=>by omega
 |N+1,k,m,p,h,hf,hk,hpl,hp1,hp2,hp3,hp4=>by
  have hg:=pU s k
  have hPL:=BP s k hk
  obtain⟨hfr,hfl⟩:=ahy hpl
  have hn:ay (nZ s (s.length+1)) ([],([],(false,()))) (au (k:Int))=wF (fK s k):=by
   rw[show au (k:Int)=k from rfl];exact BB s (by omega)
  have hin:dX (nZ s (s.length+1)) (k:Int)=true:=dw (by omega) (by rw[kU];omega)
  have hlt:pR (au (k:Int)) (nZ s (s.length+1))=true:=qp (by rw[kU];simp only[au];omega)
  obtain⟨hso,hsi⟩:=asr hg.1 hfl
  have hmo:=abu hg.1 hfl
  rw[nM,ut,aK (qj (by rw[aB];omega)),hin,hlt,hn]
  simp only[cond_true,wF]
  rw[ame hg.1 (by omega),ae,adI hPL hpl,aU (bU (by omega)),hsi,hso]
  simp only[cond_true]
  rw[alR hmo.1 hmo.2,ae,bI (by omega) (by omega),show(k:Int)+1=((k+1:Nat):Int) by omega]
  simp only
  by_cases e:k<s.length
  ·have hd:s.drop k=s[k]::s.drop (k+1):=List.drop_eq_getElem_cons e
   have hst:=yx e
   have hb:aI s (k:Int)=gq s[k]:=byte_at e
   rw[hb]at hst
   have hgy:=pU s (k+1)
   have hPLy:=BP s (k+1) (by omega)
   have hfe:qx (s.drop k) k (fK s k) p=qx (s.drop (k+1)) ((k+1:Nat):Int) (fK s (k+1)) (jI (kT (fK s (k+1)).1) k p):=by
    rw[hd,qx,<-hst];rfl
   rw[hfe]
   rcases stay hg.1 hPL hpl (fK s k).2 (gq s[k])with h1|h1
   ·rw[<-hst]at h1
    have hu:jI (kT (fK s (k+1)).1) k p=(counts ((kT (fK s (k+1)).1).getD n dF).1,p.2):=by
     unfold jI
     rw[if_pos hp3,hp2,aht hPLy h1]
    rw[hu]
    exact MN s hs out f n up N (k+1) _ _ (by omega) (by omega) (by omega) h1 rfl hp2 hp3 hp4
   ·rw[<-hst]at h1
    have hu:jI (kT (fK s (k+1)).1) k p=AY (k+1) p:=by
     unfold jI
     rw[if_pos hp3,hp2,aex h1]
    have hn':ay (nZ s (s.length+1)) ([],([],(false,()))) (au ((k+1:Nat):Int))=wF (fK s (k+1)):=by
     rw[show au ((k+1:Nat):Int)=k+1 from rfl];exact BB s (by omega)
    have hin':dX (nZ s (s.length+1)) ((k+1:Nat):Int)=true:=dw (by omega) (by rw[kU];omega)
    have hlt':pR (au ((k+1:Nat):Int)) (nZ s (s.length+1))=true:=qp (by rw[kU];simp only[au];omega)
    rw[hu,KT _ _ _ _ rfl]
    obtain⟨N',rfl⟩: ∃N',N=N'+1:=⟨N-1,by omega⟩
    rw[nM,ut,aK (qj (by rw[aB];omega)),hin',hlt',hn']
    simp only[cond_true,wF]
    rw[ame hgy.1 (by omega),ae,ahe h1,aK (dJ rfl)]
    refine⟨?_,hp4⟩
    simp only[AY,hp1]
    rfl
  ·have hkl:k=s.length:=by omega
   subst hkl
   rw[List.drop_length,qx]
   obtain⟨N',rfl⟩: ∃N',N=N'+1:=⟨N-1,by omega⟩
   rw[nM,ut,aU (Jj (by rw[aB];omega)),if_pos hp3,hp3,hp1]
   exact⟨rfl,hp4⟩
theorem abm (F:List yH) (a:Int):Ol F a=decide ((F.map (·.2.1)).getLast?=some a):=by
 unfold Ol
 rw[List.getLast?_map]
 cases F.getLast? with
 |none=>rfl
 |some f=>simp
theorem OL (s:List UInt8) (hs:s.length<=100000): ∀(N k:Nat) (out:List iO),s.length-k<N->k<=s.length->out.length<=k->
  (∀a b,a<out.length->b<out.length->(ay out dP a).2.1=(ay out dP b).2.1->a=b)->(∀p∈out,p.2.1<(k:Int))->(∀v∈uu (fK s k).1,v∈out.map (·.2.1))->
  rV N s (k:Int) out (nZ s (s.length+1))=some (.inl ((),(out++(nT (s.drop k) k (fK s k) (out.map (·.2.1))).map (nU s),())))
 |0,k,out,h,_,_,_,_,_=>by omega
 |N+1,k,out,h,hk,hol,hinj,hlt,hex=>by
  rw[rV,F7]
  by_cases e:k<s.length
  ·have hd:s.drop k=s[k]::s.drop (k+1):=List.drop_eq_getElem_cons e
   have hst:=yx e
   have hb:aI s (k:Int)=gq s[k]:=byte_at e
   rw[hb]at hst
   have hg:=pU s k
   have hPL:=BP s k hk
   have hgy:=pU s (k+1)
   have hPLy:=BP s (k+1) (by omega)
   have hk1:aG .i64 (k:Int) 1=((k+1:Nat):Int):=by rw[bI (by omega) (by omega)];omega
   have hn:ay (nZ s (s.length+1)) ([],([],(false,()))) (au ((k+1:Nat):Int))=wF (fK s (k+1)):=by
    rw[show au ((k+1:Nat):Int)=k+1 from rfl];exact BB s (by omega)
   have hin:dX (nZ s (s.length+1)) ((k+1:Nat):Int)=true:=dw (by omega) (by rw[kU];omega)
   have hltl:pR (au ((k+1:Nat):Int)) (nZ s (s.length+1))=true:=qp (by rw[kU];simp only[au];omega)
   rw[aK (dM (by rw[aB];omega)),hk1,hin,hltl,hn,hd,nT,<-hst]
   simp only[cond_true,wF]
   rw[ame hgy.1 (by omega),ae,abm,mZ]
   obtain⟨c,hc,hpl⟩:=AU hg.1 (fK s k).2 (gq s[k]) k
   rw[<-hst]at hpl
   have hcl:((uu (fK s k).1).take c).length=c:=by rw[List.length_take];omega
   have hexy: ∀v∈(uu (fK s k).1).take c,v∈out.map (·.2.1):=fun v hv=>hex v (List.mem_of_mem_take hv)
   rcases hpl with hpl|hpl
   ·
    have hno:(k:Int)∉uu (fK s (k+1)).1:=fun hv=>by
     rw[hpl]at hv
     have:=hPL.lt _ (List.mem_of_mem_take hv);omega
    have hl: ¬(uu (fK s (k+1)).1).getLast?=some (k:Int):=fun hv=>hno (List.mem_of_getLast? hv)
    rw[ahe hno,aK (dJ rfl),decide_eq_false hl]
    simp only[Bool.false_eq_true,if_false]
    exact OL s hs N (k+1) out (by omega) (by omega) (by omega) hinj (fun p hp=>by have:=hlt p hp;omega) (fun v hv=>by rw[hpl]at hv;exact hexy v hv)
   ·have hidx:(uu (fK s (k+1)).1)[c]? =some (k:Int):=by
     rw[hpl,List.getElem?_append_right (by omega),hcl];simp
    have hl:(uu (fK s (k+1)).1).getLast?=some (k:Int):=by rw[hpl];simp
    have hlen:(kT (fK s (k+1)).1).length=c+1:=by rw[rO,hpl,List.length_append,hcl];rfl
    rw[adI hPLy hidx,aU (bU (by omega)),decide_eq_true hl]
    simp only[if_true]
    have hfly:=Ci (fK s (k+1)).1
    have hgy2:=hgy.2
    have hP1:1<((c+1:Nat):Int)->dX (po (fK s (k+1)).1) (ag .i64 ((c+1:Nat):Int) 1)=true:=fun h1=>by
     rw[fU (by omega) (by omega)]
     refine dw (by omega) ?_
     rw[Hg]
     have:=Ci (fK s (k+1)).1
     omega
    obtain⟨t,ht⟩:=ae3 hgy.1
    have hgp:1<((c+1:Nat):Int)->af (po (fK s (k+1)).1) 0 (ag .i64 ((c+1:Nat):Int) 1)=((kT (fK s (k+1)).1).getD (c-1) dF).2.1:=fun h1=>by
     rw[fU (by omega) (by omega),ht,kF (by omega),mZ]
     unfold af
     rw[show(((c+1:Nat):Int)-1).toNat=(c-1)+1 by omega,List.getD_cons_succ]
    have hupex: ∃j:Nat,1<((c+1:Nat):Int)->j<out.length/\(ay out dP j).2.1=((kT (fK s (k+1)).1).getD (c-1) dF).2.1/\ahw (out.map (·.2.1)) ((kT (fK s (k+1)).1).getD (c-1) dF).2.1=(j:Int):=by
     by_cases h1:1<((c+1:Nat):Int)
     ·have hmem:((kT (fK s (k+1)).1).getD (c-1) dF).2.1∈out.map (·.2.1):=by
       refine hexy _ ?_
       rw[kF (by omega),mZ,hpl,List.getD_eq_getElem?_getD,List.getElem?_append_left (by omega),List.getElem?_eq_getElem (by omega)]
       exact List.getElem_mem _
      obtain⟨j,hj1,hj2⟩:=List.getElem_of_mem hmem
      rw[List.length_map]at hj1
      rw[List.getElem_map]at hj2
      have hj3:(ay out dP j).2.1=((kT (fK s (k+1)).1).getD (c-1) dF).2.1:=by rw[kJ hj1];exact hj2
      exact⟨j,fun _=>⟨hj1,hj3,by rw[<-hj3];exact SY hinj hj1⟩⟩
     ·exact⟨0,fun h2=>absurd h2 h1⟩
    obtain⟨j,hj⟩:=hupex
    have hup:=Zm s (nZ s (s.length+1)) out (k:Int) ((c+1:Nat):Int) (po (fK s (k+1)).1) 0 (k:Int) (s.length:Int) true (by omega) (by have:=Ci (fK s (k+1)).1;omega)
     (by rw[hk1];exact congrArg (·.2.1) hn) (by rw[hk1];exact hin) (by rw[hk1];exact hltl) hP1 j (fun h1=>⟨(hj h1).1,(hj h1).2.1.trans (hgp h1).symm⟩) hinj aO 0 (dh (by omega)) (by omega)
    rw[if_neg (by omega)]at hup
    rw[show qB aO s (k:Int) ((c+1:Nat):Int) 0 0 (k:Int) (ah s) (-1) true out (nZ s (s.length+1))=_ from hup,ae]
    simp only[bF]
    have hnew:sD (kT (fK s (k+1)).1) k (out.map (·.2.1))=(counts ((kT (fK s (k+1)).1).getD c dF).1,(k:Int),0,(if 1<((c+1:Nat):Int)then(j:Int)else-1),true,()):=by
     unfold sD
     have hgD:(kT (fK s (k+1)).1).getLastD dF=(kT (fK s (k+1)).1).getD c dF:=by
      rw[List.getLastD_eq_getLast?,List.getLast?_eq_getElem?,hlen,List.getD_eq_getElem?_getD];rfl
     rw[hgD,hlen]
     by_cases h1:1<((c+1:Nat):Int)
     ·rw[if_neg (by omega),if_pos h1,show c+1-2=c-1 by omega,(hj h1).2.2]
     ·rw[if_pos (by omega),if_neg h1]
    obtain⟨hsc,hscu⟩:=MN s hs out k c (if 1<((c+1:Nat):Int)then(j:Int)else-1) aO (k+1) 0 (sD (kT (fK s (k+1)).1) k (out.map (·.2.1))) (dh (by omega)) (by omega) (by omega) hidx (by rw[hnew]) (by rw[hnew]) (by rw[hnew]) (by rw[hnew])
    rw[hk1,hsc,ae]
    simp only
    have hff:=yh (s.drop (k+1)) ((k+1:Nat):Int) (fK s (k+1)) (sD (kT (fK s (k+1)).1) k (out.map (·.2.1)))
    have hnf:(sD (kT (fK s (k+1)).1) k (out.map (·.2.1))).2.1=(k:Int):=rfl
    rw[hnf]at hff
    rw[show((k:Int)+1)=((k+1:Nat):Int) by omega]
    generalize hq:qx (s.drop (k+1)) ((k+1:Nat):Int) (fK s (k+1)) (sD (kT (fK s (k+1)).1) k (out.map (·.2.1)))=q at*
    have hfit: ∀x:iO,aZ (az out [x]) 40=true:=fun x=>by
     unfold aZ az
     exact decide_eq_true (by rw[List.length_append];simp only[List.length_cons,List.length_nil];unfold jh;omega)
    have go:rV N s ((k+1:Nat):Int) (out++[nU s q]) (nZ s (s.length+1))=some (.inl ((),(out++(q::nT (s.drop (k+1)) ((k+1:Nat):Int) (fK s (k+1)) (out.map (·.2.1)++[(k:Int)])).map (nU s),()))):=by
     have hfq:(nU s q).2.1=(k:Int):=(DN s q).trans hff
     have hn1: ∀a,a<out.length->ay (out++[nU s q]) dP a=ay out dP a:=fun a ha=>by
      unfold ay
      rw[List.getD_eq_getElem?_getD,List.getD_eq_getElem?_getD,List.getElem?_append_left ha]
     have hn2:ay (out++[nU s q]) dP out.length=nU s q:=by
      unfold ay
      rw[List.getD_eq_getElem?_getD,List.getElem?_append_right (Nat.le_refl _)];simp
     have hltn: ∀a,a<out.length->(ay out dP a).2.1<(k:Int):=fun a ha=>by rw[kJ ha];exact hlt _ (List.getElem_mem ha)
     have ih:=OL s hs N (k+1) (out++[nU s q]) (by omega) (by omega) (by simp;omega)
      (fun a b ha hb he=>by
       rw[List.length_append]at ha hb
       simp only[List.length_cons,List.length_nil]at ha hb
       rcases Nat.lt_or_ge a out.length with h1|h1<;>rcases Nat.lt_or_ge b out.length with h2|h2
       ·rw[hn1 a h1,hn1 b h2]at he;exact hinj a b h1 h2 he
       ·rw[hn1 a h1,show b=out.length by omega,hn2,hfq]at he;have:=hltn a h1;omega
       ·rw[hn1 b h2,show a=out.length by omega,hn2,hfq]at he;have:=hltn b h2;omega
       ·omega)
      (fun p hp=>by
       rcases List.mem_append.1 hp with h1|h1
       ·have:=hlt p h1;omega
       ·rw[List.mem_singleton.1 h1,hfq];omega)
      (fun v hv=>by
       rw[hpl]at hv
       rw[List.map_append]
       rcases List.mem_append.1 hv with h1|h1
       ·exact List.mem_append_left _ (hexy v h1)
       ·rw[List.mem_singleton.1 h1]
        exact List.mem_append_right _ (by simp[hfq]))
     rw[ih]
     rw[List.map_append,List.append_assoc,List.map_cons]
     simp only[List.map_cons,List.map_nil,hfq]
     rfl
    by_cases e12:q.1=12
    ·rw[aK (dJ e12),hk1,aiv (by omega) (by omega),ae,hfit,cond_true]
     have hpe:=Wq (s.drop (k+1))
     rw[List.length_drop]at hpe
     rw[bI (by omega) (by omega)]
     have hfin:nU s q=(q.1,(k:Int),((k+1:Nat):Int)+((prl (s.drop (k+1)):Nat):Int),(if 1<((c+1:Nat):Int)then(j:Int)else-1),false,()):=by
      unfold nU
      rw[if_pos e12,hff,hscu,show((k:Int)+1).toNat=k+1 by omega,show(k:Int)+1=((k+1:Nat):Int) by omega]
     rw[<-hfin]
     exact go
    ·rw[aU (bU e12),hk1,hfit,cond_true]
     have hfin:nU s q=(q.1,(k:Int),(if q.2.2.2.2.1=true then(s.length:Int)else q.2.2.1),(if 1<((c+1:Nat):Int)then(j:Int)else-1),q.2.2.2.2.1,()):=by
      unfold nU
      rw[if_neg e12]
      by_cases ho:q.2.2.2.2.1=true
      ·rw[if_pos ho,if_pos ho,hff,hscu,ho]
      ·rw[if_neg ho,if_neg ho,<-hff,<-hscu]
     rw[<-hfin]
     exact go
  ·rw[aU (gm (by rw[aB];omega)),List.drop_of_length_le (by omega),nT];simp
theorem auj (s:List UInt8) (hs:s.length<=100000):aal s=some (aJ s,()):=by
 unfold aal
 have h1:=TQ s hs aO 0 (EF (by omega)) (by omega)
 have h2:=OL s hs aO 0 [] (EF (by omega)) (by omega) (by simp) (fun a b ha=>by cases ha) (fun p hp=>by cases hp) (fun v hv=>by cases hv)
 rw[show Ho=some (wF bY,()) from rfl,ae,show vF aO s 0 [(wF bY,()).1]=_ from h1,ae]
 simp only[bF]
 rw[show rV aO s 0 [] (nZ s (s.length+1))=_ from h2,ae]
 simp only[List.nil_append,List.drop_zero]
 rw[qX];rfl
end Go.Proofs.YtihafdllichkeaaGreatDoor
namespace Go.Proofs.YtihafdllichkeaaGreatDoor
open Go.RowKit
set_option linter.unusedVariables false
set_option linter.unusedSimpArgs false
set_option maxRecDepth 100000
theorem Xh {g:Int×Int} {f:Int×Int} {r:dm} (hg:eu (f::g::r)):g.1≠13:=by
 have:=hg.2.2.1
 unfold IV at this;omega
theorem yP {m:Int} {f:Int×Int} {r:dm} (hf:f.1=m\/m≠13/\f.1≠13) (hr: ∀g r',r=g::r'->g.1≠13) (hr0:r=[]->m≠13) (fr:Bool) (b i:Int):
  ∀g r',(gI m (f::r) fr b i).1=g::r'->g.1=13->g.2=i:=by
 intro g r' h h13
 have hh: ∀{x:Int×Int} {y:dm},x::y=g::r'->x=g:=fun h=>(List.cons.inj h).1
 have keep:m≠13->f::r=g::r'->False:=fun hm h=>by
  have:=hh h
  subst this
  rcases hf with e|⟨_,e⟩<;>omega
 have tl:r=g::r'->False:=fun h=>hr g r' h h13
 have psh: ∀k,(k,i)::f::r=g::r'->g.2=i:=fun k h=>by rw[<-hh h]
 unfold gI at h
 split at h
 ·rename_i hm
  have hm13:m≠13:=by omega
  unfold Bi at h
  repeat' split at h
  all_goals first|exact psh _ h|exact(keep hm13 h).elim|exact(tl h).elim
 ·split at h
  ·exact(tl h).elim
  ·rename_i hm13
   have inn: ∀s',xA (f::r) b i=some s'->s'=g::r'->g.2=i:=fun s' hs e=>by
    subst e
    unfold xA at hs
    split at hs
    ·exact psh 13 (Option.some.inj hs)
    ·split at hs
     ·exact psh 12 (Option.some.inj hs)
     ·split at hs
      ·exact psh 6 (Option.some.inj hs)
      ·cases hs
   have chg:(11,((f::r).headD (0,0)).2)::(f::r).tail=g::r'->False:=fun h=>by
    have:=hh h;subst this;simp at h13
   split at h
   ·split at h
    ·exact(tl h).elim
    ·exact(keep hm13 h).elim
   ·split at h
    ·split at h
     ·exact(tl h).elim
     ·exact(keep hm13 h).elim
    ·split at h
     ·split at h
      ·exact(tl h).elim
      ·split at h
       ·exact psh _ h
       ·exact(keep hm13 h).elim
     ·split at h
      ·rename_i s' hs
       exact inn s' hs h
      ·repeat' split at h
       all_goals first
        |exact psh _ h
        |exact(keep hm13 h).elim
        |exact(tl h).elim
        |exact(chg h).elim
theorem ahU {s:dm} (hg:eu s) (fr:Bool) (b i:Int): ∀g∈(dn s fr b i).1,g.1=13->g.2=i:=by
 have key: ∀g r',(dn s fr b i).1=g::r'->g.1=13->g.2=i:=by
  cases s with
  |nil=>cases hg
  |cons f r=>
  intro g r' h h13
  have hh: ∀{x:Int×Int} {y:dm},x::y=g::r'->x=g:=fun h=>(List.cons.inj h).1
  have hr: ∀g r',r=g::r'->g.1≠13:=fun g r' e=>by subst e;exact Xh hg
  have hr2: ∀g g' r',r=g::g'::r'->g'.1≠13:=fun g g' r' e=>by subst e;exact Xh hg.2.2.2
  have ch: ∀k:Int,k≠13->(k,f.2)::r=g::r'->False:=fun k hk h=>by
   have:=hh h;subst this;exact hk h13
  simp only[dn]at h
  split at h
  ·split at h
   ·exact(ch 3 (by omega) h).elim
   ·split at h
    ·refine(ch _ ?_ h).elim
     split<;>omega
    ·split at h
     ·exact(hr _ _ h h13).elim
     ·cases r with
      |nil=>rename_i e12 _ _ _;have:f.1=0:=hg;omega
      |cons q r=>
       exact yP (.inl rfl) (fun g r' e=>hr2 q g r' (by rw[e])) (fun _=>by simpa using hr q r rfl) fr b i g r' h h13
  ·split at h
   ·split at h
    ·exact(ch 9 (by omega) h).elim
    ·exact yP (f:=(1,f.2)) (.inl rfl) hr (fun _=>by omega) fr b i g r' h h13
   ·split at h
    ·split at h
     ·exact(hr _ _ h h13).elim
     ·exact yP (f:=(9,f.2)) (.inl rfl) hr (fun _=>by omega) fr b i g r' h h13
    ·refine yP (.inl rfl) hr (fun e=> ?_) fr b i g r' h h13
     subst e
     have:f.1=0:=hg
     omega
 have hgs:=(good_step hg fr b i).1
 revert key hgs
 generalize (dn s fr b i).1=y
 intro key hgs g hm h13
 cases y with
 |nil=>cases hm
 |cons f r=>
  rcases List.mem_cons.1 hm with e|hm
  ·subst e;exact key _ _ rfl h13
  ·exfalso
   clear key
   induction r generalizing f with
   |nil=>cases hm
   |cons q r ih=>
    rcases List.mem_cons.1 hm with e|hm2
    ·subst e;exact Xh hgs h13
    ·exact ih q hgs.2.2.2 (List.mem_cons_of_mem _ hm2) hm2
def PI (p:iO) (a:Int):Prop:=
 0<=p.2.1/\p.2.1<a/\(p.2.2.2.2.1=true/\(p.1=13->p.2.1+1=a)\/p.2.2.2.2.1=false/\p.2.1+2<=p.2.2.1/\p.2.2.1<=a/\(p.1=13->p.2.2.1=p.2.1+2))
theorem adC {m:Int} (h:counts m=13):m=13:=by
 unfold counts at h
 split at h
 ·omega
 ·split at h
  ·omega
  ·exact h
theorem aiF {s:dm} {f:yH} (h:f∈kT s):(f.1,f.2.1)∈s:=by
 unfold kT at h
 rw[List.mem_reverse,List.mem_map]at h
 obtain⟨g,hg,rfl⟩:=h
 exact(List.dropLast_sublist s).subset hg
theorem acy {F:List yH} {v m:Int} (h:zu F v=some m): ∃f∈F,f.2.1=v/\f.1=m:=by
 unfold zu at h
 obtain⟨f,hf,rfl⟩:=Option.map_eq_some_iff.1 h
 exact⟨f,List.mem_of_find?_eq_some hf,by simpa using List.find?_some hf,rfl⟩
theorem al9 {s:dm} (hg:eu s) (fr:Bool) (b a:Int) {p:iO} (h:PI p a):PI (jI (kT (dn s fr b a).1) a p) (a+1):=by
 obtain⟨h0,h1,h2⟩:=h
 unfold jI
 rcases h2 with ⟨ho,h3⟩|⟨ho,h3,h4,h5⟩
 ·rw[if_pos ho]
  split
  ·rename_i m hm
   refine⟨h0,by simp only;omega,.inl ⟨ho,fun h=> ?_⟩⟩
   have hm13:m=13:=adC h
   obtain⟨f,hf,hv,e⟩:=acy hm
   have:=ahU hg fr b a _ (aiF hf) (by simp only;omega)
   simp only at this ⊢
   omega
  ·refine⟨h0,by simp only[AY];omega,.inr ⟨rfl,by simp only[AY];omega,by simp[AY],fun h=> ?_⟩⟩
   have:=h3 h
   simp only[AY];omega
 ·rw[if_neg (by rw[ho];simp)]
  exact⟨h0,by omega,.inr ⟨ho,h3,by omega,h5⟩⟩
theorem anm {s:dm} (hg:eu s) (fr:Bool) (b:Int) {a:Int} (h0:0<=a) (l:List Int):PI (sD (kT (dn s fr b a).1) a l) (a+1):=
 ⟨h0,by simp only[sD];omega,.inl ⟨rfl,fun h=>by simp only[sD]⟩⟩
theorem ZR: ∀(l:List UInt8) (a:Int) (x:dm×Bool) (p:iO),eu x.1->PI p a->PI (qx l a x p) (a+l.length)
 |[],a,x,p,_,h=>by simpa [qx] using h
 |b::l,a,x,p,hg,h=>by
  rw[qx]
  have:=ZR l (a+1) (dn x.1 x.2 (gq b) a) _ (good_step hg _ _ _).1 (al9 hg x.2 (gq b) a h)
  rw[show a+((b::l).length:Int)=a+1+l.length by simp;omega]
  exact this
theorem N7: ∀(l:List UInt8) (a:Int) (x:dm×Bool) (fr:List Int),0<=a->eu x.1-> ∀p∈nT l a x fr,PI p (a+l.length)/\a<=p.2.1
 |[],a,x,fr,_,_,p,h=>by cases h
 |b::l,a,x,fr,h0,hg,p,h=>by
  have hgs:=(good_step hg x.2 (gq b) a).1
  have ih: ∀fr',p∈nT l (a+1) (dn x.1 x.2 (gq b) a) fr'->PI p (a+((b::l).length:Int))/\a<=p.2.1:=fun fr' hp=>by
   have:=N7 l (a+1) _ fr' (by omega) hgs p hp
   rw[show a+((b::l).length:Int)=a+1+l.length by simp;omega]
   exact⟨this.1,by omega⟩
  rw[nT]at h
  split at h
  ·rcases List.mem_cons.1 h with rfl|h
   ·have:=ZR l (a+1) _ _ hgs (anm hg x.2 (gq b) h0 fr)
    rw[show a+((b::l).length:Int)=a+1+l.length by simp;omega]
    refine⟨this, ?_⟩
    rw[yh];simp[sD]
   ·exact ih _ h
  ·exact ih _ h
theorem OW: ∀(l:List UInt8) (a:Int) (x:dm×Bool) (fr:List Int),0<=a->eu x.1->(nT l a x fr).Pairwise (fun p q=>p.2.1<q.2.1)
 |[],a,x,fr,_,_=>List.Pairwise.nil
 |b::l,a,x,fr,h0,hg=>by
  have hgs:=(good_step hg x.2 (gq b) a).1
  rw[nT]
  split
  ·refine List.Pairwise.cons (fun p hp=> ?_) (OW l (a+1) _ _ (by omega) hgs)
   have:=(N7 l (a+1) _ _ (by omega) hgs p hp).2
   rw[yh]
   simp only[sD];omega
  ·exact OW l (a+1) _ _ (by omega) hgs
structure PF (s:List UInt8) (p:iO):Prop where
 f0:0<=p.2.1
 f1:p.2.1<s.length
 t0:p.2.1<p.2.2.1
 t1:p.2.2.1<=s.length
 op:p.2.2.2.2.1=true->p.2.2.1=s.length/\p.1≠12
 sh:p.2.2.2.2.1=false->p.1≠12->p.2.1+2<=p.2.2.1
 es:p.1=13->p.2.2.1<=p.2.1+2
 dl:p.1=12->p.2.2.1=p.2.1+1+((prl (s.drop (p.2.1+1).toNat):Nat):Int)
theorem abv (s:List UInt8): ∀p∈aJ s,PF s p:=by
 intro p hp
 rw[qX]at hp
 obtain⟨q,hq,rfl⟩:=List.mem_map.1 hp
 obtain⟨⟨h0,h1,h2⟩,_⟩:=N7 s 0 bY [] (by omega) iC q hq
 rw[Int.zero_add]at h1 h2
 have hl:=Wq (s.drop (q.2.1+1).toNat)
 rw[List.length_drop]at hl
 unfold nU
 split
 ·rename_i h12
  exact⟨h0,h1,by simp only;omega,by simp only;omega,fun h=>(by cases h),fun _ h=>absurd h12 h,fun h=>(by simp only at h;omega),fun _=>rfl⟩
 ·rename_i h12
  split
  ·rename_i ho
   refine⟨h0,h1,h1,Int.le_refl _,fun _=>⟨rfl,h12⟩,fun h=>(by cases h),fun h=> ?_,fun h=>absurd h h12⟩
   rcases h2 with ⟨_,h3⟩|⟨h3,_⟩
   ·have:=h3 h;simp only;omega
   ·rw[ho]at h3;cases h3
  ·rename_i ho
   rcases h2 with ⟨h3,_⟩|⟨h3,h4,h5,h6⟩
   ·exact absurd h3 ho
   ·exact⟨h0,h1,by omega,h5,fun h=>absurd h ho,fun _ _=>h4,fun h=>by have:=h6 h;omega,fun h=>absurd h h12⟩
theorem KU (s:List UInt8):(aJ s).Pairwise (fun p q=>p.2.1<q.2.1):=by
 rw[qX]
 refine List.pairwise_map.2 ((OW s 0 bY [] (by omega) iC).imp fun h=> ?_)
 rw[DN,DN];exact h
theorem vC (s:List UInt8):(aJ s).length<=s.length:=by
 have h: ∀(l:List UInt8) (a:Int) (x:dm×Bool) (fr:List Int),(nT l a x fr).length<=l.length:=by
  intro l
  induction l with
  |nil=>intro a x fr;exact Nat.le_refl 0
  |cons b l ih=>
   intro a x fr
   rw[nT]
   split
   ·simp only[List.length_cons];have:=ih (a+1) (dn x.1 x.2 (gq b) a) (fr++[a]);omega
   ·have:=ih (a+1) (dn x.1 x.2 (gq b) a) fr;simp only[List.length_cons];omega
 rw[qX,List.length_map]
 exact h s 0 bY []
end Go.Proofs.YtihafdllichkeaaGreatDoor
namespace Go.Proofs.YtihafdllichkeaaGreatDoor
open Go.RowKit
set_option linter.unusedVariables false
set_option linter.unusedSimpArgs false
set_option maxRecDepth 100000
def qo (L:List iO) (v:Int):Option iO:=L.find? fun p=>p.2.1==v
theorem Ib {L:List iO} {v:Int} {p:iO} (h:qo L v=some p):p∈L/\p.2.1=v:=
 ⟨List.mem_of_find?_eq_some h,by simpa using List.find?_some h⟩
theorem pV {s:List UInt8} {v:Int} {p:iO} (h:qo (aJ s) v=some p):PF s p/\p.2.1=v:=
 ⟨abv s p (Ib h).1,(Ib h).2⟩
def lone (p:iO):Bool:=decide (p.1=12)&&decide (p.2.2.1=p.2.1+1)
def jV (s:List UInt8) (p:iO):List UInt8:=sub s p.2.1 p.2.2.1
def qC (p:iO):Int:=if p.2.2.2.2.1=true then p.2.2.1 else p.2.2.1-1
def J3 (s:List UInt8) (p:iO):List UInt8:=
 if p.2.2.1=p.2.1+2/\aI s (p.2.1+1)≠10 then sub s (p.2.1+1) p.2.2.1 else []
def J7 (s:List UInt8) (p:iO):List UInt8:=
 if p.2.2.1=p.2.1+2 then
  (if aI s (p.2.1+1)=36\/aI s (p.2.1+1)=96\/aI s (p.2.1+1)=34\/aI s (p.2.1+1)=92 then sub s (p.2.1+1) p.2.2.1
  else if aI s (p.2.1+1)=10 then []else jV s p)
 else []
def fB (s:List UInt8) (L:List iO) (at_:Int):Int×List UInt8×Bool:=
 match qo L at_ with
 |none=>(at_+1,sub s at_ (at_+1),false)
 |some p=>if lone p=true then(at_+1,sub s at_ (at_+1),false)
  else if p.1=13 then(p.2.2.1,J7 s p,false)
  else(p.2.2.1,jV s p,true)
def mD (s:List UInt8) (L:List iO) (to_:Int):Nat->Int->List UInt8
 |0,_=>[]
 |n+1,at_=>if at_<to_ then(fB s L at_).2.1++mD s L to_ n (fB s L at_).1 else []
def stepT (s:List UInt8) (L:List iO) (at_:Int):Int×List UInt8:=
 match qo L at_ with
 |none=>(at_+1,sub s at_ (at_+1))
 |some p=>if lone p=true\/p.1=14 then(p.2.2.1,jV s p)
  else if p.1=13 then(p.2.2.1,J3 s p)
  else if p.1=4 then(p.2.2.1,sub s (p.2.1+1) (qC p))
  else if p.1=5 then(p.2.2.1,mD s L (qC p) s.length (p.2.1+1))
  else(p.2.2.1,jV s p)
def jc (s:List UInt8) (L:List iO):Nat->Int->List UInt8
 |0,_=>[]
 |n+1,at_=>if at_<s.length then(stepT s L at_).2++jc s L n (stepT s L at_).1 else []
def Bg (s:List UInt8):List UInt8:=jc s (aJ s) s.length 0
theorem Ht {s:List UInt8} {at_:Int}:at_<(fB s (aJ s) at_).1:=by
 unfold fB
 split
 ·simp only;omega
 ·rename_i p hp
  obtain⟨h,e⟩:=pV hp
  have:=h.t0
  split
  ·simp only;omega
  ·split<;>simp only<;>omega
theorem Jq {s:List UInt8} {at_:Int}:at_<(stepT s (aJ s) at_).1:=by
 unfold stepT
 split
 ·simp only;omega
 ·rename_i p hp
  obtain⟨h,e⟩:=pV hp
  have:=h.t0
  repeat' split
  all_goals (simp only;omega)
theorem Ud {s:List UInt8} {at_:Int} (h0:at_<s.length):(stepT s (aJ s) at_).1<=s.length:=by
 unfold stepT
 split
 ·simp only;omega
 ·rename_i p hp
  obtain⟨h,e⟩:=pV hp
  have:=h.t1
  repeat' split
  all_goals (simp only;omega)
theorem DK (s:List UInt8) (to_:Int): ∀(n m:Nat) (at_:Int),to_-at_<=n->to_-at_<=m->mD s (aJ s) to_ n at_=mD s (aJ s) to_ m at_
 |0,0,_,_,_=>rfl
 |0,m+1,at_,h,_=>by rw[mD,mD,if_neg (by omega)]
 |n+1,0,at_,_,h=>by rw[mD,mD,if_neg (by omega)]
 |n+1,m+1,at_,h1,h2=>by
  rw[mD,mD]
  split
  ·have:= @Ht s at_
   rw[DK s to_ n m _ (by omega) (by omega)]
  ·rfl
theorem Au (s:List UInt8): ∀(n m:Nat) (at_:Int),(s.length:Int)-at_<=n->(s.length:Int)-at_<=m->jc s (aJ s) n at_=jc s (aJ s) m at_
 |0,0,_,_,_=>rfl
 |0,m+1,at_,h,_=>by rw[jc,jc,if_neg (by omega)]
 |n+1,0,at_,_,h=>by rw[jc,jc,if_neg (by omega)]
 |n+1,m+1,at_,h1,h2=>by
  rw[jc,jc]
  split
  ·have:= @Jq s at_
   rw[Au s n m _ (by omega) (by omega)]
  ·rfl
theorem qh {α:Type} (l:List α) (a b:Int):(sub l a b).length<=l.length:=by
 unfold sub
 simp only[List.length_drop,List.length_take];omega
theorem DR (s:List UInt8) (L:List iO) (at_:Int):(fB s L at_).2.1.length<=s.length:=by
 unfold fB
 split
 ·exact qh s _ _
 ·split
  ·exact qh s _ _
  ·split
   ·simp only;unfold J7 jV
    repeat' split
    all_goals first|exact qh s _ _|exact Nat.zero_le _
   ·exact qh s _ _
theorem UQ (s:List UInt8) (L:List iO) (to_:Int): ∀(n:Nat) (at_:Int),(mD s L to_ n at_).length<=n*s.length
 |0,_=>by simp[mD]
 |n+1,at_=>by
  rw[mD]
  split
  ·have:=DR s L at_
   have:=UQ s L to_ n (fB s L at_).1
   rw[List.length_append,Nat.succ_mul];omega
  ·exact Nat.zero_le _
theorem Dp (s:List UInt8) (L:List iO) (at_:Int):(stepT s L at_).2.length<=s.length*s.length+s.length:=by
 have h: ∀a b,(sub s a b).length<=s.length*s.length+s.length:=fun a b=>Nat.le_trans (qh s a b) (Nat.le_add_left _ _)
 unfold stepT
 split
 ·exact h _ _
 ·split
  ·exact h _ _
  ·split
   ·simp only;unfold J3
    split
    ·exact h _ _
    ·exact Nat.zero_le _
   ·split
    ·exact h _ _
    ·split
     ·exact Nat.le_trans (UQ _ _ _ _ _) (Nat.le_add_right _ _)
     ·exact h _ _
theorem L9 (s:List UInt8) (L:List iO): ∀(n:Nat) (at_:Int),(jc s L n at_).length<=n*(s.length*s.length+s.length)
 |0,_=>by simp[jc]
 |n+1,at_=>by
  rw[jc]
  split
  ·have:=Dp s L at_
   have:=L9 s L n (stepT s L at_).1
   rw[List.length_append,Nat.succ_mul];omega
  ·exact Nat.zero_le _
end Go.Proofs.YtihafdllichkeaaGreatDoor
namespace Go.Proofs.YtihafdllichkeaaGreatDoor
open Go.RowKit
set_option linter.unusedVariables false
set_option linter.unusedSimpArgs false
set_option maxRecDepth 100000
set_option maxHeartbeats 4000000
noncomputable def aaV:Code:=(Tryz.f148.body).getD .skip
noncomputable def ahA:Code:=cA (cA (cA (cB (cB (cA (cA (cB (cA (cA (cB (cA (cB (cB (aaV))))))))))))))
noncomputable def ag9:Code:=cA (cA (cB (cA (cB (cB (aaV))))))
def ahb:dB:=⟨[0,5,9,10,100007],[],[0,5,9,10],[],[6,7],[]⟩
def agJ:dB:=⟨[0,5,8,9,100003],[],[0],[],[6,7],[]⟩
def QB:SP:=⟨us [.v .str,.u,.u,.u,.u,.ptr 1000005 0,.u,.u,.u,.v (.int .i64),.v (.int .i64)] 63,[.box 1000005 129 [.v .str,.v .bool]]⟩
def Qk:SP:=⟨us [.v .str,.u,.u,.u,.u,.ptr 1000005 0,.u,.u,.u,.v (.int .i64),.v (.int .i64)] 63,[.box 1000005 129 [.v .str,.v .bool]]⟩
def QF:SP:=⟨us [.u,.u,.u,.u,.u,.u,.v (.int .i64),.v (.int .i64)] 66,[]⟩
def FD {γ:Type} (rec:(List UInt8)->Int->Int->(List UInt8)->Bool->Option γ) (kE:(List UInt8)->Int->Int->(List UInt8)->Bool->Option γ) (kR:Int->Int->Option γ) (v0:List UInt8) (v1:Int) (v2:Int) (v3:List UInt8) (v4:Bool):Option γ:=
 bif v4 then
  bif(fD v2 v1)then
   bif(dX v0 v2)then
    bif(aH (aI v0 v2) 9)then
     rec v0 v1 (aG .i64 v2 1) v3 v4
    else
    kE v0 v1 v2 v3 v4
   else
   none
  else
  kE v0 v1 v2 v3 v4
 else
 kE v0 v1 v2 v3 v4
def oU:Nat->(List UInt8)->Int->Int->(List UInt8)->Bool->Option (Qk.den⊕QF.den)
 |0,_,_,_,_,_=>none
 |n+1,v0,v1,v2,v3,v4=>FD (oU n) (fun e0 e1 e2 e3 e4=>some (.inl ((e0,e1,e2,()),((e3,e4,()),())))) (fun r0 r1=>some (.inr ((r0,r1,()),()))) v0 v1 v2 v3 v4
noncomputable def ZC:bG:=dO ahb QB Qk QF (.exit 2) (fun v=>oU aO v.1.1 v.1.2.1 v.1.2.2.1 v.2.1.1 v.2.1.2.1) 6
def PG:SP:=⟨us [.v .str,.u,.u,.u,.u,.ptr 1000005 0,.u,.u,.v (.int .i64),.v (.int .i64)] 64,[.box 1000005 129 [.v .str,.v .bool]]⟩
def F6:SP:=⟨us [.v .str] 73,[]⟩
def FP:SP:=⟨us [.u,.u,.u,.u,.u,.u,.v (.int .i64),.v (.int .i64)] 66,[]⟩
def yz {γ:Type} (rec:(List UInt8)->Int->Int->(List UInt8)->Bool->Option γ) (kE:(List UInt8)->Option γ) (kR:Int->Int->Option γ) (v0:List UInt8) (v1:Int) (v2:Int) (v3:List UInt8) (v4:Bool):Option γ:=
 bif(leI v2 (ah v0))then
  bif(fD v2 (ah v0))then
   bif(dX v0 v2)then
    bif(!(aH (aI v0 v2) 10))then
     rec v0 v1 (aG .i64 v2 1) v3 v4
    else
    bif(aH v2 (ah v0))then
     bif(aH v1 v2)then
      rec v0 v1 (aG .i64 v2 1) v3 v4
     else
     ai (oU aO v0 v2 v1 v3 v4) fun y0=>
      bF y0 (fun a1=>
       bif(bu (ah a1.1.1) a1.1.2.2.1 a1.1.2.1)then
        bif(cO (sub a1.1.1 a1.1.2.2.1 a1.1.2.1) a1.2.1.1)then
         bif(fD a1.1.2.1 (ah a1.1.1))then
          kR (aG .i64 a1.1.2.1 1) 1
         else
         kR a1.1.2.1 1
        else
        rec a1.1.1 (aG .i64 a1.1.2.1 1) (aG .i64 a1.1.2.1 1) a1.2.1.1 a1.2.1.2.1
       else
       none) (fun b1=>
       kR b1.1.1 b1.1.2.1)
    else
    ai (oU aO v0 v2 v1 v3 v4) fun y0=>
     bF y0 (fun a1=>
      bif(bu (ah a1.1.1) a1.1.2.2.1 a1.1.2.1)then
       bif(cO (sub a1.1.1 a1.1.2.2.1 a1.1.2.1) a1.2.1.1)then
        bif(fD a1.1.2.1 (ah a1.1.1))then
         kR (aG .i64 a1.1.2.1 1) 1
        else
        kR a1.1.2.1 1
       else
       rec a1.1.1 (aG .i64 a1.1.2.1 1) (aG .i64 a1.1.2.1 1) a1.2.1.1 a1.2.1.2.1
      else
      none) (fun b1=>
      kR b1.1.1 b1.1.2.1)
   else
   none
  else
  bif(aH v2 (ah v0))then
   bif(aH v1 v2)then
    rec v0 v1 (aG .i64 v2 1) v3 v4
   else
   ai (oU aO v0 v2 v1 v3 v4) fun y0=>
    bF y0 (fun a1=>
     bif(bu (ah a1.1.1) a1.1.2.2.1 a1.1.2.1)then
      bif(cO (sub a1.1.1 a1.1.2.2.1 a1.1.2.1) a1.2.1.1)then
       bif(fD a1.1.2.1 (ah a1.1.1))then
        kR (aG .i64 a1.1.2.1 1) 1
       else
       kR a1.1.2.1 1
      else
      rec a1.1.1 (aG .i64 a1.1.2.1 1) (aG .i64 a1.1.2.1 1) a1.2.1.1 a1.2.1.2.1
     else
     none) (fun b1=>
     kR b1.1.1 b1.1.2.1)
  else
  ai (oU aO v0 v2 v1 v3 v4) fun y0=>
   bF y0 (fun a1=>
    bif(bu (ah a1.1.1) a1.1.2.2.1 a1.1.2.1)then
     bif(cO (sub a1.1.1 a1.1.2.2.1 a1.1.2.1) a1.2.1.1)then
      bif(fD a1.1.2.1 (ah a1.1.1))then
       kR (aG .i64 a1.1.2.1 1) 1
      else
      kR a1.1.2.1 1
     else
     rec a1.1.1 (aG .i64 a1.1.2.1 1) (aG .i64 a1.1.2.1 1) a1.2.1.1 a1.2.1.2.1
    else
    none) (fun b1=>
    kR b1.1.1 b1.1.2.1)
 else
 kE v0
def nG:Nat->(List UInt8)->Int->Int->(List UInt8)->Bool->Option (F6.den⊕FP.den)
 |0,_,_,_,_,_=>none
 |n+1,v0,v1,v2,v3,v4=>yz (nG n) (fun e0=>some (.inl ((e0,()),()))) (fun r0 r1=>some (.inr ((r0,r1,()),()))) v0 v1 v2 v3 v4
noncomputable def YD:bG:=dO agJ PG F6 FP (.exit 0) (fun v=>nG aO v.1.1 v.1.2.1 v.1.2.2.1 v.2.1.1 v.2.1.2.1) 12
def Yy (x0:List UInt8) (x1:Int) (x2:(List UInt8)×(Bool×Unit)):Option (Int×Int×Unit):=
 ai (nG aO x0 x1 x1 x2.1 x2.2.1) fun y0=>
  bF y0 (fun a1=>
   some ((ah a1.1.1),(0,()))) (fun b1=>
   some (b1.1.1,(b1.1.2.1,())))
def Vh:Sum:=(⟨[.str,.int .i64,.pair .str (.pair .bool .unit)],[(.int .i64,false),(.int .i64,false)],fun x=>Yy x.1 x.2.1 x.2.2.1⟩:Sum)
noncomputable def ND:Env:=dI Tryz.prog tt 148 [] [(7,ahb),(3,agJ)] [(7,ZC),(3,YD)]
def YN {γ:Type} (a:QB.den->Option γ) (b:Qk.den->Option γ) (c:QF.den->Option γ) (v:QB.den):Option γ:=FD (fun v0 v1 v2 v3 v4=>a ((v0,v1,v2,()),((v3,v4,()),()))) (fun e0 e1 e2 e3 e4=>b ((e0,e1,e2,()),((e3,e4,()),()))) (fun r0 r1=>c ((r0,r1,()),())) v.1.1 v.1.2.1 v.1.2.2.1 v.2.1.1 v.2.1.2.1
theorem aka:di ND 148 ahA ZC:=wG (YN) (lp:=fun n (v:QB.den)=>oU n v.1.1 v.1.2.1 v.1.2.2.1 v.2.1.1 v.2.1.2.1) (by kernel_rfl) (fun _=>rfl) (fun _ _=>rfl) (fun d n K v=>by kernel_rfl) (by intros;simp only[YN,FD,bn,bg,ae,aV,bi])
def ZW {γ:Type} (a:PG.den->Option γ) (b:F6.den->Option γ) (c:FP.den->Option γ) (v:PG.den):Option γ:=yz (fun v0 v1 v2 v3 v4=>a ((v0,v1,v2,()),((v3,v4,()),()))) (fun e0=>b ((e0,()),())) (fun r0 r1=>c ((r0,r1,()),())) v.1.1 v.1.2.1 v.1.2.2.1 v.2.1.1 v.2.1.2.1
theorem ajI:di ND 148 ag9 YD:=wG (ZW) (lp:=fun n (v:PG.den)=>nG n v.1.1 v.1.2.1 v.1.2.2.1 v.2.1.1 v.2.1.2.1) (by kernel_rfl) (fun _=>rfl) (fun _ _=>rfl) (fun d n K v=>by kernel_rfl) (by intros;simp only[ZW,yz,bn,bg,ae,aV,bi])
theorem alx:bZ aaV=[ahA,ag9]:=by kernel_rfl
theorem alq:cZ ND 148 aaV:=bP aaV (fun _=>rfl) (by rw[alx];exact(aC ⟨fL (by kernel_rfl) (aka),(aC ⟨fL (by kernel_rfl) (ajI),aN⟩)⟩))
theorem abY:bJ ND:=bz tok mixed bV (sg:=[]) aN (fn:=Tryz.f148) (c:=aaV) (by kernel_rfl) (by kernel_rfl) (alq) bW bC
theorem abH:bD Tryz.prog 148 Vh:=ed abY (by decide) fun x=>by kernel_rfl
noncomputable def agw:Code:=(Tryz.f149.body).getD .skip
noncomputable def aem:Code:=cA (cA (cA (cB (agw))))
def aeZ:dB:=⟨[0,1,100001],[],[1],[],[4],[]⟩
def Py:SP:=⟨us [.v .str,.v (.int .i64)] 40,[]⟩
def Gq:SP:=⟨us [.u,.v (.int .i64)] 40,[]⟩
def FY:SP:=⟨us [.u,.u,.u,.u,.v (.int .i64)] 37,[]⟩
def FB {γ:Type} (rec:(List UInt8)->Int->Option γ) (kE:Int->Option γ) (kR:Int->Option γ) (v0:List UInt8) (v1:Int):Option γ:=
 bif(fD v1 (ah v0))then
  bif(dX v0 v1)then
   bif(aH (aI v0 v1) 32)then
    rec v0 (aG .i64 v1 1)
   else
   bif(dX v0 v1)then
    bif(aH (aI v0 v1) 9)then
     rec v0 (aG .i64 v1 1)
    else
    bif(dX v0 v1)then
     bif(aH (aI v0 v1) 92)then
      bif(fD (aG .i64 v1 1) (ah v0))then
       bif(dX v0 (aG .i64 v1 1))then
        bif(aH (aI v0 (aG .i64 v1 1)) 10)then
         rec v0 (aG .i64 v1 2)
        else
        kE v1
       else
       none
      else
      kE v1
     else
     kE v1
    else
    none
   else
   none
  else
  none
 else
 kE v1
def uF:Nat->(List UInt8)->Int->Option (Gq.den⊕FY.den)
 |0,_,_=>none
 |n+1,v0,v1=>FB (uF n) (fun e0=>some (.inl ((e0,()),()))) (fun r0=>some (.inr ((r0,()),()))) v0 v1
noncomputable def YO:bG:=dO aeZ Py Gq FY (.exit 0) (fun v=>uF aO v.1.1 v.1.2.1) 6
def Zc (x0:List UInt8) (x1:Int):Option (Int×Unit):=
 ai (uF aO x0 x1) fun y0=>
  bF y0 (fun a1=>
   some (a1.1.1,())) (fun b1=>
   some (b1.1.1,()))
def VP:Sum:=(⟨[.str,.int .i64],[(.int .i64,false)],fun x=>Zc x.1 x.2.1⟩:Sum)
noncomputable def WO:Env:=dI Tryz.prog tt 149 [] [(1,aeZ)] [(1,YO)]
def ZT {γ:Type} (a:Py.den->Option γ) (b:Gq.den->Option γ) (c:FY.den->Option γ) (v:Py.den):Option γ:=FB (fun v0 v1=>a ((v0,v1,()),())) (fun e0=>b ((e0,()),())) (fun r0=>c ((r0,()),())) v.1.1 v.1.2.1
theorem ah7:di WO 149 aem YO:=wG (ZT) (lp:=fun n (v:Py.den)=>uF n v.1.1 v.1.2.1) (by kernel_rfl) (fun _=>rfl) (fun _ _=>rfl) (fun d n K v=>by kernel_rfl) (by intros;simp only[ZT,FB,bn,bg,ae,aV,bi])
theorem amU:bZ agw=[aem]:=by kernel_rfl
theorem anW:cZ WO 149 agw:=bP agw (fun _=>rfl) (by rw[amU];exact(aC ⟨fL (by kernel_rfl) (ah7),aN⟩))
theorem adE:bJ WO:=bz tok mixed bV (sg:=[]) aN (fn:=Tryz.f149) (c:=agw) (by kernel_rfl) (by kernel_rfl) (anW) bW bC
theorem acf:bD Tryz.prog 149 VP:=ed adE (by decide) fun x=>by kernel_rfl
noncomputable def ae5:Code:=(Tryz.f151.body).getD .skip
noncomputable def adV:Code:=cA (cA (cA (cB (cB (cB (ae5))))))
def afm:dB:=⟨[3,100004],[],[3],[],[2],[]⟩
def Qc:SP:=⟨us [.u,.u,.u,.v .str] 29,[]⟩
def P8:SP:=⟨us [.u,.u,.u,.v .str] 29,[]⟩
def NH:SP:=⟨us [.u,.u,.v .str] 30,[]⟩
def NS {γ:Type} (rec:(List UInt8)->Option γ) (kE:(List UInt8)->Option γ) (kR:(List UInt8)->Option γ) (v0:List UInt8):Option γ:=
 bif(fD 0 (ah v0))then
  bif(dX v0 (ag .i64 (ah v0) 1))then
   bif(aH (aI v0 (ag .i64 (ah v0) 1)) 32)then
    bif(bu (ah v0) 0 (ag .i64 (ah v0) 1))then
     rec (sub v0 0 (ag .i64 (ah v0) 1))
    else
    none
   else
   kE v0
  else
  none
 else
 kE v0
def FH:Nat->(List UInt8)->Option (P8.den⊕NH.den)
 |0,_=>none
 |n+1,v0=>NS (FH n) (fun e0=>some (.inl ((e0,()),()))) (fun r0=>some (.inr ((r0,()),()))) v0
noncomputable def YH:bG:=dO afm Qc P8 NH (.exit 0) (fun v=>FH aO v.1.1) 6
def Eu (x0:Int):Option ((List UInt8)×Unit):=
 bif(fD x0 1)then
  some ([],())
 else
 bif(fD 17 x0)then
  some ([],())
 else
 bif(bu (ah [38,38,32,124,124,32,59,59,32,60,60,32,60,60,45,62,62,32,60,38,32,62,38,32,60,62,32,62,124,32,60,32,32,62,32,32,38,32,32,59,32,32,124,32,32,40,32,32,41,32,32]) (adi .i64 3 (ag .i64 x0 1)) (adi .i64 3 x0))then
  ai (FH aO (sub [38,38,32,124,124,32,59,59,32,60,60,32,60,60,45,62,62,32,60,38,32,62,38,32,60,62,32,62,124,32,60,32,32,62,32,32,38,32,32,59,32,32,124,32,32,40,32,32,41,32,32] (adi .i64 3 (ag .i64 x0 1)) (adi .i64 3 x0))) fun y0=>
   bF y0 (fun a1=>
    some (a1.1.1,())) (fun b1=>
    some (b1.1.1,()))
 else
 none
def GY:Sum:=(⟨[.int .i64],[(.str,false)],fun x=>Eu x.1⟩:Sum)
noncomputable def Vj:Env:=dI Tryz.prog tt 151 [] [(4,afm)] [(4,YH)]
def ZP {γ:Type} (a:Qc.den->Option γ) (b:P8.den->Option γ) (c:NH.den->Option γ) (v:Qc.den):Option γ:=NS (fun v0=>a ((v0,()),())) (fun e0=>b ((e0,()),())) (fun r0=>c ((r0,()),())) v.1.1
theorem ai3:di Vj 151 adV YH:=wG (ZP) (lp:=fun n (v:Qc.den)=>FH n v.1.1) (by kernel_rfl) (fun _=>rfl) (fun _ _=>rfl) (fun d n K v=>by kernel_rfl) (by intros;simp only[ZP,NS,bn,bg,ae,aV,bi])
theorem alH:bZ ae5=[adV]:=by kernel_rfl
theorem anY:cZ Vj 151 ae5:=bP ae5 (fun _=>rfl) (by rw[alH];exact(aC ⟨fL (by kernel_rfl) (ai3),aN⟩))
theorem acR:bJ Vj:=bz tok mixed bV (sg:=[]) aN (fn:=Tryz.f151) (c:=ae5) (by kernel_rfl) (by kernel_rfl) (anY) bW bC
theorem MJ:bD Tryz.prog 151 GY:=ed acR (by decide) fun x=>by kernel_rfl
noncomputable def aeJ:Code:=(Tryz.f150.body).getD .skip
noncomputable def ae4:Code:=cA (cA (cB (cA (cB (cB (aeJ))))))
def ah1:dB:=⟨[0,1,5,6,100003],[],[5],[],[4],[]⟩
def Qm:SP:=⟨us [.v .str,.v (.int .i64),.u,.u,.u,.v (.int .i64),.v (.int .i64)] 35,[]⟩
def NP:SP:=⟨us [.u,.u,.u,.u,.u,.v (.int .i64)] 36,[]⟩
def NE:SP:=⟨us [.u,.u,.u,.u,.v (.int .i64)] 37,[]⟩
def CX {γ:Type} (rec:(List UInt8)->Int->Int->Int->Option γ) (kE:Int->Option γ) (kR:Int->Option γ) (v0:List UInt8) (v1:Int) (v2:Int) (v3:Int):Option γ:=
 bif(leI v3 17)then
  ai (Eu v3) fun y0=>
   bif(leI (ah y0.1) (ag .i64 (ah v0) v1))then
    bif(bu (ah v0) v1 (aG .i64 v1 (ah y0.1)))then
     bif(cO (sub v0 v1 (aG .i64 v1 (ah y0.1))) y0.1)then
      ai (Eu v2) fun y1=>
       bif(fD (ah y1.1) (ah y0.1))then
        rec v0 v1 v3 (aG .i64 v3 1)
       else
       rec v0 v1 v2 (aG .i64 v3 1)
     else
     rec v0 v1 v2 (aG .i64 v3 1)
    else
    none
   else
   rec v0 v1 v2 (aG .i64 v3 1)
 else
 kE v2
def qU:Nat->(List UInt8)->Int->Int->Int->Option (NP.den⊕NE.den)
 |0,_,_,_,_=>none
 |n+1,v0,v1,v2,v3=>CX (qU n) (fun e0=>some (.inl ((e0,()),()))) (fun r0=>some (.inr ((r0,()),()))) v0 v1 v2 v3
noncomputable def Y1:bG:=dO ah1 Qm NP NE (.exit 0) (fun v=>qU aO v.1.1 v.1.2.1 v.1.2.2.1 v.1.2.2.2.1) 6
def Ur (x0:List UInt8) (x1:Int):Option (Int×Unit):=
 ai (qU aO x0 x1 0 1) fun y0=>
  bF y0 (fun a1=>
   some (a1.1.1,())) (fun b1=>
   some (b1.1.1,()))
def Vt:Sum:=(⟨[.str,.int .i64],[(.int .i64,false)],fun x=>Ur x.1 x.2.1⟩:Sum)
noncomputable def Vd:Env:=dI Tryz.prog tt 150 [(151,GY)] [(3,ah1)] [(3,Y1)]
def aah {γ:Type} (a:Qm.den->Option γ) (b:NP.den->Option γ) (c:NE.den->Option γ) (v:Qm.den):Option γ:=CX (fun v0 v1 v2 v3=>a ((v0,v1,v2,v3,()),())) (fun e0=>b ((e0,()),())) (fun r0=>c ((r0,()),())) v.1.1 v.1.2.1 v.1.2.2.1 v.1.2.2.2.1
theorem aki:di Vd 150 ae4 Y1:=wG (aah) (lp:=fun n (v:Qm.den)=>qU n v.1.1 v.1.2.1 v.1.2.2.1 v.1.2.2.2.1) (by kernel_rfl) (fun _=>rfl) (fun _ _=>rfl) (fun d n K v=>by kernel_rfl) (by intros;simp only[aah,CX,bn,bg,ae,aV,bi])
theorem anG:bZ aeJ=[ae4]:=by kernel_rfl
theorem alZ:cZ Vd 150 aeJ:=bP aeJ (fun _=>rfl) (by rw[anG];exact(aC ⟨fL (by kernel_rfl) (aki),aN⟩))
theorem aau:bJ Vd:=bz tok mixed bV (sg:=[(151,GY)]) (aC ⟨(MJ),aN⟩) (fn:=Tryz.f150) (c:=aeJ) (by kernel_rfl) (by kernel_rfl) (alZ) bW bC
theorem aaX:bD Tryz.prog 150 Vt:=ed aau (by decide) fun x=>by kernel_rfl
def wO (x0:List UInt8):Option (Bool×Unit):=
 ai (aeL x0) fun y0=>
  bif(cO y0.1.1 [84])then
   some (true,())
  else
  some ((cO y0.1.1 [84,76]),())
def Xi:Sum:=(⟨[.str],[(.bool,false)],fun x=>wO x.1⟩:Sum)
noncomputable def am8:Env:=dI Tryz.prog tt 154 [(53,UJ)] [] []
theorem adk:bJ am8:=bz tok mixed bV (sg:=[(53,UJ)]) (aC ⟨(UC),aN⟩) (fn:=Tryz.f154) (c:=(Tryz.f154.body).getD .skip) (by kernel_rfl) (by kernel_rfl) (aS (fun _=>rfl) (fun _=>rfl) _) bW bC
theorem aa2:bD Tryz.prog 154 Xi:=ed adk (by decide) fun x=>by kernel_rfl
end Go.Proofs.YtihafdllichkeaaGreatDoor
namespace Go.Proofs.YtihafdllichkeaaGreatDoor
open Go.RowKit
set_option linter.unusedVariables false
set_option linter.unusedSimpArgs false
set_option maxRecDepth 100000
def jJ (b:Int):Bool:=decide (b=32)||decide (b=9)
def wJ (b:Int):Bool:=decide (b=124)||decide (b=38)||decide (b=59)||decide (b=60)||decide (b=62)||decide (b=40)||decide (b=41)
theorem amk: ∀n:Fin 256,(match AQ ((n.val:Nat):Int)with|some (k,_)=>(aH k 1==jJ ((n.val:Nat):Int))&&(aH k 3==wJ ((n.val:Nat):Int))|none=>false)=true:=by decide+kernel
theorem anp {b:Int} (h:isByte b): ∃k,AQ b=some (k,())/\aH k 1=jJ b/\aH k 3=wJ b:=by
 obtain⟨n,rfl⟩:=IA h
 have:=amk n
 split at this
 ·rename_i k u hk
  simp only[Bool.and_eq_true,beq_iff_eq]at this
  exact⟨k,hk,this.1,this.2⟩
 ·cases this
def MH:List (List UInt8):=[[38,38],[124,124],[59,59],[60,60],[60,60,45],[62,62],[60,38],[62,38],[60,62],[62,124],[60],[62],[38],[59],[124],[40],[41]]
def UY (u:List UInt8):Nat:=match MH.findIdx? (· ==u)with
 |some j=>j+1
 |none=>0
theorem ah2: ∀n:Fin 18,n.val≠0->aed ((n.val:Nat):Int)=some (MH.getD (n.val-1) [],()):=by decide+kernel
theorem Pg {α:Type} (p:α->Bool) (l:List α) {k:Nat} (h:k<l.length):(l.drop k).findIdx? p=if p l[k]=true then some 0 else((l.drop (k+1)).findIdx? p).map (· +1):=by
 rw[List.drop_eq_getElem_cons h,List.findIdx?_cons]
theorem Ls (u:List UInt8): ∀(d N k:Nat),k+d=17->d<N->
  rM N u ((k+1:Nat):Int)=some (match(MH.drop k).findIdx? (· ==u)with
   |some j=>.inr ((((k+j+1:Nat):Int),()),())
   |none=>.inl ((),()))
 |d,0,k,_,h=>by omega
 |0,N+1,k,h,_=>by
  have hk:k=17:=by omega
  subst hk
  rw[rM,AO]
  rfl
 |d+1,N+1,k,h,hN=>by
  have hk:k<MH.length:=by show k<17;omega
  have ht:=ah2 ⟨k+1,by omega⟩ (by simp)
  simp only[Nat.add_sub_cancel]at ht
  rw[rM,AO,aK (qj (by omega)),ht,ae,Pg _ _ hk]
  have hg:MH.getD k []=MH[k]:=by rw[List.getD_eq_getElem?_getD,List.getElem?_eq_getElem hk];rfl
  simp only[hg,cO]
  by_cases e:(MH[k]==u)=true
  ·rw[e];simp
  ·rw[Bool.not_eq_true]at e
   rw[e,bI (by omega) (by omega),show((k+1:Nat):Int)+1=((k+1+1:Nat):Int) by omega]
   simp only[cond_false]
   rw[Ls u d N (k+1) (by omega) (by omega)]
   cases (MH.drop (k+1)).findIdx? (· ==u)with
   |none=>rfl
   |some j=>
    rw[Option.map_some]
    simp only
    rw[show k+1+j+1=k+(j+1)+1 by omega];rfl
theorem aml (u:List UInt8) (h:UY u≠0):u∈MH:=by
 unfold UY at h
 split at h
 ·rename_i j hj
  obtain⟨hl,he,_⟩:=List.findIdx?_eq_some_iff_getElem.1 hj
  have:=eq_of_beq he
  rw[<-this];exact List.getElem_mem hl
 ·exact absurd rfl h
theorem afW (u:List UInt8):UO u=some (((UY u:Nat):Int),()):=by
 rw[UO]
 by_cases e:u=[]
 ·subst e;rfl
 ·rw[aU (by unfold cO;simpa using e)]
  have h:=Ls u 17 aO 0 rfl (dh (by omega))
  rw[List.drop_zero]at h
  rw[show rM aO u 1=_ from h,ae]
  unfold UY
  cases MH.findIdx? (· ==u)with
  |none=>rfl
  |some j=>simp[bF]
def FZ (t:List UInt8):Nat->Nat×Nat
 |0=>(0,0)
 |n+1=>if UY (t.take (n+1))≠0 then(UY (t.take (n+1)),n+1)else FZ t n
theorem tN (s:List UInt8) (a n:Nat):sub s (a:Int) ((a+n:Nat):Int)=(s.drop a).take n:=by
 simp only[sub,Int.toNat_natCast]
 rw[List.drop_take]
 simp
theorem Sv (s:List UInt8) (hs:s.length<1000000) (a:Nat): ∀(n N:Nat),n<N->a+n<=s.length->
  uN N s (a:Int) 0 (n:Int)=some (.inl (((((FZ (s.drop a) n).1:Nat):Int),(((FZ (s.drop a) n).2:Nat):Int),()),()))
 |n,0,h,_=>by omega
 |0,N+1,_,_=>by
  rw[uN,AA];rfl
 |n+1,N+1,h,hn=>by
  rw[uN,AA,aK (dM (by omega)),bI (by omega) (by omega),show(a:Int)+((n+1:Nat):Int)=((a+(n+1):Nat):Int) by omega,
   aK (dC (by omega) (by omega) (by rw[aB];omega)),tN,afW,ae,FZ]
  by_cases e:UY ((s.drop a).take (n+1))=0
  ·rw[e]
   simp only[show(!aH ((0:Nat):Int) 0)=false from rfl,cond_false,ne_eq,not_true_eq_false,if_false]
   rw[fU (by omega) (by omega),show((n+1:Nat):Int)-1=(n:Int) by omega]
   exact Sv s hs a n N (by omega) (by omega)
  ·rw[if_pos e]
   simp only[bU (a:=((UY ((s.drop a).take (n+1)):Nat):Int)) (b:=0) (by omega),Bool.not_false,cond_true]
def vV (t:List UInt8):Nat×Nat:=FZ t (min 3 t.length)
theorem aiT {c:UInt8} {t:List UInt8} (h:c::t∈MH):wJ (c.toNat:Int)=true:=by
 have: ∀u∈MH,(match u with|c::_=>wJ (c.toNat:Int)|[]=>true)=true:=by decide
 exact this _ h
theorem Z4 {c:UInt8} {t:List UInt8} (h:wJ (c.toNat:Int)=false): ∀n,FZ (c::t) n=(0,0)
 |0=>rfl
 |n+1=>by
  rw[FZ,if_neg,Z4 h n]
  intro he
  have:=aiT (aml _ he)
  rw[h]at this;cases this
theorem auH {s:List UInt8} (hs:s.length<1000000) {a:Nat} (ha:a<s.length):YJ s a=some ((((vV (s.drop a)).1:Nat):Int),((((vV (s.drop a)).2:Nat):Int),())):=by
 rw[YJ,aU (iq (by omega)),aU (Fh (by rw[aB];omega)),aK (dw (by omega) (by omega))]
 obtain⟨k,h1,_,h3⟩:=anp (jm s a)
 rw[h1,ae]
 simp only[h3]
 have hd:=List.drop_eq_getElem_cons ha
 rw[byte_at ha]
 cases hm:wJ (s[a].toNat:Int)with
 |false=>
  unfold vV
  rw[hd,Z4 hm];rfl
 |true=>
  simp only[Bool.not_true,cond_false]
  have hmin:yX 3 (ag .i64 (ah s) (a:Int))=((min 3 (s.drop a).length:Nat):Int):=by
   rw[aB,fU (by omega) (by omega),List.length_drop]
   simp only[yX]
   split<;>omega
  rw[hmin,Sv s hs a _ aO (dh (by omega)) (by rw[List.length_drop];omega),ae]
  rfl
theorem Gy (t:List UInt8):(vV t).2<=t.length/\((vV t).2=0↔(vV t).1=0)/\(vV t).1<=17:=by
 have h: ∀n,(FZ t n).2<=n/\((FZ t n).2=0↔(FZ t n).1=0)/\(FZ t n).1<=17:=by
  intro n
  induction n with
  |zero=>exact⟨Nat.le_refl _,Iff.rfl,by simp[FZ]⟩
  |succ n ih=>
   rw[FZ]
   split
   ·rename_i e
    refine⟨Nat.le_refl _,⟨fun h=>absurd h (by simp),fun h=>absurd h e⟩, ?_⟩
    unfold UY
    split
    ·rename_i j hj
     have:=(List.findIdx?_eq_some_iff_getElem.1 hj).1
     have hl:MH.length=17:=rfl
     simp only;omega
    ·exact Nat.zero_le _
   ·exact⟨by have:=ih.1;omega,ih.2⟩
 have:=h (min 3 t.length)
 exact⟨by unfold vV;have:=this.1;omega,this.2⟩
theorem akR (c:UInt8): ∀l:List UInt8,Lib.indexByte l c=if(l.takeWhile (· !=c)).length<l.length then(((l.takeWhile (· !=c)).length:Nat):Int)else-1
 |[]=>rfl
 |b::l=>by
  unfold Lib.indexByte
  rw[akR c l]
  by_cases e:b=c
  ·subst e;simp
  ·have e1:(b==c)=false:=by simpa using e
   have e2:(b !=c)=true:=by simpa using e
   have e3:(b::l).takeWhile (fun x=>x !=c)=b::l.takeWhile (fun x=>x !=c):=by rw[List.takeWhile_cons,e2];rfl
   rw[e1,e3]
   simp only[Bool.false_eq_true,if_false,List.length_cons]
   by_cases h:(l.takeWhile (fun x=>x !=c)).length<l.length
   ·have e4:((((l.takeWhile (fun x=>x !=c)).length:Nat):Int)== -1)=false:=by
     rw[beq_eq_false_iff_ne];omega
    rw[if_pos h]
    simp only[e4,Bool.false_eq_true,if_false]
    rw[if_pos (by omega)];omega
   ·rw[if_neg h]
    simp only[BEq.rfl,if_true]
    rw[if_neg (by omega)]
def fQ (s:List UInt8) (a:Nat):Nat:=a+((s.drop a).takeWhile (· !=10)).length
theorem ql (s:List UInt8) (a:Nat):a<=fQ s a:=Nat.le_add_right _ _
theorem qA {s:List UInt8} {a:Nat} (h:a<=s.length):fQ s a<=s.length:=by
 have:=ww (· !=10) (s.drop a)
 rw[List.length_drop]at this
 unfold fQ;omega
theorem agb {s:List UInt8} (hs:s.length<1000000) {a:Nat} (ha:a<=s.length):Ld s a=some (((fQ s a:Nat):Int),(decide (fQ s a<s.length),())):=by
 have hle:=qA ha
 have hge:=ql s a
 rw[Ld,aK (dC (by omega) (by rw[aB];omega) (by omega)),ahv,aeD,ae,ae]
 have h1:sub s (a:Int) (ah s)=s.drop a:=by simp[sub,aB]
 have h2:ibW (sub s (a:Int) (ah s)) 10=if fQ s a<s.length then((fQ s a-a:Nat):Int)else-1:=by
  rw[h1]
  unfold ibW
  rw[show(10:Int).toNat.toUInt8=10 from rfl,akR,List.length_drop]
  unfold fQ at*
  by_cases h:((s.drop a).takeWhile (· !=10)).length<s.length-a
  ·rw[if_pos h,if_pos (by omega)];congr 1;omega
  ·rw[if_neg h,if_neg (by omega)]
 rw[h2]
 by_cases h:fQ s a<s.length
 ·rw[if_pos h,aK (qj (by omega)),bI (by omega) (by omega),decide_eq_true h]
  congr 2;omega
 ·rw[if_neg h,aU (Fh (by omega)),decide_eq_false h,aB]
  congr 2;omega
def oG:List UInt8->Nat
 |[]=>0
 |[c]=>if jJ (c.toNat:Int)=true then 1 else 0
 |c::d::t=>if jJ (c.toNat:Int)=true then oG (d::t)+1 else if c=92/\d=10 then oG t+2 else 0
theorem Qs: ∀t:List UInt8,oG t<=t.length
 |[]=>Nat.le_refl _
 |[c]=>by rw[oG];split<;>simp
 |c::d::t=>by
  have h1:=Qs (d::t)
  have h2:=Qs t
  rw[oG]
  simp only[List.length_cons]at*
  split
  ·omega
  ·split<;>omega
def oJ (t:List UInt8):Bool:=match t with
 |c::d::_=>decide (c=92)&&decide (d=10)
 |_=>false
theorem amI (t:List UInt8):ZG t [92,10]=some (oJ t,()):=by
 rw[ZG,agp]
 cases t with
 |nil=>rfl
 |cons c t=>
  cases t with
  |nil=>rfl
  |cons d t=>
   have h1:leI (ah [(92:UInt8),10]) (ah (c::d::t))=true:=qj (by rw[aB,aB];simp only[List.length_cons,List.length_nil];omega)
   have h2:bu (ah (c::d::t)) 0 (ah [(92:UInt8),10])=true:=dC (by omega) (by rw[aB];simp) (by rw[aB,aB];simp only[List.length_cons,List.length_nil];omega)
   have h3:sub (c::d::t) 0 (ah [(92:UInt8),10])=[c,d]:=by simp[sub,aB]
   simp only[h1,h2,h3,cond_true,ae]
   simp[oJ,cO,Bool.beq_eq_decide_eq]
theorem ahm {s:List UInt8} {a:Nat} (ha:a<=s.length):RS s a=some (oJ (s.drop a),()):=by
 rw[RS,aK (dC (by omega) (by rw[aB];omega) (by omega)),show sub s (a:Int) (ah s)=s.drop a by simp[sub,aB],amI,ae]
theorem Bd {c:UInt8} {t:List UInt8}:oG (c::t)=if jJ (c.toNat:Int)=true then oG t+1 else if oJ (c::t)=true then oG (t.drop 1)+2 else 0:=by
 cases t with
 |nil=>rw[oG];simp[oJ,oG]
 |cons d t=>rw[oG];simp[oJ]
theorem Ac {s:List UInt8} (hs:s.length<1000000): ∀(N a:Nat),s.length-a<N->a<=s.length->
  ∃o,yT N s (a:Int)=some o/\bF o (fun a1=>some (a1.1.1,())) (fun b1=>some (b1.1.1,()))=some ((((a+oG (s.drop a):Nat):Int)),())
 |0,a,h,_=>by omega
 |N+1,a,h,ha=>by
  rw[yT,Gs]
  by_cases e:a<s.length
  ·obtain⟨k,h1,h2,_⟩:=anp (jm s a)
   have hd:=List.drop_eq_getElem_cons e
   rw[aK (dM (by rw[aB];omega)),aK (dw (by omega) (by omega)),h1,ae]
   simp only[h2]
   rw[byte_at e,hd,Bd]
   by_cases hb:jJ (s[a].toNat:Int)=true
   ·rw[hb,cond_true,if_pos rfl,bI (by omega) (by omega),show(a:Int)+1=((a+1:Nat):Int) by omega]
    obtain⟨o,o1,o2⟩:=Ac hs N (a+1) (by omega) (by omega)
    exact⟨o,o1,by rw[o2];congr 2;omega⟩
   ·rw[Bool.not_eq_true]at hb
    rw[hb,cond_false,if_neg (by simp),ahm (by omega),ae,hd]
    cases hc:oJ (s[a]::s.drop (a+1))with
    |true=>
     have hlen:a+2<=s.length:=by
      rw[<-hd]at hc
      rcases Nat.lt_or_ge s.length (a+2)with hl|hl
      ·have:(s.drop a).length=1:=by rw[List.length_drop];omega
       obtain⟨x,hx⟩:=List.length_eq_one_iff.1 this
       rw[hx]at hc;cases hc
      ·exact hl
     simp only[cond_true,if_true]
     rw[bI (by omega) (by omega),show(a:Int)+2=((a+2:Nat):Int) by omega,List.drop_drop,show a+1+1=a+2 from rfl]
     obtain⟨o,o1,o2⟩:=Ac hs N (a+2) (by omega) (by omega)
     exact⟨o,o1,by rw[o2];congr 2;omega⟩
    |false=>
     simp only[cond_false,Bool.false_eq_true,if_false,Nat.add_zero]
     exact⟨_,rfl,rfl⟩
  ·rw[aU (gm (by rw[aB];omega)),List.drop_of_length_le (by omega)]
   exact⟨_,rfl,rfl⟩
theorem aiq {s:List UInt8} (hs:s.length<1000000) {a:Nat} (ha:a<=s.length):UF s a=some ((((a+oG (s.drop a):Nat):Int)),()):=by
 rw[UF]
 obtain⟨o,o1,o2⟩:=Ac hs aO a (dh (by omega)) ha
 rw[o1,ae]
 exact o2
def uq (t:List UInt8):Nat:=if iT t≠0/\(t.drop (iT t)).head?=some 60\/iT t≠0/\(t.drop (iT t)).head?=some 62 then iT t else 0
theorem Gv (t:List UInt8):iT t<=t.length:=ww _ _
theorem aes {s:List UInt8} (hs:s.length<1000000) {a:Nat} (ha:a<=s.length):GX s a=some ((((a+uq (s.drop a):Nat):Int)),()):=by
 have hle:=Gv (s.drop a)
 rw[List.length_drop]at hle
 rw[GX,RP hs ha,ae]
 simp only
 rw[bI (by omega) (by omega),show(a:Int)+((iT (s.drop a):Nat):Int)=((a+iT (s.drop a):Nat):Int) by omega]
 unfold uq
 by_cases h0:iT (s.drop a)=0
 ·rw[aU (iq (by omega)),if_neg (by omega)];rfl
 ·rw[aK (dM (by omega))]
  by_cases h1:a+iT (s.drop a)<s.length
  ·have hd:((s.drop a).drop (iT (s.drop a))).head?=some s[a+iT (s.drop a)]:=by
    rw[List.drop_drop,List.drop_eq_getElem_cons h1];rfl
   rw[aK (dM (by rw[aB];omega)),aK (dw (by omega) (by omega)),byte_at h1,hd]
   by_cases e1:s[a+iT (s.drop a)]=60
   ·rw[e1,if_pos (.inl ⟨h0,rfl⟩)];rfl
   ·have e1':((s[a+iT (s.drop a)].toNat:Nat):Int)≠60:=fun h=>e1 (UInt8.toNat_inj.1 (by rw[show(60:UInt8).toNat=60 from rfl];omega))
    rw[aU (bU e1'),aK (dw (by omega) (by omega))]
    by_cases e2:s[a+iT (s.drop a)]=62
    ·rw[e2,if_pos (.inr ⟨h0,rfl⟩)];rfl
    ·have e2':((s[a+iT (s.drop a)].toNat:Nat):Int)≠62:=fun h=>e2 (UInt8.toNat_inj.1 (by rw[show(62:UInt8).toNat=62 from rfl];omega))
     rw[aU (bU e2'),if_neg (by simp[e1,e2])]
     simp
  ·have hd:((s.drop a).drop (iT (s.drop a))).head?=none:=by
    rw[List.drop_drop,List.drop_of_length_le (by omega)];rfl
   rw[aU (iq (by rw[aB];omega)),hd,if_neg (by simp)];simp
theorem Xw: ∀n:Fin 15,(match aam ((n.val:Nat):Int)with|some (t,_)=>(t==([]:List UInt8))==(decide (n.val=0)||decide (n.val=12))&&decide (t.length<=2)|none=>false)=true:=by decide+kernel
theorem adG {m:Int} (h0:0<=m) (h1:m<=14): ∃t,aam m=some (t,())/\(t=[]↔m=0\/m=12)/\t.length<=2:=by
 have:=Xw ⟨m.toNat,by omega⟩
 rw[show((m.toNat:Nat):Int)=m by omega]at this
 split at this
 ·rename_i t u ht
  simp only[Bool.and_eq_true,beq_iff_eq,decide_eq_true_eq]at this
  refine⟨t,ht, ?_,this.2⟩
  have h:=this.1
  by_cases e:t=[]
  ·rw[e]at h
   simp only[BEq.rfl]at h
   have:=h.symm
   simp only[Bool.or_eq_true,decide_eq_true_eq]at this
   exact⟨fun _=>by omega,fun _=>e⟩
  ·have h':(t==([]:List UInt8))=false:=by simpa using e
   rw[h']at h
   have:=h.symm
   simp only[Bool.or_eq_false_iff,decide_eq_false_iff_not]at this
   exact⟨fun h=>absurd h e,fun h=>by omega⟩
 ·cases this
def BH (s:dm):Bool:=s.all fun f=>decide (f.1=0)||decide (f.1=12)
theorem BU (F:List yH) (hF:F.length<1000000) (hm: ∀f∈F,0<=f.1/\f.1<=14): ∀(N k:Nat) (a b:List UInt8) (t:List Int),k<N->k<=F.length->t.length<=2*(F.length-k)->
  ∃t',jR N ((k:Int)-1) a b F t=some (.inl ((),((a,()),(),(),()),((b,()),(F,()),(),t',())))/\(t'=[]↔t=[]/\ ∀f∈F.take k,f.1=0\/f.1=12)
 |0,k,a,b,t,h,_,_=>by omega
 |N+1,0,a,b,t,h,_,_=>by
  rw[jR,nJ]
  refine⟨t,rfl, ?_⟩
  simp
 |N+1,k+1,a,b,t,h,hk,ht=>by
  rw[jR,nJ]
  have hk':k<F.length:=by omega
  have hg:af F (0,(0,())) (k:Int)=F[k]:=by
   unfold af
   rw[Int.toNat_natCast,List.getD_eq_getElem?_getD,List.getElem?_eq_getElem hk'];rfl
  have hb:=hm F[k] (List.getElem_mem hk')
  obtain⟨c,c1,c2,c3⟩:=adG hb.1 hb.2
  have hfit:aZ (az t (ak c)) 1=true:=by
   simp only[aZ,az,ak,List.length_append,List.length_map,decide_eq_true_eq,jh];omega
  rw[show((k+1:Nat):Int)-1=(k:Int) by omega,aK (qj (by omega)),aK (dw (by omega) (by omega)),hg,c1,ae]
  simp only[hfit,eG,cond_true]
  rw[fU (by omega) (by omega)]
  obtain⟨t',h1,h2⟩:=BU F hF hm N k a b (az t (ak c)) (by omega) (by omega) (by simp only[az,ak,List.length_append,List.length_map];omega)
  refine⟨t',h1, ?_⟩
  rw[h2,List.take_add_one,List.getElem?_eq_getElem hk']
  have:az t (ak c)=[]↔t=[]/\(F[k].1=0\/F[k].1=12):=by
   rw[<-c2]
   unfold az ak
   simp
  rw[this]
  simp only[Option.toList_some,List.mem_append,List.mem_singleton]
  constructor
  ·rintro ⟨⟨e1,e2⟩,e3⟩
   exact⟨e1,fun f hf=>hf.elim (e3 f) (fun e=>by rw[e];exact e2)⟩
  ·rintro ⟨e1,e2⟩
   exact⟨⟨e1,e2 _ (.inr rfl)⟩,fun f hf=>e2 f (.inl hf)⟩
theorem ady (w:List UInt8) (hw:w.length<=100000): ∃t,UI w=some (t,())/\(!cO t [])= !BH (jq w 0 bY).1:=by
 have hg:=ul w 0 bY iC
 have hl:bY.1.length=1:=rfl
 have hm:=uU hg.1
 rw[UI,akl w hw,ae]
 obtain⟨t',h1,h2⟩:=BU (lo (jq w 0 bY).1) (by rw[jk];omega) (fun f hf=>by
  unfold lo at hf
  rw[List.mem_reverse,List.mem_map]at hf
  obtain⟨g,hg,rfl⟩:=hf
  exact hm g hg) aO (lo (jq w 0 bY).1).length [] [] [] (dh (by rw[jk];omega)) (Nat.le_refl _) (by simp)
 simp only
 rw[aB,fU (by rw[jk];omega) (by rw[jk];omega),h1,ae]
 refine⟨_,rfl, ?_⟩
 congr 1
 simp only
 rw[List.take_length]at h2
 have h3:(∀f∈lo (jq w 0 bY).1,f.1=0\/f.1=12)↔BH (jq w 0 bY).1=true:=by
  unfold BH lo
  simp only[List.mem_reverse,List.mem_map,List.all_eq_true,Bool.or_eq_true,decide_eq_true_eq]
  exact⟨fun h f hf=>h _ ⟨f,hf,rfl⟩,fun h f ⟨g,hg,e⟩=>by subst e;exact h g hg⟩
 rw[h3]at h2
 unfold cO
 cases hs:BH (jq w 0 bY).1 with
 |true=>rw[h2.2 ⟨rfl,hs⟩];rfl
 |false=>
  have:t'≠[]:=fun e=>by have:=(h2.1 e).2;rw[hs]at this;cases this
  cases t' with
  |nil=>exact absurd rfl this
  |cons x y=>rfl
def lF (s:List UInt8) (tabs:Bool) (a:Nat):List UInt8:=if tabs=true then((s.take (fQ s a)).drop a).dropWhile (· ==9)else(s.take (fQ s a)).drop a
def jX (s:List UInt8) (a:Nat):Nat:=if fQ s a<s.length then fQ s a+1 else fQ s a
def kM (s w:List UInt8) (tabs:Bool):Nat->Nat->Nat×Bool
 |0,a=>(a,false)
 |n+1,a=>if a<s.length then(if lF s tabs a=w then(jX s a,true)else kM s w tabs n (jX s a))else(a,false)
theorem Uy {s:List UInt8} {a:Nat} (h:a<s.length):a<jX s a/\jX s a<=s.length:=by
 have h1:=ql s a
 have h2:=qA (s:=s) (a:=a) (by omega)
 unfold jX
 split<;>omega
theorem I4: ∀(l:List UInt8) (N:Nat),l.length<N->uO N l 9=some (.inl ((l.dropWhile (· ==9),()),()))
 |l,0,h=>by omega
 |[],N+1,_=>by rw[uO,CU];rfl
 |c::l,N+1,h=>by
  rw[uO,CU,aK (dM (by rw[aB];simp only[List.length_cons];omega)),aK (dw (by omega) (by simp only[List.length_cons];omega)),show aI (c::l) 0=(c.toNat:Int) from rfl]
  by_cases e:c=9
  ·subst e
   rw[show aH (((9:UInt8).toNat:Nat):Int) 9=true from rfl,cond_true,aK (dC (by omega) (by rw[aB];simp only[List.length_cons];omega) (by omega))]
   rw[show sub ((9:UInt8)::l) 1 (ah ((9:UInt8)::l))=l by simp[sub,aB],I4 l N (by simp at h;omega)]
   simp
  ·rw[aU (bU (fun h=>e (UInt8.toNat_inj.1 (by rw[show(9:UInt8).toNat=9 from rfl];omega)))),List.dropWhile_cons_of_neg (by simpa using e)]
theorem ai2 (l:List UInt8) (hl:l.length<1000000):aao l 9=some (l.dropWhile (· ==9),()):=by
 rw[aao,I4 l aO (dh (by omega)),ae];rfl
theorem MV {s w:List UInt8} (hs:s.length<1000000) (tabs:Bool): ∀(N a:Nat),s.length-a<N->a<=s.length->
  qZ N s (a:Int) w tabs=some (if(kM s w tabs N a).2=true then .inr (((((kM s w tabs N a).1:Nat):Int),true,()),())else .inl (((((kM s w tabs N a).1:Nat):Int),()),()))
 |0,a,h,_=>by omega
 |N+1,a,h,ha=>by
  rw[qZ,Gm,kM]
  by_cases e:a<s.length
  ·have h1:=ql s a
   have h2:=qA (s:=s) (a:=a) (by omega)
   have hn:=Uy e
   have ih:=MV (w:=w) hs tabs N (jX s a) (by omega) (by omega)
   have hsub:sub s (a:Int) ((fQ s a:Nat):Int)=(s.take (fQ s a)).drop a:=by simp[sub]
   have hfin: ∀(x:List UInt8),x=lF s tabs a->
     (bif decide (fQ s a<s.length)then
      bif cO x w then(some (.inr ((aG .i64 ((fQ s a:Nat):Int) 1,true,()),())):Option (F5.den⊕Gw.den))
      else qZ N s (aG .i64 ((fQ s a:Nat):Int) 1) w tabs
     else bif cO x w then some (.inr ((((fQ s a:Nat):Int),true,()),()))
      else qZ N s ((fQ s a:Nat):Int) w tabs)=
     some (if(if lF s tabs a=w then(jX s a,true)else kM s w tabs N (jX s a)).2=true
      then .inr (((((if lF s tabs a=w then(jX s a,true)else kM s w tabs N (jX s a)).1:Nat):Int),true,()),())
      else .inl (((((if lF s tabs a=w then(jX s a,true)else kM s w tabs N (jX s a)).1:Nat):Int),()),())):=by
    intro x hx
    subst hx
    have hw:cO (lF s tabs a) w=decide (lF s tabs a=w):=by
     unfold cO;by_cases e:lF s tabs a=w<;>simp[e]
    rw[hw]
    by_cases hl:fQ s a<s.length
    ·have hnx:jX s a=fQ s a+1:=by unfold jX;rw[if_pos hl]
     rw[decide_eq_true hl,cond_true,bI (by omega) (by omega),show((fQ s a:Nat):Int)+1=((jX s a:Nat):Int) by omega]
     by_cases hw:lF s tabs a=w
     ·rw[decide_eq_true hw,if_pos hw];rfl
     ·rw[decide_eq_false hw,if_neg hw,cond_false,ih]
    ·have hnx:jX s a=fQ s a:=by unfold jX;rw[if_neg hl]
     rw[decide_eq_false hl,cond_false,<-hnx]
     by_cases hw:lF s tabs a=w
     ·rw[decide_eq_true hw,if_pos hw];rfl
     ·rw[decide_eq_false hw,if_neg hw,cond_false,ih]
   rw[aK (dM (by rw[aB];omega)),agb hs (by omega),ae,if_pos e]
   simp only
   rw[aK (dC (by omega) (by omega) (by rw[aB];omega)),hsub]
   cases tabs with
   |false=>exact hfin _ (by rw[lF,if_neg (by simp)])
   |true=>
    simp only[cond_true]
    by_cases e0:(s.take (fQ s a)).drop a=[]
    ·rw[e0,show cO ([]:List UInt8) []=true from rfl,cond_true]
     exact hfin _ (by rw[lF,if_pos rfl,e0];rfl)
    ·rw[aU (by unfold cO;simpa using e0)]
     refine(aU (by rfl)).trans ?_
     refine(aK (by rfl)).trans ?_
     refine(aK (by rfl)).trans ?_
     refine(aK (by rfl)).trans ?_
     refine(aK (by rfl)).trans ?_
     rw[show aI [9] 0=9 from rfl]
     rw[ai2 _ (by rw[List.length_drop,List.length_take];omega),ae]
     exact hfin _ (by rw[lF,if_pos rfl])
  ·rw[aU (gm (by rw[aB];omega)),if_neg e];rfl
def wo (s w:List UInt8) (tabs:Bool) (a:Nat):Nat×Bool:=kM s w tabs aO a
theorem alL {s:List UInt8} (hs:s.length<1000000) (d:List UInt8×Bool×Unit) {a:Nat} (ha:a<=s.length):Yw s a d=some ((((wo s d.1 d.2.1 a).1:Nat):Int),((wo s d.1 d.2.1 a).2,())):=by
 rw[Yw,MV hs d.2.1 aO a (dh (by omega)) ha,ae]
 unfold wo
 cases h:(kM s d.1 d.2.1 aO a).2 with
 |true=>simp[bF]
 |false=>simp[bF]
end Go.Proofs.YtihafdllichkeaaGreatDoor
namespace Go.Proofs.YtihafdllichkeaaGreatDoor
open Go.RowKit
set_option linter.unusedVariables false
set_option linter.unusedSimpArgs false
set_option maxRecDepth 100000
def Df (n:Nat):List UInt8:=if n=0 then []else MH.getD (n-1) []
def NR (u t:List UInt8):Bool:=decide (t.take u.length=u)
def mi (t:List UInt8):Nat->Nat
 |0=>0
 |n+1=>if NR (Df (n+1)) t=true/\(Df (mi t n)).length<(Df (n+1)).length then n+1 else mi t n
theorem Em: ∀n:Fin 18,Eu ((n.val:Nat):Int)=some (Df n.val,()):=by decide+kernel
theorem Y4: ∀n:Fin 18,(Df n.val).length<=3:=by decide+kernel
theorem UU (t:List UInt8): ∀n,mi t n<=n
 |0=>Nat.le_refl _
 |n+1=>by rw[mi];split<;>have:=UU t n<;>omega
theorem RI (s:List UInt8) (hs:s.length<1000000) {a:Nat} (ha:a<=s.length): ∀(d N k:Nat),k+d=17->d<N->
  qU N s (a:Int) ((mi (s.drop a) k:Nat):Int) ((k+1:Nat):Int)=some (.inl ((((mi (s.drop a) 17:Nat):Int),()),()))
 |d,0,k,_,h=>by omega
 |0,N+1,k,h,_=>by
  have hk:k=17:=by omega
  subst hk
  rw[qU,CX]
  rfl
 |d+1,N+1,k,h,hN=>by
  have ht:=Em ⟨k+1,by omega⟩
  have hb:=UU (s.drop a) k
  have hbt:=Em ⟨mi (s.drop a) k,by omega⟩
  have hl:=Y4 ⟨k+1,by omega⟩
  simp only at ht hbt hl
  rw[qU,CX,aK (qj (by omega)),ht,ae]
  simp only
  rw[bI (a:=((k+1:Nat):Int)) (by omega) (by omega),show((k+1:Nat):Int)+1=((k+1+1:Nat):Int) by omega,aB,aB,fU (by omega) (by omega)]
  have ih:=RI s hs ha d N (k+1) (by omega) (by omega)
  rw[mi]at ih
  by_cases e:a+(Df (k+1)).length<=s.length
  ·rw[aK (qj (by omega)),bI (by omega) (by omega),show(a:Int)+(((Df (k+1)).length:Nat):Int)=((a+(Df (k+1)).length:Nat):Int) by omega,aK (dC (by omega) (by omega) (by omega)),tN]
   have hp:cO ((s.drop a).take (Df (k+1)).length) (Df (k+1))=NR (Df (k+1)) (s.drop a):=by
    unfold cO NR;by_cases e:(s.drop a).take (Df (k+1)).length=Df (k+1)<;>simp[e]
   rw[hp]
   cases hx:NR (Df (k+1)) (s.drop a)with
   |false=>rw[cond_false];rw[hx,if_neg (by simp)]at ih;exact ih
   |true=>
    rw[hx]at ih
    rw[cond_true,hbt,ae]
    simp only[aB]
    by_cases e2:(Df (mi (s.drop a) k)).length<(Df (k+1)).length
    ·rw[aK (dM (by omega))];rw[if_pos ⟨rfl,e2⟩]at ih;exact ih
    ·rw[aU (iq (by omega))];rw[if_neg (fun h=>e2 h.2)]at ih;exact ih
  ·rw[aU (Fh (by omega))]
   have hx:NR (Df (k+1)) (s.drop a)=false:=by
    unfold NR
    refine decide_eq_false fun h=> ?_
    have:=congrArg List.length h
    rw[List.length_take,List.length_drop]at this
    omega
   rw[hx,if_neg (by simp)]at ih
   exact ih
theorem aq6 (s:List UInt8) (hs:s.length<1000000) {a:Nat} (ha:a<=s.length):Ur s a=some (((mi (s.drop a) 17:Nat):Int),()):=by
 rw[Ur]
 have h:=RI s hs ha 17 aO 0 rfl (dh (by omega))
 rw[show qU aO s (a:Int) 0 1=_ from h,ae]
 rfl
def opB:List UInt8:=[38,124,59,60,62,45,40,41]
def qY (c:UInt8):UInt8:=if opB.contains c=true then c else 0
theorem QD: ∀(x u:List UInt8),(∀c∈u,opB.contains c=true)->(x.map qY=u↔x=u)
 |[],[],_=>Iff.rfl
 |[],_::_,_=>by simp
 |_::_,[],_=>by simp
 |c::x,d::u,h=>by
  have h0:=h d (List.mem_cons_self ..)
  have ih:=QD x u fun c hc=>h c (List.mem_cons_of_mem _ hc)
  rw[List.map_cons,List.cons.injEq,List.cons.injEq,ih]
  have:qY c=d↔c=d:=by
   unfold qY
   split
   ·exact Iff.rfl
   ·rename_i hc
    constructor
    ·intro e
     rw[<-e]at h0
     exact absurd h0 (by decide)
    ·intro e
     rw[e]at hc
     exact absurd h0 hc
  rw[this]
theorem MB: ∀u∈MH,∀c∈u,opB.contains c=true:=by decide
theorem agk (x:List UInt8):UY (x.map qY)=UY x:=by
 unfold UY
 have:MH.findIdx? (· ==x.map qY)=MH.findIdx? (· ==x):=by
  have h: ∀l:List (List UInt8),(∀u∈l,∀c∈u,opB.contains c=true)->l.findIdx? (· ==x.map qY)=l.findIdx? (· ==x):=by
   intro l
   induction l with
   |nil=>intro _;rfl
   |cons u l ih=>
    intro h
    have e:(u==x.map qY)=(u==x):=by
     have:=QD x u (h u (List.mem_cons_self ..))
     rw[Bool.eq_iff_iff,beq_iff_eq,beq_iff_eq]
     exact⟨fun e=>(this.1 e.symm).symm,fun e=>(this.2 e.symm).symm⟩
    rw[List.findIdx?_cons,List.findIdx?_cons,e,ih fun u hu=>h u (List.mem_cons_of_mem _ hu)]
  exact h MH MB
 rw[this]
theorem ahR (t:List UInt8):vV t=vV ((t.take 3).map qY):=by
 have h: ∀n,n<=3->FZ t n=FZ ((t.take 3).map qY) n:=by
  intro n hn
  induction n with
  |zero=>rfl
  |succ n ih=>
   rw[FZ,FZ,<-List.map_take,List.take_take,Nat.min_eq_left hn,agk,ih (by omega)]
 unfold vV
 rw[List.length_map,List.length_take,h _ (by omega)]
 congr 1;omega
theorem GV (t:List UInt8): ∀n,n<=17->mi t n=mi ((t.take 3).map qY) n
 |0,_=>rfl
 |n+1,hn=>by
  have ih:=GV t n (by omega)
  have hl:=Y4 ⟨n+1,by omega⟩
  simp only at hl
  have e:NR (Df (n+1)) t=NR (Df (n+1)) ((t.take 3).map qY):=by
   unfold NR
   rw[<-List.map_take,List.take_take,Nat.min_eq_left hl]
   have hb: ∀c∈Df (n+1),opB.contains c=true:=by
    have:Df (n+1)∈MH:=by
     have ht: ∀n:Fin 17,Df (n.val+1)∈MH:=by decide+kernel
     exact ht ⟨n,by omega⟩
    exact MB _ this
   rw[decide_eq_decide,QD _ _ hb]
  rw[mi,mi,e,ih]
def nB (n:Fin 9):UInt8:=([0,38,124,59,60,62,45,40,41]:List UInt8).getD n.val 0
def okB (t:List UInt8):Bool:=vV t==(mi t 17,(Df (mi t 17)).length)
theorem ok0:okB []=true:=by decide+kernel
theorem ok1: ∀a,okB [nB a]=true:=by decide+kernel
theorem ok2: ∀a b,okB [nB a,nB b]=true:=by decide+kernel
theorem ok3: ∀a b c,okB [nB a,nB b,nB c]=true:=by decide+kernel
theorem yU (c:UInt8): ∃n,qY c=nB n:=by
 unfold qY
 split
 ·rename_i h
  have: ∀d∈opB,∃n,d=nB n:=by decide
  exact this c (by simpa using h)
 ·exact⟨0,rfl⟩
theorem YG (t:List UInt8):vV t=(mi t 17,(Df (mi t 17)).length):=by
 rw[ahR,GV t 17 (Nat.le_refl _)]
 have h:okB ((t.take 3).map qY)=true:=by
  have hl:(t.take 3).length<=3:=by rw[List.length_take];omega
  rcases h:t.take 3 with _|⟨a,_|⟨b,_|⟨c,_|⟨d,l⟩⟩⟩⟩
  ·exact ok0
  ·obtain⟨x,hx⟩:=yU a
   simp only[List.map_cons,List.map_nil,hx];exact ok1 x
  ·obtain⟨x,hx⟩:=yU a
   obtain⟨y,hy⟩:=yU b
   simp only[List.map_cons,List.map_nil,hx,hy];exact ok2 x y
  ·obtain⟨x,hx⟩:=yU a
   obtain⟨y,hy⟩:=yU b
   obtain⟨z,hz⟩:=yU c
   simp only[List.map_cons,List.map_nil,hx,hy,hz];exact ok3 x y z
  ·rw[h]at hl
   simp only[List.length_cons]at hl;omega
 exact eq_of_beq h
theorem aoR (s:List UInt8) (hs:s.length<1000000) {a:Nat} (ha:a<=s.length):Ur s a=some ((((vV (s.drop a)).1:Nat):Int),()):=by
 rw[aq6 s hs ha,YG]
theorem aig (t:List UInt8):Eu (((vV t).1:Nat):Int)=some (Df (vV t).1,())/\(Df (vV t).1).length=(vV t).2:=by
 have h:=(Gy t).2.2
 refine⟨Em ⟨(vV t).1,by omega⟩, ?_⟩
 rw[YG]
theorem EQ {s:List UInt8} (hs:s.length<1000000): ∀(N a:Nat),s.length-a<N->a<=s.length->
  ∃o,uF N s (a:Int)=some o/\bF o (fun a1=>some (a1.1.1,())) (fun b1=>some (b1.1.1,()))=some ((((a+oG (s.drop a):Nat):Int)),())
 |0,a,h,_=>by omega
 |N+1,a,h,ha=>by
  rw[uF,FB]
  by_cases e:a<s.length
  ·have hd:=List.drop_eq_getElem_cons e
   have hin:dX s (a:Int)=true:=dw (by omega) (by omega)
   rw[aK (dM (by rw[aB];omega)),hin,byte_at e,hd,Bd]
   simp only[cond_true]
   have step: ∀m:Nat,a+m<=s.length->1<=m-> ∃o,uF N s (aG .i64 (a:Int) (m:Int))=some o/\bF o (fun a1=>some (a1.1.1,())) (fun b1=>some (b1.1.1,()))=some ((((a+(oG (s.drop (a+m))+m):Nat):Int)),()):=fun m hm h1=>by
    obtain⟨o,o1,o2⟩:=EQ hs N (a+m) (by omega) hm
    rw[bI (by omega) (by omega),show(a:Int)+(m:Int)=((a+m:Nat):Int) by omega]
    exact⟨o,o1,by rw[o2];congr 2;omega⟩
   by_cases h32:s[a]=32
   ·have:jJ (s[a].toNat:Int)=true:=by rw[h32];rfl
    rw[this,if_pos rfl,h32]
    exact step 1 (by omega) (by omega)
   ·have h32':aH (s[a].toNat:Int) 32=false:=bU fun h=>h32 (UInt8.toNat_inj.1 (by rw[show(32:UInt8).toNat=32 from rfl];omega))
    by_cases h9:s[a]=9
    ·have:jJ (s[a].toNat:Int)=true:=by rw[h9];rfl
     rw[this,if_pos rfl,h32',h9]
     exact step 1 (by omega) (by omega)
    ·have h9':aH (s[a].toNat:Int) 9=false:=bU fun h=>h9 (UInt8.toNat_inj.1 (by rw[show(9:UInt8).toNat=9 from rfl];omega))
     have hb:jJ (s[a].toNat:Int)=false:=by
      unfold jJ
      rw[eQ]at h32' h9'
      rw[h32',h9'];rfl
     rw[hb,if_neg (by simp),h32',h9']
     simp only[cond_false]
     have hstop:oJ (s[a]::s.drop (a+1))=false-> ∃o:Gq.den⊕FY.den,some (.inl (((a:Int),()),()))=some o/\bF o (fun a1=>some (a1.1.1,())) (fun b1=>some (b1.1.1,()))=some ((((a+(if oJ (s[a]::s.drop (a+1))=true then oG ((s.drop (a+1)).drop 1)+2 else 0):Nat):Int)),()):=fun h=>by
      rw[h,if_neg (by simp)]
      exact⟨_,rfl,rfl⟩
     by_cases h92:s[a]=92
     ·rw[h92,show aH (((92:UInt8).toNat:Nat):Int) 92=true from rfl,cond_true,bI (by omega) (by omega),show(a:Int)+1=((a+1:Nat):Int) by omega]
      rw[h92]at hstop
      by_cases e1:a+1<s.length
      ·have hd1:=List.drop_eq_getElem_cons e1
       rw[aK (dM (by rw[aB];omega)),aK (dw (by omega) (by omega)),byte_at e1]
       by_cases h10:s[a+1]=10
       ·rw[h10,show aH (((10:UInt8).toNat:Nat):Int) 10=true from rfl,cond_true]
        have hc:oJ (92::s.drop (a+1))=true:=by rw[hd1,h10];rfl
        rw[hc,if_pos rfl,List.drop_drop]
        exact step 2 (by omega) (by omega)
       ·rw[aU (bU fun h=>h10 (UInt8.toNat_inj.1 (by rw[show(10:UInt8).toNat=10 from rfl];omega)))]
        refine hstop ?_
        rw[hd1];simp[oJ,h10]
      ·rw[aU (iq (by rw[aB];omega))]
       refine hstop ?_
       rw[List.drop_of_length_le (by omega)];rfl
     ·rw[aU (bU fun h=>h92 (UInt8.toNat_inj.1 (by rw[show(92:UInt8).toNat=92 from rfl];omega)))]
      refine hstop ?_
      cases s.drop (a+1)with
      |nil=>rfl
      |cons d t=>simp[oJ,h92]
  ·rw[aU (gm (by rw[aB];omega)),List.drop_of_length_le (by omega)]
   exact⟨_,rfl,rfl⟩
theorem ajT {s:List UInt8} (hs:s.length<1000000) {a:Nat} (ha:a<=s.length):Zc s a=some ((((a+oG (s.drop a):Nat):Int)),()):=by
 rw[Zc]
 obtain⟨o,o1,o2⟩:=EQ hs aO a (dh (by omega)) ha
 rw[o1,ae]
 exact o2
theorem Lr {s w:List UInt8} (hs:s.length<1000000) {i:Nat} (hi:i<=s.length) (tabs:Bool): ∀(N k:Nat),i-k<N->k<=i->
  ∃k':Nat,oU N s (i:Int) (k:Int) w tabs=some (.inl ((s,(i:Int),(k':Int),()),((w,tabs,()),())))/\k'<=i/\k<=k'/\(s.take i).drop k'=if tabs=true then((s.take i).drop k).dropWhile (· ==9)else(s.take i).drop k
 |0,k,h,_=>by omega
 |N+1,k,h,hk=>by
  rw[oU,FD]
  cases tabs with
  |false=>exact⟨k,rfl,hk,Nat.le_refl _,by rw[if_neg (by simp)]⟩
  |true=>
   simp only[cond_true]
   by_cases e:k<i
   ·have hk2:k<(s.take i).length:=by rw[List.length_take];omega
    have hd:=List.drop_eq_getElem_cons hk2
    rw[List.getElem_take]at hd
    rw[aK (dM (by omega)),aK (dw (by omega) (by omega)),byte_at (by omega)]
    by_cases h9:s[k]=9
    ·rw[h9,show aH (((9:UInt8).toNat:Nat):Int) 9=true from rfl,cond_true,bI (by omega) (by omega),show(k:Int)+1=((k+1:Nat):Int) by omega]
     obtain⟨k',h1,h2,h3,h4⟩:=Lr hs hi true N (k+1) (by omega) (by omega)
     exact⟨k',h1,h2,by omega,by rw[h4,if_pos rfl,if_pos trivial,hd,h9];simp⟩
    ·rw[aU (bU fun h=>h9 (UInt8.toNat_inj.1 (by rw[show(9:UInt8).toNat=9 from rfl];omega)))]
     exact⟨k,rfl,hk,Nat.le_refl _,by rw[if_pos trivial,hd,List.dropWhile_cons_of_neg (by simpa using h9)]⟩
   ·rw[aU (gm (by omega))]
    refine⟨k,rfl,hk,Nat.le_refl _, ?_⟩
    rw[if_pos trivial,List.drop_of_length_le (by rw[List.length_take];omega)];rfl
theorem KN {s:List UInt8} {f i:Nat} (h1:f<=i) (h2:i<fQ s f) (h3:i<s.length):s[i]≠10:=by
 have:=EK (· !=10) (s.drop f) (i-f) (by rw[List.length_drop];omega) (by unfold fQ at h2;omega)
 rw[List.getElem_drop]at this
 simpa [show f+(i-f)=i by omega] using this
theorem Hu {s:List UInt8} {f:Nat} (h3:fQ s f<s.length):s[fQ s f]=10:=by
 have:=wS (· !=10) (s.drop f) (by rw[List.length_drop];unfold fQ at h3;omega)
 rw[List.getElem_drop]at this
 simpa [fQ] using this
def arj (s:List UInt8) (h:Nat×Bool):F6.den⊕FP.den:=if h.2=true then .inr ((((h.1:Nat):Int),1,()),())else .inl ((s,()),())
theorem zI {s w:List UInt8} (hs:s.length<1000000) (tabs:Bool): ∀(N f i M:Nat),s.length+1-i<N->f<=i->i<=fQ s f->f<=s.length->s.length-f<M->
  nG N s (f:Int) (i:Int) w tabs=some (arj s (kM s w tabs M f))
 |0,f,i,M,h,_,_,_,_=>by omega
 |N+1,f,i,0,h,hfi,hil,hf,hM=>by omega
 |N+1,f,i,M+1,h,hfi,hil,hf,hM=>by
  have hle:=qA hf
  have ew:cO (lF s tabs f) w=decide (lF s tabs f=w):=by
   unfold cO;by_cases e:lF s tabs f=w<;>simp[e]
  have stop: ∀N,0<N->nG N s ((s.length+1:Nat):Int) ((s.length+1:Nat):Int) w tabs=some (.inl ((s,()),()))/\nG N s (f:Int) ((s.length+1:Nat):Int) w tabs=some (.inl ((s,()),())):=fun N hN=>by
   obtain⟨n,rfl⟩: ∃n,N=n+1:=⟨N-1,by omega⟩
   constructor
   ·rw[nG,yz,aU (Fh (by rw[aB];omega))]
   ·rw[nG,yz,aU (Fh (by rw[aB];omega))]
  have hend: ∀m,kM s w tabs m s.length=(s.length,false):=fun m=>by
   cases m with
   |zero=>rfl
   |succ m=>rw[kM,if_neg (by omega)]
  rw[nG,yz,aK (qj (by rw[aB];omega))]
  by_cases e:i<fQ s f
  ·have hi:i<s.length:=by omega
   rw[aK (dM (by rw[aB];omega)),aK (dw (by omega) (by omega)),byte_at hi,bU fun h=>KN hfi e hi (UInt8.toNat_inj.1 (by rw[show(10:UInt8).toNat=10 from rfl];omega))]
   simp only[Bool.not_false,cond_true]
   rw[bI (by omega) (by omega),show(i:Int)+1=((i+1:Nat):Int) by omega]
   exact zI hs tabs N f (i+1) (M+1) (by omega) (by omega) (by omega) hf hM
  ·have hi:i=fQ s f:=by omega
   obtain⟨k',t1,t2,t3,t4⟩:=Lr (w:=w) hs (i:=i) (by omega) tabs aO f (dh (by omega)) hfi
   have hT:sub s (k':Int) (i:Int)=lF s tabs f:=by
    unfold lF
    rw[show sub s (k':Int) (i:Int)=(s.take i).drop k' by simp[sub],t4,hi]
   by_cases hl:i<s.length
   ·have h10:s[i]=10:=by subst hi;exact Hu hl
    have hnx:jX s f=i+1:=by unfold jX;rw[<-hi,if_pos hl]
    rw[aK (dM (by rw[aB];omega)),aK (dw (by omega) (by omega)),byte_at hl,h10,show aH (((10:UInt8).toNat:Nat):Int) 10=true from rfl]
    simp only[Bool.not_true,cond_false]
    rw[aU (bU (by rw[aB];omega)),t1,ae]
    simp only[bF]
    rw[aK (dC (by omega) (by omega) (by rw[aB];omega)),hT,ew,kM,if_pos (by omega),hnx]
    rw[aK (dM (by rw[aB];omega)),bI (by omega) (by omega),show(i:Int)+1=((i+1:Nat):Int) by omega]
    by_cases hw:lF s tabs f=w
    ·rw[decide_eq_true hw,cond_true,if_pos hw];rfl
    ·rw[decide_eq_false hw,cond_false,if_neg hw]
     exact zI hs tabs N (i+1) (i+1) M (by omega) (Nat.le_refl _) (ql s _) (by omega) (by omega)
   ·have hi2:i=s.length:=by omega
    rw[aU (iq (by rw[aB];omega)),aK (dJ (by rw[aB];omega))]
    by_cases hfi2:f=i
    ·rw[aK (dJ (by omega)),bI (by omega) (by omega),show(i:Int)+1=((s.length+1:Nat):Int) by omega,(stop N (by omega)).2,hfi2,hi2,hend];rfl
    ·have hnx:jX s f=s.length:=by unfold jX;rw[<-hi,if_neg hl];exact hi2
     rw[aU (bU (by omega)),t1,ae]
     simp only[bF]
     rw[aK (dC (by omega) (by omega) (by rw[aB];omega)),hT,ew,kM,if_pos (by omega),hnx]
     rw[aU (iq (by rw[aB];omega))]
     by_cases hw:lF s tabs f=w
     ·rw[decide_eq_true hw,cond_true,if_pos hw,hi2];rfl
     ·rw[decide_eq_false hw,cond_false,if_neg hw,hend,bI (by omega) (by omega),show(i:Int)+1=((s.length+1:Nat):Int) by omega,(stop N (by omega)).1];rfl
theorem Dh (s w:List UInt8) (tabs:Bool): ∀(N a:Nat),s.length-a<N->a<=s.length->(kM s w tabs N a).1<=s.length/\((kM s w tabs N a).2=false->(kM s w tabs N a).1=s.length)/\(a<s.length->a<(kM s w tabs N a).1)
 |0,a,h,_=>by omega
 |N+1,a,h,ha=>by
  rw[kM]
  by_cases e:a<s.length
  ·have hn:=Uy e
   rw[if_pos e]
   split
   ·exact⟨hn.2,fun h=>(by cases h),fun _=>hn.1⟩
   ·have ih:=Dh s w tabs N (jX s a) (by omega) hn.2
    refine⟨ih.1,ih.2.1,fun _=> ?_⟩
    rcases Nat.lt_or_ge (jX s a) s.length with h'|h'
    ·have:=ih.2.2 h';omega
    ·cases N with
     |zero=>omega
     |succ N=>rw[kM,if_neg (by omega)];exact hn.1
  ·rw[if_neg e]
   exact⟨ha,fun _=>(by simp only;omega),fun h=>absurd h e⟩
theorem al1 {s:List UInt8} (hs:s.length<1000000) (d:List UInt8×Bool×Unit) {a:Nat} (ha:a<=s.length):Yy s a d=some ((((wo s d.1 d.2.1 a).1:Nat):Int),((if(wo s d.1 d.2.1 a).2=true then 1 else 0),())):=by
 rw[Yy,zI hs d.2.1 aO a a aO (dh (by omega)) (Nat.le_refl _) (ql s a) ha (dh (by omega)),ae]
 have h2:=(Dh s d.1 d.2.1 aO a (dh (by omega)) ha).2.1
 unfold arj wo
 cases h:(kM s d.1 d.2.1 aO a).2 with
 |true=>simp[bF]
 |false=>simp[bF,aB,h2 h]
theorem ahI {s:dm} (hg:eu s):BH s=(cO (so s) [84]||cO (so s) [84,76]):=by
 rw[ahd hg,YB hg]
 match s,hg with
 |[],hg=>cases hg
 |[f],hg=>have h:f.1=0:=hg;simp[BH,h]
 |[f,g],hg=>
  have h1:=hg.1
  have h0:g.1=0:=hg.2.2.2
  simp[BH,h0]
  omega
 |f::g::h::r,hg=>
  have h1:=hg.2.2.2.1
  have h2:=hg.2.2.1
  unfold IV at h2
  simp only[BH,List.all_cons]
  have:(decide (g.1=0)||decide (g.1=12))=false:=by simp;omega
  rw[this];simp
end Go.Proofs.YtihafdllichkeaaGreatDoor
namespace Go.Proofs.YtihafdllichkeaaGreatDoor
open Go.RowKit
set_option linter.unusedVariables false
set_option linter.unusedSimpArgs false
set_option maxRecDepth 100000
set_option maxHeartbeats 4000000
noncomputable def aeu:Code:=(Tryz.f272.body).getD .skip
noncomputable def ag4:Code:=cA (cA (cB (cA (cB (aeu)))))
def aeG:dB:=⟨[0,1,4,6,100002],[],[4],[],[4,5],[]⟩
def Q7:SP:=⟨us [.v (.list (.pair (.int .i64) (.pair (.int .i64) (.pair (.int .i64) (.pair (.int .i64) (.pair .bool .unit)))))),.v (.int .i64),.u,.u,.ptr 1000004 0,.u,.v (.int .i64)] 18,[.box 1000004 215 [.v (.int .i64),.v (.int .i64),.v (.int .i64),.v (.int .i64),.v .bool]]⟩
def Nz:SP:=⟨us [.u,.u,.u,.u,.ptr 1000004 0] 20,[.box 1000004 215 [.v (.int .i64),.v (.int .i64),.v (.int .i64),.v (.int .i64),.v .bool]]⟩
def QG:SP:=⟨us [.u,.u,.u,.u,.ptr 1000004 0,.v (.int .i64)] 19,[.box 1000004 215 [.v (.int .i64),.v (.int .i64),.v (.int .i64),.v (.int .i64),.v .bool]]⟩
def FQ {γ:Type} (rec:(List (Int×Int×Int×Int×Bool×Unit))->Int->Int->Int->Int->Int->Int->Bool->Option γ) (kE:Int->Int->Int->Int->Bool->Option γ) (kR:Int->Int->Int->Int->Int->Bool->Option γ) (v0:List (Int×Int×Int×Int×Bool×Unit)) (v1:Int) (v2:Int) (v3:Int) (v4:Int) (v5:Int) (v6:Int) (v7:Bool):Option γ:=
 bif(fD v2 (ah v0))then
  bif(dX v0 v2)then
   bif(aH (af v0 (0,(0,(0,(0,(false,()))))) v2).2.1 v1)then
    bif(dX v0 v2)then
     kR 1 (af v0 (0,(0,(0,(0,(false,()))))) v2).1 (af v0 (0,(0,(0,(0,(false,()))))) v2).2.1 (af v0 (0,(0,(0,(0,(false,()))))) v2).2.2.1 (af v0 (0,(0,(0,(0,(false,()))))) v2).2.2.2.1 (af v0 (0,(0,(0,(0,(false,()))))) v2).2.2.2.2.1
    else
    none
   else
   rec v0 v1 (aG .i64 v2 1) v3 v4 v5 v6 v7
  else
  none
 else
 kE v3 v4 v5 v6 v7
def uY:Nat->(List (Int×Int×Int×Int×Bool×Unit))->Int->Int->Int->Int->Int->Int->Bool->Option (Nz.den⊕QG.den)
 |0,_,_,_,_,_,_,_,_=>none
 |n+1,v0,v1,v2,v3,v4,v5,v6,v7=>FQ (uY n) (fun e0 e1 e2 e3 e4=>some (.inl ((),((e0,e1,e2,e3,e4,()),())))) (fun r0 r1 r2 r3 r4 r5=>some (.inr ((r0,()),((r1,r2,r3,r4,r5,()),())))) v0 v1 v2 v3 v4 v5 v6 v7
noncomputable def aaq:bG:=dO aeG Q7 Nz QG (.exit 0) (fun v=>uY aO v.1.1 v.1.2.1 v.1.2.2.1 v.2.1.1 v.2.1.2.1 v.2.1.2.2.1 v.2.1.2.2.2.1 v.2.1.2.2.2.2.1) 6
def TJ (x0:List (Int×Int×Int×Int×Bool×Unit)) (x1:Int):Option ((Int×Int×Int×Int×Bool×Unit)×Int×Unit):=
 ai (uY aO x0 x1 0 0 0 0 0 false) fun y0=>
  bF y0 (fun a1=>
   some ((0,(0,(0,(0,(false,()))))),(0,()))) (fun b1=>
   some ((b1.2.1.1,(b1.2.1.2.1,(b1.2.1.2.2.1,(b1.2.1.2.2.2.1,(b1.2.1.2.2.2.2.1,()))))),(b1.1.1,())))
def JQ:Sum:=(⟨[.list (.pair (.int .i64) (.pair (.int .i64) (.pair (.int .i64) (.pair (.int .i64) (.pair .bool .unit))))),.int .i64],[(.pair (.int .i64) (.pair (.int .i64) (.pair (.int .i64) (.pair (.int .i64) (.pair .bool .unit)))),false),(.int .i64,false)],fun x=>TJ x.1 x.2.1⟩:Sum)
noncomputable def U7:Env:=dI Tryz.prog tt 272 [] [(2,aeG)] [(2,aaq)]
def Zg {γ:Type} (a:Q7.den->Option γ) (b:Nz.den->Option γ) (c:QG.den->Option γ) (v:Q7.den):Option γ:=FQ (fun v0 v1 v2 v3 v4 v5 v6 v7=>a ((v0,v1,v2,()),((v3,v4,v5,v6,v7,()),()))) (fun e0 e1 e2 e3 e4=>b ((),((e0,e1,e2,e3,e4,()),()))) (fun r0 r1 r2 r3 r4 r5=>c ((r0,()),((r1,r2,r3,r4,r5,()),()))) v.1.1 v.1.2.1 v.1.2.2.1 v.2.1.1 v.2.1.2.1 v.2.1.2.2.1 v.2.1.2.2.2.1 v.2.1.2.2.2.2.1
theorem aic:di U7 272 ag4 aaq:=wG (Zg) (lp:=fun n (v:Q7.den)=>uY n v.1.1 v.1.2.1 v.1.2.2.1 v.2.1.1 v.2.1.2.1 v.2.1.2.2.1 v.2.1.2.2.2.1 v.2.1.2.2.2.2.1) (by kernel_rfl) (fun _=>rfl) (fun _ _=>rfl) (fun d n K v=>by kernel_rfl) (by intros;simp only[Zg,FQ,bn,bg,ae,aV,bi])
theorem alm:bZ aeu=[ag4]:=by kernel_rfl
theorem alc:cZ U7 272 aeu:=bP aeu (fun _=>rfl) (by rw[alm];exact(aC ⟨fL (by kernel_rfl) (aic),aN⟩))
theorem aaA:bJ U7:=bz tok mixed bV (sg:=[]) aN (fn:=Tryz.f272) (c:=aeu) (by kernel_rfl) (by kernel_rfl) (alc) bW bC
theorem KA:bD Tryz.prog 272 JQ:=ed aaA (by decide) fun x=>by kernel_rfl
def zo (x0:List (Bool×Bool×(List UInt8)×(Unit))) (x1:List UInt8) (x2:Bool):Option ((List (Bool×Bool×(List UInt8)×(Unit)))×Unit):=
 bif(fD 0 (ah x0))then
  bif(!x2)then
   bif(dX x0 (ag .i64 (ah x0) 1))then
    bif(bu (ah x0) 0 (ag .i64 (ah x0) 1))then
     bif(fG (af x0 (false,(false,([],()))) (ag .i64 (ah x0) 1)).2.2.1 x1)then
      bif(dR (.pair .bool (.pair .bool (.pair .str .unit))) x0 x0)then
       bif(aH (ah x0) (ah x0))then
        bif(aH (ag .i64 (ah x0) 1) (ag .i64 (ah x0) 1))then
         bif(bu (ah x0) 0 (ag .i64 (ah x0) 1))then
          bif(dR (.pair .bool (.pair .bool (.pair .str .unit))) (sub x0 0 (ag .i64 (ah x0) 1)) (sub x0 0 (ag .i64 (ah x0) 1)))then
           bif(cO (af x0 (false,(false,([],()))) (ag .i64 (ah x0) 1)).2.2.1 (af x0 (false,(false,([],()))) (ag .i64 (ah x0) 1)).2.2.1)then
            bif(cO x1 x1)then
             bif(fG (af x0 (false,(false,([],()))) (ag .i64 (ah x0) 1)).2.2.1 x1)then
              bif(cO (az (af x0 (false,(false,([],()))) (ag .i64 (ah x0) 1)).2.2.1 x1) (az (af x0 (false,(false,([],()))) (ag .i64 (ah x0) 1)).2.2.1 x1))then
               bif((fF false false)&&((fF false false)&&((cO (az (af x0 (false,(false,([],()))) (ag .i64 (ah x0) 1)).2.2.1 x1) (az (af x0 (false,(false,([],()))) (ag .i64 (ah x0) 1)).2.2.1 x1))&&true)))then
                bif(aZ (az [] (sub x0 0 (ag .i64 (ah x0) 1))) 24)then
                 bif(dR (.pair .bool (.pair .bool (.pair .str .unit))) x0 x0)then
                  bif(aH (ah x0) (ah x0))then
                   bif(aH (ag .i64 (ah x0) 1) (ag .i64 (ah x0) 1))then
                    bif(cO (af x0 (false,(false,([],()))) (ag .i64 (ah x0) 1)).2.2.1 (af x0 (false,(false,([],()))) (ag .i64 (ah x0) 1)).2.2.1)then
                     bif(cO x1 x1)then
                      bif(fG (af x0 (false,(false,([],()))) (ag .i64 (ah x0) 1)).2.2.1 x1)then
                       bif(cO (az (af x0 (false,(false,([],()))) (ag .i64 (ah x0) 1)).2.2.1 x1) (az (af x0 (false,(false,([],()))) (ag .i64 (ah x0) 1)).2.2.1 x1))then
                        bif((fF false false)&&((fF false false)&&((cO (az (af x0 (false,(false,([],()))) (ag .i64 (ah x0) 1)).2.2.1 x1) (az (af x0 (false,(false,([],()))) (ag .i64 (ah x0) 1)).2.2.1 x1))&&true)))then
                         bif(dR (.pair .bool (.pair .bool (.pair .str .unit))) x0 x0)then
                          bif(aH (ah x0) (ah x0))then
                           bif(aH (ag .i64 (ah x0) 1) (ag .i64 (ah x0) 1))then
                            bif(bu (ah x0) 0 (ag .i64 (ah x0) 1))then
                             bif(dR (.pair .bool (.pair .bool (.pair .str .unit))) (sub x0 0 (ag .i64 (ah x0) 1)) (sub x0 0 (ag .i64 (ah x0) 1)))then
                              bif(cO (af x0 (false,(false,([],()))) (ag .i64 (ah x0) 1)).2.2.1 (af x0 (false,(false,([],()))) (ag .i64 (ah x0) 1)).2.2.1)then
                               bif(cO x1 x1)then
                                bif(fG (af x0 (false,(false,([],()))) (ag .i64 (ah x0) 1)).2.2.1 x1)then
                                 bif(cO (az (af x0 (false,(false,([],()))) (ag .i64 (ah x0) 1)).2.2.1 x1) (az (af x0 (false,(false,([],()))) (ag .i64 (ah x0) 1)).2.2.1 x1))then
                                  bif(aZ (az (az [] (sub x0 0 (ag .i64 (ah x0) 1))) [(false,(false,((az (af x0 (false,(false,([],()))) (ag .i64 (ah x0) 1)).2.2.1 x1),())))]) 24)then
                                   bif(dR (.pair .bool (.pair .bool (.pair .str .unit))) x0 x0)then
                                    bif(aH (ah x0) (ah x0))then
                                     bif(aH (ag .i64 (ah x0) 1) (ag .i64 (ah x0) 1))then
                                      bif(bu (ah x0) 0 (ag .i64 (ah x0) 1))then
                                       bif(dR (.pair .bool (.pair .bool (.pair .str .unit))) (sub x0 0 (ag .i64 (ah x0) 1)) (sub x0 0 (ag .i64 (ah x0) 1)))then
                                        bif(cO (af x0 (false,(false,([],()))) (ag .i64 (ah x0) 1)).2.2.1 (af x0 (false,(false,([],()))) (ag .i64 (ah x0) 1)).2.2.1)then
                                         bif(cO x1 x1)then
                                          bif(fG (af x0 (false,(false,([],()))) (ag .i64 (ah x0) 1)).2.2.1 x1)then
                                           bif(cO (az (af x0 (false,(false,([],()))) (ag .i64 (ah x0) 1)).2.2.1 x1) (az (af x0 (false,(false,([],()))) (ag .i64 (ah x0) 1)).2.2.1 x1))then
                                            bif((fF false false)&&((fF false false)&&((cO (az (af x0 (false,(false,([],()))) (ag .i64 (ah x0) 1)).2.2.1 x1) (az (af x0 (false,(false,([],()))) (ag .i64 (ah x0) 1)).2.2.1 x1))&&true)))then
                                             ai (bif(dR (.pair .bool (.pair .bool (.pair .str .unit))) x0 x0)then(bif(aH (ah x0) (ah x0))then(bif(aH (ag .i64 (ah x0) 1) (ag .i64 (ah x0) 1))then(bif(bu (ah x0) 0 (ag .i64 (ah x0) 1))then(bif(dR (.pair .bool (.pair .bool (.pair .str .unit))) (sub x0 0 (ag .i64 (ah x0) 1)) (sub x0 0 (ag .i64 (ah x0) 1)))then(bif(cO (af x0 (false,(false,([],()))) (ag .i64 (ah x0) 1)).2.2.1 (af x0 (false,(false,([],()))) (ag .i64 (ah x0) 1)).2.2.1)then(bif(cO x1 x1)then(bif(fG (af x0 (false,(false,([],()))) (ag .i64 (ah x0) 1)).2.2.1 x1)then(bif(cO (az (af x0 (false,(false,([],()))) (ag .i64 (ah x0) 1)).2.2.1 x1) (az (af x0 (false,(false,([],()))) (ag .i64 (ah x0) 1)).2.2.1 x1))then(bif(aZ (az [] (sub x0 0 (ag .i64 (ah x0) 1))) 24)then(bif(dR (.pair .bool (.pair .bool (.pair .str .unit))) x0 x0)then(bif(aH (ah x0) (ah x0))then(bif(aH (ag .i64 (ah x0) 1) (ag .i64 (ah x0) 1))then(bif(cO (af x0 (false,(false,([],()))) (ag .i64 (ah x0) 1)).2.2.1 (af x0 (false,(false,([],()))) (ag .i64 (ah x0) 1)).2.2.1)then(bif(cO x1 x1)then(bif(fG (af x0 (false,(false,([],()))) (ag .i64 (ah x0) 1)).2.2.1 x1)then(bif(cO (az (af x0 (false,(false,([],()))) (ag .i64 (ah x0) 1)).2.2.1 x1) (az (af x0 (false,(false,([],()))) (ag .i64 (ah x0) 1)).2.2.1 x1))then(bif((fF false false)&&((fF false false)&&((cO (az (af x0 (false,(false,([],()))) (ag .i64 (ah x0) 1)).2.2.1 x1) (az (af x0 (false,(false,([],()))) (ag .i64 (ah x0) 1)).2.2.1 x1))&&true)))then(bif(aZ (az (az [] (sub x0 0 (ag .i64 (ah x0) 1))) [(false,(false,((az (af x0 (false,(false,([],()))) (ag .i64 (ah x0) 1)).2.2.1 x1),())))]) 24)then(bif(dR (.pair .bool (.pair .bool (.pair .str .unit))) x0 x0)then(bif(aH (ah x0) (ah x0))then(bif(aH (ag .i64 (ah x0) 1) (ag .i64 (ah x0) 1))then(bif(bu (ah x0) 0 (ag .i64 (ah x0) 1))then(bif(dR (.pair .bool (.pair .bool (.pair .str .unit))) (sub x0 0 (ag .i64 (ah x0) 1)) (sub x0 0 (ag .i64 (ah x0) 1)))then(bif(cO (af x0 (false,(false,([],()))) (ag .i64 (ah x0) 1)).2.2.1 (af x0 (false,(false,([],()))) (ag .i64 (ah x0) 1)).2.2.1)then(bif(cO x1 x1)then(bif(fG (af x0 (false,(false,([],()))) (ag .i64 (ah x0) 1)).2.2.1 x1)then(bif(cO (az (af x0 (false,(false,([],()))) (ag .i64 (ah x0) 1)).2.2.1 x1) (az (af x0 (false,(false,([],()))) (ag .i64 (ah x0) 1)).2.2.1 x1))then(bif((fF false false)&&((fF false false)&&((cO (az (af x0 (false,(false,([],()))) (ag .i64 (ah x0) 1)).2.2.1 x1) (az (af x0 (false,(false,([],()))) (ag .i64 (ah x0) 1)).2.2.1 x1))&&true)))then(bif((((dR (.pair .bool (.pair .bool (.pair .str .unit))) x0 x0)&&((cO x1 x1)&&((fF x2 x2)&&((aH (ah x0) (ah x0))&&((dR (.pair .bool (.pair .bool (.pair .str .unit))) x0 x0)&&((aH (ah x0) (ah x0))&&((aH (ah x0) (ah x0))&&((fF (fD 0 (ah x0)) (fD 0 (ah x0)))&&((fF true true)&&((fF x2 x2)&&((fF (!x2) (!x2))&&((fF (!x2) (!x2))&&((dR (.pair .bool (.pair .bool (.pair .str .unit))) x0 x0)&&((aH (ah x0) (ah x0))&&((aH (ag .i64 (ah x0) 1) (ag .i64 (ah x0) 1))&&(((fF (af x0 (false,(false,([],()))) (ag .i64 (ah x0) 1)).1 (af x0 (false,(false,([],()))) (ag .i64 (ah x0) 1)).1)&&((fF (af x0 (false,(false,([],()))) (ag .i64 (ah x0) 1)).2.1 (af x0 (false,(false,([],()))) (ag .i64 (ah x0) 1)).2.1)&&((cO (af x0 (false,(false,([],()))) (ag .i64 (ah x0) 1)).2.2.1 (af x0 (false,(false,([],()))) (ag .i64 (ah x0) 1)).2.2.1)&&true)))&&(((fF (af x0 (false,(false,([],()))) (ag .i64 (ah x0) 1)).1 (af x0 (false,(false,([],()))) (ag .i64 (ah x0) 1)).1)&&((fF (af x0 (false,(false,([],()))) (ag .i64 (ah x0) 1)).2.1 (af x0 (false,(false,([],()))) (ag .i64 (ah x0) 1)).2.1)&&((cO (af x0 (false,(false,([],()))) (ag .i64 (ah x0) 1)).2.2.1 (af x0 (false,(false,([],()))) (ag .i64 (ah x0) 1)).2.2.1)&&true)))&&((dR (.pair .bool (.pair .bool (.pair .str .unit))) x0 x0)&&((aH (ah x0) (ah x0))&&((aH (ag .i64 (ah x0) 1) (ag .i64 (ah x0) 1))&&((dR (.pair .bool (.pair .bool (.pair .str .unit))) (sub x0 0 (ag .i64 (ah x0) 1)) (sub x0 0 (ag .i64 (ah x0) 1)))&&((cO (af x0 (false,(false,([],()))) (ag .i64 (ah x0) 1)).2.2.1 (af x0 (false,(false,([],()))) (ag .i64 (ah x0) 1)).2.2.1)&&((cO x1 x1)&&((cO (az (af x0 (false,(false,([],()))) (ag .i64 (ah x0) 1)).2.2.1 x1) (az (af x0 (false,(false,([],()))) (ag .i64 (ah x0) 1)).2.2.1 x1))&&(((fF false false)&&((fF false false)&&((cO (az (af x0 (false,(false,([],()))) (ag .i64 (ah x0) 1)).2.2.1 x1) (az (af x0 (false,(false,([],()))) (ag .i64 (ah x0) 1)).2.2.1 x1))&&true)))&&true)))))))))))))))))))))))))&&(((dR (.pair .bool (.pair .bool (.pair .str .unit))) [(false,(false,((az (af x0 (false,(false,([],()))) (ag .i64 (ah x0) 1)).2.2.1 x1),())))] [(false,(false,((az (af x0 (false,(false,([],()))) (ag .i64 (ah x0) 1)).2.2.1 x1),())))])&&((dR (.pair .bool (.pair .bool (.pair .str .unit))) (az (az [] (sub x0 0 (ag .i64 (ah x0) 1))) [(false,(false,((az (af x0 (false,(false,([],()))) (ag .i64 (ah x0) 1)).2.2.1 x1),())))]) (az (az [] (sub x0 0 (ag .i64 (ah x0) 1))) [(false,(false,((az (af x0 (false,(false,([],()))) (ag .i64 (ah x0) 1)).2.2.1 x1),())))]))&&(((fF (af x0 (false,(false,([],()))) (ag .i64 (ah x0) 1)).1 (af x0 (false,(false,([],()))) (ag .i64 (ah x0) 1)).1)&&((fF (af x0 (false,(false,([],()))) (ag .i64 (ah x0) 1)).2.1 (af x0 (false,(false,([],()))) (ag .i64 (ah x0) 1)).2.1)&&((cO (af x0 (false,(false,([],()))) (ag .i64 (ah x0) 1)).2.2.1 (af x0 (false,(false,([],()))) (ag .i64 (ah x0) 1)).2.2.1)&&true)))&&true)))&&true))&&true)then(some ())else(none))else(none))else(none))else(none))else(none))else(none))else(none))else(none))else(none))else(none))else(none))else(none))else(none))else(none))else(none))else(none))else(none))else(none))else(none))else(none))else(none))else(none))else(none))else(none))else(none))else(none))else(none))else(none))else(none))else(none)) fun y0=>
                                              ai (bif(dR (.pair .bool (.pair .bool (.pair .str .unit))) x0 x0)then(bif(aH (ah x0) (ah x0))then(bif(aH (ag .i64 (ah x0) 1) (ag .i64 (ah x0) 1))then(bif(bu (ah x0) 0 (ag .i64 (ah x0) 1))then(bif(dR (.pair .bool (.pair .bool (.pair .str .unit))) (sub x0 0 (ag .i64 (ah x0) 1)) (sub x0 0 (ag .i64 (ah x0) 1)))then(bif(cO (af x0 (false,(false,([],()))) (ag .i64 (ah x0) 1)).2.2.1 (af x0 (false,(false,([],()))) (ag .i64 (ah x0) 1)).2.2.1)then(bif(cO x1 x1)then(bif(fG (af x0 (false,(false,([],()))) (ag .i64 (ah x0) 1)).2.2.1 x1)then(bif(cO (az (af x0 (false,(false,([],()))) (ag .i64 (ah x0) 1)).2.2.1 x1) (az (af x0 (false,(false,([],()))) (ag .i64 (ah x0) 1)).2.2.1 x1))then(bif(dR (.pair .bool (.pair .bool (.pair .str .unit))) x0 x0)then(bif(aH (ah x0) (ah x0))then(bif(aH (ag .i64 (ah x0) 1) (ag .i64 (ah x0) 1))then(bif(bu (ah x0) 0 (ag .i64 (ah x0) 1))then(bif(dR (.pair .bool (.pair .bool (.pair .str .unit))) (sub x0 0 (ag .i64 (ah x0) 1)) (sub x0 0 (ag .i64 (ah x0) 1)))then(bif(cO (af x0 (false,(false,([],()))) (ag .i64 (ah x0) 1)).2.2.1 (af x0 (false,(false,([],()))) (ag .i64 (ah x0) 1)).2.2.1)then(bif(cO x1 x1)then(bif(fG (af x0 (false,(false,([],()))) (ag .i64 (ah x0) 1)).2.2.1 x1)then(bif(cO (az (af x0 (false,(false,([],()))) (ag .i64 (ah x0) 1)).2.2.1 x1) (az (af x0 (false,(false,([],()))) (ag .i64 (ah x0) 1)).2.2.1 x1))then(bif((fF false false)&&((fF false false)&&((cO (az (af x0 (false,(false,([],()))) (ag .i64 (ah x0) 1)).2.2.1 x1) (az (af x0 (false,(false,([],()))) (ag .i64 (ah x0) 1)).2.2.1 x1))&&true)))then(bif(aZ (az [] (sub x0 0 (ag .i64 (ah x0) 1))) 24)then(bif(dR (.pair .bool (.pair .bool (.pair .str .unit))) x0 x0)then(bif(aH (ah x0) (ah x0))then(bif(aH (ag .i64 (ah x0) 1) (ag .i64 (ah x0) 1))then(bif(cO (af x0 (false,(false,([],()))) (ag .i64 (ah x0) 1)).2.2.1 (af x0 (false,(false,([],()))) (ag .i64 (ah x0) 1)).2.2.1)then(bif(cO x1 x1)then(bif(fG (af x0 (false,(false,([],()))) (ag .i64 (ah x0) 1)).2.2.1 x1)then(bif(cO (az (af x0 (false,(false,([],()))) (ag .i64 (ah x0) 1)).2.2.1 x1) (az (af x0 (false,(false,([],()))) (ag .i64 (ah x0) 1)).2.2.1 x1))then(bif((fF false false)&&((fF false false)&&((cO (az (af x0 (false,(false,([],()))) (ag .i64 (ah x0) 1)).2.2.1 x1) (az (af x0 (false,(false,([],()))) (ag .i64 (ah x0) 1)).2.2.1 x1))&&true)))then(bif(aZ (az (az [] (sub x0 0 (ag .i64 (ah x0) 1))) [(false,(false,((az (af x0 (false,(false,([],()))) (ag .i64 (ah x0) 1)).2.2.1 x1),())))]) 24)then(bif(dR (.pair .bool (.pair .bool (.pair .str .unit))) x0 x0)then(bif(aH (ah x0) (ah x0))then(bif(aH (ag .i64 (ah x0) 1) (ag .i64 (ah x0) 1))then(bif(bu (ah x0) 0 (ag .i64 (ah x0) 1))then(bif(dR (.pair .bool (.pair .bool (.pair .str .unit))) (sub x0 0 (ag .i64 (ah x0) 1)) (sub x0 0 (ag .i64 (ah x0) 1)))then(bif(cO (af x0 (false,(false,([],()))) (ag .i64 (ah x0) 1)).2.2.1 (af x0 (false,(false,([],()))) (ag .i64 (ah x0) 1)).2.2.1)then(bif(cO x1 x1)then(bif(fG (af x0 (false,(false,([],()))) (ag .i64 (ah x0) 1)).2.2.1 x1)then(bif(cO (az (af x0 (false,(false,([],()))) (ag .i64 (ah x0) 1)).2.2.1 x1) (az (af x0 (false,(false,([],()))) (ag .i64 (ah x0) 1)).2.2.1 x1))then(bif((fF false false)&&((fF false false)&&((cO (az (af x0 (false,(false,([],()))) (ag .i64 (ah x0) 1)).2.2.1 x1) (az (af x0 (false,(false,([],()))) (ag .i64 (ah x0) 1)).2.2.1 x1))&&true)))then(bif((((dR (.pair .bool (.pair .bool (.pair .str .unit))) x0 x0)&&((cO x1 x1)&&((fF x2 x2)&&((aH (ah x0) (ah x0))&&((dR (.pair .bool (.pair .bool (.pair .str .unit))) x0 x0)&&((aH (ah x0) (ah x0))&&((aH (ah x0) (ah x0))&&((fF (fD 0 (ah x0)) (fD 0 (ah x0)))&&((fF true true)&&((fF x2 x2)&&((fF (!x2) (!x2))&&((fF (!x2) (!x2))&&((dR (.pair .bool (.pair .bool (.pair .str .unit))) x0 x0)&&((aH (ah x0) (ah x0))&&((aH (ag .i64 (ah x0) 1) (ag .i64 (ah x0) 1))&&(((fF (af x0 (false,(false,([],()))) (ag .i64 (ah x0) 1)).1 (af x0 (false,(false,([],()))) (ag .i64 (ah x0) 1)).1)&&((fF (af x0 (false,(false,([],()))) (ag .i64 (ah x0) 1)).2.1 (af x0 (false,(false,([],()))) (ag .i64 (ah x0) 1)).2.1)&&((cO (af x0 (false,(false,([],()))) (ag .i64 (ah x0) 1)).2.2.1 (af x0 (false,(false,([],()))) (ag .i64 (ah x0) 1)).2.2.1)&&true)))&&(((fF (af x0 (false,(false,([],()))) (ag .i64 (ah x0) 1)).1 (af x0 (false,(false,([],()))) (ag .i64 (ah x0) 1)).1)&&((fF (af x0 (false,(false,([],()))) (ag .i64 (ah x0) 1)).2.1 (af x0 (false,(false,([],()))) (ag .i64 (ah x0) 1)).2.1)&&((cO (af x0 (false,(false,([],()))) (ag .i64 (ah x0) 1)).2.2.1 (af x0 (false,(false,([],()))) (ag .i64 (ah x0) 1)).2.2.1)&&true)))&&((dR (.pair .bool (.pair .bool (.pair .str .unit))) x0 x0)&&((aH (ah x0) (ah x0))&&((aH (ag .i64 (ah x0) 1) (ag .i64 (ah x0) 1))&&((dR (.pair .bool (.pair .bool (.pair .str .unit))) (sub x0 0 (ag .i64 (ah x0) 1)) (sub x0 0 (ag .i64 (ah x0) 1)))&&((cO (af x0 (false,(false,([],()))) (ag .i64 (ah x0) 1)).2.2.1 (af x0 (false,(false,([],()))) (ag .i64 (ah x0) 1)).2.2.1)&&((cO x1 x1)&&((cO (az (af x0 (false,(false,([],()))) (ag .i64 (ah x0) 1)).2.2.1 x1) (az (af x0 (false,(false,([],()))) (ag .i64 (ah x0) 1)).2.2.1 x1))&&(((fF false false)&&((fF false false)&&((cO (az (af x0 (false,(false,([],()))) (ag .i64 (ah x0) 1)).2.2.1 x1) (az (af x0 (false,(false,([],()))) (ag .i64 (ah x0) 1)).2.2.1 x1))&&true)))&&true)))))))))))))))))))))))))&&(((dR (.pair .bool (.pair .bool (.pair .str .unit))) [(false,(false,((az (af x0 (false,(false,([],()))) (ag .i64 (ah x0) 1)).2.2.1 x1),())))] [(false,(false,((az (af x0 (false,(false,([],()))) (ag .i64 (ah x0) 1)).2.2.1 x1),())))])&&((dR (.pair .bool (.pair .bool (.pair .str .unit))) (az (az [] (sub x0 0 (ag .i64 (ah x0) 1))) [(false,(false,((az (af x0 (false,(false,([],()))) (ag .i64 (ah x0) 1)).2.2.1 x1),())))]) (az (az [] (sub x0 0 (ag .i64 (ah x0) 1))) [(false,(false,((az (af x0 (false,(false,([],()))) (ag .i64 (ah x0) 1)).2.2.1 x1),())))]))&&(((fF (af x0 (false,(false,([],()))) (ag .i64 (ah x0) 1)).1 (af x0 (false,(false,([],()))) (ag .i64 (ah x0) 1)).1)&&((fF (af x0 (false,(false,([],()))) (ag .i64 (ah x0) 1)).2.1 (af x0 (false,(false,([],()))) (ag .i64 (ah x0) 1)).2.1)&&((cO (af x0 (false,(false,([],()))) (ag .i64 (ah x0) 1)).2.2.1 (af x0 (false,(false,([],()))) (ag .i64 (ah x0) 1)).2.2.1)&&true)))&&true)))&&true))&&true)then(some ())else(none))else(none))else(none))else(none))else(none))else(none))else(none))else(none))else(none))else(none))else(none))else(none))else(none))else(none))else(none))else(none))else(none))else(none))else(none))else(none))else(none))else(none))else(none))else(none))else(none))else(none))else(none))else(none))else(none))else(none))else(none))else(none))else(none))else(none))else(none))else(none))else(none))else(none))else(none))else(none)) fun y1=>
                                               some ((az (az [] (sub x0 0 (ag .i64 (ah x0) 1))) [(false,(false,((az (af x0 (false,(false,([],()))) (ag .i64 (ah x0) 1)).2.2.1 x1),())))]),())
                                            else
                                            none
                                           else
                                           none
                                          else
                                          none
                                         else
                                         none
                                        else
                                        none
                                       else
                                       none
                                      else
                                      none
                                     else
                                     none
                                    else
                                    none
                                   else
                                   none
                                  else
                                  none
                                 else
                                 none
                                else
                                none
                               else
                               none
                              else
                              none
                             else
                             none
                            else
                            none
                           else
                           none
                          else
                          none
                         else
                         none
                        else
                        none
                       else
                       none
                      else
                      none
                     else
                     none
                    else
                    none
                   else
                   none
                  else
                  none
                 else
                 none
                else
                none
               else
               none
              else
              none
             else
             none
            else
            none
           else
           none
          else
          none
         else
         none
        else
        none
       else
       none
      else
      none
     else
     none
    else
    none
   else
   none
  else
  bif(aZ (az [] x0) 24)then
   bif(aZ (az (az [] x0) [(false,(false,(x1,())))]) 24)then
    some ((az (az [] x0) [(false,(false,(x1,())))]),())
   else
   none
  else
  none
 else
 bif(aZ (az [] x0) 24)then
  bif(aZ (az (az [] x0) [(false,(false,(x1,())))]) 24)then
   some ((az (az [] x0) [(false,(false,(x1,())))]),())
  else
  none
 else
 none
def Yc:Sum:=(⟨[.list (.pair .bool (.pair .bool (.pair .str .unit))),.str,.bool],[(.list (.pair .bool (.pair .bool (.pair .str .unit))),true)],fun x=>zo x.1 x.2.1 x.2.2.1⟩:Sum)
noncomputable def ang:Env:=dI Tryz.prog tt 273 [] [] []
theorem aaM:bJ ang:=bz tok mixed bV (sg:=[]) aN (fn:=Tryz.f273) (c:=(Tryz.f273.body).getD .skip) (by kernel_rfl) (by kernel_rfl) (aS (fun _=>rfl) (fun _=>rfl) _) bW bC
theorem aaQ:bD Tryz.prog 273 Yc:=ed aaM (by decide) fun x=>by kernel_rfl
noncomputable def adZ:Code:=(Tryz.f274.body).getD .skip
noncomputable def ag6:Code:=cA (cA (cA (cB (cB (cB (cB (adZ)))))))
def agH:dB:=⟨[0,1,3,9,10,11,100004],[(9,(.pair .bool (.pair .bool (.pair .str .unit))))],[9,10],[],[8],[(8,(.pair .bool (.pair .bool (.pair .str .unit))))]⟩
def O6:SP:=⟨us [.v .str,.v (.list (.pair (.int .i64) (.pair (.int .i64) (.pair (.int .i64) (.pair (.int .i64) (.pair .bool .unit)))))),.u,.v (.int .i64),.u,.u,.u,.u,.u,.slc 1800009,.v .str,.v (.int .i64)] 112,[.arr 1800009 (.pair .bool (.pair .bool (.pair .str .unit)))]⟩
def QL:SP:=⟨us [.u,.u,.u,.u,.u,.u,.u,.u,.u,.slc 1800009,.v .str] 113,[.arr 1800009 (.pair .bool (.pair .bool (.pair .str .unit)))]⟩
def QV:SP:=⟨us [.u,.u,.u,.u,.u,.u,.u,.u,.v (.list (.pair .bool (.pair .bool (.pair .str .unit))))] 115,[]⟩
def Gt {γ:Type} (rec:(List UInt8)->(List (Int×Int×Int×Int×Bool×Unit))->Int->(List UInt8)->Int->(List (Bool×Bool×(List UInt8)×(Unit)))->Option γ) (kE:(List UInt8)->(List (Bool×Bool×(List UInt8)×(Unit)))->Option γ) (kR:(List (Bool×Bool×(List UInt8)×(Unit)))->Option γ) (v0:List UInt8) (v1:List (Int×Int×Int×Int×Bool×Unit)) (v2:Int) (v3:List UInt8) (v4:Int) (v5:List (Bool×Bool×(List UInt8)×(Unit))):Option γ:=
 bif(fD v4 v2)then
  ai (TJ v1 v4) fun y0=>
   bif(aH y0.2.1 0)then
    bif(bu (ah v0) v4 (aG .i64 v4 1))then
     bif(fG v3 (sub v0 v4 (aG .i64 v4 1)))then
      rec v0 v1 v2 (az v3 (sub v0 v4 (aG .i64 v4 1))) (aG .i64 v4 1) v5
     else
     none
    else
    none
   else
   bif(aH y0.1.1 12)then
    bif(aH y0.1.2.2.1 (aG .i64 v4 1))then
     bif(bu (ah v0) v4 (aG .i64 v4 1))then
      bif(fG v3 (sub v0 v4 (aG .i64 v4 1)))then
       rec v0 v1 v2 (az v3 (sub v0 v4 (aG .i64 v4 1))) (aG .i64 v4 1) v5
      else
      none
     else
     none
    else
    bif(aH y0.1.1 13)then
     bif(aH y0.1.2.2.1 (aG .i64 v4 2))then
      bif(dX v0 (aG .i64 v4 1))then
       bif(aH (aI v0 (aG .i64 v4 1)) 36)then
        bif(bu (ah v0) (aG .i64 v4 1) (aG .i64 v4 2))then
         bif(fG v3 (sub v0 (aG .i64 v4 1) (aG .i64 v4 2)))then
          rec v0 v1 v2 (az v3 (sub v0 (aG .i64 v4 1) (aG .i64 v4 2))) y0.1.2.2.1 v5
         else
         none
        else
        none
       else
       bif(aH (aI v0 (aG .i64 v4 1)) 96)then
        bif(bu (ah v0) (aG .i64 v4 1) (aG .i64 v4 2))then
         bif(fG v3 (sub v0 (aG .i64 v4 1) (aG .i64 v4 2)))then
          rec v0 v1 v2 (az v3 (sub v0 (aG .i64 v4 1) (aG .i64 v4 2))) y0.1.2.2.1 v5
         else
         none
        else
        none
       else
       bif(aH (aI v0 (aG .i64 v4 1)) 34)then
        bif(bu (ah v0) (aG .i64 v4 1) (aG .i64 v4 2))then
         bif(fG v3 (sub v0 (aG .i64 v4 1) (aG .i64 v4 2)))then
          rec v0 v1 v2 (az v3 (sub v0 (aG .i64 v4 1) (aG .i64 v4 2))) y0.1.2.2.1 v5
         else
         none
        else
        none
       else
       bif(aH (aI v0 (aG .i64 v4 1)) 92)then
        bif(bu (ah v0) (aG .i64 v4 1) (aG .i64 v4 2))then
         bif(fG v3 (sub v0 (aG .i64 v4 1) (aG .i64 v4 2)))then
          rec v0 v1 v2 (az v3 (sub v0 (aG .i64 v4 1) (aG .i64 v4 2))) y0.1.2.2.1 v5
         else
         none
        else
        none
       else
       bif(!(aH (aI v0 (aG .i64 v4 1)) 10))then
        bif(bu (ah v0) v4 (aG .i64 v4 2))then
         bif(fG v3 (sub v0 v4 (aG .i64 v4 2)))then
          rec v0 v1 v2 (az v3 (sub v0 v4 (aG .i64 v4 2))) y0.1.2.2.1 v5
         else
         none
        else
        none
       else
       rec v0 v1 v2 v3 y0.1.2.2.1 v5
      else
      none
     else
     rec v0 v1 v2 v3 y0.1.2.2.1 v5
    else
    bif(!(cO v3 []))then
     bif(aZ (az v5 [(false,(true,(v3,())))]) 24)then
      bif(bu (ah v0) v4 y0.1.2.2.1)then
       bif(aZ (az (az v5 [(false,(true,(v3,())))]) [(true,(true,((sub v0 v4 y0.1.2.2.1),())))]) 24)then
        rec v0 v1 v2 [] y0.1.2.2.1 (az (az v5 [(false,(true,(v3,())))]) [(true,(true,((sub v0 v4 y0.1.2.2.1),())))])
       else
       none
      else
      none
     else
     none
    else
    bif(bu (ah v0) v4 y0.1.2.2.1)then
     bif(aZ (az v5 [(true,(true,((sub v0 v4 y0.1.2.2.1),())))]) 24)then
      rec v0 v1 v2 [] y0.1.2.2.1 (az v5 [(true,(true,((sub v0 v4 y0.1.2.2.1),())))])
     else
     none
    else
    none
   else
   bif(aH y0.1.1 13)then
    bif(aH y0.1.2.2.1 (aG .i64 v4 2))then
     bif(dX v0 (aG .i64 v4 1))then
      bif(aH (aI v0 (aG .i64 v4 1)) 36)then
       bif(bu (ah v0) (aG .i64 v4 1) (aG .i64 v4 2))then
        bif(fG v3 (sub v0 (aG .i64 v4 1) (aG .i64 v4 2)))then
         rec v0 v1 v2 (az v3 (sub v0 (aG .i64 v4 1) (aG .i64 v4 2))) y0.1.2.2.1 v5
        else
        none
       else
       none
      else
      bif(aH (aI v0 (aG .i64 v4 1)) 96)then
       bif(bu (ah v0) (aG .i64 v4 1) (aG .i64 v4 2))then
        bif(fG v3 (sub v0 (aG .i64 v4 1) (aG .i64 v4 2)))then
         rec v0 v1 v2 (az v3 (sub v0 (aG .i64 v4 1) (aG .i64 v4 2))) y0.1.2.2.1 v5
        else
        none
       else
       none
      else
      bif(aH (aI v0 (aG .i64 v4 1)) 34)then
       bif(bu (ah v0) (aG .i64 v4 1) (aG .i64 v4 2))then
        bif(fG v3 (sub v0 (aG .i64 v4 1) (aG .i64 v4 2)))then
         rec v0 v1 v2 (az v3 (sub v0 (aG .i64 v4 1) (aG .i64 v4 2))) y0.1.2.2.1 v5
        else
        none
       else
       none
      else
      bif(aH (aI v0 (aG .i64 v4 1)) 92)then
       bif(bu (ah v0) (aG .i64 v4 1) (aG .i64 v4 2))then
        bif(fG v3 (sub v0 (aG .i64 v4 1) (aG .i64 v4 2)))then
         rec v0 v1 v2 (az v3 (sub v0 (aG .i64 v4 1) (aG .i64 v4 2))) y0.1.2.2.1 v5
        else
        none
       else
       none
      else
      bif(!(aH (aI v0 (aG .i64 v4 1)) 10))then
       bif(bu (ah v0) v4 (aG .i64 v4 2))then
        bif(fG v3 (sub v0 v4 (aG .i64 v4 2)))then
         rec v0 v1 v2 (az v3 (sub v0 v4 (aG .i64 v4 2))) y0.1.2.2.1 v5
        else
        none
       else
       none
      else
      rec v0 v1 v2 v3 y0.1.2.2.1 v5
     else
     none
    else
    rec v0 v1 v2 v3 y0.1.2.2.1 v5
   else
   bif(!(cO v3 []))then
    bif(aZ (az v5 [(false,(true,(v3,())))]) 24)then
     bif(bu (ah v0) v4 y0.1.2.2.1)then
      bif(aZ (az (az v5 [(false,(true,(v3,())))]) [(true,(true,((sub v0 v4 y0.1.2.2.1),())))]) 24)then
       rec v0 v1 v2 [] y0.1.2.2.1 (az (az v5 [(false,(true,(v3,())))]) [(true,(true,((sub v0 v4 y0.1.2.2.1),())))])
      else
      none
     else
     none
    else
    none
   else
   bif(bu (ah v0) v4 y0.1.2.2.1)then
    bif(aZ (az v5 [(true,(true,((sub v0 v4 y0.1.2.2.1),())))]) 24)then
     rec v0 v1 v2 [] y0.1.2.2.1 (az v5 [(true,(true,((sub v0 v4 y0.1.2.2.1),())))])
    else
    none
   else
   none
 else
 kE v3 v5
def ny:Nat->(List UInt8)->(List (Int×Int×Int×Int×Bool×Unit))->Int->(List UInt8)->Int->(List (Bool×Bool×(List UInt8)×(Unit)))->Option (QL.den⊕QV.den)
 |0,_,_,_,_,_,_=>none
 |n+1,v0,v1,v2,v3,v4,v5=>Gt (ny n) (fun e0 e1=>some (.inl ((e0,()),(e1,())))) (fun r0=>some (.inr ((r0,()),()))) v0 v1 v2 v3 v4 v5
noncomputable def aan:bG:=dO agH O6 QL QV (.exit 0) (fun v=>ny aO v.1.1 v.1.2.1 v.1.2.2.1 v.1.2.2.2.1 v.1.2.2.2.2.1 v.2.1) 6
def zx (x0:List UInt8) (x1:List (Int×Int×Int×Int×Bool×Unit)) (x2:Int) (x3:Int):Option ((List (Bool×Bool×(List UInt8)×(Unit)))×Unit):=
 ai (ny aO x0 x1 x3 [] x2 []) fun y0=>
  bF y0 (fun a1=>
   bif(!(cO a1.1.1 []))then
    bif(aZ (az a1.2.1 [(false,(true,(a1.1.1,())))]) 24)then
     some ((az a1.2.1 [(false,(true,(a1.1.1,())))]),())
    else
    none
   else
   bif(aH (ah a1.2.1) 0)then
    bif(aZ (az a1.2.1 [(false,(true,(a1.1.1,())))]) 24)then
     some ((az a1.2.1 [(false,(true,(a1.1.1,())))]),())
    else
    none
   else
   some (a1.2.1,())) (fun b1=>
   some (b1.1.1,()))
def Xv:Sum:=(⟨[.str,.list (.pair (.int .i64) (.pair (.int .i64) (.pair (.int .i64) (.pair (.int .i64) (.pair .bool .unit))))),.int .i64,.int .i64],[(.list (.pair .bool (.pair .bool (.pair .str .unit))),false)],fun x=>zx x.1 x.2.1 x.2.2.1 x.2.2.2.1⟩:Sum)
noncomputable def Xg:Env:=dI Tryz.prog tt 274 [(272,JQ)] [(4,agH)] [(4,aan)]
def ZF {γ:Type} (a:O6.den->Option γ) (b:QL.den->Option γ) (c:QV.den->Option γ) (v:O6.den):Option γ:=Gt (fun v0 v1 v2 v3 v4 v5=>a ((v0,v1,v2,v3,v4,()),(v5,()))) (fun e0 e1=>b ((e0,()),(e1,()))) (fun r0=>c ((r0,()),())) v.1.1 v.1.2.1 v.1.2.2.1 v.1.2.2.2.1 v.1.2.2.2.2.1 v.2.1
theorem ajV:di Xg 274 ag6 aan:=wG (ZF) (lp:=fun n (v:O6.den)=>ny n v.1.1 v.1.2.1 v.1.2.2.1 v.1.2.2.2.1 v.1.2.2.2.2.1 v.2.1) (by kernel_rfl) (fun _=>rfl) (fun _ _=>rfl) (fun d n K v=>by kernel_rfl) (by intros;simp only[ZF,Gt,bn,bg,ae,aV,bi])
theorem amh:bZ adZ=[ag6]:=by kernel_rfl
theorem alY:cZ Xg 274 adZ:=bP adZ (fun _=>rfl) (by rw[amh];exact(aC ⟨fL (by kernel_rfl) (ajV),aN⟩))
theorem acn:bJ Xg:=bz tok mixed bV (sg:=[(272,JQ)]) (aC ⟨(KA),aN⟩) (fn:=Tryz.f274) (c:=adZ) (by kernel_rfl) (by kernel_rfl) (alY) bW bC
theorem aa1:bD Tryz.prog 274 Xv:=ed acn (by decide) fun x=>by kernel_rfl
noncomputable def ahg:Code:=(Tryz.f214.body).getD .skip
noncomputable def ad9:Code:=cA (cA (cA (cB (cB (cB (cB (cB (ahg))))))))
def adX:dB:=⟨[0,3,4,5,6,100005],[(4,.pair (.list .bool) (.pair .bool (.pair .bool (.pair .str .unit))))],[4],[],[2],[(2,(.pair .bool (.pair .bool (.pair .str .unit))))]⟩
def OM:SP:=⟨us [.v .str,.u,.u,.v (.list (.pair (.int .i64) (.pair (.int .i64) (.pair (.int .i64) (.pair (.int .i64) (.pair .bool .unit)))))),.slc 1800004,.v .bool,.v (.int .i64)] 130,[.arr 1800004 (.pair .bool (.pair .bool (.pair .str .unit)))]⟩
def PO:SP:=⟨us [.u,.u,.u,.u,.slc 1800004] 132,[.arr 1800004 (.pair .bool (.pair .bool (.pair .str .unit)))]⟩
def OG:SP:=⟨us [.u,.u,.v (.list (.pair .bool (.pair .bool (.pair .str .unit))))] 134,[]⟩
def Gu {γ:Type} (rec:(List UInt8)->(List (Int×Int×Int×Int×Bool×Unit))->Bool->Int->(List (Bool×Bool×(List UInt8)×(Unit)))->Option γ) (kE:(List (Bool×Bool×(List UInt8)×(Unit)))->Option γ) (kR:(List (Bool×Bool×(List UInt8)×(Unit)))->Option γ) (v0:List UInt8) (v1:List (Int×Int×Int×Int×Bool×Unit)) (v2:Bool) (v3:Int) (v4:List (Bool×Bool×(List UInt8)×(Unit))):Option γ:=
 bif(fD v3 (ah v0))then
  ai (TJ v1 v3) fun y0=>
   bif(aH y0.2.1 0)then
    bif(aH y0.2.1 1)then
     bif(bu (ah v0) v3 y0.1.2.2.1)then
      ai (zo v4 (sub v0 v3 y0.1.2.2.1) v2) fun y1=>
       rec v0 v1 false y0.1.2.2.1 y1.1
     else
     none
    else
    bif(bu (ah v0) v3 (aG .i64 v3 1))then
     ai (zo v4 (sub v0 v3 (aG .i64 v3 1)) v2) fun y1=>
      rec v0 v1 false (aG .i64 v3 1) y1.1
    else
    none
   else
   bif(aH y0.1.1 14)then
    bif(aH y0.2.1 1)then
     bif(bu (ah v0) v3 y0.1.2.2.1)then
      ai (zo v4 (sub v0 v3 y0.1.2.2.1) v2) fun y1=>
       rec v0 v1 false y0.1.2.2.1 y1.1
     else
     none
    else
    bif(bu (ah v0) v3 (aG .i64 v3 1))then
     ai (zo v4 (sub v0 v3 (aG .i64 v3 1)) v2) fun y1=>
      rec v0 v1 false (aG .i64 v3 1) y1.1
    else
    none
   else
   bif(aH y0.1.1 12)then
    bif(aH y0.1.2.2.1 (aG .i64 v3 1))then
     bif(aH y0.2.1 1)then
      bif(bu (ah v0) v3 y0.1.2.2.1)then
       ai (zo v4 (sub v0 v3 y0.1.2.2.1) v2) fun y1=>
        rec v0 v1 false y0.1.2.2.1 y1.1
      else
      none
     else
     bif(bu (ah v0) v3 (aG .i64 v3 1))then
      ai (zo v4 (sub v0 v3 (aG .i64 v3 1)) v2) fun y1=>
       rec v0 v1 false (aG .i64 v3 1) y1.1
     else
     none
    else
    bif(aH y0.1.1 13)then
     bif(aH y0.1.2.2.1 (aG .i64 y0.1.2.1 2))then
      bif(dX v0 (aG .i64 y0.1.2.1 1))then
       bif(!(aH (aI v0 (aG .i64 y0.1.2.1 1)) 10))then
        bif(bu (ah v0) (aG .i64 y0.1.2.1 1) y0.1.2.2.1)then
         bif(aZ (az v4 [(false,(true,((sub v0 (aG .i64 y0.1.2.1 1) y0.1.2.2.1),())))]) 24)then
          rec v0 v1 true y0.1.2.2.1 (az v4 [(false,(true,((sub v0 (aG .i64 y0.1.2.1 1) y0.1.2.2.1),())))])
         else
         none
        else
        none
       else
       rec v0 v1 v2 y0.1.2.2.1 v4
      else
      none
     else
     rec v0 v1 v2 y0.1.2.2.1 v4
    else
    bif(aH y0.1.1 4)then
     bif y0.1.2.2.2.2.1 then
      bif(bu (ah v0) (aG .i64 y0.1.2.1 1) y0.1.2.2.1)then
       bif(aZ (az v4 [(false,(true,((sub v0 (aG .i64 y0.1.2.1 1) y0.1.2.2.1),())))]) 24)then
        rec v0 v1 true y0.1.2.2.1 (az v4 [(false,(true,((sub v0 (aG .i64 y0.1.2.1 1) y0.1.2.2.1),())))])
       else
       none
      else
      none
     else
     bif(bu (ah v0) (aG .i64 y0.1.2.1 1) (ag .i64 y0.1.2.2.1 1))then
      bif(aZ (az v4 [(false,(true,((sub v0 (aG .i64 y0.1.2.1 1) (ag .i64 y0.1.2.2.1 1)),())))]) 24)then
       rec v0 v1 true y0.1.2.2.1 (az v4 [(false,(true,((sub v0 (aG .i64 y0.1.2.1 1) (ag .i64 y0.1.2.2.1 1)),())))])
      else
      none
     else
     none
    else
    bif(aH y0.1.1 5)then
     bif y0.1.2.2.2.2.1 then
      ai (zx v0 v1 (aG .i64 y0.1.2.1 1) y0.1.2.2.1) fun y1=>
       bif(aZ (az v4 y1.1) 24)then
        rec v0 v1 true y0.1.2.2.1 (az v4 y1.1)
       else
       none
     else
     ai (zx v0 v1 (aG .i64 y0.1.2.1 1) (ag .i64 y0.1.2.2.1 1)) fun y1=>
      bif(aZ (az v4 y1.1) 24)then
       rec v0 v1 true y0.1.2.2.1 (az v4 y1.1)
      else
      none
    else
    bif(bu (ah v0) y0.1.2.1 y0.1.2.2.1)then
     bif(aZ (az v4 [(true,(false,((sub v0 y0.1.2.1 y0.1.2.2.1),())))]) 24)then
      rec v0 v1 true y0.1.2.2.1 (az v4 [(true,(false,((sub v0 y0.1.2.1 y0.1.2.2.1),())))])
     else
     none
    else
    none
   else
   bif(aH y0.1.1 13)then
    bif(aH y0.1.2.2.1 (aG .i64 y0.1.2.1 2))then
     bif(dX v0 (aG .i64 y0.1.2.1 1))then
      bif(!(aH (aI v0 (aG .i64 y0.1.2.1 1)) 10))then
       bif(bu (ah v0) (aG .i64 y0.1.2.1 1) y0.1.2.2.1)then
        bif(aZ (az v4 [(false,(true,((sub v0 (aG .i64 y0.1.2.1 1) y0.1.2.2.1),())))]) 24)then
         rec v0 v1 true y0.1.2.2.1 (az v4 [(false,(true,((sub v0 (aG .i64 y0.1.2.1 1) y0.1.2.2.1),())))])
        else
        none
       else
       none
      else
      rec v0 v1 v2 y0.1.2.2.1 v4
     else
     none
    else
    rec v0 v1 v2 y0.1.2.2.1 v4
   else
   bif(aH y0.1.1 4)then
    bif y0.1.2.2.2.2.1 then
     bif(bu (ah v0) (aG .i64 y0.1.2.1 1) y0.1.2.2.1)then
      bif(aZ (az v4 [(false,(true,((sub v0 (aG .i64 y0.1.2.1 1) y0.1.2.2.1),())))]) 24)then
       rec v0 v1 true y0.1.2.2.1 (az v4 [(false,(true,((sub v0 (aG .i64 y0.1.2.1 1) y0.1.2.2.1),())))])
      else
      none
     else
     none
    else
    bif(bu (ah v0) (aG .i64 y0.1.2.1 1) (ag .i64 y0.1.2.2.1 1))then
     bif(aZ (az v4 [(false,(true,((sub v0 (aG .i64 y0.1.2.1 1) (ag .i64 y0.1.2.2.1 1)),())))]) 24)then
      rec v0 v1 true y0.1.2.2.1 (az v4 [(false,(true,((sub v0 (aG .i64 y0.1.2.1 1) (ag .i64 y0.1.2.2.1 1)),())))])
     else
     none
    else
    none
   else
   bif(aH y0.1.1 5)then
    bif y0.1.2.2.2.2.1 then
     ai (zx v0 v1 (aG .i64 y0.1.2.1 1) y0.1.2.2.1) fun y1=>
      bif(aZ (az v4 y1.1) 24)then
       rec v0 v1 true y0.1.2.2.1 (az v4 y1.1)
      else
      none
    else
    ai (zx v0 v1 (aG .i64 y0.1.2.1 1) (ag .i64 y0.1.2.2.1 1)) fun y1=>
     bif(aZ (az v4 y1.1) 24)then
      rec v0 v1 true y0.1.2.2.1 (az v4 y1.1)
     else
     none
   else
   bif(bu (ah v0) y0.1.2.1 y0.1.2.2.1)then
    bif(aZ (az v4 [(true,(false,((sub v0 y0.1.2.1 y0.1.2.2.1),())))]) 24)then
     rec v0 v1 true y0.1.2.2.1 (az v4 [(true,(false,((sub v0 y0.1.2.1 y0.1.2.2.1),())))])
    else
    none
   else
   none
 else
 kE v4
def je:Nat->(List UInt8)->(List (Int×Int×Int×Int×Bool×Unit))->Bool->Int->(List (Bool×Bool×(List UInt8)×(Unit)))->Option (PO.den⊕OG.den)
 |0,_,_,_,_,_=>none
 |n+1,v0,v1,v2,v3,v4=>Gu (je n) (fun e0=>some (.inl ((),(e0,())))) (fun r0=>some (.inr ((r0,()),()))) v0 v1 v2 v3 v4
noncomputable def Zf:bG:=dO adX OM PO OG (.exit 0) (fun v=>je aO v.1.1 v.1.2.1 v.1.2.2.1 v.1.2.2.2.1 v.2.1) 6
def Zv (x0:List UInt8):Option ((List (Bool×Bool×(List UInt8)×(Unit)))×Unit):=
 ai (aal x0) fun y0=>
  ai (je aO x0 y0.1 true 0 []) fun y1=>
   bF y1 (fun a2=>
    some (a2.2.1,())) (fun b2=>
    some (b2.1.1,()))
def VQ:Sum:=(⟨[.str],[(.list (.pair .bool (.pair .bool (.pair .str .unit))),false)],fun x=>Zv x.1⟩:Sum)
noncomputable def VM:Env:=dI Tryz.prog tt 214 [(271,We),(272,JQ),(273,Yc),(274,Xv)] [(5,adX)] [(5,Zf)]
def Z9 {γ:Type} (a:OM.den->Option γ) (b:PO.den->Option γ) (c:OG.den->Option γ) (v:OM.den):Option γ:=Gu (fun v0 v1 v2 v3 v4=>a ((v0,v1,v2,v3,()),(v4,()))) (fun e0=>b ((),(e0,()))) (fun r0=>c ((r0,()),())) v.1.1 v.1.2.1 v.1.2.2.1 v.1.2.2.2.1 v.2.1
theorem aix:di VM 214 ad9 Zf:=wG (Z9) (lp:=fun n (v:OM.den)=>je n v.1.1 v.1.2.1 v.1.2.2.1 v.1.2.2.2.1 v.2.1) (by kernel_rfl) (fun _=>rfl) (fun _ _=>rfl) (fun d n K v=>by kernel_rfl) (by intros;simp only[Z9,Gu,bn,bg,ae,aV,bi])
theorem amw:bZ ahg=[ad9]:=by kernel_rfl
theorem amJ:cZ VM 214 ahg:=bP ahg (fun _=>rfl) (by rw[amw];exact(aC ⟨fL (by kernel_rfl) (aix),aN⟩))
theorem abb:bJ VM:=bz tok mixed bV (sg:=[(271,We),(272,JQ),(273,Yc),(274,Xv)]) (aC ⟨(abL),(aC ⟨(KA),(aC ⟨(aaQ),(aC ⟨(aa1),aN⟩)⟩)⟩)⟩) (fn:=Tryz.f214) (c:=ahg) (by kernel_rfl) (by kernel_rfl) (amJ) bW bC
theorem abB:bD Tryz.prog 214 VQ:=ed abb (by decide) fun x=>by kernel_rfl
noncomputable def afa:Code:=(Tryz.f153.body).getD .skip
noncomputable def aek:Code:=cA (cA (cB (cA (cB (cB (cB (afa)))))))
def afX:dB:=⟨[3,4,5,100004],[],[4],[],[2],[]⟩
def O3:SP:=⟨us [.u,.u,.u,.v (.list (.pair .bool (.pair .bool (.pair .str .unit)))),.v .str,.v (.int .i64)] 16,[]⟩
def Nr:SP:=⟨us [.u,.u,.u,.u,.v .str] 17,[]⟩
def Ns:SP:=⟨us [.u,.u,.v .str] 19,[]⟩
def GG {γ:Type} (rec:(List (Bool×Bool×(List UInt8)×(Unit)))->(List UInt8)->Int->Option γ) (kE:(List UInt8)->Option γ) (kR:(List UInt8)->Option γ) (v0:List (Bool×Bool×(List UInt8)×(Unit))) (v1:List UInt8) (v2:Int):Option γ:=
 bif(fD v2 (ah v0))then
  bif(dX v0 v2)then
   bif(fG v1 (af v0 (false,(false,([],()))) v2).2.2.1)then
    rec v0 (az v1 (af v0 (false,(false,([],()))) v2).2.2.1) (aG .i64 v2 1)
   else
   none
  else
  none
 else
 kE v1
def uA:Nat->(List (Bool×Bool×(List UInt8)×(Unit)))->(List UInt8)->Int->Option (Nr.den⊕Ns.den)
 |0,_,_,_=>none
 |n+1,v0,v1,v2=>GG (uA n) (fun e0=>some (.inl ((e0,()),()))) (fun r0=>some (.inr ((r0,()),()))) v0 v1 v2
noncomputable def Y8:bG:=dO afX O3 Nr Ns (.exit 0) (fun v=>uA aO v.1.1 v.1.2.1 v.1.2.2.1) 6
def Jm (x0:List UInt8):Option ((List UInt8)×Unit):=
 ai (Zv x0) fun y0=>
  ai (uA aO y0.1 [] 0) fun y1=>
   bF y1 (fun a2=>
    some (a2.1.1,())) (fun b2=>
    some (b2.1.1,()))
def U6:Sum:=(⟨[.str],[(.str,false)],fun x=>Jm x.1⟩:Sum)
noncomputable def Wl:Env:=dI Tryz.prog tt 153 [(214,VQ)] [(4,afX)] [(4,Y8)]
def Yl {γ:Type} (a:O3.den->Option γ) (b:Nr.den->Option γ) (c:Ns.den->Option γ) (v:O3.den):Option γ:=GG (fun v0 v1 v2=>a ((v0,v1,v2,()),())) (fun e0=>b ((e0,()),())) (fun r0=>c ((r0,()),())) v.1.1 v.1.2.1 v.1.2.2.1
theorem ajB:di Wl 153 aek Y8:=wG (Yl) (lp:=fun n (v:O3.den)=>uA n v.1.1 v.1.2.1 v.1.2.2.1) (by kernel_rfl) (fun _=>rfl) (fun _ _=>rfl) (fun d n K v=>by kernel_rfl) (by intros;simp only[Yl,GG,bn,bg,ae,aV,bi])
theorem anB:bZ afa=[aek]:=by kernel_rfl
theorem anr:cZ Wl 153 afa:=bP afa (fun _=>rfl) (by rw[anB];exact(aC ⟨fL (by kernel_rfl) (ajB),aN⟩))
theorem aaz:bJ Wl:=bz tok mixed bV (sg:=[(214,VQ)]) (aC ⟨(abB),aN⟩) (fn:=Tryz.f153) (c:=afa) (by kernel_rfl) (by kernel_rfl) (anr) bW bC
theorem ab2:bD Tryz.prog 153 U6:=ed aaz (by decide) fun x=>by kernel_rfl
end Go.Proofs.YtihafdllichkeaaGreatDoor
namespace Go.Proofs.YtihafdllichkeaaGreatDoor
open Go.RowKit
set_option linter.unusedVariables false
set_option linter.unusedSimpArgs false
set_option maxRecDepth 100000
abbrev Pce:=Bool×Bool×List UInt8×Unit
def dPc:Pce:=(false,(false,([],())))
def gX (l:List Pce):List UInt8:=(l.map (·.2.2.1)).flatten
theorem nO (a b:List Pce):gX (a++b)=gX a++gX b:=by simp[gX]
theorem qm (x y:Bool) (t:List UInt8):gX [(x,(y,(t,())))]=t:=by simp[gX]
theorem KO (L:List iO) (hl:L.length<1000000) (v:Int) (m f t u:Int) (o:Bool): ∀(N k:Nat),L.length-k<N->k<=L.length->
  uY N L v (k:Int) m f t u o=some (match(L.drop k).find? (fun p=>p.2.1==v)with
   |none=>.inl ((),((m,f,t,u,o,()),()))
   |some p=>.inr ((1,()),((p.1,p.2.1,p.2.2.1,p.2.2.2.1,p.2.2.2.2.1,()),())))
 |0,k,h,_=>by omega
 |N+1,k,h,hk=>by
  rw[uY,FQ]
  by_cases e:k<L.length
  ·have hg:af L (0,(0,(0,(0,(false,()))))) (k:Int)=L[k]:=by
    unfold af
    rw[Int.toNat_natCast,List.getD_eq_getElem?_getD,List.getElem?_eq_getElem e];rfl
   rw[aK (dM (by rw[aB];omega)),aK (dw (by omega) (by omega)),hg,List.drop_eq_getElem_cons e,List.find?_cons]
   by_cases h1:L[k].2.1=v
   ·rw[aK (dJ h1),aK (dw (by omega) (by omega))]
    have:(L[k].2.1==v)=true:=by simpa using h1
    rw[this]
   ·have:(L[k].2.1==v)=false:=by simpa using h1
    rw[aU (bU h1),bI (by omega) (by omega),show(k:Int)+1=((k+1:Nat):Int) by omega,KO L hl v m f t u o N (k+1) (by omega) (by omega),this]
  ·rw[aU (gm (by rw[aB];omega)),List.drop_of_length_le (by omega)];rfl
theorem agM (L:List iO) (hl:L.length<1000000) (v:Int):TJ L v=some (match qo L v with
  |none=>((0,(0,(0,(0,(false,()))))),(0,()))
  |some p=>(p,(1,()))):=by
 rw[TJ]
 have h:=KO L hl v 0 0 0 0 false aO 0 (dh (by omega)) (by omega)
 rw[show uY aO L v 0 0 0 0 0 false=_ from h,ae,List.drop_zero]
 unfold qo
 cases L.find? (fun p=>p.2.1==v)with
 |none=>rfl
 |some p=>rfl
theorem apN (s:List UInt8) (a b:Int):(sub s a b).length<=(b-a).toNat:=by
 unfold sub
 simp only[List.length_drop,List.length_take];omega
theorem Wn {a b:List UInt8} (h:a.length+b.length<=140737488355328):fG a b=true:=by
 unfold fG jh;simpa using h
theorem mg {α:Type} {l:List α} {k:Nat} (h:l.length*k<=140737488355328):aZ l k=true:=by
 unfold aZ jh;simpa using h
theorem IL (s:List UInt8) (hs:s.length<=10000) {to_:Int} (hto:to_<=s.length): ∀(N:Nat) (at_:Int) (here:List UInt8) (out:List Pce),0<N->to_-at_<N->0<=at_->at_<=s.length->(here.length:Int)<=10000*at_->(out.length:Int)<=2*at_->
  ∃here' out',ny N s (aJ s) to_ here at_ out=some (.inl ((here',()),(out',())))/\gX out'++here'=gX out++here++mD s (aJ s) to_ N at_/\(here'.length:Int)<=10000*s.length/\(out'.length:Int)<=2*s.length
 |0,at_,here,out,hN,_,_,_,_,_=>by
  omega
 |N+1,at_,here,out,hN,h,h0,h1,hh,ho=>by
  rw[ny,Gt,mD]
  by_cases e:at_<to_
  ·have hpl:=vC s
   have hup:= @Ht s at_
   have hsl:=DR s (aJ s) at_
   have keep: ∀(c:List UInt8) (nx:Int),c=(fB s (aJ s) at_).2.1->nx=(fB s (aJ s) at_).1->nx<=s.length->
     ∃here' out',ny N s (aJ s) to_ (az here c) nx out=some (.inl ((here',()),(out',())))/\gX out'++here'=gX out++here++((fB s (aJ s) at_).2.1++mD s (aJ s) to_ N (fB s (aJ s) at_).1)/\(here'.length:Int)<=10000*s.length/\(out'.length:Int)<=2*s.length:=by
    intro c nx hc hnx hle
    subst hc hnx
    obtain⟨here',out',r1,r2,r3,r4⟩:=IL s hs hto N (fB s (aJ s) at_).1 (az here (fB s (aJ s) at_).2.1) out (by omega) (by omega) (by omega) hle (by unfold az;rw[List.length_append];omega) (by omega)
    refine⟨here',out',r1, ?_,r3,r4⟩
    rw[r2]
    unfold az
    simp only[List.append_assoc]
   have push: ∀(l:List Pce) (nx:Int),gX l=here++(fB s (aJ s) at_).2.1->l.length<=2->nx=(fB s (aJ s) at_).1->nx<=s.length->
     ∃here' out',ny N s (aJ s) to_ [] nx (out++l)=some (.inl ((here',()),(out',())))/\gX out'++here'=gX out++here++((fB s (aJ s) at_).2.1++mD s (aJ s) to_ N (fB s (aJ s) at_).1)/\(here'.length:Int)<=10000*s.length/\(out'.length:Int)<=2*s.length:=by
    intro l nx hl hl2 hnx hle
    subst hnx
    obtain⟨here',out',r1,r2,r3,r4⟩:=IL s hs hto N (fB s (aJ s) at_).1 [] (out++l) (by omega) (by omega) (by omega) hle (by simp;omega) (by rw[List.length_append];omega)
    refine⟨here',out',r1, ?_,r3,r4⟩
    rw[r2,nO,hl]
    simp only[List.append_assoc,List.nil_append]
   have hroom: ∀c:List UInt8,c.length<=10000->fG here c=true:=fun c hc=>Wn (by omega)
   have hfit1: ∀x,aZ (az out [x]) 24=true:=fun x=>mg (by unfold az;simp only[List.length_append,List.length_singleton];omega)
   have hfit2: ∀x y,aZ (az (az out [x]) [y]) 24=true:=fun x y=>mg (by unfold az;simp only[List.length_append,List.length_singleton];omega)
   have hsub: ∀a b:Int,(sub s a b).length<=10000:=fun a b=>Nat.le_trans (qh s a b) hs
   have ha1:aG .i64 at_ 1=at_+1:=bI (by omega) (by omega)
   have ha2:aG .i64 at_ 2=at_+2:=bI (by omega) (by omega)
   have hp1:bu (ah s) at_ (at_+1)=true:=dC h0 (by omega) (by rw[aB];omega)
   rw[aK (dM e),if_pos e,agM (aJ s) (by omega),ae]
   cases hf:qo (aJ s) at_ with
   |none=>
    have hst:fB s (aJ s) at_=(at_+1,sub s at_ (at_+1),false):=by unfold fB;rw[hf]
    simp only[ha1]
    rw[show aH 0 0=true from rfl,cond_true,hp1,cond_true,hroom _ (hsub _ _),cond_true]
    exact keep _ _ (by rw[hst]) (by rw[hst]) (by omega)
   |some p=>
    obtain⟨pf,hpe⟩:=pV hf
    have t0:=pf.t0
    have t1:=pf.t1
    simp only[ha1,ha2]
    rw[show aH 1 0=false from rfl,cond_false]
    by_cases hlone:lone p=true
    ·have hst:fB s (aJ s) at_=(at_+1,sub s at_ (at_+1),false):=by unfold fB;rw[hf];simp only;rw[if_pos hlone]
     unfold lone at hlone
     simp only[Bool.and_eq_true,decide_eq_true_eq]at hlone
     rw[aK (dJ hlone.1),aK (dJ (by omega)),hp1,cond_true,hroom _ (hsub _ _),cond_true]
     exact keep _ _ (by rw[hst]) (by rw[hst]) (by omega)
    ·have hl': ¬(p.1=12/\p.2.2.1=at_+1):=fun h=>hlone (by unfold lone;rw[hpe];simp[h])
     have hp2:bu (ah s) at_ p.2.2.1=true:=dC h0 (by omega) (by rw[aB];omega)
     by_cases h13:p.1=13
     ·have hst:fB s (aJ s) at_=(p.2.2.1,J7 s p,false):=by unfold fB;rw[hf];simp only;rw[if_neg hlone,if_pos h13]
      rw[aU (bU (by omega)),aK (dJ h13)]
      by_cases hto2:p.2.2.1=at_+2
      ·have hin:dX s (at_+1)=true:=dw (by omega) (by omega)
       have hp3:bu (ah s) (at_+1) (at_+2)=true:=dC (by omega) (by omega) (by rw[aB];omega)
       have hp4:bu (ah s) at_ (at_+2)=true:=dC (by omega) (by omega) (by rw[aB];omega)
       have hesc:J7 s p=(if aI s (at_+1)=36\/aI s (at_+1)=96\/aI s (at_+1)=34\/aI s (at_+1)=92 then sub s (at_+1) (at_+2)
         else if aI s (at_+1)=10 then []else sub s at_ (at_+2)):=by
        unfold J7 jV
        rw[hpe,if_pos (by omega),hto2]
       rw[aK (dJ hto2),hin,cond_true]
       by_cases b1:aI s (at_+1)=36
       ·rw[aK (dJ b1),hp3,cond_true,hroom _ (hsub _ _),cond_true]
        exact keep _ _ (by rw[hst,hesc,if_pos (.inl b1)]) (by rw[hst]) (by omega)
       ·rw[aU (bU b1)]
        by_cases b2:aI s (at_+1)=96
        ·rw[aK (dJ b2),hp3,cond_true,hroom _ (hsub _ _),cond_true]
         exact keep _ _ (by rw[hst,hesc,if_pos (.inr (.inl b2))]) (by rw[hst]) (by omega)
        ·rw[aU (bU b2)]
         by_cases b3:aI s (at_+1)=34
         ·rw[aK (dJ b3),hp3,cond_true,hroom _ (hsub _ _),cond_true]
          exact keep _ _ (by rw[hst,hesc,if_pos (.inr (.inr (.inl b3)))]) (by rw[hst]) (by omega)
         ·rw[aU (bU b3)]
          by_cases b4:aI s (at_+1)=92
          ·rw[aK (dJ b4),hp3,cond_true,hroom _ (hsub _ _),cond_true]
           exact keep _ _ (by rw[hst,hesc,if_pos (.inr (.inr (.inr b4)))]) (by rw[hst]) (by omega)
          ·rw[aU (bU b4)]
           have hno: ¬(aI s (at_+1)=36\/aI s (at_+1)=96\/aI s (at_+1)=34\/aI s (at_+1)=92):=by omega
           by_cases b5:aI s (at_+1)=10
           ·rw[dJ b5]
            simp only[Bool.not_true,cond_false]
            have:=keep [] p.2.2.1 (by rw[hst,hesc,if_neg hno,if_pos b5]) (by rw[hst]) (by omega)
            rwa [show az here ([]:List UInt8)=here by simp[az]]at this
           ·rw[bU b5]
            simp only[Bool.not_false,cond_true]
            rw[hp4,cond_true,hroom _ (hsub _ _),cond_true]
            exact keep _ _ (by rw[hst,hesc,if_neg hno,if_neg b5]) (by rw[hst]) (by omega)
      ·rw[aU (bU hto2)]
       have:=keep [] p.2.2.1 (by rw[hst];unfold J7;rw[if_neg (by omega)]) (by rw[hst]) (by omega)
       rwa [show az here ([]:List UInt8)=here by simp[az]]at this
     ·have hst:fB s (aJ s) at_=(p.2.2.1,jV s p,true):=by unfold fB;rw[hf];simp only;rw[if_neg hlone,if_neg h13]
      have hby:jV s p=sub s at_ p.2.2.1:=by unfold jV;rw[hpe]
      have fin: ∃here' out',(bif !cO here []then
        bif aZ (az out [(false,(true,(here,())))]) 24 then
         bif bu (ah s) at_ p.2.2.1 then
          bif aZ (az (az out [(false,(true,(here,())))]) [(true,(true,(sub s at_ p.2.2.1,())))]) 24 then
           ny N s (aJ s) to_ [] p.2.2.1 (az (az out [(false,(true,(here,())))]) [(true,(true,(sub s at_ p.2.2.1,())))])
          else none
         else none
        else none
       else bif bu (ah s) at_ p.2.2.1 then
        bif aZ (az out [(true,(true,(sub s at_ p.2.2.1,())))]) 24 then
         ny N s (aJ s) to_ [] p.2.2.1 (az out [(true,(true,(sub s at_ p.2.2.1,())))])
        else none
       else none)=some (.inl ((here',()),(out',())))/\gX out'++here'=gX out++here++((fB s (aJ s) at_).2.1++mD s (aJ s) to_ N (fB s (aJ s) at_).1)/\(here'.length:Int)<=10000*s.length/\(out'.length:Int)<=2*s.length:=by
       by_cases he:here=[]
       ·have:=push [(true,(true,(sub s at_ p.2.2.1,())))] p.2.2.1 (by rw[qm,he,hst,hby];rfl) (by simp) (by rw[hst]) (by omega)
        rw[show(!cO here [])=false by rw[he];rfl,cond_false,hp2,cond_true,hfit1,cond_true]
        exact this
       ·have:=push ([(false,(true,(here,())))]++[(true,(true,(sub s at_ p.2.2.1,())))]) p.2.2.1 (by rw[nO,qm,qm,hst,hby]) (by simp) (by rw[hst]) (by omega)
        rw[show(!cO here [])=true by unfold cO;simpa using he,cond_true,hfit1,cond_true,hp2,cond_true,hfit2,cond_true]
        rw[<-List.append_assoc]at this
        exact this
      by_cases h12:p.1=12
      ·rw[aK (dJ h12),aU (bU (fun h=>hl' ⟨h12,h⟩)),aU (bU h13)];exact fin
      ·rw[aU (bU h12),aU (bU h13)];exact fin
  ·rw[aU (gm e),if_neg e]
   exact⟨here,out,rfl,by simp,by omega,by omega⟩
theorem agO (s:List UInt8) (hs:s.length<=10000) {from_ to_:Int} (h0:0<=from_) (h1:from_<=s.length) (hto:to_<=s.length):
  ∃out,zx s (aJ s) from_ to_=some (out,())/\gX out=mD s (aJ s) to_ s.length from_/\out.length<=2*s.length+1:=by
 obtain⟨here,out,r1,r2,r3,r4⟩:=IL s hs hto aO from_ [] [] (by unfold aO;omega) (by have:=dh (n:=s.length) (by omega);omega) h0 h1 (by simp;omega) (by simp;omega)
 have hm:mD s (aJ s) to_ aO from_=mD s (aJ s) to_ s.length from_:=DK s to_ _ _ _ (by have:=dh (n:=s.length) (by omega);omega) (by omega)
 rw[hm,show gX []=([]:List UInt8) from rfl,List.nil_append,List.nil_append]at r2
 rw[zx,r1,ae]
 simp only[bF]
 have hfit: ∀x,aZ (az out [x]) 24=true:=fun x=>mg (by unfold az;simp only[List.length_append,List.length_singleton];omega)
 by_cases he:here=[]
 ·rw[show(!cO here [])=false by rw[he];rfl,cond_false]
  subst he
  rw[List.append_nil]at r2
  by_cases ho:out.length=0
  ·rw[aK (dJ (by rw[aB];omega)),hfit,cond_true]
   exact⟨_,rfl,by unfold az;rw[nO,qm,r2,List.append_nil],by unfold az;simp only[List.length_append,List.length_singleton];omega⟩
  ·rw[aU (bU (by rw[aB];omega))]
   exact⟨_,rfl,r2,by omega⟩
 ·rw[show(!cO here [])=true by unfold cO;simpa using he,cond_true,hfit,cond_true]
  exact⟨_,rfl,by unfold az;rw[nO,qm,r2],by unfold az;simp only[List.length_append,List.length_singleton];omega⟩
theorem lW (l:List Pce) (x:Pce):gX (l++[x])=gX l++x.2.2.1:=by simp[gX]
theorem aep (out:List Pce) (t:List UInt8) (fresh:Bool) (ho:out.length<1000000000) (ht:(gX out).length+t.length<=100000000000000):
  ∃out',zo out t fresh=some (out',())/\gX out'=gX out++t/\out'.length<=out.length+1:=by
 have one: ∃out',(bif aZ (az [] out) 24 then bif aZ (az (az [] out) [(false,(false,(t,())))]) 24 then some ((az (az [] out) [(false,(false,(t,())))]),())else none else none)=some (out',())/\gX out'=gX out++t/\out'.length<=out.length+1:=by
  rw[aK (mg (by unfold az;simp only[List.nil_append];omega)),aK (mg (by unfold az;simp only[List.nil_append,List.length_append,List.length_singleton];omega))]
  exact⟨_,rfl,by unfold az;rw[List.nil_append,nO,qm],by unfold az;simp⟩
 rw[zo]
 rcases List.eq_nil_or_concat out with rfl|⟨l,x,rfl⟩
 ·rw[show fD 0 (ah ([]:List Pce))=false from rfl,cond_false];exact one
 ·rw[List.concat_eq_append]at*
  cases fresh with
  |true=>
   rw[aK (dM (by rw[aB];simp only[List.length_append,List.length_singleton];omega)),show(!true)=false from rfl,cond_false];exact one
  |false=>
   rw[lW,List.length_append]at ht
   rw[List.length_append,List.length_singleton]at ho
   have hL:ag .i64 (ah (l++[x])) 1=(l.length:Int):=by rw[aB,fU (by simp only[List.length_append,List.length_singleton];omega) (by simp only[List.length_append,List.length_singleton];omega)];simp
   have hg:af (l++[x]) (false,(false,([],()))) (l.length:Int)=x:=sQ rfl
   have hin:dX (l++[x]) (l.length:Int)=true:=dw (by omega) (by simp only[List.length_append,List.length_singleton];omega)
   have hpt:bu (ah (l++[x])) 0 (l.length:Int)=true:=dC (by omega) (by omega) (by rw[aB];simp only[List.length_append,List.length_singleton];omega)
   have hsb:sub (l++[x]) 0 (l.length:Int)=l:=by simp[sub]
   have hrm:fG x.2.2.1 t=true:=Wn (by omega)
   have hf1:aZ (az [] l) 24=true:=mg (by unfold az;simp only[List.nil_append];omega)
   have hf2: ∀y,aZ (az (az [] l) [y]) 24=true:=fun y=>mg (by unfold az;simp only[List.nil_append,List.length_append,List.length_singleton];omega)
   rw[aK (dM (by rw[aB];simp only[List.length_append,List.length_singleton];omega))]
   simp only[Bool.not_false,cond_true,hL,hg,hin,hpt,hsb,hrm,hf1,hf2,eG,jD,eX,eY,Bool.and_true,ae]
   exact⟨_,rfl,by unfold az;rw[List.nil_append,nO,qm,lW,List.append_assoc],by unfold az;simp⟩
theorem EI (s:List UInt8) (hs:s.length<=10000): ∀(N:Nat) (at_:Int) (fresh:Bool) (out:List Pce),(s.length:Int)-at_<N->0<=at_->at_<=s.length->((gX out).length:Int)<=100010000*at_->(out.length:Int)<=30000*at_->
  ∃out',je N s (aJ s) fresh at_ out=some (.inl ((),(out',())))/\gX out'=gX out++jc s (aJ s) N at_/\(out'.length:Int)<=30000*s.length
 |0,at_,fresh,out,h,_,_,_,_=>by omega
 |N+1,at_,fresh,out,h,h0,h1,ht,ho=>by
  rw[je,Gu,jc]
  by_cases e:at_<s.length
  ·have hpl:=vC s
   have hup:= @Jq s at_
   have hle:=Ud (s:=s) e
   have hsl:(stepT s (aJ s) at_).2.length<=100010000:=by
    have h1:=Dp s (aJ s) at_
    have h2:s.length*s.length<=10000*10000:=Nat.mul_le_mul hs hs
    omega
   have go: ∀(l:List Pce) (f:Bool),gX l=gX out++(stepT s (aJ s) at_).2->l.length<=out.length+20002->
     ∃out',je N s (aJ s) f (stepT s (aJ s) at_).1 l=some (.inl ((),(out',())))/\gX out'=gX out++((stepT s (aJ s) at_).2++jc s (aJ s) N (stepT s (aJ s) at_).1)/\(out'.length:Int)<=30000*s.length:=by
    intro l f hl hn
    obtain⟨out',r1,r2,r3⟩:=EI s hs N (stepT s (aJ s) at_).1 f l (by omega) (by omega) hle (by rw[hl,List.length_append];omega) (by omega)
    exact⟨out',r1,by rw[r2,hl,List.append_assoc],r3⟩
   have pln: ∀(t:List UInt8) (nx:Int),t=(stepT s (aJ s) at_).2->nx=(stepT s (aJ s) at_).1->
     ∃out',(ai (zo out t fresh) fun y1=>je N s (aJ s) false nx y1.1)=some (.inl ((),(out',())))/\gX out'=gX out++((stepT s (aJ s) at_).2++jc s (aJ s) N (stepT s (aJ s) at_).1)/\(out'.length:Int)<=30000*s.length:=by
    intro t nx e1 e2
    subst e1 e2
    obtain⟨o,p1,p2,p3⟩:=aep out (stepT s (aJ s) at_).2 fresh (by omega) (by omega)
    rw[p1,ae]
    exact go o false p2 (by omega)
   have psh: ∀(x:Pce) (nx:Int),x.2.2.1=(stepT s (aJ s) at_).2->nx=(stepT s (aJ s) at_).1->
     ∃out',(bif aZ (az out [x]) 24 then je N s (aJ s) true nx (az out [x])else none)=some (.inl ((),(out',())))/\gX out'=gX out++((stepT s (aJ s) at_).2++jc s (aJ s) N (stepT s (aJ s) at_).1)/\(out'.length:Int)<=30000*s.length:=by
    intro x nx e1 e2
    subst e2
    rw[aK (mg (by unfold az;simp only[List.length_append,List.length_singleton];omega))]
    exact go _ true (by unfold az;rw[lW,e1]) (by unfold az;simp)
   have skip: ∀(nx:Int),(stepT s (aJ s) at_).2=[]->nx=(stepT s (aJ s) at_).1->
     ∃out',je N s (aJ s) fresh nx out=some (.inl ((),(out',())))/\gX out'=gX out++((stepT s (aJ s) at_).2++jc s (aJ s) N (stepT s (aJ s) at_).1)/\(out'.length:Int)<=30000*s.length:=by
    intro nx e1 e2
    subst e2
    exact go out fresh (by rw[e1,List.append_nil]) (by omega)
   have ha1:aG .i64 at_ 1=at_+1:=bI (by omega) (by omega)
   have hp1:bu (ah s) at_ (at_+1)=true:=dC h0 (by omega) (by rw[aB];omega)
   rw[aK (dM (b:=ah s) e),if_pos e,agM (aJ s) (by omega),ae]
   cases hf:qo (aJ s) at_ with
   |none=>
    have hst:stepT s (aJ s) at_=(at_+1,sub s at_ (at_+1)):=by unfold stepT;rw[hf]
    simp only[ha1]
    rw[show aH 0 0=true from rfl,cond_true,show aH 0 1=false from rfl,cond_false,hp1,cond_true]
    exact pln _ _ (by rw[hst]) (by rw[hst])
   |some p=>
    obtain⟨pf,hpe⟩:=pV hf
    have t0:=pf.t0
    have t1:=pf.t1
    have hby:jV s p=sub s at_ p.2.2.1:=by unfold jV;rw[hpe]
    have hp2:bu (ah s) at_ p.2.2.1=true:=dC h0 (by omega) (by rw[aB];omega)
    have ha1':aG .i64 p.2.1 1=at_+1:=by rw[hpe];exact ha1
    have ha2':aG .i64 p.2.1 2=at_+2:=by rw[hpe];exact bI (by omega) (by omega)
    have hs1:ag .i64 p.2.2.1 1=p.2.2.1-1:=fU (by omega) (by omega)
    simp only[ha1,ha1',ha2',hs1]
    rw[show aH 1 0=false from rfl,cond_false,show aH 1 1=true from rfl]
    simp only[cond_true]
    by_cases hpl':lone p=true\/p.1=14
    ·have hst:stepT s (aJ s) at_=(p.2.2.1,jV s p):=by unfold stepT;rw[hf];simp only;rw[if_pos hpl']
     have:=pln (sub s at_ p.2.2.1) p.2.2.1 (by rw[hst,hby]) (by rw[hst])
     by_cases h14:p.1=14
     ·rw[aK (dJ h14),hp2,cond_true];exact this
     ·have hlone:lone p=true:=hpl'.resolve_right h14
      unfold lone at hlone
      simp only[Bool.and_eq_true,decide_eq_true_eq]at hlone
      rw[aU (bU h14),aK (dJ hlone.1),aK (dJ (by omega)),hp2,cond_true];exact this
    ·have hl': ¬(p.1=12/\p.2.2.1=at_+1):=fun h=>hpl' (.inl (by unfold lone;rw[hpe];simp[h]))
     have h14:p.1≠14:=fun h=>hpl' (.inr h)
     rw[aU (bU h14)]
     by_cases h13:p.1=13
     ·have hst:stepT s (aJ s) at_=(p.2.2.1,J3 s p):=by unfold stepT;rw[hf];simp only;rw[if_neg hpl',if_pos h13]
      rw[aU (bU (by omega)),aK (dJ h13)]
      by_cases hto2:p.2.2.1=at_+2
      ·rw[aK (dJ hto2),aK (dw (by omega) (by omega))]
       by_cases b5:aI s (at_+1)=10
       ·rw[dJ b5]
        simp only[Bool.not_true,cond_false]
        exact skip _ (by rw[hst];unfold J3;rw[hpe,if_neg (by omega)]) (by rw[hst])
       ·rw[bU b5]
        simp only[Bool.not_false,cond_true]
        rw[aK (dC (by omega) (by omega) (by rw[aB];omega))]
        exact psh _ _ (by rw[hst];unfold J3;rw[hpe,if_pos ⟨by omega,b5⟩]) (by rw[hst])
      ·rw[aU (bU hto2)]
       exact skip _ (by rw[hst];unfold J3;rw[hpe,if_neg (by omega)]) (by rw[hst])
     ·have rest: ∃out',(bif aH p.1 4 then
        bif p.2.2.2.2.1 then
         bif bu (ah s) (at_+1) p.2.2.1 then
          bif aZ (az out [(false,(true,(sub s (at_+1) p.2.2.1,())))]) 24 then
           je N s (aJ s) true p.2.2.1 (az out [(false,(true,(sub s (at_+1) p.2.2.1,())))])
          else none
         else none
        else bif bu (ah s) (at_+1) (p.2.2.1-1)then
         bif aZ (az out [(false,(true,(sub s (at_+1) (p.2.2.1-1),())))]) 24 then
          je N s (aJ s) true p.2.2.1 (az out [(false,(true,(sub s (at_+1) (p.2.2.1-1),())))])
         else none
        else none
       else bif aH p.1 5 then
        bif p.2.2.2.2.1 then
         ai (zx s (aJ s) (at_+1) p.2.2.1) fun y1=>
          bif aZ (az out y1.1) 24 then je N s (aJ s) true p.2.2.1 (az out y1.1)else none
        else
         ai (zx s (aJ s) (at_+1) (p.2.2.1-1)) fun y1=>
          bif aZ (az out y1.1) 24 then je N s (aJ s) true p.2.2.1 (az out y1.1)else none
       else bif bu (ah s) p.2.1 p.2.2.1 then
        bif aZ (az out [(true,(false,(sub s p.2.1 p.2.2.1,())))]) 24 then
         je N s (aJ s) true p.2.2.1 (az out [(true,(false,(sub s p.2.1 p.2.2.1,())))])
        else none
       else none)=some (.inl ((),(out',())))/\gX out'=gX out++((stepT s (aJ s) at_).2++jc s (aJ s) N (stepT s (aJ s) at_).1)/\(out'.length:Int)<=30000*s.length:=by
       by_cases h4:p.1=4
       ·have hst:stepT s (aJ s) at_=(p.2.2.1,sub s (p.2.1+1) (qC p)):=by unfold stepT;rw[hf];simp only;rw[if_neg hpl',if_neg h13,if_pos h4]
        rw[aK (dJ h4)]
        cases hop:p.2.2.2.2.1 with
        |true=>
         rw[cond_true,aK (dC (by omega) (by omega) (by rw[aB];omega))]
         exact psh _ _ (by rw[hst,hpe];unfold qC;rw[hop,if_pos rfl]) (by rw[hst])
        |false=>
         have:=pf.sh hop (by omega)
         rw[cond_false,aK (dC (by omega) (by omega) (by rw[aB];omega))]
         exact psh _ _ (by rw[hst,hpe];unfold qC;rw[hop,if_neg (by simp)]) (by rw[hst])
       ·rw[aU (bU h4)]
        by_cases h5:p.1=5
        ·have hst:stepT s (aJ s) at_=(p.2.2.1,mD s (aJ s) (qC p) s.length (p.2.1+1)):=by unfold stepT;rw[hf];simp only;rw[if_neg hpl',if_neg h13,if_neg h4,if_pos h5]
         rw[aK (dJ h5)]
         have dbl: ∀to_:Int,to_=qC p->to_<=s.length-> ∃out',(ai (zx s (aJ s) (at_+1) to_) fun y1=>
           bif aZ (az out y1.1) 24 then je N s (aJ s) true p.2.2.1 (az out y1.1)else none)=some (.inl ((),(out',())))/\gX out'=gX out++((stepT s (aJ s) at_).2++jc s (aJ s) N (stepT s (aJ s) at_).1)/\(out'.length:Int)<=30000*s.length:=by
          intro to_ hte hto
          obtain⟨o,d1,d2,d3⟩:=agO s hs (from_:=at_+1) (to_:=to_) (by omega) (by omega) hto
          rw[d1,ae]
          simp only
          rw[aK (mg (by unfold az;rw[List.length_append];omega))]
          have:=go (az out o) true (by unfold az;rw[nO,d2,hst,hpe,hte]) (by unfold az;rw[List.length_append];omega)
          rw[show p.2.2.1=(stepT s (aJ s) at_).1 by rw[hst]]
          exact this
         cases hop:p.2.2.2.2.1 with
         |true=>rw[cond_true];exact dbl _ (by unfold qC;rw[hop,if_pos rfl]) (by omega)
         |false=>rw[cond_false];exact dbl _ (by unfold qC;rw[hop,if_neg (by simp)]) (by omega)
        ·have hst:stepT s (aJ s) at_=(p.2.2.1,jV s p):=by unfold stepT;rw[hf];simp only;rw[if_neg hpl',if_neg h13,if_neg h4,if_neg h5]
         rw[aU (bU h5),aK (dC (by omega) (by omega) (by rw[aB];omega))]
         exact psh _ _ (by rw[hst];rfl) (by rw[hst])
      by_cases h12:p.1=12
      ·rw[aK (dJ h12),aU (bU (fun h=>hl' ⟨h12,h⟩)),aU (bU h13)];exact rest
      ·rw[aU (bU h12),aU (bU h13)];exact rest
  ·rw[aU (gm (by rw[aB];omega)),if_neg e]
   exact⟨out,rfl,by simp,by omega⟩
theorem HY (l:List Pce) (hl:l.length<1000000000) (ht:(gX l).length<=100000000000000): ∀(N k:Nat),l.length-k<N->k<=l.length->
  uA N l (gX (l.take k)) (k:Int)=some (.inl ((gX l,()),()))
 |0,k,h,_=>by omega
 |N+1,k,h,hk=>by
  rw[uA,GG]
  by_cases e:k<l.length
  ·have hg:af l (false,(false,([],()))) (k:Int)=l[k]:=by
    unfold af
    rw[Int.toNat_natCast,List.getD_eq_getElem?_getD,List.getElem?_eq_getElem e];rfl
   have hts:gX (l.take (k+1))=gX (l.take k)++l[k].2.2.1:=by rw[List.take_add_one,List.getElem?_eq_getElem e,Option.toList_some,lW]
   have hlen:(gX (l.take (k+1))).length<=(gX l).length:=by
    conv=>rhs;rw[<-List.take_append_drop (k+1) l,nO]
    rw[List.length_append];omega
   rw[aK (dM (by rw[aB];omega)),aK (dw (by omega) (by omega)),hg,aK (Wn (by rw[hts,List.length_append]at hlen;omega)),bI (by omega) (by omega),show(k:Int)+1=((k+1:Nat):Int) by omega,
    show az (gX (l.take k)) l[k].2.2.1=gX (l.take (k+1)) from hts.symm]
   exact HY l hl ht N (k+1) (by omega) (by omega)
  ·rw[aU (gm (by rw[aB];omega)),List.take_of_length_le (by omega)]
theorem abg (s:List UInt8) (hs:s.length<=10000):(Bg s).length<=1000100000000:=by
 have h:=L9 s (aJ s) s.length 0
 have h2:s.length*s.length<=10000*10000:=Nat.mul_le_mul hs hs
 have h3:s.length*(s.length*s.length+s.length)<=10000*(10000*10000+10000):=Nat.mul_le_mul hs (by omega)
 unfold Bg;omega
theorem ale (s:List UInt8) (hs:s.length<=10000):Jm s=some (Bg s,()):=by
 obtain⟨out,h1,h2,h3⟩:=EI s hs aO 0 true [] (by have:=dh (n:=s.length) (by omega);omega) (by omega) (by omega) (by simp[gX]) (by simp)
 have hm:jc s (aJ s) aO 0=Bg s:=Au s _ _ _ (by have:=dh (n:=s.length) (by omega);omega) (by omega)
 have hp:Zv s=some (out,()):=by
  rw[Zv,auj s (by omega),ae]
  simp only
  rw[h1,ae];rfl
 have ht:gX out=Bg s:=by rw[h2,hm];rfl
 have hbl:=abg s hs
 rw[Jm,hp,ae]
 simp only
 have h4:=HY out (by omega) (by rw[ht];omega) aO 0 (dh (by omega)) (by omega)
 rw[show uA aO out [] 0=_ from h4,ae,<-ht]
 rfl
end Go.Proofs.YtihafdllichkeaaGreatDoor
namespace Go.Proofs.YtihafdllichkeaaGreatDoor
open Go.RowKit
set_option linter.unusedVariables false
set_option linter.unusedSimpArgs false
set_option maxRecDepth 100000
set_option maxHeartbeats 4000000
noncomputable def b90:Code:=(Tryz.f90.body).getD .skip
noncomputable def ahQ:Code:=cA (cA (cA (cB (cA (cB (cA (cB (cB (cB (cB (cB (b90))))))))))))
noncomputable def adR:Code:=cA (cA (cA (cB (cB (cB (cB (cB (cB (cB (cB (b90)))))))))))
def aho:dB:=⟨[0,1,6,7,11,12,100014],[],[1,6,7,11,12],[],[6,7],[]⟩
def ag0:dB:=⟨[0,1,5,6,7,11,14,100023],[],[0,1,5,6,7,11,14],[],[6,7],[]⟩
def P9:SP:=⟨us [.v .str,.v (.int .i64),.u,.u,.u,.u,.ptr 1000006 0,.ptr 1000007 0,.u,.u,.u,.ptr 1000011 0,.v (.int .i64)] 173,[.box 1000011 91 [.v (.int .i64),.v (.list (.pair .str (.pair .bool .unit))),.v .bool],.box 1000007 91 [.v (.int .i64),.nils,.v .bool],.box 1000006 46 [.v (.int .i64),.v (.int .i64),.v (.int .i64),.v .bool]]⟩
def O5:SP:=⟨us [.u,.v (.int .i64),.u,.u,.u,.u,.ptr 1000006 0,.ptr 1000007 0,.u,.u,.u,.ptr 1000011 0,.v (.int .i64)] 173,[.box 1000011 91 [.v (.int .i64),.v (.list (.pair .str (.pair .bool .unit))),.v .bool],.box 1000007 91 [.v (.int .i64),.nils,.v .bool],.box 1000006 46 [.v (.int .i64),.v (.int .i64),.v (.int .i64),.v .bool]]⟩
def Nw:SP:=⟨us [] 186,[]⟩
def FM {γ:Type} (rec:(List UInt8)->Int->Int->Int->(List ((List UInt8)×(Bool×Unit)))->Bool->Int->Bool->Int->Int->Int->Bool->Option γ) (kE:Int->Int->Int->(List ((List UInt8)×(Bool×Unit)))->Bool->Int->Bool->Int->Int->Int->Bool->Option γ) (kR:Option γ) (v0:List UInt8) (v1:Int) (v2:Int) (v3:Int) (v4:List ((List UInt8)×(Bool×Unit))) (v5:Bool) (v6:Int) (v7:Bool) (v8:Int) (v9:Int) (v10:Int) (v11:Bool):Option γ:=
 bif(fD v2 (ah v0))then
  bif(dX v0 v2)then
   bif(!(aH (aI v0 v2) 10))then
    rec v0 v1 (aG .i64 v2 1) v3 v4 v5 v6 v7 v8 v9 v10 v11
   else
   kE v1 v2 v3 v4 v5 v6 v7 v8 v9 v10 v11
  else
  none
 else
 kE v1 v2 v3 v4 v5 v6 v7 v8 v9 v10 v11
def yK:Nat->(List UInt8)->Int->Int->Int->(List ((List UInt8)×(Bool×Unit)))->Bool->Int->Bool->Int->Int->Int->Bool->Option (O5.den⊕Nw.den)
 |0,_,_,_,_,_,_,_,_,_,_,_,_=>none
 |n+1,v0,v1,v2,v3,v4,v5,v6,v7,v8,v9,v10,v11=>FM (yK n) (fun e0 e1 e2 e3 e4 e5 e6 e7 e8 e9 e10=>some (.inl ((e0,e1,()),((e2,e3,e4,()),(e5,e6,()),(e7,e8,e9,e10,()),())))) (some (.inr ((),()))) v0 v1 v2 v3 v4 v5 v6 v7 v8 v9 v10 v11
noncomputable def Z7:bG:=dO aho P9 O5 Nw (.exit 0) (fun v=>yK aO v.1.1 v.1.2.1 v.1.2.2.1 v.2.1.1 v.2.1.2.1 v.2.1.2.2.1 v.2.2.1.1 v.2.2.1.2.1 v.2.2.2.1.1 v.2.2.2.1.2.1 v.2.2.2.1.2.2.1 v.2.2.2.1.2.2.2.1) 6
def OU:SP:=⟨us [.v .str,.v (.int .i64),.u,.u,.u,.ptr 1000005 0,.ptr 1000006 0,.ptr 1000007 0,.u,.u,.u,.ptr 1000011 0,.u,.u,.v (.int .i64)] 171,[.box 1000011 91 [.v (.int .i64),.v (.list (.pair .str (.pair .bool .unit))),.v .bool],.box 1000007 91 [.v (.int .i64),.nils,.v .bool],.box 1000006 46 [.v (.int .i64),.v (.int .i64),.v (.int .i64),.v .bool],.box 1000005 91 [.v (.int .i64),.v (.list (.pair .str (.pair .bool .unit))),.v .bool]]⟩
def Q4:SP:=⟨us [.v .str,.v (.int .i64),.u,.u,.u,.ptr 1000005 0,.ptr 1000006 0,.ptr 1000007 0,.u,.u,.u,.ptr 1000011 0,.u,.u,.v (.int .i64)] 171,[.box 1000011 91 [.v (.int .i64),.v (.list (.pair .str (.pair .bool .unit))),.v .bool],.box 1000007 91 [.v (.int .i64),.nils,.v .bool],.box 1000006 46 [.v (.int .i64),.v (.int .i64),.v (.int .i64),.v .bool],.box 1000005 91 [.v (.int .i64),.v (.list (.pair .str (.pair .bool .unit))),.v .bool]]⟩
def Np:SP:=⟨us [] 186,[]⟩
def Gp {γ:Type} (rec:(List UInt8)->Int->Int->Int->(List ((List UInt8)×(Bool×Unit)))->Bool->Int->Bool->Int->Int->Int->Bool->Int->(List ((List UInt8)×(Bool×Unit)))->Bool->Option γ) (kE:(List UInt8)->Int->Int->Int->(List ((List UInt8)×(Bool×Unit)))->Bool->Int->Bool->Int->Int->Int->Bool->Int->(List ((List UInt8)×(Bool×Unit)))->Bool->Option γ) (kR:Option γ) (v0:List UInt8) (v1:Int) (v2:Int) (v3:Int) (v4:List ((List UInt8)×(Bool×Unit))) (v5:Bool) (v6:Int) (v7:Bool) (v8:Int) (v9:Int) (v10:Int) (v11:Bool) (v12:Int) (v13:List ((List UInt8)×(Bool×Unit))) (v14:Bool):Option γ:=
 bif(fD v2 (ah v0))then
  bif(dX v0 v2)then
   ai (QU (aI v0 v2)) fun y0=>
    bif(aH y0.1 6)then
     rec v0 v1 (aG .i64 v2 1) v3 v4 v5 v6 v7 v8 v9 v10 v11 v12 v13 v14
    else
    kE v0 v1 v2 v3 v4 v5 v6 v7 v8 v9 v10 v11 v12 v13 v14
  else
  none
 else
 kE v0 v1 v2 v3 v4 v5 v6 v7 v8 v9 v10 v11 v12 v13 v14
def yI:Nat->(List UInt8)->Int->Int->Int->(List ((List UInt8)×(Bool×Unit)))->Bool->Int->Bool->Int->Int->Int->Bool->Int->(List ((List UInt8)×(Bool×Unit)))->Bool->Option (Q4.den⊕Np.den)
 |0,_,_,_,_,_,_,_,_,_,_,_,_,_,_,_=>none
 |n+1,v0,v1,v2,v3,v4,v5,v6,v7,v8,v9,v10,v11,v12,v13,v14=>Gp (yI n) (fun e0 e1 e2 e3 e4 e5 e6 e7 e8 e9 e10 e11 e12 e13 e14=>some (.inl ((e0,e1,e2,()),((e3,e4,e5,()),(e6,e7,()),(e8,e9,e10,e11,()),(e12,e13,e14,()),())))) (some (.inr ((),()))) v0 v1 v2 v3 v4 v5 v6 v7 v8 v9 v10 v11 v12 v13 v14
noncomputable def ZX:bG:=dO ag0 OU Q4 Np (.exit 2) (fun v=>yI aO v.1.1 v.1.2.1 v.1.2.2.1 v.2.1.1 v.2.1.2.1 v.2.1.2.2.1 v.2.2.1.1 v.2.2.1.2.1 v.2.2.2.1.1 v.2.2.2.1.2.1 v.2.2.2.1.2.2.1 v.2.2.2.1.2.2.2.1 v.2.2.2.2.1.1 v.2.2.2.2.1.2.1 v.2.2.2.2.1.2.2.1) 12
def aei (x0:List UInt8) (x1:Int) (x2:Int×(List ((List UInt8)×(Bool×Unit)))×(Bool×Unit)):Option ((Int×Int×Int×Bool×Unit)×(Int×(List ((List UInt8)×(Bool×Unit)))×(Bool×Unit))×Unit):=
 bif x2.2.2.1 then
  bif(dX x2.2.1 0)then
   ai (Yy x0 x1 (af x2.2.1 ([],(false,())) 0)) fun y0=>
    bif(aH y0.2.1 0)then
     bif((aH x2.1 x2.1)&&((dR (.pair .str (.pair .bool .unit)) x2.2.1 x2.2.1)&&((fF x2.2.2.1 x2.2.2.1)&&true)))then
      some ((7,(x1,(y0.1,(true,())))),((x2.1,(x2.2.1,(x2.2.2.1,()))),()))
     else
     none
    else
    bif(bu (ah x2.2.1) 1 (ah x2.2.1))then
     bif(aH x2.1 x2.1)then
      bif(dR (.pair .str (.pair .bool .unit)) x2.2.1 x2.2.1)then
       bif(bu (ah x2.2.1) 1 (ah x2.2.1))then
        bif(dR (.pair .str (.pair .bool .unit)) (sub x2.2.1 1 (ah x2.2.1)) (sub x2.2.1 1 (ah x2.2.1)))then
         bif(dR (.pair .str (.pair .bool .unit)) x2.2.1 x2.2.1)then
          bif(aH (ah x2.2.1) (ah x2.2.1))then
           bif(fF (fD 1 (ah x2.2.1)) (fD 1 (ah x2.2.1)))then
            bif((aH x2.1 x2.1)&&((dR (.pair .str (.pair .bool .unit)) (sub x2.2.1 1 (ah x2.2.1)) (sub x2.2.1 1 (ah x2.2.1)))&&((fF (fD 1 (ah x2.2.1)) (fD 1 (ah x2.2.1)))&&true)))then
             some ((7,(x1,(y0.1,(false,())))),((x2.1,((sub x2.2.1 1 (ah x2.2.1)),((fD 1 (ah x2.2.1)),()))),()))
            else
            none
           else
           none
          else
          none
         else
         none
        else
        none
       else
       none
      else
      none
     else
     none
    else
    none
  else
  none
 else
 ai (Zc x0 x1) fun y0=>
  bif(fD x1 y0.1)then
   bif((aH x2.1 x2.1)&&((dR (.pair .str (.pair .bool .unit)) x2.2.1 x2.2.1)&&((fF x2.2.2.1 x2.2.2.1)&&true)))then
    some ((1,(x1,(y0.1,(false,())))),((x2.1,(x2.2.1,(x2.2.2.1,()))),()))
   else
   none
  else
  bif(dX x0 x1)then
   bif(aH (aI x0 x1) 10)then
    bif(dR (.pair .str (.pair .bool .unit)) x2.2.1 x2.2.1)then
     bif(dR (.pair .str (.pair .bool .unit)) x2.2.1 x2.2.1)then
      bif(aH (ah x2.2.1) (ah x2.2.1))then
       bif(fF (fD 0 (ah x2.2.1)) (fD 0 (ah x2.2.1)))then
        bif((aH 0 0)&&((dR (.pair .str (.pair .bool .unit)) x2.2.1 x2.2.1)&&((fF (fD 0 (ah x2.2.1)) (fD 0 (ah x2.2.1)))&&true)))then
         some ((2,(x1,((aG .i64 x1 1),(false,())))),((0,(x2.2.1,((fD 0 (ah x2.2.1)),()))),()))
        else
        none
       else
       none
      else
      none
     else
     none
    else
    none
   else
   bif(dX x0 x1)then
    bif(aH (aI x0 x1) 35)then
     ai (yK aO x0 x1 x1 0 x2.2.1 false 0 false 0 0 0 false) fun y1=>
      bF y1 (fun a2=>
       bif((aH a2.2.1.1 a2.2.1.1)&&((dR (.pair .str (.pair .bool .unit)) a2.2.1.2.1 a2.2.1.2.1)&&((fF a2.2.1.2.2.1 a2.2.1.2.2.1)&&true)))then
        some ((3,(a2.1.1,(a2.1.2.1,(false,())))),((a2.2.1.1,(a2.2.1.2.1,(a2.2.1.2.2.1,()))),()))
       else
       none) (fun b2=>
       none)
    else
    ai (Ur x0 x1) fun y1=>
     bif(fD 0 y1.1)then
      bif(aH y1.1 4)then
       ai (Eu y1.1) fun y2=>
        bif((aH y1.1 y1.1)&&((dR (.pair .str (.pair .bool .unit)) x2.2.1 x2.2.1)&&((fF false false)&&true)))then
         some ((4,(x1,((aG .i64 x1 (ah y2.1)),(false,())))),((y1.1,(x2.2.1,(false,()))),()))
        else
        none
      else
      bif(aH y1.1 5)then
       ai (Eu y1.1) fun y2=>
        bif((aH y1.1 y1.1)&&((dR (.pair .str (.pair .bool .unit)) x2.2.1 x2.2.1)&&((fF false false)&&true)))then
         some ((4,(x1,((aG .i64 x1 (ah y2.1)),(false,())))),((y1.1,(x2.2.1,(false,()))),()))
        else
        none
      else
      ai (Eu y1.1) fun y2=>
       bif((aH 0 0)&&((dR (.pair .str (.pair .bool .unit)) x2.2.1 x2.2.1)&&((fF false false)&&true)))then
        some ((4,(x1,((aG .i64 x1 (ah y2.1)),(false,())))),((0,(x2.2.1,(false,()))),()))
       else
       none
     else
     ai (yI aO x0 x1 x1 0 x2.2.1 false 0 false 0 0 0 false x2.1 x2.2.1 x2.2.2.1) fun y2=>
      bF y2 (fun a3=>
       bif(fD a3.1.2.1 a3.1.2.2.1)then
        bif(fD a3.1.2.2.1 (ah a3.1.1))then
         bif(dX a3.1.1 a3.1.2.2.1)then
          bif(aH (aI a3.1.1 a3.1.2.2.1) 60)then
           bif((aH a3.2.1.1 a3.2.1.1)&&((dR (.pair .str (.pair .bool .unit)) a3.2.1.2.1 a3.2.1.2.1)&&((fF a3.2.1.2.2.1 a3.2.1.2.2.1)&&true)))then
            some ((5,(a3.1.2.1,(a3.1.2.2.1,(false,())))),((a3.2.1.1,(a3.2.1.2.1,(a3.2.1.2.2.1,()))),()))
           else
           none
          else
          bif(dX a3.1.1 a3.1.2.2.1)then
           bif(aH (aI a3.1.1 a3.1.2.2.1) 62)then
            bif((aH a3.2.1.1 a3.2.1.1)&&((dR (.pair .str (.pair .bool .unit)) a3.2.1.2.1 a3.2.1.2.1)&&((fF a3.2.1.2.2.1 a3.2.1.2.2.1)&&true)))then
             some ((5,(a3.1.2.1,(a3.1.2.2.1,(false,())))),((a3.2.1.1,(a3.2.1.2.1,(a3.2.1.2.2.1,()))),()))
            else
            none
           else
           ai (Fg a3.1.1 a3.1.2.1) fun y4=>
            bif(bu (ah a3.1.1) a3.1.2.1 y4.1)then
             bif(!(aH a3.2.2.2.2.1.1 0))then
              bif(dR (.pair .str (.pair .bool .unit)) a3.2.2.2.2.1.2.1 a3.2.2.2.2.1.2.1)then
               bif(cO (sub a3.1.1 a3.1.2.1 y4.1) (sub a3.1.1 a3.1.2.1 y4.1))then
                bif(aH a3.2.2.2.2.1.1 a3.2.2.2.2.1.1)then
                 bif(fF (aH a3.2.2.2.2.1.1 5) (aH a3.2.2.2.2.1.1 5))then
                  bif(aZ (az [] a3.2.2.2.2.1.2.1) 24)then
                   bif(cO (sub a3.1.1 a3.1.2.1 y4.1) (sub a3.1.1 a3.1.2.1 y4.1))then
                    bif(aH a3.2.2.2.2.1.1 a3.2.2.2.2.1.1)then
                     bif(fF (aH a3.2.2.2.2.1.1 5) (aH a3.2.2.2.2.1.1 5))then
                      ai (Jm (sub a3.1.1 a3.1.2.1 y4.1)) fun y5=>
                       bif(dR (.pair .str (.pair .bool .unit)) a3.2.2.2.2.1.2.1 a3.2.2.2.2.1.2.1)then
                        bif(cO (sub a3.1.1 a3.1.2.1 y4.1) (sub a3.1.1 a3.1.2.1 y4.1))then
                         bif(aH a3.2.2.2.2.1.1 a3.2.2.2.2.1.1)then
                          bif(fF (aH a3.2.2.2.2.1.1 5) (aH a3.2.2.2.2.1.1 5))then
                           bif(((cO (sub a3.1.1 a3.1.2.1 y4.1) (sub a3.1.1 a3.1.2.1 y4.1))&&true)&&((cO y5.1 y5.1)&&true))then
                            bif(aZ (az (az [] a3.2.2.2.2.1.2.1) [(y5.1,((aH a3.2.2.2.2.1.1 5),()))]) 24)then
                             bif(dR (.pair .str (.pair .bool .unit)) a3.2.2.2.2.1.2.1 a3.2.2.2.2.1.2.1)then
                              bif(cO (sub a3.1.1 a3.1.2.1 y4.1) (sub a3.1.1 a3.1.2.1 y4.1))then
                               bif(aH a3.2.2.2.2.1.1 a3.2.2.2.2.1.1)then
                                bif(fF (aH a3.2.2.2.2.1.1 5) (aH a3.2.2.2.2.1.1 5))then
                                 bif((cO y5.1 y5.1)&&((fF (aH a3.2.2.2.2.1.1 5) (aH a3.2.2.2.2.1.1 5))&&true))then
                                  ai (wO (sub a3.1.1 a3.1.2.1 y4.1)) fun y6=>
                                   bif((aH a3.2.1.1 a3.2.1.1)&&((fF a3.2.1.2.2.1 a3.2.1.2.2.1)&&true))then
                                    some ((6,(a3.1.2.1,(y4.1,((!y6.1),())))),((a3.2.1.1,((az (az [] a3.2.2.2.2.1.2.1) [(y5.1,((aH a3.2.2.2.2.1.1 5),()))]),(a3.2.1.2.2.1,()))),()))
                                   else
                                   none
                                 else
                                 none
                                else
                                none
                               else
                               none
                              else
                              none
                             else
                             none
                            else
                            none
                           else
                           none
                          else
                          none
                         else
                         none
                        else
                        none
                       else
                       none
                     else
                     none
                    else
                    none
                   else
                   none
                  else
                  none
                 else
                 none
                else
                none
               else
               none
              else
              none
             else
             ai (wO (sub a3.1.1 a3.1.2.1 y4.1)) fun y5=>
              bif((aH a3.2.1.1 a3.2.1.1)&&((dR (.pair .str (.pair .bool .unit)) a3.2.1.2.1 a3.2.1.2.1)&&((fF a3.2.1.2.2.1 a3.2.1.2.2.1)&&true)))then
               some ((6,(a3.1.2.1,(y4.1,((!y5.1),())))),((a3.2.1.1,(a3.2.1.2.1,(a3.2.1.2.2.1,()))),()))
              else
              none
            else
            none
          else
          none
         else
         none
        else
        ai (Fg a3.1.1 a3.1.2.1) fun y4=>
         bif(bu (ah a3.1.1) a3.1.2.1 y4.1)then
          bif(!(aH a3.2.2.2.2.1.1 0))then
           bif(dR (.pair .str (.pair .bool .unit)) a3.2.2.2.2.1.2.1 a3.2.2.2.2.1.2.1)then
            bif(cO (sub a3.1.1 a3.1.2.1 y4.1) (sub a3.1.1 a3.1.2.1 y4.1))then
             bif(aH a3.2.2.2.2.1.1 a3.2.2.2.2.1.1)then
              bif(fF (aH a3.2.2.2.2.1.1 5) (aH a3.2.2.2.2.1.1 5))then
               bif(aZ (az [] a3.2.2.2.2.1.2.1) 24)then
                bif(cO (sub a3.1.1 a3.1.2.1 y4.1) (sub a3.1.1 a3.1.2.1 y4.1))then
                 bif(aH a3.2.2.2.2.1.1 a3.2.2.2.2.1.1)then
                  bif(fF (aH a3.2.2.2.2.1.1 5) (aH a3.2.2.2.2.1.1 5))then
                   ai (Jm (sub a3.1.1 a3.1.2.1 y4.1)) fun y5=>
                    bif(dR (.pair .str (.pair .bool .unit)) a3.2.2.2.2.1.2.1 a3.2.2.2.2.1.2.1)then
                     bif(cO (sub a3.1.1 a3.1.2.1 y4.1) (sub a3.1.1 a3.1.2.1 y4.1))then
                      bif(aH a3.2.2.2.2.1.1 a3.2.2.2.2.1.1)then
                       bif(fF (aH a3.2.2.2.2.1.1 5) (aH a3.2.2.2.2.1.1 5))then
                        bif(((cO (sub a3.1.1 a3.1.2.1 y4.1) (sub a3.1.1 a3.1.2.1 y4.1))&&true)&&((cO y5.1 y5.1)&&true))then
                         bif(aZ (az (az [] a3.2.2.2.2.1.2.1) [(y5.1,((aH a3.2.2.2.2.1.1 5),()))]) 24)then
                          bif(dR (.pair .str (.pair .bool .unit)) a3.2.2.2.2.1.2.1 a3.2.2.2.2.1.2.1)then
                           bif(cO (sub a3.1.1 a3.1.2.1 y4.1) (sub a3.1.1 a3.1.2.1 y4.1))then
                            bif(aH a3.2.2.2.2.1.1 a3.2.2.2.2.1.1)then
                             bif(fF (aH a3.2.2.2.2.1.1 5) (aH a3.2.2.2.2.1.1 5))then
                              bif((cO y5.1 y5.1)&&((fF (aH a3.2.2.2.2.1.1 5) (aH a3.2.2.2.2.1.1 5))&&true))then
                               ai (wO (sub a3.1.1 a3.1.2.1 y4.1)) fun y6=>
                                bif((aH a3.2.1.1 a3.2.1.1)&&((fF a3.2.1.2.2.1 a3.2.1.2.2.1)&&true))then
                                 some ((6,(a3.1.2.1,(y4.1,((!y6.1),())))),((a3.2.1.1,((az (az [] a3.2.2.2.2.1.2.1) [(y5.1,((aH a3.2.2.2.2.1.1 5),()))]),(a3.2.1.2.2.1,()))),()))
                                else
                                none
                              else
                              none
                             else
                             none
                            else
                            none
                           else
                           none
                          else
                          none
                         else
                         none
                        else
                        none
                       else
                       none
                      else
                      none
                     else
                     none
                    else
                    none
                  else
                  none
                 else
                 none
                else
                none
               else
               none
              else
              none
             else
             none
            else
            none
           else
           none
          else
          ai (wO (sub a3.1.1 a3.1.2.1 y4.1)) fun y5=>
           bif((aH a3.2.1.1 a3.2.1.1)&&((dR (.pair .str (.pair .bool .unit)) a3.2.1.2.1 a3.2.1.2.1)&&((fF a3.2.1.2.2.1 a3.2.1.2.2.1)&&true)))then
            some ((6,(a3.1.2.1,(y4.1,((!y5.1),())))),((a3.2.1.1,(a3.2.1.2.1,(a3.2.1.2.2.1,()))),()))
           else
           none
         else
         none
       else
       ai (Fg a3.1.1 a3.1.2.1) fun y4=>
        bif(bu (ah a3.1.1) a3.1.2.1 y4.1)then
         bif(!(aH a3.2.2.2.2.1.1 0))then
          bif(dR (.pair .str (.pair .bool .unit)) a3.2.2.2.2.1.2.1 a3.2.2.2.2.1.2.1)then
           bif(cO (sub a3.1.1 a3.1.2.1 y4.1) (sub a3.1.1 a3.1.2.1 y4.1))then
            bif(aH a3.2.2.2.2.1.1 a3.2.2.2.2.1.1)then
             bif(fF (aH a3.2.2.2.2.1.1 5) (aH a3.2.2.2.2.1.1 5))then
              bif(aZ (az [] a3.2.2.2.2.1.2.1) 24)then
               bif(cO (sub a3.1.1 a3.1.2.1 y4.1) (sub a3.1.1 a3.1.2.1 y4.1))then
                bif(aH a3.2.2.2.2.1.1 a3.2.2.2.2.1.1)then
                 bif(fF (aH a3.2.2.2.2.1.1 5) (aH a3.2.2.2.2.1.1 5))then
                  ai (Jm (sub a3.1.1 a3.1.2.1 y4.1)) fun y5=>
                   bif(dR (.pair .str (.pair .bool .unit)) a3.2.2.2.2.1.2.1 a3.2.2.2.2.1.2.1)then
                    bif(cO (sub a3.1.1 a3.1.2.1 y4.1) (sub a3.1.1 a3.1.2.1 y4.1))then
                     bif(aH a3.2.2.2.2.1.1 a3.2.2.2.2.1.1)then
                      bif(fF (aH a3.2.2.2.2.1.1 5) (aH a3.2.2.2.2.1.1 5))then
                       bif(((cO (sub a3.1.1 a3.1.2.1 y4.1) (sub a3.1.1 a3.1.2.1 y4.1))&&true)&&((cO y5.1 y5.1)&&true))then
                        bif(aZ (az (az [] a3.2.2.2.2.1.2.1) [(y5.1,((aH a3.2.2.2.2.1.1 5),()))]) 24)then
                         bif(dR (.pair .str (.pair .bool .unit)) a3.2.2.2.2.1.2.1 a3.2.2.2.2.1.2.1)then
                          bif(cO (sub a3.1.1 a3.1.2.1 y4.1) (sub a3.1.1 a3.1.2.1 y4.1))then
                           bif(aH a3.2.2.2.2.1.1 a3.2.2.2.2.1.1)then
                            bif(fF (aH a3.2.2.2.2.1.1 5) (aH a3.2.2.2.2.1.1 5))then
                             bif((cO y5.1 y5.1)&&((fF (aH a3.2.2.2.2.1.1 5) (aH a3.2.2.2.2.1.1 5))&&true))then
                              ai (wO (sub a3.1.1 a3.1.2.1 y4.1)) fun y6=>
                               bif((aH a3.2.1.1 a3.2.1.1)&&((fF a3.2.1.2.2.1 a3.2.1.2.2.1)&&true))then
                                some ((6,(a3.1.2.1,(y4.1,((!y6.1),())))),((a3.2.1.1,((az (az [] a3.2.2.2.2.1.2.1) [(y5.1,((aH a3.2.2.2.2.1.1 5),()))]),(a3.2.1.2.2.1,()))),()))
                               else
                               none
                             else
                             none
                            else
                            none
                           else
                           none
                          else
                          none
                         else
                         none
                        else
                        none
                       else
                       none
                      else
                      none
                     else
                     none
                    else
                    none
                   else
                   none
                 else
                 none
                else
                none
               else
               none
              else
              none
             else
             none
            else
            none
           else
           none
          else
          none
         else
         ai (wO (sub a3.1.1 a3.1.2.1 y4.1)) fun y5=>
          bif((aH a3.2.1.1 a3.2.1.1)&&((dR (.pair .str (.pair .bool .unit)) a3.2.1.2.1 a3.2.1.2.1)&&((fF a3.2.1.2.2.1 a3.2.1.2.2.1)&&true)))then
           some ((6,(a3.1.2.1,(y4.1,((!y5.1),())))),((a3.2.1.1,(a3.2.1.2.1,(a3.2.1.2.2.1,()))),()))
          else
          none
        else
        none) (fun b3=>
       none)
   else
   none
  else
  none
def Su:Sum:=(⟨[.str,.int .i64,.pair (.int .i64) (.pair (.list (.pair .str (.pair .bool .unit))) (.pair .bool .unit))],[(.pair (.int .i64) (.pair (.int .i64) (.pair (.int .i64) (.pair .bool .unit))),false),(.pair (.int .i64) (.pair (.list (.pair .str (.pair .bool .unit))) (.pair .bool .unit)),false)],fun x=>aei x.1 x.2.1 x.2.2.1⟩:Sum)
noncomputable def YC:Env:=dI Tryz.prog tt 90 [(44,AC),(148,Vh),(149,VP),(150,Vt),(151,GY),(152,Xz),(153,U6),(154,Xi)] [(14,aho),(23,ag0)] [(14,Z7),(23,ZX)]
def YZ {γ:Type} (a:P9.den->Option γ) (b:O5.den->Option γ) (c:Nw.den->Option γ) (v:P9.den):Option γ:=FM (fun v0 v1 v2 v3 v4 v5 v6 v7 v8 v9 v10 v11=>a ((v0,v1,v2,()),((v3,v4,v5,()),(v6,v7,()),(v8,v9,v10,v11,()),()))) (fun e0 e1 e2 e3 e4 e5 e6 e7 e8 e9 e10=>b ((e0,e1,()),((e2,e3,e4,()),(e5,e6,()),(e7,e8,e9,e10,()),()))) (c ((),())) v.1.1 v.1.2.1 v.1.2.2.1 v.2.1.1 v.2.1.2.1 v.2.1.2.2.1 v.2.2.1.1 v.2.2.1.2.1 v.2.2.2.1.1 v.2.2.2.1.2.1 v.2.2.2.1.2.2.1 v.2.2.2.1.2.2.2.1
theorem aj7:di YC 90 ahQ Z7:=wG (YZ) (lp:=fun n (v:P9.den)=>yK n v.1.1 v.1.2.1 v.1.2.2.1 v.2.1.1 v.2.1.2.1 v.2.1.2.2.1 v.2.2.1.1 v.2.2.1.2.1 v.2.2.2.1.1 v.2.2.2.1.2.1 v.2.2.2.1.2.2.1 v.2.2.2.1.2.2.2.1) (by kernel_rfl) (fun _=>rfl) (fun _ _=>rfl) (fun d n K v=>by kernel_rfl) (by intros;simp only[YZ,FM,bn,bg,ae,aV,bi])
def ZO {γ:Type} (a:OU.den->Option γ) (b:Q4.den->Option γ) (c:Np.den->Option γ) (v:OU.den):Option γ:=Gp (fun v0 v1 v2 v3 v4 v5 v6 v7 v8 v9 v10 v11 v12 v13 v14=>a ((v0,v1,v2,()),((v3,v4,v5,()),(v6,v7,()),(v8,v9,v10,v11,()),(v12,v13,v14,()),()))) (fun e0 e1 e2 e3 e4 e5 e6 e7 e8 e9 e10 e11 e12 e13 e14=>b ((e0,e1,e2,()),((e3,e4,e5,()),(e6,e7,()),(e8,e9,e10,e11,()),(e12,e13,e14,()),()))) (c ((),())) v.1.1 v.1.2.1 v.1.2.2.1 v.2.1.1 v.2.1.2.1 v.2.1.2.2.1 v.2.2.1.1 v.2.2.1.2.1 v.2.2.2.1.1 v.2.2.2.1.2.1 v.2.2.2.1.2.2.1 v.2.2.2.1.2.2.2.1 v.2.2.2.2.1.1 v.2.2.2.2.1.2.1 v.2.2.2.2.1.2.2.1
theorem ajZ:di YC 90 adR ZX:=wG (ZO) (lp:=fun n (v:OU.den)=>yI n v.1.1 v.1.2.1 v.1.2.2.1 v.2.1.1 v.2.1.2.1 v.2.1.2.2.1 v.2.2.1.1 v.2.2.1.2.1 v.2.2.2.1.1 v.2.2.2.1.2.1 v.2.2.2.1.2.2.1 v.2.2.2.1.2.2.2.1 v.2.2.2.2.1.1 v.2.2.2.2.1.2.1 v.2.2.2.2.1.2.2.1) (by kernel_rfl) (fun _=>rfl) (fun _ _=>rfl) (fun d n K v=>by kernel_rfl) (by intros;simp only[ZO,Gp,bn,bg,ae,aV,bi])
theorem aoz:bZ b90=[ahQ,adR]:=by kernel_rfl
theorem asu:cZ YC 90 b90:=bP b90 (fun _=>rfl) (by rw[aoz];exact(aC ⟨fL (by kernel_rfl) (aj7),(aC ⟨fL (by kernel_rfl) (ajZ),aN⟩)⟩))
theorem ah4:bJ YC:=bz tok mixed bV (sg:=[(44,AC),(148,Vh),(149,VP),(150,Vt),(151,GY),(152,Xz),(153,U6),(154,Xi)]) (aC ⟨(Be),(aC ⟨(abH),(aC ⟨(acf),(aC ⟨(aaX),(aC ⟨(MJ),(aC ⟨(aaG),(aC ⟨(ab2),(aC ⟨(aa2),aN⟩)⟩)⟩)⟩)⟩)⟩)⟩)⟩) (fn:=Tryz.f90) (c:=b90) (by kernel_rfl) (by kernel_rfl) (asu) bW bC
theorem RD:bD Tryz.prog 90 Su:=ed ah4 (by decide) fun x=>by kernel_rfl
noncomputable def b74:Code:=(Tryz.f74.body).getD .skip
noncomputable def ak1:Code:=cA (cA (cA (cB (cB (cB (cB (b74)))))))
def akN:dB:=⟨[0,3,4,5,6,100004],[(4,(.pair (.int .i64) (.pair (.int .i64) (.pair (.int .i64) (.pair .bool .unit)))))],[3,4,5],[],[2,3],[(2,(.pair (.int .i64) (.pair (.int .i64) (.pair (.int .i64) (.pair .bool .unit)))))]⟩
def ZV:SP:=⟨us [.v .str,.u,.u,.ptr 1000003 0,.slc 1800004,.ptr 1000005 0,.v (.int .i64)] 23,[.arr 1800004 (.pair (.int .i64) (.pair (.int .i64) (.pair (.int .i64) (.pair .bool .unit)))),.box 1000005 91 [.v (.int .i64),.v (.list (.pair .str (.pair .bool .unit))),.v .bool],.box 1000003 91 [.v (.int .i64),.nils,.v .bool]]⟩
def WA:SP:=⟨us [.u,.u,.u,.ptr 1000003 0,.slc 1800004,.ptr 1000005 0] 24,[.arr 1800004 (.pair (.int .i64) (.pair (.int .i64) (.pair (.int .i64) (.pair .bool .unit)))),.box 1000005 91 [.v (.int .i64),.v (.list (.pair .str (.pair .bool .unit))),.v .bool],.box 1000003 91 [.v (.int .i64),.nils,.v .bool]]⟩
def Yb:SP:=⟨us [.u,.u,.v (.list (.pair (.int .i64) (.pair (.int .i64) (.pair (.int .i64) (.pair .bool .unit)))))] 27,[]⟩
def QH {γ:Type} (rec:(List UInt8)->Int->(List (Int×Int×Int×Bool×Unit))->Int->(List ((List UInt8)×(Bool×Unit)))->Bool->Int->Bool->Option γ) (kE:(List (Int×Int×Int×Bool×Unit))->Int->(List ((List UInt8)×(Bool×Unit)))->Bool->Int->Bool->Option γ) (kR:(List (Int×Int×Int×Bool×Unit))->Option γ) (v0:List UInt8) (v1:Int) (v2:List (Int×Int×Int×Bool×Unit)) (v3:Int) (v4:List ((List UInt8)×(Bool×Unit))) (v5:Bool) (v6:Int) (v7:Bool):Option γ:=
 bif(fD v1 (ah v0))then
  ai (aei v0 v1 (v3,(v4,(v5,())))) fun y0=>
   bif(aZ (az v2 [(y0.1.1,(y0.1.2.1,(y0.1.2.2.1,(y0.1.2.2.2.1,()))))]) 32)then
    rec v0 y0.1.2.2.1 (az v2 [(y0.1.1,(y0.1.2.1,(y0.1.2.2.1,(y0.1.2.2.2.1,()))))]) y0.2.1.1 y0.2.1.2.1 y0.2.1.2.2.1 v6 v7
   else
   none
 else
 kE v2 v3 v4 v5 v6 v7
def zD:Nat->(List UInt8)->Int->(List (Int×Int×Int×Bool×Unit))->Int->(List ((List UInt8)×(Bool×Unit)))->Bool->Int->Bool->Option (WA.den⊕Yb.den)
 |0,_,_,_,_,_,_,_,_=>none
 |n+1,v0,v1,v2,v3,v4,v5,v6,v7=>QH (zD n) (fun e0 e1 e2 e3 e4 e5=>some (.inl ((),(e0,(e1,e2,e3,()),(e4,e5,()),())))) (fun r0=>some (.inr ((r0,()),()))) v0 v1 v2 v3 v4 v5 v6 v7
noncomputable def ahX:bG:=dO akN ZV WA Yb (.exit 0) (fun v=>zD aO v.1.1 v.1.2.1 v.2.1 v.2.2.1.1 v.2.2.1.2.1 v.2.2.1.2.2.1 v.2.2.2.1.1 v.2.2.2.1.2.1) 6
def aeb (x0:List UInt8):Option ((List (Int×Int×Int×Bool×Unit))×(Int×(List ((List UInt8)×(Bool×Unit)))×(Bool×Unit))×Unit):=
 ai (zD aO x0 0 [] 0 [] false 0 false) fun y0=>
  bF y0 (fun a1=>
   some (a1.2.1,((a1.2.2.1.1,(a1.2.2.1.2.1,(a1.2.2.1.2.2.1,()))),()))) (fun b1=>
   none)
def Sr:Sum:=(⟨[.str],[(.list (.pair (.int .i64) (.pair (.int .i64) (.pair (.int .i64) (.pair .bool .unit)))),false),(.pair (.int .i64) (.pair (.list (.pair .str (.pair .bool .unit))) (.pair .bool .unit)),false)],fun x=>aeb x.1⟩:Sum)
noncomputable def ael:Env:=dI Tryz.prog tt 74 [(90,Su)] [(4,akN)] [(4,ahX)]
def afN {γ:Type} (a:ZV.den->Option γ) (b:WA.den->Option γ) (c:Yb.den->Option γ) (v:ZV.den):Option γ:=QH (fun v0 v1 v2 v3 v4 v5 v6 v7=>a ((v0,v1,()),(v2,(v3,v4,v5,()),(v6,v7,()),()))) (fun e0 e1 e2 e3 e4 e5=>b ((),(e0,(e1,e2,e3,()),(e4,e5,()),()))) (fun r0=>c ((r0,()),())) v.1.1 v.1.2.1 v.2.1 v.2.2.1.1 v.2.2.1.2.1 v.2.2.1.2.2.1 v.2.2.2.1.1 v.2.2.2.1.2.1
theorem amc:di ael 74 ak1 ahX:=wG (afN) (lp:=fun n (v:ZV.den)=>zD n v.1.1 v.1.2.1 v.2.1 v.2.2.1.1 v.2.2.1.2.1 v.2.2.1.2.2.1 v.2.2.2.1.1 v.2.2.2.1.2.1) (by kernel_rfl) (fun _=>rfl) (fun _ _=>rfl) (fun d n K v=>by kernel_rfl) (by intros;simp only[afN,QH,bn,bg,ae,aV,bi])
theorem apd:bZ b74=[ak1]:=by kernel_rfl
theorem aoU:cZ ael 74 b74:=bP b74 (fun _=>rfl) (by rw[apd];exact(aC ⟨fL (by kernel_rfl) (amc),aN⟩))
theorem aeA:bJ ael:=bz tok mixed bV (sg:=[(90,Su)]) (aC ⟨(RD),aN⟩) (fn:=Tryz.f74) (c:=b74) (by kernel_rfl) (by kernel_rfl) (aoU) bW bC
theorem Ug:bD Tryz.prog 74 Sr:=ed aeA (by decide) fun x=>by kernel_rfl
noncomputable def b67:Code:=(Tryz.f67.body).getD .skip
noncomputable def akM:Code:=cA (cA (cB (cA (cB (cB (cB (b67)))))))
def ak0:dB:=⟨[0,3,5,6,100004],[(5,(.pair (.int .i64) (.pair .str (.pair (.int .i64) (.pair (.int .i64) .unit)))))],[5],[],[2],[(2,(.pair (.int .i64) (.pair .str (.pair (.int .i64) (.pair (.int .i64) .unit)))))]⟩
def Yf:SP:=⟨us [.v .str,.u,.u,.v (.list (.pair (.int .i64) (.pair (.int .i64) (.pair (.int .i64) (.pair .bool .unit))))),.u,.slc 1800005,.v (.int .i64)] 59,[.arr 1800005 (.pair (.int .i64) (.pair .str (.pair (.int .i64) (.pair (.int .i64) .unit))))]⟩
def U2:SP:=⟨us [.u,.u,.u,.u,.u,.slc 1800005] 60,[.arr 1800005 (.pair (.int .i64) (.pair .str (.pair (.int .i64) (.pair (.int .i64) .unit))))]⟩
def Xt:SP:=⟨us [.u,.u,.v (.list (.pair (.int .i64) (.pair .str (.pair (.int .i64) (.pair (.int .i64) .unit)))))] 63,[]⟩
def OH {γ:Type} (rec:(List UInt8)->(List (Int×Int×Int×Bool×Unit))->Int->(List (Int×(List UInt8)×(Int×Int×Unit)))->Option γ) (kE:(List (Int×(List UInt8)×(Int×Int×Unit)))->Option γ) (kR:(List (Int×(List UInt8)×(Int×Int×Unit)))->Option γ) (v0:List UInt8) (v1:List (Int×Int×Int×Bool×Unit)) (v2:Int) (v3:List (Int×(List UInt8)×(Int×Int×Unit))):Option γ:=
 bif(fD v2 (ah v1))then
  bif(dX v1 v2)then
   bif(aH (af v1 (0,(0,(0,(false,())))) v2).1 2)then
    bif(dX v1 v2)then
     bif(dX v1 v2)then
      bif(dX v1 v2)then
       bif(dX v1 v2)then
        bif(bu (ah v0) (af v1 (0,(0,(0,(false,())))) v2).2.1 (af v1 (0,(0,(0,(false,())))) v2).2.2.1)then
         bif(aZ (az v3 [((af v1 (0,(0,(0,(false,())))) v2).1,((sub v0 (af v1 (0,(0,(0,(false,())))) v2).2.1 (af v1 (0,(0,(0,(false,())))) v2).2.2.1),((af v1 (0,(0,(0,(false,())))) v2).2.1,((af v1 (0,(0,(0,(false,())))) v2).2.2.1,()))))]) 40)then
          rec v0 v1 (aG .i64 v2 1) (az v3 [((af v1 (0,(0,(0,(false,())))) v2).1,((sub v0 (af v1 (0,(0,(0,(false,())))) v2).2.1 (af v1 (0,(0,(0,(false,())))) v2).2.2.1),((af v1 (0,(0,(0,(false,())))) v2).2.1,((af v1 (0,(0,(0,(false,())))) v2).2.2.1,()))))])
         else
         none
        else
        none
       else
       none
      else
      none
     else
     none
    else
    none
   else
   bif(aH (af v1 (0,(0,(0,(false,())))) v2).1 4)then
    bif(dX v1 v2)then
     bif(dX v1 v2)then
      bif(dX v1 v2)then
       bif(dX v1 v2)then
        bif(bu (ah v0) (af v1 (0,(0,(0,(false,())))) v2).2.1 (af v1 (0,(0,(0,(false,())))) v2).2.2.1)then
         bif(aZ (az v3 [((af v1 (0,(0,(0,(false,())))) v2).1,((sub v0 (af v1 (0,(0,(0,(false,())))) v2).2.1 (af v1 (0,(0,(0,(false,())))) v2).2.2.1),((af v1 (0,(0,(0,(false,())))) v2).2.1,((af v1 (0,(0,(0,(false,())))) v2).2.2.1,()))))]) 40)then
          rec v0 v1 (aG .i64 v2 1) (az v3 [((af v1 (0,(0,(0,(false,())))) v2).1,((sub v0 (af v1 (0,(0,(0,(false,())))) v2).2.1 (af v1 (0,(0,(0,(false,())))) v2).2.2.1),((af v1 (0,(0,(0,(false,())))) v2).2.1,((af v1 (0,(0,(0,(false,())))) v2).2.2.1,()))))])
         else
         none
        else
        none
       else
       none
      else
      none
     else
     none
    else
    none
   else
   bif(aH (af v1 (0,(0,(0,(false,())))) v2).1 5)then
    bif(dX v1 v2)then
     bif(dX v1 v2)then
      bif(dX v1 v2)then
       bif(dX v1 v2)then
        bif(bu (ah v0) (af v1 (0,(0,(0,(false,())))) v2).2.1 (af v1 (0,(0,(0,(false,())))) v2).2.2.1)then
         bif(aZ (az v3 [((af v1 (0,(0,(0,(false,())))) v2).1,((sub v0 (af v1 (0,(0,(0,(false,())))) v2).2.1 (af v1 (0,(0,(0,(false,())))) v2).2.2.1),((af v1 (0,(0,(0,(false,())))) v2).2.1,((af v1 (0,(0,(0,(false,())))) v2).2.2.1,()))))]) 40)then
          rec v0 v1 (aG .i64 v2 1) (az v3 [((af v1 (0,(0,(0,(false,())))) v2).1,((sub v0 (af v1 (0,(0,(0,(false,())))) v2).2.1 (af v1 (0,(0,(0,(false,())))) v2).2.2.1),((af v1 (0,(0,(0,(false,())))) v2).2.1,((af v1 (0,(0,(0,(false,())))) v2).2.2.1,()))))])
         else
         none
        else
        none
       else
       none
      else
      none
     else
     none
    else
    none
   else
   bif(aH (af v1 (0,(0,(0,(false,())))) v2).1 6)then
    bif(dX v1 v2)then
     bif(dX v1 v2)then
      bif(dX v1 v2)then
       bif(dX v1 v2)then
        bif(bu (ah v0) (af v1 (0,(0,(0,(false,())))) v2).2.1 (af v1 (0,(0,(0,(false,())))) v2).2.2.1)then
         bif(aZ (az v3 [((af v1 (0,(0,(0,(false,())))) v2).1,((sub v0 (af v1 (0,(0,(0,(false,())))) v2).2.1 (af v1 (0,(0,(0,(false,())))) v2).2.2.1),((af v1 (0,(0,(0,(false,())))) v2).2.1,((af v1 (0,(0,(0,(false,())))) v2).2.2.1,()))))]) 40)then
          rec v0 v1 (aG .i64 v2 1) (az v3 [((af v1 (0,(0,(0,(false,())))) v2).1,((sub v0 (af v1 (0,(0,(0,(false,())))) v2).2.1 (af v1 (0,(0,(0,(false,())))) v2).2.2.1),((af v1 (0,(0,(0,(false,())))) v2).2.1,((af v1 (0,(0,(0,(false,())))) v2).2.2.1,()))))])
         else
         none
        else
        none
       else
       none
      else
      none
     else
     none
    else
    none
   else
   rec v0 v1 (aG .i64 v2 1) v3
  else
  none
 else
 kE v3
def xX:Nat->(List UInt8)->(List (Int×Int×Int×Bool×Unit))->Int->(List (Int×(List UInt8)×(Int×Int×Unit)))->Option (U2.den⊕Xt.den)
 |0,_,_,_,_=>none
 |n+1,v0,v1,v2,v3=>OH (xX n) (fun e0=>some (.inl ((),(e0,())))) (fun r0=>some (.inr ((r0,()),()))) v0 v1 v2 v3
noncomputable def agT:bG:=dO ak0 Yf U2 Xt (.exit 0) (fun v=>xX aO v.1.1 v.1.2.1 v.1.2.2.1 v.2.1) 6
def anF (x0:List UInt8):Option ((List (Int×(List UInt8)×(Int×Int×Unit)))×Unit):=
 ai (aeb x0) fun y0=>
  ai (xX aO x0 y0.1 0 []) fun y1=>
   bF y1 (fun a2=>
    some (a2.2.1,())) (fun b2=>
    some (b2.1.1,()))
def asW:Sum:=(⟨[.str],[(.list (.pair (.int .i64) (.pair .str (.pair (.int .i64) (.pair (.int .i64) .unit)))),false)],fun x=>anF x.1⟩:Sum)
noncomputable def ag2:Env:=dI Tryz.prog tt 67 [(74,Sr)] [(4,ak0)] [(4,agT)]
def ahx {γ:Type} (a:Yf.den->Option γ) (b:U2.den->Option γ) (c:Xt.den->Option γ) (v:Yf.den):Option γ:=OH (fun v0 v1 v2 v3=>a ((v0,v1,v2,()),(v3,()))) (fun e0=>b ((),(e0,()))) (fun r0=>c ((r0,()),())) v.1.1 v.1.2.1 v.1.2.2.1 v.2.1
theorem ami:di ag2 67 akM agT:=wG (ahx) (lp:=fun n (v:Yf.den)=>xX n v.1.1 v.1.2.1 v.1.2.2.1 v.2.1) (by kernel_rfl) (fun _=>rfl) (fun _ _=>rfl) (fun d n K v=>by kernel_rfl) (by intros;simp only[ahx,OH,bn,bg,ae,aV,bi])
theorem arL:bZ b67=[akM]:=by kernel_rfl
theorem aoa:cZ ag2 67 b67:=bP b67 (fun _=>rfl) (by rw[arL];exact(aC ⟨fL (by kernel_rfl) (ami),aN⟩))
theorem ahu:bJ ag2:=bz tok mixed bV (sg:=[(74,Sr)]) (aC ⟨(Ug),aN⟩) (fn:=Tryz.f67) (c:=b67) (by kernel_rfl) (by kernel_rfl) (aoa) bW bC
theorem aph:bD Tryz.prog 67 asW:=ed ahu (by decide) fun x=>by kernel_rfl
end Go.Proofs.YtihafdllichkeaaGreatDoor
namespace Go.Proofs.YtihafdllichkeaaGreatDoor
open Go.RowKit
set_option linter.unusedVariables false
set_option linter.unusedSimpArgs false
set_option maxRecDepth 100000
abbrev Tok:=Int×Int×Int×Bool×Unit
abbrev Dlm:=List UInt8×Bool×Unit
abbrev Um:=Int×List Dlm×Bool×Unit
def dDl:Dlm:=([],(false,()))
def l9 (s:List UInt8) (a:Nat):Nat:=a+sO (s.drop a) a bY
def NT (s:List UInt8) (a b:Nat):List UInt8:=(s.take b).drop a
def aaf (w:List UInt8):Bool:=BH (jq w 0 bY).1
theorem I9 {s:List UInt8} {a:Nat} (h:a<=s.length):a<=l9 s a/\l9 s a<=s.length:=by
 have:=Yh (s.drop a) a bY
 rw[List.length_drop]at this
 unfold l9;omega
def iD (s:List UInt8) (a:Nat):Tok:=
 if oG (s.drop a)≠0 then(1,a,((a+oG (s.drop a):Nat):Int),false,())
 else if aI s a=10 then(2,a,((a+1:Nat):Int),false,())
 else if aI s a=35 then(3,a,(fQ s a:Nat),false,())
 else if(vV (s.drop a)).2≠0 then(4,a,((a+(vV (s.drop a)).2:Nat):Int),false,())
 else if uq (s.drop a)≠0 then(5,a,((a+uq (s.drop a):Nat):Int),false,())
 else(6,a,(l9 s a:Nat), !aaf (NT s a (l9 s a)),())
def jf (s:List UInt8) (a:Nat) (x:Um):Um:=
 if oG (s.drop a)≠0 then(x.1,x.2.1,false,())
 else if aI s a=10 then(0,x.2.1,decide (0<x.2.1.length),())
 else if aI s a=35 then(0,x.2.1,false,())
 else if(vV (s.drop a)).2≠0 then((if(vV (s.drop a)).1=4\/(vV (s.drop a)).1=5 then(((vV (s.drop a)).1:Nat):Int)else 0),x.2.1,false,())
 else if uq (s.drop a)≠0 then(0,x.2.1,false,())
 else(0,(if x.1=0 then x.2.1 else x.2.1++[(Bg (NT s a (l9 s a)),decide (x.1=5),())]),false,())
def jl (s:List UInt8) (a:Nat) (x:Um):Tok×Um:=
 if x.2.2.1=true then
  (if(wo s (x.2.1.headD dDl).1 (x.2.1.headD dDl).2.1 a).2=true then((7,a,((wo s (x.2.1.headD dDl).1 (x.2.1.headD dDl).2.1 a).1:Nat),false,()),(x.1,x.2.1.tail,decide (1<x.2.1.length),()))
  else((7,a,((wo s (x.2.1.headD dDl).1 (x.2.1.headD dDl).2.1 a).1:Nat),true,()),x))
 else(iD s a,jf s a x)
theorem aej {c:UInt8} {t:List UInt8} (h:wJ (c.toNat:Int)=true):(vV (c::t)).2≠0:=by
 have h1:UY [c]≠0:=by
  have: ∀n:Fin 256,wJ ((n.val:Nat):Int)=true->UY [UInt8.ofNat n.val]≠0:=by decide+kernel
  have:=this ⟨c.toNat,c.toNat_lt⟩ h
  simpa using this
 have h2: ∀n,(FZ (c::t) (n+1)).2≠0:=by
  intro n
  induction n with
  |zero=>rw[FZ,if_pos (by simpa using h1)];simp
  |succ n ih=>
   rw[FZ]
   split
   ·simp
   ·exact ih
 unfold vV
 rw[show min 3 (c::t).length=(min 3 (c::t).length-1)+1 by simp only[List.length_cons];omega]
 exact h2 _
theorem xI {s:List UInt8} (hs:s.length<=10000) {a:Nat} (ha:a<s.length) (x:Um):(a:Int)<(jl s a x).1.2.2.1/\(jl s a x).1.2.2.1<=s.length/\(jl s a x).1.2.1=a:=by
 unfold jl
 split
 ·have h:=Dh s (x.2.1.headD dDl).1 (x.2.1.headD dDl).2.1 aO a (dh (by omega)) (by omega)
  have h2:=h.2.2 ha
  have h1:=h.1
  unfold wo
  split<;>exact⟨by simp only;omega,by simp only;omega,rfl⟩
 ·unfold iD
  have hd:=List.drop_eq_getElem_cons ha
  split
  ·have:=Qs (s.drop a)
   rw[List.length_drop]at this
   exact⟨by simp only;omega,by simp only;omega,rfl⟩
  ·split
   ·exact⟨by simp only;omega,by simp only;omega,rfl⟩
   ·split
    ·rename_i h35
     have h1:=ql s a
     have h2:=qA (s:=s) (a:=a) (by omega)
     have h3:fQ s a≠a:=by
      intro e
      have:=Hu (s:=s) (f:=a) (by omega)
      simp only[e]at this
      rw[byte_at ha,this]at h35
      exact absurd h35 (by decide)
     exact⟨by simp only;omega,by simp only;omega,rfl⟩
    ·split
     ·have:=(Gy (s.drop a)).1
      rw[List.length_drop]at this
      exact⟨by simp only;omega,by simp only;omega,rfl⟩
     ·split
      ·rename_i hn
       have h1:=Gv (s.drop a)
       rw[List.length_drop]at h1
       have:uq (s.drop a)<=iT (s.drop a):=by unfold uq;split<;>omega
       exact⟨by simp only;omega,by simp only;omega,rfl⟩
      ·rename_i hb h10 _ ho _
       have hw:=I9 (s:=s) (a:=a) (by omega)
       have:sO (s.drop a) a bY≠0:=by
        rw[hd,sO]
        have he:mf bY.1 (gq s[a])=false:=by
         unfold mf
         have:wz (gq s[a])=false:=by
          have hbl:jJ (s[a].toNat:Int)=false:=by
           rw[hd,Bd]at hb
           cases hq:jJ (s[a].toNat:Int)with
           |false=>rfl
           |true=>rw[hq]at hb;simp at hb
          have hme:wJ (s[a].toNat:Int)=false:=by
           cases hq:wJ (s[a].toNat:Int)with
           |false=>rfl
           |true=>rw[hd]at ho;exact absurd (aej hq) ho
          rw[byte_at ha]at h10
          unfold jJ at hbl
          unfold wJ at hme
          unfold wz gq
          simp only[Bool.or_eq_false_iff,decide_eq_false_iff_not]at hbl hme ⊢
          omega
         rw[this];rfl
        rw[he];simp
       unfold l9 at hw ⊢
       exact⟨by simp only;omega,by simp only;omega,rfl⟩
end Go.Proofs.YtihafdllichkeaaGreatDoor
namespace Go.Proofs.YtihafdllichkeaaGreatDoor
open Go.RowKit
set_option linter.unusedVariables false
set_option linter.unusedSimpArgs false
set_option maxRecDepth 100000
theorem RN {s:List UInt8} (hs:s.length<1000000) {a:Nat} (ha:a<=s.length) (v1 v3:Int) (v4:List Dlm) (v5:Bool) (v6:Int) (v7:Bool) (v8 v9 v10:Int) (v11:Bool): ∀(N i:Nat),s.length-i<N->a<=i->i<=fQ s a->
  yK N s v1 (i:Int) v3 v4 v5 v6 v7 v8 v9 v10 v11=some (.inl ((v1,((fQ s a:Nat):Int),()),((v3,v4,v5,()),(v6,v7,()),(v8,v9,v10,v11,()),())))
 |0,i,h,_,hi=>by have:=qA ha;omega
 |N+1,i,h,hai,hi=>by
  have hle:=qA ha
  rw[yK,FM]
  by_cases e:i<fQ s a
  ·have hi':i<s.length:=by omega
   rw[aK (dM (by rw[aB];omega)),aK (dw (by omega) (by omega)),byte_at hi',bU fun h=>KN hai e hi' (UInt8.toNat_inj.1 (by rw[show(10:UInt8).toNat=10 from rfl];omega))]
   simp only[Bool.not_false,cond_true]
   rw[bI (by omega) (by omega),show(i:Int)+1=((i+1:Nat):Int) by omega]
   exact RN hs ha v1 v3 v4 v5 v6 v7 v8 v9 v10 v11 N (i+1) (by omega) (by omega) (by omega)
  ·have hi2:i=fQ s a:=by omega
   by_cases hl:i<s.length
   ·have h10:s[i]=10:=by subst hi2;exact Hu hl
    rw[aK (dM (by rw[aB];omega)),aK (dw (by omega) (by omega)),byte_at hl,h10,show aH (((10:UInt8).toNat:Nat):Int) 10=true from rfl]
    simp only[Bool.not_true,cond_false]
    rw[hi2]
   ·rw[aU (gm (by rw[aB];omega)),hi2]
theorem Tf {s:List UInt8} (hs:s.length<1000000) {a:Nat} (ha:a<=s.length) (v1 v3:Int) (v4:List Dlm) (v5:Bool) (v6:Int) (v7:Bool) (v8 v9 v10:Int) (v11:Bool) (v12:Int) (v13:List Dlm) (v14:Bool): ∀(N k:Nat),s.length-(a+k)<N->k<=iT (s.drop a)->
  yI N s v1 ((a+k:Nat):Int) v3 v4 v5 v6 v7 v8 v9 v10 v11 v12 v13 v14=some (.inl ((s,v1,((a+iT (s.drop a):Nat):Int),()),((v3,v4,v5,()),(v6,v7,()),(v8,v9,v10,v11,()),(v12,v13,v14,()),())))
 |0,k,h,hk=>by omega
 |N+1,k,h,hk=>by
  have hle:=Gv (s.drop a)
  have hld:=List.length_drop (i:=a) (l:=s)
  rw[yI,Gp]
  by_cases e:a+k<s.length
  ·have hkd:k<(s.drop a).length:=by omega
   have hg:(s.drop a)[k]=s[a+k]:=by rw[List.getElem_drop]
   obtain⟨_,_,c,h1,_,h2⟩:=oh s[a+k]
   rw[aK (dM (by rw[aB];omega)),aK (dw (by omega) (by omega)),byte_at e,h1,ae]
   simp only[h2]
   by_cases hk2:k<iT (s.drop a)
   ·have:=EK JY (s.drop a) k hkd hk2
    rw[hg]at this
    rw[this,cond_true,bI (by omega) (by omega),show((a+k:Nat):Int)+1=((a+(k+1):Nat):Int) by omega]
    exact Tf hs ha v1 v3 v4 v5 v6 v7 v8 v9 v10 v11 v12 v13 v14 N (k+1) (by omega) (by omega)
   ·obtain rfl:k=iT (s.drop a):=by omega
    have:=wS JY (s.drop a) hkd
    rw[show JY s[a+iT (s.drop a)]=false by rw[<-hg];exact this,cond_false]
  ·obtain rfl:k=iT (s.drop a):=by omega
   rw[aU (gm (by rw[aB];omega))]
theorem aeF (w:List UInt8) (hw:w.length<=100000):wO w=some (aaf w,()):=by
 have hg:=(ul w 0 bY iC).1
 rw[wO,akI w hw,ae]
 unfold aaf wF
 rw[ahI hg]
 simp only
 cases cO (so (jq w 0 bY).1) [84]with
 |true=>rfl
 |false=>rfl
theorem O4 {s:List UInt8} {a b:Nat}:sub s (a:Int) (b:Int)=NT s a b:=by simp[sub,NT]
theorem G7 {s:List UInt8} {a b:Nat}:(NT s a b).length<=s.length:=by
 unfold NT
 rw[List.length_drop,List.length_take];omega
theorem ac2 {s:List UInt8} (hs:s.length<=10000) {a:Nat} (ha:a<s.length):Fg s (a:Int)=some (((l9 s a:Nat):Int),()):=by
 rw[api s (by omega) (by omega) (by omega),Int.toNat_natCast]
 have:sO (s.drop a) (a:Int) bY=sO (s.drop a) a bY:=rfl
 unfold l9
 congr 2
theorem anE {s:List UInt8} (hs:s.length<=10000) {a:Nat} (ha:a<s.length) (x:Um) (hp:x.2.2.1=true->x.2.1≠[]) (hl:x.2.1.length<=1000000):
  aei s a x=some ((jl s a x).1,((jl s a x).2,())):=by
 obtain⟨aw,pd,bd,u⟩:=x
 cases u
 simp only at hp hl
 unfold jl
 rw[aei]
 cases bd with
 |true=>
  obtain⟨d,r,rfl⟩: ∃d r,pd=d::r:=by
   cases pd with
   |nil=>exact absurd rfl (hp rfl)
   |cons d r=>exact⟨d,r,rfl⟩
  simp only[cond_true,if_true]
  rw[aK (dw (by omega) (by simp only[List.length_cons];omega)),show af (d::r) ([],(false,())) 0=d from rfl,al1 (by omega) d (by omega),ae]
  simp only[List.headD_cons]
  by_cases hh:(wo s d.1 d.2.1 a).2=true
  rotate_left
  ·rw[Bool.not_eq_true]at hh
   simp only[hh,Bool.false_eq_true,if_false,show aH 0 0=true from rfl,cond_true,eG,eY,eX,Bool.and_true]
  ·have hsb:sub (d::r) 1 (ah (d::r))=r:=by simp[sub,aB]
   have hlt:fD 1 (ah (d::r))=decide (1<(d::r).length):=by
    unfold fD ah
    rw[decide_eq_decide];omega
   simp only[hh,if_true,show aH 1 0=false from rfl,cond_false,cond_true,eG,eY,eX,Bool.and_true,hsb]
   have hpt:bu (ah (d::r)) 1 (ah (d::r))=true:=dC (by omega) (by rw[aB];simp only[List.length_cons];omega) (by omega)
   simp only[hpt,hlt,cond_true]
   rfl
 |false=>
  have hlt:fD 0 (ah pd)=decide (0<pd.length):=by
   unfold fD ah
   rw[decide_eq_decide];omega
  have hin:dX s (a:Int)=true:=dw (by omega) (by omega)
  simp only[cond_false,Bool.false_eq_true,if_false]
  rw[ajT (by omega) (by omega),ae]
  simp only
  by_cases hb:oG (s.drop a)=0
  ·rw[aU (iq (by omega)),hin,cond_true]
   by_cases h10:aI s a=10
   ·rw[aK (dJ h10)]
    simp only[eG,eY,eX,Bool.and_true,cond_true,hlt,show aH 0 0=true from rfl]
    rw[bI (by omega) (by omega),show(a:Int)+1=((a+1:Nat):Int) by omega]
    simp[iD,jf,hb,h10]
   ·rw[aU (bU h10)]
    by_cases h35:aI s a=35
    ·rw[aK (dJ h35),RN (by omega) (a:=a) (by omega) _ _ _ _ _ _ _ _ _ _ aO a (dh (by omega)) (Nat.le_refl _) (ql s a),ae]
     simp only[bF,eG,eY,eX,Bool.and_true,cond_true]
     simp[iD,jf,hb,h35]
    ·obtain⟨t1,t2⟩:=aig (s.drop a)
     obtain⟨o1,o2,o3⟩:=Gy (s.drop a)
     rw[List.length_drop]at o1
     rw[aU (bU h35),aoR s (by omega) (by omega),ae]
     simp only
     by_cases ho:(vV (s.drop a)).2=0
     ·have ho1:=o2.1 ho
      rw[ho1,aU (show fD 0 ((0:Nat):Int)=false from rfl)]
      have hd:=Tf (s:=s) (by omega) (a:=a) (by omega) (a:Int) 0 pd false 0 false 0 0 0 false aw pd false aO 0 (dh (by omega)) (by omega)
      rw[Nat.add_zero]at hd
      rw[hd,ae]
      simp only[bF]
      have hrg:=Gv (s.drop a)
      rw[List.length_drop]at hrg
      have hwl:=I9 (s:=s) (a:=a) (by omega)
      have word: ∀(hn:uq (s.drop a)=0),(ai (Fg s (a:Int)) fun y4=>
        bif bu (ah s) (a:Int) y4.1 then
         bif !aH aw 0 then
          bif dR (.pair .str (.pair .bool .unit)) pd pd then
           bif cO (sub s (a:Int) y4.1) (sub s (a:Int) y4.1)then
            bif aH aw aw then
             bif fF (aH aw 5) (aH aw 5)then
              bif aZ (az [] pd) 24 then
               bif cO (sub s (a:Int) y4.1) (sub s (a:Int) y4.1)then
                bif aH aw aw then
                 bif fF (aH aw 5) (aH aw 5)then
                  ai (Jm (sub s (a:Int) y4.1)) fun y5=>
                   bif dR (.pair .str (.pair .bool .unit)) pd pd then
                    bif cO (sub s (a:Int) y4.1) (sub s (a:Int) y4.1)then
                     bif aH aw aw then
                      bif fF (aH aw 5) (aH aw 5)then
                       bif((cO (sub s (a:Int) y4.1) (sub s (a:Int) y4.1)&&true)&&(cO y5.1 y5.1&&true))then
                        bif aZ (az (az [] pd) [(y5.1,(aH aw 5,()))]) 24 then
                         bif dR (.pair .str (.pair .bool .unit)) pd pd then
                          bif cO (sub s (a:Int) y4.1) (sub s (a:Int) y4.1)then
                           bif aH aw aw then
                            bif fF (aH aw 5) (aH aw 5)then
                             bif(cO y5.1 y5.1&&(fF (aH aw 5) (aH aw 5)&&true))then
                              ai (wO (sub s (a:Int) y4.1)) fun y6=>
                               bif(aH 0 0&&(fF false false&&true))then
                                some (((6:Int),((a:Int),(y4.1,(!y6.1,())))),(((0:Int),(az (az [] pd) [(y5.1,(aH aw 5,()))],(false,()))),()))
                               else none
                             else none
                            else none
                           else none
                          else none
                         else none
                        else none
                       else none
                      else none
                     else none
                    else none
                   else none
                 else none
                else none
               else none
              else none
             else none
            else none
           else none
          else none
         else ai (wO (sub s (a:Int) y4.1)) fun y5=>
          bif(aH 0 0&&(dR (.pair .str (.pair .bool .unit)) pd pd&&(fF false false&&true)))then
           some (((6:Int),((a:Int),(y4.1,(!y5.1,())))),(((0:Int),(pd,(false,()))),()))
          else none
        else none)=some (((6:Int),((a:Int),(((l9 s a:Nat):Int),(!aaf (NT s a (l9 s a)),())))),(((0:Int),((if aw=0 then pd else pd++[(Bg (NT s a (l9 s a)),decide (aw=5),())]),(false,()))),())):=by
       intro hn
       have hcl:=G7 (s:=s) (a:=a) (b:=l9 s a)
       rw[ac2 hs ha,ae]
       simp only
       rw[aK (dC (by omega) (by omega) (by rw[aB];omega)),O4]
       by_cases h0:aw=0
       ·subst h0
        rw[show(!aH 0 0)=false from rfl,cond_false,aeF _ (by omega),ae,if_pos rfl]
        simp only[eG,eY,eX,Bool.and_true,cond_true]
       ·rw[bU h0,if_neg h0]
        have hf1:aZ (az [] pd) 24=true:=mg (by unfold az;simp only[List.nil_append];omega)
        have hf2: ∀y,aZ (az (az [] pd) [y]) 24=true:=fun y=>mg (by unfold az;simp only[List.nil_append,List.length_append,List.length_singleton];omega)
        simp only[Bool.not_false,eG,jD,eY,eX,Bool.and_true,cond_true,hf1]
        rw[ale _ (by omega),ae]
        simp only[eG,jD,eY,eX,Bool.and_true,cond_true,hf2]
        rw[aeF _ (by omega),ae]
        simp only[eQ]
        rfl
      by_cases hg:iT (s.drop a)=0
      ·have hn:uq (s.drop a)=0:=by unfold uq;rw[if_neg (by simp[hg])]
       rw[aU (iq (by omega))]
       refine(word hn).trans ?_
       simp[iD,jf,hb,h10,h35,ho,hn]
      ·rw[aK (dM (by omega))]
       by_cases h1:a+iT (s.drop a)<s.length
       ·have hdd:((s.drop a).drop (iT (s.drop a))).head?=some s[a+iT (s.drop a)]:=by
         rw[List.drop_drop,List.drop_eq_getElem_cons h1];rfl
        have hin2:dX s ((a+iT (s.drop a):Nat):Int)=true:=dw (by omega) (by omega)
        rw[aK (dM (by rw[aB];omega)),hin2,cond_true,byte_at h1]
        by_cases e1:s[a+iT (s.drop a)]=60
        ·have hn:uq (s.drop a)=iT (s.drop a):=by unfold uq;rw[hdd,e1,if_pos (.inl ⟨hg,rfl⟩)]
         rw[e1,show aH (((60:UInt8).toNat:Nat):Int) 60=true from rfl]
         simp only[eG,eY,eX,Bool.and_true,cond_true]
         simp[iD,jf,hb,h10,h35,ho,hn,hg]
        ·rw[aU (bU fun h=>e1 (UInt8.toNat_inj.1 (by rw[show(60:UInt8).toNat=60 from rfl];omega))),cond_true]
         by_cases e2:s[a+iT (s.drop a)]=62
         ·have hn:uq (s.drop a)=iT (s.drop a):=by unfold uq;rw[hdd,e2,if_pos (.inr ⟨hg,rfl⟩)]
          rw[e2,show aH (((62:UInt8).toNat:Nat):Int) 62=true from rfl]
          simp only[eG,eY,eX,Bool.and_true,cond_true]
          simp[iD,jf,hb,h10,h35,ho,hn,hg]
         ·have hn:uq (s.drop a)=0:=by unfold uq;rw[hdd,if_neg (by simp[e1,e2])]
          rw[aU (bU fun h=>e2 (UInt8.toNat_inj.1 (by rw[show(62:UInt8).toNat=62 from rfl];omega)))]
          refine(word hn).trans ?_
          simp[iD,jf,hb,h10,h35,ho,hn]
       ·have hdd:((s.drop a).drop (iT (s.drop a))).head?=none:=by
         rw[List.drop_drop,List.drop_of_length_le (by omega)];rfl
        have hn:uq (s.drop a)=0:=by unfold uq;rw[hdd,if_neg (by simp)]
        rw[aU (iq (by rw[aB];omega))]
        refine(word hn).trans ?_
        simp[iD,jf,hb,h10,h35,ho,hn]
     ·have ho1:(vV (s.drop a)).1≠0:=fun h=>ho (o2.2 h)
      rw[aK (dM (by omega))]
      have hadd:aG .i64 (a:Int) (ah (Df (vV (s.drop a)).1))=((a+(vV (s.drop a)).2:Nat):Int):=by
       rw[aB,t2,bI (by omega) (by omega)];omega
      by_cases h4:(vV (s.drop a)).1=4
      ·rw[aK (dJ (by omega)),t1,ae]
       simp only[eG,eY,eX,Bool.and_true,cond_true,hadd]
       simp[iD,jf,hb,h10,h35,ho,h4]
      ·rw[aU (bU (by omega))]
       by_cases h5:(vV (s.drop a)).1=5
       ·rw[aK (dJ (by omega)),t1,ae]
        simp only[eG,eY,eX,Bool.and_true,cond_true,hadd]
        simp[iD,jf,hb,h10,h35,ho,h5]
       ·rw[aU (bU (by omega)),t1,ae]
        simp only[eG,eY,eX,Bool.and_true,cond_true,hadd]
        simp[iD,jf,hb,h10,h35,ho,h4,h5]
  ·rw[aK (dM (by omega))]
   simp only[eG,eY,eX,Bool.and_true,cond_true]
   simp[iD,jf,hb]
end Go.Proofs.YtihafdllichkeaaGreatDoor
namespace Go.Proofs.YtihafdllichkeaaGreatDoor
open Go.RowKit
set_option linter.unusedVariables false
set_option linter.unusedSimpArgs false
set_option maxRecDepth 100000
def mP (s:List UInt8):Nat->Nat->List Tok->Um->List Tok×Um
 |0,_,l,x=>(l,x)
 |n+1,a,l,x=>if a<s.length then mP s n (jl s a x).1.2.2.1.toNat (l++[(jl s a x).1]) (jl s a x).2 else(l,x)
def gW (s:List UInt8):List Tok×Um:=mP s (s.length+1) 0 [] (0,[],false,())
def OkX (x:Um):Prop:=x.2.2.1=true->x.2.1≠[]
theorem Ij (s:List UInt8) (a:Nat) {x:Um} (h:OkX x):OkX (jl s a x).2/\(jl s a x).2.2.1.length<=x.2.1.length+1:=by
  obtain⟨aw,pd,bd,u⟩:=x
  unfold OkX at*
  unfold jl
  simp only at h ⊢
  split
  · split
    · refine⟨fun hb=> ?_,by simp only[List.length_tail];omega⟩
      simp only[decide_eq_true_eq]at hb
      intro e
      have:=congrArg List.length e
      simp only[List.length_tail,List.length_nil]at this
      omega
    · exact⟨h,by simp only;omega⟩
  · unfold jf
    repeat' split
    all_goals refine⟨fun hb=> ?_, ?_⟩
    all_goals first
      |exact absurd hb Bool.false_ne_true
      |(simp only[decide_eq_true_eq]at hb
         intro e
         simp only at e
         rw[e]at hb
         simp at hb;done)
      |(simp only;omega)
      |(simp only[List.length_append,List.length_singleton];omega)
theorem DL {s:List UInt8} (hs:s.length<=10000): ∀(n m a:Nat) (l:List Tok) (x:Um),s.length<n+a->s.length<m+a->mP s n a l x=mP s m a l x
 |0,0,a,l,x,_,_=>rfl
 |0,m+1,a,l,x,h,_=>by rw[mP,mP,if_neg (by omega)]
 |n+1,0,a,l,x,_,h=>by rw[mP,mP,if_neg (by omega)]
 |n+1,m+1,a,l,x,h1,h2=>by
  rw[mP,mP]
  split
  ·rename_i ha
   have:=xI hs ha x
   exact DL hs n m _ _ _ (by omega) (by omega)
  ·rfl
theorem SV {s:List UInt8} (hs:s.length<=10000) (v6:Int) (v7:Bool): ∀(N a:Nat) (l:List Tok) (x:Um),s.length-a<N->a<=s.length->OkX x->x.2.1.length<=a->l.length<=a->
  zD N s (a:Int) l x.1 x.2.1 x.2.2.1 v6 v7=some (.inl ((),((mP s N a l x).1,((mP s N a l x).2.1,(mP s N a l x).2.2.1,(mP s N a l x).2.2.2.1,()),(v6,v7,()),())))
 |0,a,l,x,h,_,_,_,_=>by omega
 |N+1,a,l,x,h,ha,hx,hp,hl=>by
  rw[zD,QH,mP]
  by_cases e:a<s.length
  ·have hto:=xI hs e x
   have hok:=Ij s a hx
   have hx':(x.1,(x.2.1,(x.2.2.1,())))=x:=rfl
   rw[aK (dM (by rw[aB];omega)),hx',anE hs e x hx (by omega),ae,if_pos e]
   simp only
   rw[aK (mg (by unfold az;simp only[List.length_append,List.length_singleton];omega))]
   obtain⟨b,hb⟩: ∃b:Nat,(jl s a x).1.2.2.1=(b:Int):=⟨(jl s a x).1.2.2.1.toNat,by omega⟩
   have ih:=SV hs v6 v7 N b (l++[(jl s a x).1]) (jl s a x).2 (by omega) (by omega) hok.1 (by omega) (by simp only[List.length_append,List.length_singleton];omega)
   rw[hb,Int.toNat_natCast]
   rw[<-ih]
   rw[<-hb]
   rfl
  ·rw[aU (gm (by rw[aB];omega)),if_neg e]
theorem akj {s:List UInt8} (hs:s.length<=10000):aeb s=some ((gW s).1,((gW s).2,())):=by
 have h:=SV hs 0 false aO 0 [] (0,[],false,()) (dh (by omega)) (by omega) (fun h=>by cases h) (by simp) (by simp)
 have hm:mP s aO 0 [] (0,[],false,())=gW s:=DL hs _ _ _ _ _ (by have:=dh (n:=s.length) (by omega);omega) (by omega)
 rw[aeb,show zD aO s 0 [] 0 [] false 0 false=_ from h,ae,hm]
 rfl
structure OkT (s:List UInt8) (t:Tok):Prop where
 f0:0<=t.2.1
 ft:t.2.1<t.2.2.1
 t1:t.2.2.1<=s.length
theorem Y3 {s:List UInt8} (hs:s.length<=10000): ∀(n a:Nat) (l:List Tok) (x:Um),OkX x->l.length<=a->a<=s.length->(∀t∈l,OkT s t)->(∀t∈(mP s n a l x).1,OkT s t)/\OkX (mP s n a l x).2/\(mP s n a l x).1.length<=s.length
 |0,a,l,x,hx,hl,ha,h=>⟨h,hx,by rw[mP];simp only;omega⟩
 |n+1,a,l,x,hx,hl,ha,h=>by
  rw[mP]
  split
  ·rename_i e
   have hto:=xI hs e x
   exact Y3 hs n _ _ _ (Ij s a hx).1 (by simp only[List.length_append,List.length_singleton];omega) (by omega) (fun t ht=>by
    rcases List.mem_append.1 ht with h1|h1
    ·exact h t h1
    ·rw[List.mem_singleton.1 h1]
     exact⟨by omega,by omega,by omega⟩)
  ·exact⟨h,hx,by simp only;omega⟩
theorem uS {s:List UInt8} (hs:s.length<=10000):(∀t∈(gW s).1,OkT s t)/\OkX (gW s).2/\(gW s).1.length<=s.length:=
 Y3 hs _ _ _ _ (fun h=>by cases h) (by simp) (by omega) (fun t ht=>by cases ht)
def QW (t:Tok):Bool:=decide (t.1=2)||decide (t.1=4)||decide (t.1=5)||decide (t.1=6)
def aqJ (s:List UInt8) (t:Tok):Int×List UInt8×Int×Int×Unit:=(t.1,sub s t.2.1 t.2.2.1,t.2.1,t.2.2.1,())
def gJ (s:List UInt8) (l:List Tok):List (Int×List UInt8×Int×Int×Unit):=(l.filter QW).map (aqJ s)
theorem ER {s:List UInt8} (hs:s.length<=10000) (l:List Tok) (hl:l.length<=10000) (hok: ∀t∈l,OkT s t): ∀(N k:Nat),l.length-k<N->k<=l.length->
  xX N s l (k:Int) (gJ s (l.take k))=some (.inl ((),(gJ s l,())))
 |0,k,h,_=>by omega
 |N+1,k,h,hk=>by
  rw[xX,OH]
  by_cases e:k<l.length
  ·have hg:af l (0,(0,(0,(false,())))) (k:Int)=l[k]:=by
    unfold af
    rw[Int.toNat_natCast,List.getD_eq_getElem?_getD,List.getElem?_eq_getElem e];rfl
   have hin:dX l (k:Int)=true:=dw (by omega) (by omega)
   obtain⟨o1,o2,o3⟩:=hok _ (List.getElem_mem e)
   have hpt:bu (ah s) l[k].2.1 l[k].2.2.1=true:=dC o1 (by omega) (by rw[aB];omega)
   have hlen:(gJ s (l.take k)).length<=10000:=by
    unfold gJ
    rw[List.length_map]
    have:=List.length_filter_le QW (l.take k)
    rw[List.length_take]at this;omega
   have hfit: ∀y,aZ (az (gJ s (l.take k)) [y]) 40=true:=fun y=>mg (by unfold az;simp only[List.length_append,List.length_singleton];omega)
   have ih:=ER hs l hl hok N (k+1) (by omega) (by omega)
   have hts:l.take (k+1)=l.take k++[l[k]]:=by rw[List.take_add_one,List.getElem?_eq_getElem e];rfl
   have hadd:aG .i64 (k:Int) 1=((k+1:Nat):Int):=by rw[bI (by omega) (by omega)];omega
   have yes:QW l[k]=true->xX N s l ((k+1:Nat):Int) (az (gJ s (l.take k)) [(l[k].1,(sub s l[k].2.1 l[k].2.2.1,(l[k].2.1,(l[k].2.2.1,()))))])=some (.inl ((),(gJ s l,()))):=fun hy=>by
    rw[<-ih]
    congr 1
    unfold gJ
    rw[hts,List.filter_append,List.map_append,List.filter_cons_of_pos hy]
    rfl
   rw[aK (dM (by rw[aB];omega)),hin]
   simp only[cond_true,hg,hpt,hfit,hadd]
   unfold QW at yes
   by_cases h2:l[k].1=2
   ·rw[aK (dJ h2)];exact yes (by simp[h2])
   ·rw[aU (bU h2)]
    by_cases h4:l[k].1=4
    ·rw[aK (dJ h4)];exact yes (by simp[h4])
    ·rw[aU (bU h4)]
     by_cases h5:l[k].1=5
     ·rw[aK (dJ h5)];exact yes (by simp[h5])
     ·rw[aU (bU h5)]
      by_cases h6:l[k].1=6
      ·rw[aK (dJ h6)];exact yes (by simp[h6])
      ·rw[aU (bU h6),<-ih]
       congr 1
       unfold gJ
       rw[hts,List.filter_append,List.filter_cons_of_neg (by unfold QW;simp[h2,h4,h5,h6])]
       simp
  ·rw[aU (gm (by rw[aB];omega)),List.take_of_length_le (by omega)]
theorem aon {s:List UInt8} (hs:s.length<=10000):anF s=some (gJ s (gW s).1,()):=by
 obtain⟨h1,h2,h3⟩:=uS hs
 rw[anF,akj hs,ae]
 simp only
 have h:=ER hs (gW s).1 (by omega) h1 aO 0 (dh (by omega)) (by omega)
 rw[show xX aO s (gW s).1 0 []=_ from h,ae]
 rfl
end Go.Proofs.YtihafdllichkeaaGreatDoor
