/- Parts of the proof, joined and shortened by a program: the plain machine, the functions as it prints them, and the mathematics over them. -/
import Derived.Test.YtlhpdcadgbjhiaaGreatDoorY3
set_option linter.unusedVariables false
set_option linter.unusedSimpArgs false
set_option maxRecDepth 100000
set_option maxHeartbeats 4000000
namespace Go.Proofs.YtlhpdcadgbjhiaaGreatDoor
section
open Option renaming some → a6, none → a7
open List renaming append_assoc → ag, map_cons → ax, drop_eq_getElem_cons → aA, nil_append → aO, drop_of_length_le → aQ, mem_of_mem_take → bg
open Go.RowKit
def wR:bZ->Int->fQ×Bool->kP->kP
 |[],_,_,p=>p
 |b::l,a,x,p=>wR l (a+1) (gm x.1 x.2 (jA b) a) (nM (qi (gm x.1 x.2 (jA b) a).1) a p)
def ui:bZ->Int->fQ×Bool->List Int->List kP
 |[],_,_,_=>[]
 |b::l,a,x,d=>
  if Zd (qi (gm x.1 x.2 (jA b) a).1) a=true then wR l (a+1) (gm x.1 x.2 (jA b) a) (yX (qi (gm x.1 x.2 (jA b) a).1) a d)::ui l (a+1) (gm x.1 x.2 (jA b) a) (d++[a])
  else ui l (a+1) (gm x.1 x.2 (jA b) a) d
theorem XT (F:List GI) (a:Int) (p:kP):(nM F a p).2.1=p.2.1:=by
 unfold nM;split
 .split<;>rfl
 .rfl
theorem EY: ∀(l:bZ) (a:Int) (x:fQ×Bool) (p:kP),(wR l a x p).2.1=p.2.1
 |[],_,_,_=>rfl
 |b::l,a,x,p=>by rw[wR,EY l,XT]
theorem Wi (s:bZ) (p:kP):(uu s p).2.1=p.2.1:=by
 grind [uu]
theorem Wh: ∀(l:bZ) (a:Int) (x:fQ×Bool) (p:kP),p.2.2.2.2.1=false->wR l a x p=p
 |[],_,_,_,_=>rfl
 |b::l,a,x,p,h=>by
  rw[wR];have:nM (qi (gm x.1 x.2 (jA b) a).1) a p=p:=by grind [nM]
  rw[this];exact Wh l _ _ p h
theorem Um: ∀(l:bZ) (a:Int) (x:fQ×Bool) (L:List kP),rY l a x L=L.map (wR l a x)++ui l a x (L.map (·.2.1))
 |[],a,x,L=>by
  have:(wR [] a x)=id:=rfl;rw[rY,ui,this];simp
 |b::l,a,x,L=>by
  rw[rY,Um l,ui];have d:L.map (wR (b::l) a x)=(L.map (nM (qi (gm x.1 x.2 (jA b) a).1) a)).map (wR l (a+1) (gm x.1 x.2 (jA b) a)):=by
   rw[List.map_map];rfl
  have e:(L.map (nM (qi (gm x.1 x.2 (jA b) a).1) a)).map (·.2.1)=L.map (·.2.1):=by
   simp_all [XT]
  unfold Ou;rw[d];split
  .rw[List.map_append,List.map_append,e];simp only[ax,List.map_nil,ag,List.cons_append,aO];rfl
  grind
theorem yu (s:bZ):dm s=(ui s 0 fH []).map (uu s):=by
 unfold dm;rw[Um];rfl
structure PL (x:fQ) (i:Int):Prop where
 up:(CY x).Pairwise (· < ·)
 lt: ∀v∈CY x,v<i
theorem avi:PL fH.1 0:=⟨List.Pairwise.nil,fun v d=>by cases d⟩
theorem aAK {s:fQ} {i:Int} (g:iF s) (h:PL s i) (fr:Bool) (b:Int):PL (gm s fr b i).1 (i+1):=by
 obtain⟨c,o,e|e⟩:=KG g fr b i
 .refine⟨by rw[e];exact h.up.sublist (List.take_sublist ..),fun v d=> ?_⟩;rw[e]at d;have:=h.lt v (bg d);omega
 .refine⟨?_,fun v d=> ?_⟩
  .rw[e,List.pairwise_append];refine⟨h.up.sublist (List.take_sublist ..),List.pairwise_singleton ..,fun a j b l=> ?_⟩;rw[List.mem_singleton.1 l];exact h.lt a (bg j)
  .rw[e]at d;rcases List.mem_append.1 d with f|f
   .have:=h.lt v (bg f);omega
   grind
theorem acx {l:List Int} (h:l.Pairwise (· < ·)) {m n:Nat} {v:Int} (d:l[m]? =a6 v) (e:l[n]? =a6 v):m=n:=by
 grind [List.pairwise_iff_getElem]
theorem ayn {l:List Int} (h:l.Pairwise (· < ·)) {n:Nat} {v:Int} (d:l[n]? =a6 v):l.findIdx? (· ==v)=a6 n:=by
 obtain⟨e,f⟩:=List.getElem?_eq_some_iff.1 d;cases hf:l.findIdx? (· ==v)with
 |none=>
  simp_all
 |some m=>
  obtain⟨g,i,_⟩:=List.findIdx?_eq_some_iff_getElem.1 hf;have:l[m]? =a6 v:=by simp_all
  rw[acx h this d]
theorem stay {s:fQ} {i v:Int} {n:Nat} (l:iF s) (h:PL s i) (f:(CY s)[n]? =a6 v) (fr:Bool) (b:Int):(CY (gm s fr b i).1)[n]? =a6 v\/v∉CY (gm s fr b i).1:=by
 have p:=h.lt v (List.mem_of_getElem? f);obtain⟨c,q,e|e⟩:=KG l fr b i<;>rw[e]
 .by_cases hnc:n<c
  .grind
  .right;intro g;obtain⟨m,d⟩:=List.getElem?_of_mem g;rw[List.getElem?_take]at d;split at d
   .rename_i o
    have:=acx h.up d f;omega
   .cases d
 .have u:((CY s).take c).length=c:=by simp_all
  by_cases hnc:n<c
  .grind
  .right;intro g;rcases List.mem_append.1 g with j|j
   .obtain⟨m,d⟩:=List.getElem?_of_mem j;rw[List.getElem?_take]at d;split at d
    .rename_i o
     have:=acx h.up d f;omega
    .cases d
   simp_all
def atM (s:fQ) (v:Int):Int:=match(CY s).findIdx? (· ==v)with
 |some n=>((n+1:Nat):Int)
 |none=>0
theorem avk {s:fQ} (d:iF s): ∃t,po s=t::CY s:=by
 have e:s≠[]:=by rintro rfl;exact d
 grind [List.dropLast_concat_getLast,po,CY]
theorem aF0 {s:fQ} (e:iF s): ∃t,so s=t::(qi s).map fun f=>letter f.1:=by
 have d:s≠[]:=by rintro rfl;exact e
 refine⟨letter (s.getLast d).1, ?_⟩
 conv=>lhs;rw[<-List.dropLast_concat_getLast d]
 simp[so,qi,List.map_reverse];rfl
theorem aiv (v:Int) (S:bZ) (P:List Int) (fr:Bool) (hP:P.length<1000000): ∀(N j:Nat),P.length-j<N->
  FI N v (j:Int) S P fr=a6 (match(P.drop j).findIdx? (· ==v)with|some n=>.inr ((((j+n:Nat):Int),()),())|none=>.inl ((),()))
 |0,j,h=>by omega
 |N+1,j,h=>by
  rw[FI,QO];by_cases e:j<P.length
  .have d:dw P 0 (j:Int)=P[j]:=by simp_all [dw]
   rw[bV (eH (by rw[bK];omega)),bV (dV),d,aA e,List.findIdx?_cons,ik];by_cases e2:P[j]=v
   .simp[e2]
   .rw[dn,show(j:Int)+1=((j+1:Nat):Int) by omega,aiv v S P fr hP N (j+1) (by omega)]
    grind
  simp_all [ig,bK,aQ]
theorem aC7 {s:fQ} (d:iF s) (hl:s.length<900000) (fr:Bool) (v:Int):adt (so s,(po s,(fr,()))) v=a6 (atM s v,()):=by
 unfold adt;obtain⟨t,e⟩:=avk d;have h:=aiv v (so s) (po s) fr (by rw[Uw];omega) bM 1 (dK (by rw[Uw];omega));rw[show FI bM v 1 (so s) (po s) fr=_ from h,bG,e]
 grind [atM,dN]
theorem auP: ∀n:Fin 15,ajh ((letter ((n.val:Nat):Int)).toNat:Int)=a6 (counts ((n.val:Nat):Int),()):=by decide+kernel
theorem aFd {m:Int} (h0:0<=m) (d:m<=14):ajh ((letter m).toNat:Int)=a6 (counts m,()):=by
 have:=auP ⟨m.toNat,by omega⟩
 grind
theorem Ik: ∀{s:fQ},iF s-> ∀f∈s,0<=f.1/\f.1<=14
 |[],h=>by cases h
 |[f],h=>by
  intro g d;rw[List.mem_singleton.1 d];have:f.1=0:=h;omega
 |f::g::r,h=>by
  intro q e;rcases List.mem_cons.1 e with rfl|i
  .have:=h.1;have:=h.2.1;omega
  .exact Ik h.2.2.2 q i
theorem anQ {s:fQ} (e:iF s) {n:Nat} (h:n<(qi s).length):0<=((qi s).getD n dF).1/\((qi s).getD n dF).1<=14:=by
 have d:(qi s).getD n dF∈qi s:=by simp_all
 generalize (qi s).getD n dF=q at d;unfold qi at d;rw[List.mem_reverse,List.mem_map]at d;obtain⟨f,g,rfl⟩:=d;exact Ik e f (List.dropLast_subset s g)
theorem aIN {s:fQ} (d:iF s) {n:Nat} (e:n<(qi s).length):bY (so s) ((n+1:Nat):Int)=((letter ((qi s).getD n dF).1).toNat:Int)/\fD (so s) ((n+1:Nat):Int)=true:=by
 grind [aF0,dV,bY]
theorem Oq (s:fQ):(qi s).length=(CY s).length:=by grind [tq]
theorem asW {s:fQ} {n:Nat} {v:Int} (h:(CY s)[n]? =a6 v):((qi s).getD n dF).2.1=v/\n<(qi s).length:=by
 grind [tq]
theorem aDR {s:fQ} {i:Int} (h:PL s i): ∀m n,m<(qi s).length->n<(qi s).length->((qi s).getD m dF).2.1=((qi s).getD n dF).2.1->m=n:=fun m n d f e=>by
 rw[rV d,rV f,tq]at e;rw[Oq]at d f;rw[List.getD_eq_getElem?_getD,List.getD_eq_getElem?_getD,List.getElem?_eq_getElem d,List.getElem?_eq_getElem f]at e;exact acx h.up (List.getElem?_eq_getElem d) (by simp_all)
theorem asI {s:fQ} {i v:Int} {n:Nat} (h:PL s i) (d:(CY s)[n]? =a6 v):GL (qi s) v=a6 ((qi s).getD n dF).1:=by
 grind [asW,Sz,aDR]
theorem asH {s:fQ} {v:Int} (h:v∉CY s):GL (qi s) v=a7:=by
 grind [Ij,tq]
theorem ap4 {s:fQ} {i v:Int} {n:Nat} (h:PL s i) (d:(CY s)[n]? =a6 v):atM s v=((n+1:Nat):Int):=by
 unfold atM;rw[ayn h.up d]
theorem ap5 {s:fQ} {v:Int} (h:v∉CY s):atM s v=0:=by
 grind [atM]
def iW (s:bZ) (k:Nat):fQ×Bool:=mZ (s.take k) 0 fH
theorem ae4: ∀(l m:bZ) (a:Int) (x:fQ×Bool),mZ (l++m) a x=mZ m (a+l.length) (mZ l a x)
 |[],m,a,x=>by simp[mZ]
 |b::l,m,a,x=>by
  rw[List.cons_append,mZ,mZ,ae4 l m]
  grind
theorem Gn {s:List UInt8} {k:Nat} (h:k<s.length):iW s (k+1)=gm (iW s k).1 (iW s k).2 (bY s k) k:=by
 unfold iW;rw[List.take_add_one,List.getElem?_eq_getElem h,Option.toList_some,ae4,mZ,mZ,byte_at h,List.length_take,Nat.min_eq_left (by omega)];simp[jA]
theorem wF (s:bZ) (k:Nat):iF (iW s k).1/\(iW s k).1.length<=k+1:=by
 have h:=DK (s.take k) 0 fH kF;refine⟨h.1, ?_⟩;have d:=h.2;have:fH.1.length=1:=rfl
 grind [iW]
theorem Lj (s:bZ): ∀k,k<=s.length->PL (iW s k).1 k
 |0,_=>avi
 |k+1,h=>by
  rw[Gn (by omega)];have:=aAK (wF s k).1 (Lj s k (by omega)) (iW s k).2 (bY s k);simpa using this
end
section
open Option renaming some → a6, none → a7
open Bool renaming false_eq_true → ah
open List renaming append_assoc → ag, length_append → ai, map_cons → ax, drop_eq_getElem_cons → aA, getElem_mem → aG, length_cons → aH, drop_zero → aJ, length_map → aK, nil_append → aO, length_drop → aP, drop_of_length_le → aQ, mem_of_mem_take → bg, mem_append_right → bz
open Nat renaming le_refl → ae, lt_or_ge → aI
open Go.RowKit
abbrev RSt:=List UInt8×(List Int×pq)
def dS:RSt:=([],([],(false,())))
def ug (s:bZ) (n:Nat):List RSt:=(List.range n).map fun k=>Ha (iW s k)
theorem qP (s:bZ) (n:Nat):(ug s n).length=n:=by simp[ug]
theorem Ji (s:bZ) {n k:Nat} (h:k<n):dJ (ug s n) dS k=Ha (iW s k):=by
 simp_all [oQ,ug]
theorem acF (s:bZ) (d:s.length<=100000): ∀(N k:Nat),s.length-k<N->k<=s.length->
  FB N s (k:Int) (ug s (k+1))=a6 (.inl ((s,()),(ug s (s.length+1),())))
 |0,k,h,_=>by omega
 |N+1,k,h,hk=>by
  rw[FB,QG];by_cases e:k<s.length
  .have j:=wF s k;have f:dJ (ug s (k+1)) ([],([],(false,()))) (dC (k:Int))=Ha (iW s k):=by
    rw[show dC (k:Int)=k from rfl];exact Ji s (by omega)
   have g:SG (so (iW s k).1,(po (iW s k).1,((iW s k).2,()))) (bY s (k:Int)) (k:Int)=a6 (Ha (iW s (k+1)),()):=by
    grind [Gn,agz,lN]
   have i:bT (ug s (k+1)) [Ha (iW s (k+1))]=ug s (k+2):=by
    simp_all [bT,ug,List.range_succ]
   rw[bV (eH (by rw[bK];omega)),bV (dV (by omega) (by rw[qP];omega)),bV (dV),bV (l9 (by simp_all [qP,dC])),f];simp only[Ha];rw[g,bG];simp only;rw[i,bV (by grind [dY,qP,kH]),dn,show(k:Int)+1=((k+1:Nat):Int) by omega];exact acF s d N (k+1) (by omega) (by omega)
  .rw[dI (ig (by rw[bK];omega)),show k=s.length by omega]
theorem amv (s:bZ) (A:List RSt) (out:List kP) (from_ n:Int) (P:List Int) (m f to_:Int) (d:Bool) (u:out.length<1000000) (v:n<1000000)
  (g:(dJ A dS (dC (di .i64 from_ 1))).2.1=P) (i:fD A (di .i64 from_ 1)=true) (l:lZ (dC (di .i64 from_ 1)) A=true) (hP:1<n->fD P (eU .i64 n 1)=true)
  (j:Nat) (o:1<n->j<out.length/\(dJ out dP j).2.1=dw P 0 (eU .i64 n 1)) (p: ∀a b,a<out.length->b<out.length->(dJ out dP a).2.1=(dJ out dP b).2.1->a=b):
  ∀(N k:Nat),out.length-k<N->k<=out.length->
  Ac N s from_ n (k:Int) m f to_ (if 1<n/\j<k then(j:Int)else-1) d out A=a6 (.inl ((s,from_,n,()),((m,f,to_,(if 1<n then(j:Int)else-1),d,()),out,A,())))
 |0,k,h,_=>by omega
 |N+1,k,h,hk=>by
  rw[Ac,KX];by_cases e:k<out.length
  .have q:=amv s A out from_ n P m f to_ d u v g i l hP j o p N (k+1) (by omega) (by omega);rw[bV (eH (by rw[bK];omega)),dn (a:=(k:Int)) (by omega) (by omega),show(k:Int)+1=((k+1:Nat):Int) by omega];by_cases e1:1<n
   .obtain⟨x,y⟩:=o e1;have z:(dJ A ([],([],(false,()))) (dC (di .i64 from_ 1))).2.1=P:=g;rw[bV (eH e1),bV (dV),bV (l9 (by assumption)),i,l,z,hP e1];simp only[aa];by_cases e2:k=j
    .simp_all [dJ,dC,fK]
    .have: ¬(dJ out (0,(0,(0,(0,(false,()))))) (dC (k:Int))).2.1=dw P 0 (eU .i64 n 1):=fun B=>e2 (p k j e x (B.trans y.symm));rw[dI (dX this)]
     grind
   .rw[aq (fun h=>e1 h.1)]at q ⊢;rw[dI (ig e1)];exact q
  .rw[dI (ig (by rw[bK];omega))]
   grind
theorem Xo (s:bZ) (A:s.length<=100000) (out:List kP) (f n:Nat) (d:Int): ∀(N k:Nat) (m:Int) (p:kP),s.length+1-k<N->f<k->k<=s.length->
  (CY (iW s k).1)[n]? =a6 (f:Int)->p.1=counts ((qi (iW s k).1).getD n dF).1->p.2.1=f->p.2.2.2.2.1=true->p.2.2.2.1=d->
  xm N s (f:Int) ((n+1:Nat):Int) (k:Int) m f (s.length:Int) d true out (ug s (s.length+1))=
   a6 (.inl ((s,(f:Int),()),(((wR (s.drop k) k (iW s k) p).1,(f:Int),(if(wR (s.drop k) k (iW s k) p).2.2.2.2.1=true then(s.length:Int)else(wR (s.drop k) k (iW s k) p).2.2.1),d,(wR (s.drop k) k (iW s k) p).2.2.2.2.1,()),out,ug s (s.length+1),())))
   /\(wR (s.drop k) k (iW s k) p).2.2.2.1=d
 |0,k,m,p,h,_,_,_,_,_,_,_=>by omega
 |N+1,k,m,p,h,Y,hk,l,B,u,i,v=>by
  have j:=wF s k;have x:=Lj s k hk;obtain⟨Z,y⟩:=asW l;have D:dJ (ug s (s.length+1)) ([],([],(false,()))) (dC (k:Int))=Ha (iW s k):=by
   rw[show dC (k:Int)=k from rfl];exact Ji s (by omega)
  have E:fD (ug s (s.length+1)) (k:Int)=true:=dV (by omega) (by rw[qP];omega);have G:lZ (dC (k:Int)) (ug s (s.length+1))=true:=l9 (by grind [qP,dC]);obtain⟨I,J⟩:=aIN j.1 y;have z:=anQ j.1 y;rw[xm,Az,bV (lQ (by rw[bK];omega)),E,G,D];simp only[aa,Ha];rw[aC7 j.1 (by omega),bG,ap4 x l,dI (dX),J,I];simp only[aa];rw[aFd z.1 z.2,bG,dn,show(k:Int)+1=((k+1:Nat):Int) by omega];simp only;by_cases e:k<s.length
  .have hd:s.drop k=s[k]::s.drop (k+1):=aA e;have o:=Gn e;have K:bY s (k:Int)=jA s[k]:=byte_at e;rw[K]at o;have M:=wF s (k+1);have O:=Lj s (k+1) (by omega);have S:wR (s.drop k) k (iW s k) p=wR (s.drop (k+1)) ((k+1:Nat):Int) (iW s (k+1)) (nM (qi (iW s (k+1)).1) k p):=by
    grind [wR]
   rw[S];rcases stay j.1 x l (iW s k).2 (jA s[k])with h1|h1
   .rw[<-o]at h1;have q:nM (qi (iW s (k+1)).1) k p=(counts ((qi (iW s (k+1)).1).getD n dF).1,p.2):=by
     unfold nM;rw[am i,u,asI O h1]
    rw[q];exact Xo s A out f n d N (k+1) _ _ (by omega) (by omega) (by omega) h1 rfl u i v
   .rw[<-o]at h1;have q:nM (qi (iW s (k+1)).1) k p=KR (k+1) p:=by
     simp_all [nM,asH]
    have U:dJ (ug s (s.length+1)) ([],([],(false,()))) (dC ((k+1:Nat):Int))=Ha (iW s (k+1)):=by
     rw[show dC ((k+1:Nat):Int)=k+1 from rfl];exact Ji s (by omega)
    have V:fD (ug s (s.length+1)) ((k+1:Nat):Int)=true:=dV (by omega) (by rw[qP];omega);have W:lZ (dC ((k+1:Nat):Int)) (ug s (s.length+1))=true:=l9 (by simp_all [qP,dC]);rw[q,Wh _ _ _ _ rfl];obtain⟨g,rfl⟩: ∃g,N=g+1:=⟨N-1,by omega⟩;rw[xm,Az,bV (lQ (by rw[bK];omega)),V,W,U];simp only[aa,Ha];rw[aC7 M.1 (by omega),bG,ap5 h1,bV (fK rfl)];simp_all [KR]
  .have X:k=s.length:=by omega
   subst X;rw[List.drop_length,wR];obtain⟨g,rfl⟩: ∃g,N=g+1:=⟨N-1,by omega⟩;rw[xm,Az,dI (zX (by rw[bK];omega)),am i,i,B];exact⟨rfl,v⟩
theorem aom (F:List GI) (a:Int):Zd F a=decide ((F.map (·.2.1)).getLast?=a6 a):=by
 grind [Zd]
theorem Zh (s:bZ) (I:s.length<=100000): ∀(N k:Nat) (out:List kP),s.length-k<N->k<=s.length->out.length<=k->
  (∀a b,a<out.length->b<out.length->(dJ out dP a).2.1=(dJ out dP b).2.1->a=b)->(∀p∈out,p.2.1<(k:Int))->(∀v∈CY (iW s k).1,v∈out.map (·.2.1))->
  BJ N s (k:Int) out (ug s (s.length+1))=a6 (.inl ((),(out++(ui (s.drop k) k (iW s k) (out.map (·.2.1))).map (uu s),())))
 |0,k,out,h,_,_,_,_,_=>by omega
 |N+1,k,out,h,hk,aZ,z,J,aw=>by
  rw[BJ,QH];by_cases e:k<s.length
  .have hd:s.drop k=s[k]::s.drop (k+1):=aA e;have K:=Gn e;have A:bY s (k:Int)=jA s[k]:=byte_at e;rw[A]at K;have hg:=wF s k;have ay:=Lj s k hk;have M:=wF s (k+1);have az:=Lj s (k+1) (by omega);have i:di .i64 (k:Int) 1=((k+1:Nat):Int):=by rw[dn];omega
   have X:dJ (ug s (s.length+1)) ([],([],(false,()))) (dC ((k+1:Nat):Int))=Ha (iW s (k+1)):=by
    rw[show dC ((k+1:Nat):Int)=k+1 from rfl];exact Ji s (by omega)
   have Y:fD (ug s (s.length+1)) ((k+1:Nat):Int)=true:=dV (by omega) (by rw[qP];omega);have Z:lZ (dC ((k+1:Nat):Int)) (ug s (s.length+1))=true:=l9 (by rw[qP];simp only[dC];omega);rw[bV (eH (by rw[bK];omega)),i,Y,Z,X,hd,ui,<-K];simp only[aa,Ha];rw[aC7 M.1 (by omega),bG,aom,tq];obtain⟨c,hc,g⟩:=KG hg.1 (iW s k).2 (jA s[k]) k;rw[<-K]at g;have ab:((CY (iW s k).1).take c).length=c:=by rw[List.length_take];omega
   have O: ∀v∈(CY (iW s k).1).take c,v∈out.map (·.2.1):=fun v f=>aw v (bg f);rcases g with g|g
   .
    have ad:(k:Int)∉CY (iW s (k+1)).1:=fun f=>by
     rw[g]at f;have:=ay.lt _ (bg f);omega
    have hl: ¬(CY (iW s (k+1)).1).getLast?=a6 (k:Int):=fun f=>ad (List.mem_of_getLast? f);rw[ap5 ad,bV (fK rfl),decide_eq_false hl];simp only[ah,if_false];exact Zh s I N (k+1) out (by omega) (by omega) (by omega) z (fun p S=>by have:=J p S;omega) (fun v f=>by rw[g]at f;exact O v f)
   .have af:(CY (iW s (k+1)).1)[c]? =a6 (k:Int):=by
     rw[g,List.getElem?_append_right (by omega),ab];simp
    have hl:(CY (iW s (k+1)).1).getLast?=a6 (k:Int):=by rw[g];simp
    have aj:(qi (iW s (k+1)).1).length=c+1:=by rw[Oq,g,ai,ab];rfl
    rw[ap4 az af,dI (dX),decide_eq_true hl];simp only[if_true];have bd:=JJ (iW s (k+1)).1;have bf:=M.2;have aB:1<((c+1:Nat):Int)->fD (po (iW s (k+1)).1) (eU .i64 ((c+1:Nat):Int) 1)=true:=fun d=>by
     rw[iw];refine dV (by omega) ?_;rw[Uw];have:=JJ (iW s (k+1)).1;omega
    obtain⟨t,ht⟩:=avk M.1;have aF:1<((c+1:Nat):Int)->dw (po (iW s (k+1)).1) 0 (eU .i64 ((c+1:Nat):Int) 1)=((qi (iW s (k+1)).1).getD (c-1) dF).2.1:=fun d=>by
     rw[iw,ht,rV,tq];unfold dw;rw[show(((c+1:Nat):Int)-1).toNat=(c-1)+1 by omega,List.getD_cons_succ]
    have aS: ∃j:Nat,1<((c+1:Nat):Int)->j<out.length/\(dJ out dP j).2.1=((qi (iW s (k+1)).1).getD (c-1) dF).2.1/\ata (out.map (·.2.1)) ((qi (iW s (k+1)).1).getD (c-1) dF).2.1=(j:Int):=by
     by_cases d:1<((c+1:Nat):Int)
     .have aU:((qi (iW s (k+1)).1).getD (c-1) dF).2.1∈out.map (·.2.1):=by
       refine O _ ?_;rw[rV,tq,g,List.getD_eq_getElem?_getD,List.getElem?_append_left (by omega),List.getElem?_eq_getElem (by omega)];exact aG _
      obtain⟨j,B,ak⟩:=List.getElem_of_mem aU;rw[aK]at B;rw[List.getElem_map]at ak;have al:(dJ out dP j).2.1=((qi (iW s (k+1)).1).getD (c-1) dF).2.1:=by rw[oQ B];exact ak
      exact⟨j,fun _=>⟨B,al,by rw[<-al];exact adH z B⟩⟩
     .exact⟨0,fun l=>absurd l d⟩
    obtain⟨j,U⟩:=aS;have an:=amv s (ug s (s.length+1)) out (k:Int) ((c+1:Nat):Int) (po (iW s (k+1)).1) 0 (k:Int) (s.length:Int) true (by omega) (by have:=JJ (iW s (k+1)).1;omega)
     (by rw[i];exact congrArg (·.2.1) X) (by rw[i];exact Y) (by rw[i];exact Z) aB j (fun d=>⟨(U d).1,(U d).2.1.trans (aF d).symm⟩) z bM 0 (dK) (by omega)
    rw[aq (by omega)]at an;rw[show Ac bM s (k:Int) ((c+1:Nat):Int) 0 0 (k:Int) (bI s) (-1) true out (ug s (s.length+1))=_ from an,bG];simp only[dN];have D:yX (qi (iW s (k+1)).1) k (out.map (·.2.1))=(counts ((qi (iW s (k+1)).1).getD c dF).1,(k:Int),0,(if 1<((c+1:Nat):Int)then(j:Int)else-1),true,()):=by
     unfold yX;have aV:(qi (iW s (k+1)).1).getLastD dF=(qi (iW s (k+1)).1).getD c dF:=by
      rw[List.getLastD_eq_getLast?,List.getLast?_eq_getElem?,aj,List.getD_eq_getElem?_getD];rfl
     rw[aV,aj];by_cases d:1<((c+1:Nat):Int)
     .rw[aq (by omega),am d,show c+1-2=c-1 by omega,(U d).2.2]
     .rw[am (by omega),aq d]
    obtain⟨aW,V⟩:=Xo s I out k c (if 1<((c+1:Nat):Int)then(j:Int)else-1) bM (k+1) 0 (yX (qi (iW s (k+1)).1) k (out.map (·.2.1))) (dK) (by omega) (by omega) af (by rw[D]) (by rw[D]) (by rw[D]) (by rw[D]);rw[i,aW,bG];simp only;have u:=EY (s.drop (k+1)) ((k+1:Nat):Int) (iW s (k+1)) (yX (qi (iW s (k+1)).1) k (out.map (·.2.1)));have aX:(yX (qi (iW s (k+1)).1) k (out.map (·.2.1))).2.1=(k:Int):=rfl;rw[aX]at u;rw[show((k:Int)+1)=((k+1:Nat):Int) by omega];generalize hq:wR (s.drop (k+1)) ((k+1:Nat):Int) (iW s (k+1)) (yX (qi (iW s (k+1)).1) k (out.map (·.2.1)))=q at*;have ao: ∀x:kP,dY (bT out [x]) 40=true:=fun x=>by
     unfold dY bT;exact decide_eq_true (by rw[ai];simp only[aH,List.length_nil];unfold kH;omega)
    have go:BJ N s ((k+1:Nat):Int) (out++[uu s q]) (ug s (s.length+1))=a6 (.inl ((),(out++(q::ui (s.drop (k+1)) ((k+1:Nat):Int) (iW s (k+1)) (out.map (·.2.1)++[(k:Int)])).map (uu s),()))):=by
     have y:(uu s q).2.1=(k:Int):=(Wi s q).trans u;have E: ∀a,a<out.length->dJ (out++[uu s q]) dP a=dJ out dP a:=fun a o=>by
      unfold dJ;rw[List.getD_eq_getElem?_getD,List.getD_eq_getElem?_getD,List.getElem?_append_left o]
     have au:dJ (out++[uu s q]) dP out.length=uu s q:=by
      unfold dJ;rw[List.getD_eq_getElem?_getD,List.getElem?_append_right (ae _)];simp
     have av: ∀a,a<out.length->(dJ out dP a).2.1<(k:Int):=fun a o=>by rw[oQ o];exact J _ (aG o)
     have ih:=Zh s I N (k+1) (out++[uu s q]) (by omega) (by omega) (by simp;omega)
      (fun a b o A G=>by
       rw[ai]at o A;simp only[aH,List.length_nil]at o A;rcases aI a out.length with d|d<;>rcases aI b out.length with l|l
       .rw[E a d,E b l]at G;exact z a b d l G
       .rw[E a d,show b=out.length by omega,au,y]at G;have:=av a d;omega
       .rw[E b l,show a=out.length by omega,au,y]at G;have:=av b l;omega
       .omega)
      (fun p S=>by
       rcases List.mem_append.1 S with d|d
       .have:=J p d;omega
       .rw[List.mem_singleton.1 d,y];omega)
      (fun v f=>by
       rw[g]at f;rw[List.map_append];rcases List.mem_append.1 f with d|d
       .exact List.mem_append_left _ (O v d)
       .rw[List.mem_singleton.1 d];exact bz _ (by simp[y]))
     rw[ih];rw[List.map_append,ag,ax];simp only[ax,List.map_nil,y];rfl
    by_cases e12:q.1=12
    .rw[bV (fK e12),i,axS (by omega) (by omega),bG,ao,aa];have aY:=ahZ (s.drop (k+1));rw[aP]at aY;rw[dn];have W:uu s q=(q.1,(k:Int),((k+1:Nat):Int)+((prl (s.drop (k+1)):Nat):Int),(if 1<((c+1:Nat):Int)then(j:Int)else-1),false,()):=by
      unfold uu;rw[am e12,u,V,show((k:Int)+1).toNat=k+1 by omega,show(k:Int)+1=((k+1:Nat):Int) by omega]
     rw[<-W];exact go
    .rw[dI (dX e12),i,ao,aa];have W:uu s q=(q.1,(k:Int),(if q.2.2.2.2.1=true then(s.length:Int)else q.2.2.1),(if 1<((c+1:Nat):Int)then(j:Int)else-1),q.2.2.2.2.1,()):=by
      unfold uu;rw[aq e12];by_cases ho:q.2.2.2.2.1=true
      .rw[am ho,am ho,u,V,ho]
      .rw[aq ho,aq ho,<-u,<-V]
     rw[<-W];exact go
  .rw[dI (ig (by rw[bK];omega)),aQ (by omega),ui];simp
theorem aJG (s:bZ) (d:s.length<=100000):aja s=a6 (dm s,()):=by
 unfold aja;have e:=acF s d bM 0 (Oe) (by omega);have f:=Zh s d bM 0 [] (Oe) (by omega) (by simp) (fun a b g=>by cases g) (fun p h=>by cases h) (fun v i=>by cases i);rw[show SE=a6 (Ha fH,()) from rfl,bG,show FB bM s 0 [(Ha fH,()).1]=_ from e,bG];simp only[dN];rw[show BJ bM s 0 [] (ug s (s.length+1))=_ from f,bG];simp only[aO,aJ];rw[yu];rfl
end
section
open List renaming mem_cons_of_mem → ak, length_drop → aP
open Nat renaming le_refl → ae
open Go.RowKit
theorem ag7 {g f:Int×Int} {r:fQ} (d:iF (f::g::r)):g.1≠13:=by
 have:=d.2.2.1
 grind [TF]
theorem EX {m:Int} {f:Int×Int} {r:fQ} (hf:f.1=m\/m≠13/\f.1≠13) (hr: ∀g d,r=g::d->g.1≠13) (p:r=[]->m≠13) (fr:Bool) (b i:Int):
  ∀g d,(jm m (f::r) fr b i).1=g::d->g.1=13->g.2=i:=by
 intro g d h e;have j: ∀{x:Int×Int} {y:fQ},x::y=g::d->x=g:=fun h=>(List.cons.inj h).1;have q:m≠13->f::r=g::d->False:=fun l h=>by
  simp_all
 have o:r=g::d->False:=fun h=>hr g d h e;have s: ∀k,(k,i)::f::r=g::d->g.2=i:=fun k h=>by rw[<-j h]
 unfold jm at h;split at h
 .rename_i l
  have u:m≠13:=by omega
  unfold KH at h
  grind
 .split at h
  .exact(o h).elim
  grind [Il]
theorem ase {s:fQ} (j:iF s) (fr:Bool) (b i:Int): ∀g∈(gm s fr b i).1,g.1=13->g.2=i:=by
 have p: ∀g d,(gm s fr b i).1=g::d->g.1=13->g.2=i:=by
  cases s with
  |nil=>cases j
  |cons f r=>
  intro g d h l;have D: ∀{x:Int×Int} {y:fQ},x::y=g::d->x=g:=fun h=>(List.cons.inj h).1;have hr: ∀g d,r=g::d->g.1≠13:=fun g d e=>by subst e;exact ag7 j
  have A: ∀g u d,r=g::u::d->u.1≠13:=fun g u d e=>by subst e;exact ag7 j.2.2.2
  have E: ∀k:Int,k≠13->(k,f.2)::r=g::d->False:=fun k hk h=>by
   grind
  simp only[gm]at h;split at h
  .split at h
   .simp_all
   .split at h
    .grind
    .split at h
     .grind
     .cases r with
      |nil=>rename_i G _ _ _;have:f.1=0:=j;omega
      |cons q r=>
       exact EX (.inl rfl) (fun g d e=>A q g d (by rw[e])) (fun _=>by simp_all) fr b i g d h l
  .split at h
   .split at h
    .simp_all
    .exact EX (f:=(1,f.2)) (.inl rfl) hr (fun _=>by omega) fr b i g d h l
   .split at h
    .split at h
     .grind
     .exact EX (f:=(9,f.2)) (.inl rfl) hr (fun _=>by omega) fr b i g d h l
    .refine EX (.inl rfl) hr (fun e=> ?_) fr b i g d h l;subst e;have:f.1=0:=j;omega
 have v:=(good_step j fr b i).1;revert p v;generalize (gm s fr b i).1=y;intro p v g o l;cases y with
 |nil=>cases o
 |cons f r=>
  rcases List.mem_cons.1 o with e|o
  .simp_all
  .exfalso;clear p
   induction r generalizing f with
   |nil=>cases o
   |cons q r B=>
    rcases List.mem_cons.1 o with e|z
    .grind [ag7]
    .exact B q v.2.2.2 (ak _ z) z
def PI (p:kP) (a:Int):Prop:=0<=p.2.1/\p.2.1<a/\(p.2.2.2.2.1=true/\(p.1=13->p.2.1+1=a)\/p.2.2.2.2.1=false/\p.2.1+2<=p.2.2.1/\p.2.2.1<=a/\(p.1=13->p.2.2.1=p.2.1+2))
theorem amI {m:Int} (h:counts m=13):m=13:=by
 grind [counts]
theorem ayE {s:fQ} {f:GI} (h:f∈qi s):(f.1,f.2.1)∈s:=by
 unfold qi at h;rw[List.mem_reverse,List.mem_map]at h;obtain⟨g,d,rfl⟩:=h
 grind [List.dropLast_sublist]
theorem anL {F:List GI} {v m:Int} (h:GL F v=some m): ∃f∈F,f.2.1=v/\f.1=m:=by
 unfold GL at h;obtain⟨f,d,rfl⟩:=Option.map_eq_some_iff.1 h
 grind
theorem aFK {s:fQ} (i:iF s) (fr:Bool) (b a:Int) {p:kP} (h:PI p a):PI (nM (qi (gm s fr b a).1) a p) (a+1):=by
 obtain⟨h0,u,j⟩:=h;unfold nM;rcases j with ⟨d,g⟩|⟨d,g,v,l⟩
 .rw[am d];split
  .rename_i m o
   refine⟨h0,by simp only;omega,.inl ⟨d,fun h=> ?_⟩⟩;have x:m=13:=amI h;obtain⟨f,q,y,e⟩:=anL o;have:=ase i fr b a _ (ayE q) (by simp only;omega);omega
  .refine⟨h0,by simp only[KR];omega,.inr ⟨rfl,by simp only[KR];omega,by simp[KR],fun h=> ?_⟩⟩
   grind [KR]
 .rw[aq (by rw[d];simp)];exact⟨h0,by omega,.inr ⟨d,g,by omega,l⟩⟩
theorem aFJ {s:fQ} (d:iF s) (fr:Bool) (b:Int) {a:Int} (h0:0<=a) (l:List Int):PI (yX (qi (gm s fr b a).1) a l) (a+1):=
 ⟨h0,by simp only[yX];omega,.inl ⟨rfl,fun h=>by simp only[yX]⟩⟩
theorem ak2: ∀(l:bZ) (a:Int) (x:fQ×Bool) (p:kP),iF x.1->PI p a->PI (wR l a x p) (a+l.length)
 |[],a,x,p,_,h=>by simpa [wR] using h
 |b::l,a,x,p,d,h=>by
  rw[wR];have:=ak2 l (a+1) (gm x.1 x.2 (jA b) a) _ (good_step d _ _ _).1 (aFK d x.2 (jA b) a h)
  grind
theorem abx: ∀(l:bZ) (a:Int) (x:fQ×Bool) (fr:List Int),0<=a->iF x.1-> ∀p∈ui l a x fr,PI p (a+l.length)/\a<=p.2.1
 |[],a,x,fr,_,_,p,h=>by cases h
 |b::l,a,x,fr,h0,f,p,h=>by
  have g:=(good_step f x.2 (jA b) a).1;have e: ∀d,p∈ui l (a+1) (gm x.1 x.2 (jA b) a) d->PI p (a+((b::l).length:Int))/\a<=p.2.1:=fun d i=>by
   have:=abx l (a+1) _ d (by omega) g p i
   grind
  rw[ui]at h;split at h
  .rcases List.mem_cons.1 h with rfl|h
   .grind [ak2,aFJ,EY,yX]
   .exact e _ h
  .exact e _ h
theorem Ya: ∀(l:bZ) (a:Int) (x:fQ×Bool) (fr:List Int),0<=a->iF x.1->(ui l a x fr).Pairwise (fun p q=>p.2.1<q.2.1)
 |[],a,x,fr,_,_=>List.Pairwise.nil
 |b::l,a,x,fr,h0,e=>by
  have d:=(good_step e x.2 (jA b) a).1;rw[ui];split
  .refine List.Pairwise.cons (fun p f=> ?_) (Ya l (a+1) _ _ (by omega) d);have:=(abx l (a+1) _ _ (by omega) d p f).2
   grind [EY,yX]
  .exact Ya l (a+1) _ _ (by omega) d
structure PF (s:bZ) (p:kP):Prop where
 f0:0<=p.2.1
 f1:p.2.1<s.length
 t0:p.2.1<p.2.2.1
 t1:p.2.2.1<=s.length
 op:p.2.2.2.2.1=true->p.2.2.1=s.length/\p.1≠12
 sh:p.2.2.2.2.1=false->p.1≠12->p.2.1+2<=p.2.2.1
 es:p.1=13->p.2.2.1<=p.2.1+2
 dl:p.1=12->p.2.2.1=p.2.1+1+((prl (s.drop (p.2.1+1).toNat):Nat):Int)
theorem aow (s:bZ): ∀p∈dm s,PF s p:=by
 intro p g;rw[yu]at g;obtain⟨q,l,rfl⟩:=List.mem_map.1 g;obtain⟨⟨h0,d,i⟩,_⟩:=abx s 0 fH [] (by omega) kF q l;rw[Int.zero_add]at d i;have hl:=ahZ (s.drop (q.2.1+1).toNat);rw[aP]at hl;unfold uu;split
 .rename_i e
  exact⟨h0,d,by simp only;omega,by simp only;omega,fun h=>(by cases h),fun _ h=>absurd e h,fun h=>(by omega),fun _=>rfl⟩
 .rename_i e
  split
  .rename_i f
   refine⟨h0,d,d,Int.le_refl _,fun _=>⟨rfl,e⟩,fun h=>(by cases h),fun h=> ?_,fun h=>absurd h e⟩
   grind
  .rename_i f
   rcases i with ⟨j,_⟩|⟨j,o,u,v⟩
   .exact absurd j f
   .exact⟨h0,d,by omega,u,fun h=>absurd h f,fun _ _=>o,fun h=>by have:=v h;omega,fun h=>absurd h e⟩
theorem Xa (s:bZ):(dm s).Pairwise (fun p q=>p.2.1<q.2.1):=by
 grind [yu,Ya,kF,Wi]
theorem Cc (s:bZ):(dm s).length<=s.length:=by
 have h: ∀(l:bZ) (a:Int) (x:fQ×Bool) (d:List Int),(ui l a x d).length<=l.length:=by
  intro l
  induction l with
  |nil=>intro a x d;exact ae 0
  |cons b l e=>
   grind [ui]
 simp_all [yu,fH]
end
section
open Nat renaming le_trans → aB
open Go.RowKit
def wS (L:List kP) (v:Int):Option kP:=L.find? fun p=>p.2.1==v
theorem Su {L:List kP} {v:Int} {p:kP} (h:wS L v=some p):p∈L/\p.2.1=v:=
 ⟨List.mem_of_find?_eq_some h,by simpa using List.find?_some h⟩
theorem wU {s:List UInt8} {v:Int} {p:kP} (h:wS (dm s) v=some p):PF s p/\p.2.1=v:=
 ⟨aow s p (Su h).1,(Su h).2⟩
def lone (p:kP):Bool:=decide (p.1=12)&&decide (p.2.2.1=p.2.1+1)
def nY (s:bZ) (p:kP):bZ:=sub s p.2.1 p.2.2.1
def xI (p:kP):Int:=if p.2.2.2.2.1=true then p.2.2.1 else p.2.2.1-1
def Vs (s:bZ) (p:kP):bZ:=if p.2.2.1=p.2.1+2/\bY s (p.2.1+1)≠10 then sub s (p.2.1+1) p.2.2.1 else []
def Vr (s:bZ) (p:kP):bZ:=if p.2.2.1=p.2.1+2 then(if bY s (p.2.1+1)=36\/bY s (p.2.1+1)=96\/bY s (p.2.1+1)=34\/bY s (p.2.1+1)=92 then sub s (p.2.1+1) p.2.2.1 else if bY s (p.2.1+1)=10 then []else nY s p)else []
def iL (s:bZ) (L:List kP) (at_:Int):Int×List UInt8×Bool:=
 match wS L at_ with
 |none=>(at_+1,sub s at_ (at_+1),false)
 |some p=>if lone p=true then(at_+1,sub s at_ (at_+1),false)
  else if p.1=13 then(p.2.2.1,Vr s p,false)
  else(p.2.2.1,nY s p,true)
def rP (s:bZ) (L:List kP) (to_:Int):Nat->Int->bZ
 |0,_=>[]
 |n+1,at_=>if at_<to_ then(iL s L at_).2.1++rP s L to_ n (iL s L at_).1 else []
def stepT (s:bZ) (L:List kP) (at_:Int):Int×List UInt8:=
 match wS L at_ with
 |none=>(at_+1,sub s at_ (at_+1))
 |some p=>if lone p=true\/p.1=14 then(p.2.2.1,nY s p)
  else if p.1=13 then(p.2.2.1,Vs s p)
  else if p.1=4 then(p.2.2.1,sub s (p.2.1+1) (xI p))
  else if p.1=5 then(p.2.2.1,rP s L (xI p) s.length (p.2.1+1))
  else(p.2.2.1,nY s p)
def lC (s:bZ) (L:List kP):Nat->Int->bZ
 |0,_=>[]
 |n+1,at_=>if at_<s.length then(stepT s L at_).2++lC s L n (stepT s L at_).1 else []
def Jk (s:bZ):bZ:=lC s (dm s) s.length 0
theorem UR {s:List UInt8} {at_:Int}:at_<(iL s (dm s) at_).1:=by
 unfold iL;split
 .simp only;omega
 .rename_i p d
  obtain⟨h,e⟩:=wU d;have:=h.t0
  grind
theorem UT {s:List UInt8} {at_:Int}:at_<(stepT s (dm s) at_).1:=by
 unfold stepT;split
 .simp only;omega
 .rename_i p d
  obtain⟨h,e⟩:=wU d;have:=h.t0
  grind
theorem afi {s:List UInt8} {at_:Int} (h0:at_<s.length):(stepT s (dm s) at_).1<=s.length:=by
 unfold stepT;split
 .simp only;omega
 .rename_i p d
  obtain⟨h,e⟩:=wU d;have:=h.t1
  grind
theorem LP (s:bZ) (to_:Int): ∀(n m:Nat) (at_:Int),to_-at_<=n->to_-at_<=m->rP s (dm s) to_ n at_=rP s (dm s) to_ m at_
 |0,0,_,_,_=>rfl
 |0,m+1,at_,h,_=>by rw[rP,rP,aq (by omega)]
 |n+1,0,at_,_,h=>by rw[rP,rP,aq (by omega)]
 |n+1,m+1,at_,d,e=>by
  rw[rP,rP];split
  .have:= @UR s at_;rw[LP s to_ n m _ (by omega) (by omega)]
  .rfl
theorem H8 (s:bZ): ∀(n m:Nat) (at_:Int),(s.length:Int)-at_<=n->(s.length:Int)-at_<=m->lC s (dm s) n at_=lC s (dm s) m at_
 |0,0,_,_,_=>rfl
 |0,m+1,at_,h,_=>by rw[lC,lC,aq (by omega)]
 |n+1,0,at_,_,h=>by rw[lC,lC,aq (by omega)]
 |n+1,m+1,at_,d,e=>by
  rw[lC,lC];split
  .have:= @UT s at_;rw[H8 s n m _ (by omega) (by omega)]
  .rfl
theorem IZ {d:Type} (l:List d) (a b:Int):(sub l a b).length<=l.length:=by
 grind [sub]
theorem NF (s:bZ) (L:List kP) (at_:Int):(iL s L at_).2.1.length<=s.length:=by
 unfold iL;split
 .exact IZ s _ _
 .split
  .exact IZ s _ _
  .split
   .simp only;unfold Vr nY
    repeat' split
    all_goals simp_all [IZ]
   .exact IZ s _ _
theorem acZ (s:bZ) (L:List kP) (to_:Int): ∀(n:Nat) (at_:Int),(rP s L to_ n at_).length<=n*s.length
 |0,_=>by simp[rP]
 |n+1,at_=>by
  rw[rP];split
  .have:=NF s L at_;have:=acZ s L to_ n (iL s L at_).1
   grind
  simp
theorem NG (s:bZ) (L:List kP) (at_:Int):(stepT s L at_).2.length<=s.length*s.length+s.length:=by
 have h: ∀a b,(sub s a b).length<=s.length*s.length+s.length:=fun a b=>aB (IZ s a b) (Nat.le_add_left _ _);unfold stepT;split
 .exact h _ _
 .split
  .exact h _ _
  .split
   .simp only;unfold Vs
    grind
   .split
    .exact h _ _
    .split
     .exact aB (acZ _ _ _ _ _) (Nat.le_add_right _ _)
     .exact h _ _
theorem V3 (s:bZ) (L:List kP): ∀(n:Nat) (at_:Int),(lC s L n at_).length<=n*(s.length*s.length+s.length)
 |0,_=>by simp[lC]
 |n+1,at_=>by
  rw[lC];split
  .have:=NG s L at_;have:=V3 s L n (stepT s L at_).1
   grind
  simp
end
section
open Option renaming some → a6, none → a7
open Bool renaming false_eq_true → ah, not_true → au, not_eq_true → aY
open List renaming length_append → ai, drop_eq_getElem_cons → aA, getElem_mem → aG, length_map → aK, length_drop → aP, drop_of_length_le → aQ
open Nat renaming le_refl → ae, lt_or_ge → aI
open Go.RowKit
def o8 (b:Int):Bool:=decide (b=32)||decide (b=9)
def G5 (b:Int):Bool:=decide (b=124)||decide (b=38)||decide (b=59)||decide (b=60)||decide (b=62)||decide (b=40)||decide (b=41)
theorem aFj: ∀n:Fin 256,(match SI ((n.val:Nat):Int)with|some (k,_)=>(bP k 1==o8 ((n.val:Nat):Int))&&(bP k 3==G5 ((n.val:Nat):Int))|none=>false)=true:=by decide+kernel
theorem azZ {b:Int} (h:isByte b): ∃k,SI b=a6 (k,())/\bP k 1=o8 b/\bP k 3=G5 b:=by
 obtain⟨n,rfl⟩:=Rw h;have:=aFj n
 grind
def Na:List bZ:=[[38,38],[124,124],[59,59],[60,60],[60,60,45],[62,62],[60,38],[62,38],[60,62],[62,124],[60],[62],[38],[59],[124],[40],[41]]
def ofF (u:bZ):Nat:=match Na.findIdx? (· ==u)with
 |some j=>j+1
 |none=>0
theorem axF: ∀n:Fin 18,n.val≠0->ai6 ((n.val:Nat):Int)=a6 (Na.getD (n.val-1) [],()):=by decide+kernel
theorem Yz {d:Type} (p:d->Bool) (l:List d) {k:Nat} (h:k<l.length):(l.drop k).findIdx? p=if p l[k]=true then a6 0 else((l.drop (k+1)).findIdx? p).map (· +1):=by
 grind [aA]
theorem WW (u:bZ): ∀(d N k:Nat),k+d=17->d<N->
  BI N u ((k+1:Nat):Int)=a6 (match(Na.drop k).findIdx? (· ==u)with
   |some j=>.inr ((((k+j+1:Nat):Int),()),())
   |none=>.inl ((),()))
 |d,0,k,_,h=>by omega
 |0,N+1,k,h,_=>by
  have hk:k=17:=by omega
  subst hk;rfl
 |d+1,N+1,k,h,i=>by
  have hk:k<Na.length:=by show k<17;omega
  have f:=axF ⟨k+1,by omega⟩ (by simp);simp only[Nat.add_sub_cancel]at f;rw[BI,KU,bV (lQ),f,bG,Yz _ _ hk];have g:Na.getD k []=Na[k]:=by simp_all
  simp only[g,gG];by_cases e:(Na[k]==u)=true
  .rw[e];simp
  .rw[aY]at e;rw[e,dn,show((k+1:Nat):Int)+1=((k+1+1:Nat):Int) by omega];simp only[ac];rw[WW u d N (k+1) (by omega) (by omega)]
   grind
theorem aFi (u:bZ) (h:ofF u≠0):u∈Na:=by
 unfold ofF at h
 grind
theorem auX (u:bZ):Oh u=a6 (((ofF u:Nat):Int),()):=by
 rw[Oh];by_cases e:u=[]
 .subst e;rfl
 .rw[dI (by grind [gG])];have h:=WW u 17 bM 0 rfl (dK)
  grind [bG,ofF,dN]
def PK (t:bZ):Nat->Nat×Nat
 |0=>(0,0)
 |n+1=>if ofF (t.take (n+1))≠0 then(ofF (t.take (n+1)),n+1)else PK t n
theorem AL (s:bZ) (a n:Nat):sub s (a:Int) ((a+n:Nat):Int)=(s.drop a).take n:=by
 grind [sub,List.drop_take]
theorem acI (s:bZ) (d:s.length<1000000) (a:Nat): ∀(n N:Nat),n<N->a+n<=s.length->
  JX N s (a:Int) 0 (n:Int)=a6 (.inl (((((PK (s.drop a) n).1:Nat):Int),(((PK (s.drop a) n).2:Nat):Int),()),()))
 |n,0,h,_=>by omega
 |0,N+1,_,_=>by
  rfl
 |n+1,N+1,h,f=>by
  rw[JX,QA,bV (eH),dn,show(a:Int)+((n+1:Nat):Int)=((a+(n+1):Nat):Int) by omega,
   bV (fO (by omega) (by omega) (by rw[bK];omega)),AL,auX,bG,PK]
  by_cases e:ofF ((s.drop a).take (n+1))=0
  .rw[e];simp only[show(!bP ((0:Nat):Int) 0)=false from rfl,ac,ne_eq,not_true_eq_false,if_false];rw[iw,show((n+1:Nat):Int)-1=(n:Int) by omega];exact acI s d a n N (by omega) (by omega)
  simp_all [dX]
def BO (t:bZ):Nat×Nat:=PK t (min 3 t.length)
theorem aAH {c:UInt8} {t:List UInt8} (h:c::t∈Na):G5 (c.toNat:Int)=true:=by
 have: ∀u∈Na,(match u with|c::_=>G5 (c.toNat:Int)|[]=>true)=true:=by decide
 exact this _ h
theorem aiu {c:UInt8} {t:List UInt8} (h:G5 (c.toNat:Int)=false): ∀n,PK (c::t) n=(0,0)
 |0=>rfl
 |n+1=>by
  rw[PK,aq,aiu h n]
  grind [aAH,aFi]
theorem aJB {s:List UInt8} (e:s.length<1000000) {a:Nat} (d:a<s.length):aiW s a=a6 ((((BO (s.drop a)).1:Nat):Int),((((BO (s.drop a)).2:Nat):Int),())):=by
 rw[aiW,dI (iG),dI (JO (by rw[bK];omega)),bV (dV)];obtain⟨k,f,_,g⟩:=azZ (lN s a);rw[f,bG];simp only[g];have hd:=aA d;rw[byte_at d];cases hm:G5 (s[a].toNat:Int)with
 |false=>
  grind [BO,aiu]
 |true=>
  simp only[au,ac];have h:Iz 3 (eU .i64 (bI s) (a:Int))=((min 3 (s.drop a).length:Nat):Int):=by
   grind [bK,iw,Iz]
  rw[h,acI s e a _ bM (dK) (by grind),bG];rfl
theorem PV (t:bZ):(BO t).2<=t.length/\((BO t).2=0↔(BO t).1=0)/\(BO t).1<=17:=by
 have h: ∀n,(PK t n).2<=n/\((PK t n).2=0↔(PK t n).1=0)/\(PK t n).1<=17:=by
  intro n
  induction n with
  |zero=>exact⟨ae _,Iff.rfl,by simp[PK]⟩
  |succ n f=>
   rw[PK];split
   .rename_i e
    refine⟨ae _,⟨fun h=>absurd h (by simp),fun h=>absurd h e⟩, ?_⟩;unfold ofF;split
    .rename_i j d
     have:=(List.findIdx?_eq_some_iff_getElem.1 d).1
     assumption
    omega
   omega
 grind [BO]
theorem as9 (c:UInt8): ∀l:bZ,Lib.indexByte l c=if(l.takeWhile (· !=c)).length<l.length then(((l.takeWhile (· !=c)).length:Nat):Int)else-1
 |[]=>rfl
 |b::l=>by
  unfold Lib.indexByte;rw[as9 c l];by_cases e:b=c
  .subst e;simp
  .have d:(b==c)=false:=by simpa using e
   have f:(b !=c)=true:=by simpa using e
   have g:(b::l).takeWhile (fun x=>x !=c)=b::l.takeWhile (fun x=>x !=c):=by simp_all
   grind
def jb (s:bZ) (a:Nat):Nat:=a+((s.drop a).takeWhile (· !=10)).length
theorem xg (s:bZ) (a:Nat):a<=jb s a:=Nat.le_add_right _ _
theorem zZ {s:List UInt8} {a:Nat} (h:a<=s.length):jb s a<=s.length:=by
 grind [Lu,jb]
theorem aua {s:List UInt8} (g:s.length<1000000) {a:Nat} (d:a<=s.length):adi s a=a6 (((jb s a:Nat):Int),(decide (jb s a<s.length),())):=by
 have i:=zZ d;have j:=xg s a;rw[adi,bV (fO (by omega) (by rw[bK];omega) (by omega)),adm,ai7,bG,bG];have e:sub s (a:Int) (bI s)=s.drop a:=by simp[sub,bK]
 have f:ibW (sub s (a:Int) (bI s)) 10=if jb s a<s.length then((jb s a-a:Nat):Int)else-1:=by
  rw[e];unfold ibW;rw[show(10:Int).toNat.toUInt8=10 from rfl,as9,aP];unfold jb at*;omega
 rw[f];by_cases h:jb s a<s.length
 .rw[am h,bV (lQ),dn,decide_eq_true h];congr 2;omega
 .rw[aq h,dI (JO),decide_eq_false h,bK];congr 2;omega
def wL:bZ->Nat
 |[]=>0
 |[c]=>if o8 (c.toNat:Int)=true then 1 else 0
 |c::d::t=>if o8 (c.toNat:Int)=true then wL (d::t)+1 else if c=92/\d=10 then wL t+2 else 0
theorem X9: ∀t:bZ,wL t<=t.length
 |[]=>ae _
 |[c]=>by grind [wL]
 |c::d::t=>by
  have e:=X9 (d::t);have f:=X9 t
  grind [wL]
def zJ (t:bZ):Bool:=match t with
 |c::d::_=>decide (c=92)&&decide (d=10)
 |_=>false
theorem aDT (t:bZ):ai1 t [92,10]=a6 (zJ t,()):=by
 rw[ai1,asJ];cases t with
 |nil=>rfl
 |cons c t=>
  cases t with
  |nil=>rfl
  |cons d t=>
   have e:leI (bI [(92:UInt8),10]) (bI (c::d::t))=true:=lQ (by grind [bK]);have f:fE (bI (c::d::t)) 0 (bI [(92:UInt8),10])=true:=fO (by omega) (by rw[bK];simp) (by grind [bK]);simp_all [sub,bK,bG,zJ,gG,Bool.beq_eq_decide_eq]
theorem aqY {s:List UInt8} {a:Nat} (d:a<=s.length):adg s a=a6 (zJ (s.drop a),()):=by
 rw[adg,bV (fO (by omega) (by rw[bK];omega) (by omega)),show sub s (a:Int) (bI s)=s.drop a by simp[sub,bK],aDT,bG]
theorem Jl {c:UInt8} {t:List UInt8}:wL (c::t)=if o8 (c.toNat:Int)=true then wL t+1 else if zJ (c::t)=true then wL (t.drop 1)+2 else 0:=by
 cases t with
 |nil=>rfl
 |cons d t=>rw[wL];simp[zJ]
theorem Ia {s:List UInt8} (d:s.length<1000000): ∀(N a:Nat),s.length-a<N->a<=s.length->
  ∃o,JY N s (a:Int)=a6 o/\dN o (fun f=>a6 (f.1.1,())) (fun g=>a6 (g.1.1,()))=a6 ((((a+wL (s.drop a):Nat):Int)),())
 |0,a,h,_=>by omega
 |N+1,a,h,u=>by
  rw[JY,QB];by_cases e:a<s.length
  .obtain⟨k,i,j,_⟩:=azZ (lN s a);have hd:=aA e;rw[bV (eH (by rw[bK];omega)),bV (dV),i,bG];simp only[j];rw[byte_at e,hd,Jl];by_cases hb:o8 (s[a].toNat:Int)=true
   .rw[hb,aa,am rfl,dn,show(a:Int)+1=((a+1:Nat):Int) by omega];obtain⟨o,l,p⟩:=Ia d N (a+1) (by omega) (by omega)
    grind
   .rw[aY]at hb;rw[hb,ac,aq (by simp),aqY (by omega),bG,hd];cases hc:zJ (s[a]::s.drop (a+1))with
    |true=>
     have v:a+2<=s.length:=by
      rw[<-hd]at hc;rcases aI s.length (a+2)with hl|hl
      .have:(s.drop a).length=1:=by grind
       obtain⟨x,q⟩:=List.length_eq_one_iff.1 this;rw[q]at hc;cases hc
      .exact hl
     simp only[aa,if_true];rw[dn,show(a:Int)+2=((a+2:Nat):Int) by omega,List.drop_drop,show a+1+1=a+2 from rfl];obtain⟨o,l,p⟩:=Ia d N (a+2) (by omega) (by omega)
     grind
    |false=>
     simp only[ac,ah,if_false,Nat.add_zero];exact⟨_,rfl,rfl⟩
  .rw[dI (ig (by rw[bK];omega)),aQ (by omega)];exact⟨_,rfl,rfl⟩
theorem ax0 {s:List UInt8} (d:s.length<1000000) {a:Nat} (e:a<=s.length):adh s a=a6 ((((a+wL (s.drop a):Nat):Int)),()):=by
 rw[adh];obtain⟨o,f,g⟩:=Ia d bM a (dK) e
 grind [bG]
def BN (t:bZ):Nat:=if kV t≠0/\(t.drop (kV t)).head?=a6 60\/kV t≠0/\(t.drop (kV t)).head?=a6 62 then kV t else 0
theorem Qm (t:bZ):kV t<=t.length:=Lu _ _
theorem auV {s:List UInt8} (g:s.length<1000000) {a:Nat} (d:a<=s.length):adk s a=a6 ((((a+BN (s.drop a):Nat):Int)),()):=by
 have e:=Qm (s.drop a);rw[aP]at e;rw[adk,acC (s:=s) (by omega) d,bG];simp only;rw[dn,show(a:Int)+((kV (s.drop a):Nat):Int)=((a+kV (s.drop a):Nat):Int) by omega];unfold BN;by_cases h0:kV (s.drop a)=0
 .simp_all [iG]
 .rw[bV (eH)];by_cases h1:a+kV (s.drop a)<s.length
  .have hd:((s.drop a).drop (kV (s.drop a))).head?=a6 s[a+kV (s.drop a)]:=by
    simp
   rw[bV (eH (by rw[bK];omega)),bV (dV),byte_at h1,hd];by_cases e1:s[a+kV (s.drop a)]=60
   .rw[e1,am (.inl ⟨h0,rfl⟩)];rfl
   .have f:((s[a+kV (s.drop a)].toNat:Nat):Int)≠60:=fun h=>e1 (UInt8.toNat_inj.1 (by grind));rw[dI (dX f),bV (dV)];by_cases e2:s[a+kV (s.drop a)]=62
    .rw[e2,am (.inr ⟨h0,rfl⟩)];rfl
    .have i:((s[a+kV (s.drop a)].toNat:Nat):Int)≠62:=fun h=>e2 (UInt8.toNat_inj.1 (by grind));simp_all [dX]
  .have hd:((s.drop a).drop (kV (s.drop a))).head?=a7:=by
    simp_all
   rw[dI (iG (by rw[bK];omega)),hd,aq (by simp)];simp
theorem afU: ∀n:Fin 15,(match ai4 ((n.val:Nat):Int)with|some (t,_)=>(t==([]:bZ))==(decide (n.val=0)||decide (n.val=12))&&decide (t.length<=2)|none=>false)=true:=by decide+kernel
theorem aqW {m:Int} (h0:0<=m) (d:m<=14): ∃t,ai4 m=a6 (t,())/\(t=[]↔m=0\/m=12)/\t.length<=2:=by
 have:=afU ⟨m.toNat,by omega⟩
 grind
def KT (s:fQ):Bool:=s.all fun f=>decide (f.1=0)||decide (f.1=12)
theorem Jo (F:List GI) (hF:F.length<1000000) (d: ∀f∈F,0<=f.1/\f.1<=14): ∀(N k:Nat) (a b:bZ) (t:List Int),k<N->k<=F.length->t.length<=2*(F.length-k)->
  ∃t',qI N ((k:Int)-1) a b F t=a6 (.inl ((),((a,()),(),(),()),((b,()),(F,()),(),t',())))/\(t'=[]↔t=[]/\ ∀f∈F.take k,f.1=0\/f.1=12)
 |0,k,a,b,t,h,_,_=>by omega
 |N+1,0,a,b,t,h,_,_=>by
  rw[qI,uJ];refine⟨t,rfl, ?_⟩;simp
 |N+1,k+1,a,b,t,h,hk,q=>by
  rw[qI,uJ];have e:k<F.length:=by omega
  have i:dw F (0,(0,())) (k:Int)=F[k]:=by
   simp_all [dw]
  have g:=d F[k] (aG e);obtain⟨c,j,s,u⟩:=aqW g.1 g.2;have l:dY (bT t (dD c)) 1=true:=by
   simp only[dY,bT,dD,ai,aK,decide_eq_true_eq,kH];omega
  rw[show((k+1:Nat):Int)-1=(k:Int) by omega,bV (lQ),bV (dV),i,j,bG];simp only[l,eP,aa];rw[iw];obtain⟨t',o,p⟩:=Jo F hF d N k a b (bT t (dD c)) (by omega) (by omega) (by grind [bT,dD]);refine⟨t',o, ?_⟩;rw[p,List.take_add_one,List.getElem?_eq_getElem e];have:bT t (dD c)=[]↔t=[]/\(F[k].1=0\/F[k].1=12):=by
   simp_all [bT,dD]
  rw[this];simp only[Option.toList_some,List.mem_append,List.mem_singleton]
  grind
theorem amx (w:bZ) (o:w.length<=100000): ∃t,aiX w=a6 (t,())/\(!gG t [])= !KT (mZ w 0 fH).1:=by
 have j:=DK w 0 fH kF;have hl:fH.1.length=1:=rfl;have s:=Ik j.1;rw[aiX,aGZ w o,bG];obtain⟨l,p,d⟩:=Jo (lo (mZ w 0 fH).1) (by rw[pg];omega) (fun f i=>by
  unfold lo at i
  grind) bM (lo (mZ w 0 fH).1).length [] [] [] (dK (by rw[pg];omega)) (ae _) (by simp)
 simp only;rw[bK,iw (by rw[pg];omega) (by rw[pg];omega),p,bG];refine⟨_,rfl, ?_⟩;congr 1;simp only;rw[List.take_length]at d;have q:(∀f∈lo (mZ w 0 fH).1,f.1=0\/f.1=12)↔KT (mZ w 0 fH).1=true:=by
  unfold KT lo;simp only[List.mem_reverse,List.mem_map,List.all_eq_true,Bool.or_eq_true,decide_eq_true_eq];exact⟨fun h f i=>h _ ⟨f,i,rfl⟩,fun h f ⟨g,j,e⟩=>by grind⟩
 rw[q]at d;unfold gG;cases hs:KT (mZ w 0 fH).1 with
 |true=>rw[d.2 ⟨rfl,hs⟩];rfl
 |false=>
  have:l≠[]:=fun e=>by simp_all
  cases l with
  |nil=>simp_all
  |cons x y=>rfl
def xh (s:bZ) (d:Bool) (a:Nat):bZ:=if d=true then((s.take (jb s a)).drop a).dropWhile (· ==9)else(s.take (jb s a)).drop a
def oz (s:bZ) (a:Nat):Nat:=if jb s a<s.length then jb s a+1 else jb s a
def pM (s w:bZ) (d:Bool):Nat->Nat->Nat×Bool
 |0,a=>(a,false)
 |n+1,a=>if a<s.length then(if xh s d a=w then(oz s a,true)else pM s w d n (oz s a))else(a,false)
theorem aey {s:List UInt8} {a:Nat} (h:a<s.length):a<oz s a/\oz s a<=s.length:=by
 grind [xg,zZ,oz]
theorem U9: ∀(l:bZ) (N:Nat),l.length<N->J5 N l 9=a6 (.inl ((l.dropWhile (· ==9),()),()))
 |l,0,h=>by omega
 |[],N+1,_=>by rfl
 |c::l,N+1,h=>by
  rw[J5,QL,bV (eH (by simp_all [bK])),bV (dV (by omega) (by simp)),show bY (c::l) 0=(c.toNat:Int) from rfl];by_cases e:c=9
  .subst e;rw[show bP (((9:UInt8).toNat:Nat):Int) 9=true from rfl,aa,bV (fO (by omega) (by grind [bK]) (by omega))];rw[show sub ((9:UInt8)::l) 1 (bI ((9:UInt8)::l))=l by simp[sub,bK],U9 l N (by simp at h;omega)];simp
  .rw[dI (dX (fun h=>e (UInt8.toNat_inj.1 (by grind)))),List.dropWhile_cons_of_neg (by simpa using e)]
theorem aA1 (l:bZ) (hl:l.length<1000000):ajc l 9=a6 (l.dropWhile (· ==9),()):=by
 rw[ajc,U9 l bM (dK),bG];rfl
theorem WE {s w:List UInt8} (f:s.length<1000000) (d:Bool): ∀(N a:Nat),s.length-a<N->a<=s.length->
  BH N s (a:Int) w d=a6 (if(pM s w d N a).2=true then .inr (((((pM s w d N a).1:Nat):Int),true,()),())else .inl (((((pM s w d N a).1:Nat):Int),()),()))
 |0,a,h,_=>by omega
 |N+1,a,h,p=>by
  (rewrite [BH,Qz];delta Ar;rw[pM])
  by_cases e:a<s.length
  .have q:=xg s a;have u:=zZ (s:=s) (a:=a) (by omega);have v:=aey e;have y:=WE (w:=w) f d N (oz s a) (by omega) (by omega);have i:sub s (a:Int) ((jb s a:Nat):Int)=(s.take (jb s a)).drop a:=by simp[sub]
   have g: ∀(x:bZ),x=xh s d a->
     (bif decide (jb s a<s.length)then
      bif gG x w then(a6 (.inr ((di .i64 ((jb s a:Nat):Int) 1,true,()),())):Option (Qc.den⊕Qh.den))
      else BH N s (di .i64 ((jb s a:Nat):Int) 1) w d
     else bif gG x w then a6 (.inr ((((jb s a:Nat):Int),true,()),()))
      else BH N s ((jb s a:Nat):Int) w d)=
     a6 (if(if xh s d a=w then(oz s a,true)else pM s w d N (oz s a)).2=true
      then .inr (((((if xh s d a=w then(oz s a,true)else pM s w d N (oz s a)).1:Nat):Int),true,()),())
      else .inl (((((if xh s d a=w then(oz s a,true)else pM s w d N (oz s a)).1:Nat):Int),()),())):=by
    intro x j;subst j;have l:gG (xh s d a) w=decide (xh s d a=w):=by
     grind [gG]
    rw[l];by_cases hl:jb s a<s.length
    .have o:oz s a=jb s a+1:=by simp_all [oz]
     rw[decide_eq_true hl,aa,dn,show((jb s a:Nat):Int)+1=((oz s a:Nat):Int) by omega]
     grind
    .have o:oz s a=jb s a:=by simp_all [oz]
     grind
   rw[bV (eH (by rw[bK];omega)),aua f (by omega),bG,am e];simp only;rw[bV (fO (by omega) (by omega) (by rw[bK];omega)),i];cases d with
   |false=>simp_all [xh]
   |true=>
    simp only[aa];by_cases e0:(s.take (jb s a)).drop a=[]
    .rw[e0,show gG ([]:bZ) []=true from rfl,aa];exact g _ (by rw[xh,am rfl,e0];rfl)
    .rw[dI (by simp_all [gG])];refine(dI (by rfl)).trans ?_;refine(bV (by rfl)).trans ?_;refine(bV (by rfl)).trans ?_;refine(bV (by rfl)).trans ?_;refine(bV (by rfl)).trans ?_;rw[show bY [9] 0=9 from rfl];rw[aA1 _ (by grind),bG];exact g _ (by rfl)
  simp_all [ig,bK,aq]
def CX (s w:bZ) (d:Bool) (a:Nat):Nat×Bool:=pM s w d bM a
theorem aDU {s:List UInt8} (e:s.length<1000000) (d:bZ×Bool×Unit) {a:Nat} (f:a<=s.length):aiV s a d=a6 ((((CX s d.1 d.2.1 a).1:Nat):Int),((CX s d.1 d.2.1 a).2,())):=by
 rw[aiV,WE e d.2.1 bM a (dK) f,bG];unfold CX;cases h:(pM s d.1 d.2.1 bM a).2 with
 |true=>simp[dN]
 |false=>simp[dN]
end
end Go.Proofs.YtlhpdcadgbjhiaaGreatDoor
