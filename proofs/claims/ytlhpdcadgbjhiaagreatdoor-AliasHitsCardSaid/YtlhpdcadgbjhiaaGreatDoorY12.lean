/- Parts of the proof, joined and shortened by a program: the plain machine, the functions as it prints them, and the mathematics over them. -/
import Derived.Test.YtlhpdcadgbjhiaaGreatDoorY3
import Derived.Test.YtlhpdcadgbjhiaaGreatDoorY4
import Derived.Test.YtlhpdcadgbjhiaaGreatDoorY5
import Derived.Test.YtlhpdcadgbjhiaaGreatDoorY6
import Derived.Test.YtlhpdcadgbjhiaaGreatDoorY7
import Derived.Test.YtlhpdcadgbjhiaaGreatDoorY8
import Derived.Test.YtlhpdcadgbjhiaaGreatDoorY9
import Derived.Test.YtlhpdcadgbjhiaaGreatDoorY10
import Derived.Test.YtlhpdcadgbjhiaaGreatDoorY11
set_option linter.unusedVariables false
set_option linter.unusedSimpArgs false
set_option maxRecDepth 100000
set_option maxHeartbeats 4000000
namespace Go.Proofs.YtlhpdcadgbjhiaaGreatDoor
section
open Bool renaming and_eq_true → af
open List renaming mem_cons_of_mem → ak, mem_cons_self → aF, getElem_mem → aG, length_cons → aH
open Nat renaming le_refl → ae
open Go.RowKit
abbrev ny:Type:=List UInt8×List UInt8×Unit
def dEn:ny:=([],([],()))
theorem aqX: ∀a b:List UInt8,gV (amG a b) 0=FT a b
 |[],[]=>rfl
 |[],_::_=>rfl
 |_::_,[]=>rfl
 |x::a,y::b=>by
  have d:=aqX a b;unfold amG FT at*;rw[Lib.compareBytes,Op.bytesLess];by_cases h:x<y
  .simp[h,gV]
  .by_cases h2:y<x
   .have:x≠y:=fun e=>by subst e;exact h h2
    simp[h,h2,gV,this]
   .have:x=y:=UInt8.le_antisymm (UInt8.not_lt.1 h2) (UInt8.not_lt.1 h);subst this;simp[h,d]
theorem aiG: ∀a b:List UInt8,bP (amG a b) 0=gG a b
 |[],[]=>rfl
 |[],_::_=>rfl
 |_::_,[]=>rfl
 |x::a,y::b=>by
  have d:=aiG a b;unfold amG gG at*;rw[Lib.compareBytes];by_cases h:x<y
  .have:x≠y:=fun e=>by subst e;exact UInt8.lt_irrefl _ h
   simp[h,bP,this]
  .by_cases h2:y<x
   .have:x≠y:=fun e=>by subst e;exact h h2
    simp[h,h2,bP,this]
   .have:x=y:=UInt8.le_antisymm (UInt8.not_lt.1 h2) (UInt8.not_lt.1 h);subst this;simp[h,d]
theorem TP: ∀a:List UInt8,FT a a=false
 |[]=>rfl
 |x::a=>by
  have d:=TP a;unfold FT at*;rw[Op.bytesLess];simp[d,UInt8.lt_irrefl]
theorem aes: ∀a b c:List UInt8,FT a b=true->FT b c=true->FT a c=true
 |_,[],[],_,h=>by cases h
 |_,_::_,[],_,h=>by cases h
 |[],[],_::_,h,_=>by cases h
 |_::_,[],_::_,h,_=>by cases h
 |[],_::_,_::_,_,_=>rfl
 |x::a,y::b,z::c,d,e=>by
  have f:=aes a b c;unfold FT at*;rw[Op.bytesLess]at*;simp only[Bool.or_eq_true,decide_eq_true_eq,af,beq_iff_eq]at*;rcases d with d|⟨rfl,d⟩<;>rcases e with e|⟨rfl,e⟩
  .exact .inl (UInt8.lt_trans d e)
  .exact .inl d
  .exact .inl e
  .exact .inr ⟨rfl,f d e⟩
theorem Za: ∀a b:List UInt8,FT a b=false->a≠b->FT b a=true
 |[],[],_,h=>absurd rfl h
 |[],_::_,h,_=>by cases h
 |_::_,[],_,_=>rfl
 |x::a,y::b,h,d=>by
  have e:=Za a b;unfold FT at*;rw[Op.bytesLess]at*;by_cases h1:x<y
  .simp[h1]at h
  .by_cases h2:y<x
   .simp[h2]
   .have:x=y:=UInt8.le_antisymm (UInt8.not_lt.1 h2) (UInt8.not_lt.1 h1);subst this;simp_all
def ku (k:List UInt8):List ny->Nat
 |[]=>0
 |e::r=>if FT e.1 k=true then ku k r+1 else 0
def kD (k:List UInt8):List ny->Option (List UInt8)
 |[]=>none
 |e::r=>if e.1=k then some e.2.1 else kD k r
def CB (k v:List UInt8):List ny->List ny
 |[]=>[(k,(v,()))]
 |e::r=>if FT e.1 k=true then e::CB k v r else if e.1=k then(k,(v,()))::r else(k,(v,()))::e::r
def Asc (T:List ny):Prop:=T.Pairwise fun x y=>FT x.1 y.1=true
theorem Y5 (k:List UInt8): ∀T,ku k T<=T.length
 |[]=>ae _
 |e::r=>by have:=Y5 k r;grind [ku]
theorem aui (k:List UInt8): ∀(T:List ny) (m:Nat) (h:m<T.length),m<ku k T->FT T[m].1 k=true
 |[],_,h,_=>by cases h
 |e::r,m,h,d=>by
  have f:=aui k r;rw[ku]at d;cases m<;>grind
theorem auh (k:List UInt8): ∀(T:List ny),Asc T-> ∀(m:Nat) (h:m<T.length),ku k T<=m->FT T[m].1 k=false
 |[],_,_,h,_=>by cases h
 |e::r,d,m,h,f=>by
  have g:=auh k r (List.pairwise_cons.1 d).2;have i:=(List.pairwise_cons.1 d).1;rw[ku]at f;cases m with
  |zero=>cases hq:FT e.1 k<;>simp_all
  |succ m=>
   simp only[List.getElem_cons_succ];have l:m<r.length:=by simp at h;omega
   by_cases hq:FT e.1 k=true
   .exact g m _ (by simp_all)
   .have j:=i r[m] (aG _);cases hz:FT r[m].1 k with
    |false=>rfl
    |true=>exact absurd (aes _ _ _ j hz) hq
theorem adE (k:List UInt8): ∀(T:List ny),(∀e∈T,FT k e.1=true)->kD k T=none
 |[],_=>rfl
 |e::r,h=>by
  have g:=adE k r (fun e d=>h e (ak _ d));have f:=h e aF;have:e.1≠k:=fun d=>by rw[d,TP]at f;cases f
  rw[kD,aq this,g]
theorem PT (k:List UInt8): ∀(T:List ny),Asc T->kD k T=if h:ku k T<T.length then(if T[ku k T].1=k then some T[ku k T].2.1 else none)else none
 |[],_=>rfl
 |e::r,d=>by
  have f:=PT k r (List.pairwise_cons.1 d).2;have g:=(List.pairwise_cons.1 d).1;by_cases hq:FT e.1 k=true
  .have i:e.1≠k:=fun h=>by rw[h,TP]at hq;cases hq
   have hl:ku k (e::r)=ku k r+1:=by rw[ku,am hq]
   rw[kD,aq i,f];simp only[hl,aH,List.getElem_cons_succ,Nat.add_lt_add_iff_right]
  .have hl:ku k (e::r)=0:=by rw[ku,aq hq]
   simp only[hl,aH,List.getElem_cons_zero];rw[kD];by_cases he:e.1=k
   .simp[he]
   .have j:FT k e.1=true:=Za _ _ (by simpa using hq) he;have:=adE k r (fun x l=>aes _ _ _ j (g x l));simp[he,this]
theorem alY (k v:List UInt8): ∀(T:List ny) (h:ku k T<T.length),T[ku k T].1=k->CB k v T=T.set (ku k T) (k,(v,()))
 |[],h,_=>by cases h
 |e::r,h,d=>by
  have f:=alY k v r;by_cases hq:FT e.1 k=true
  .have hl:ku k (e::r)=ku k r+1:=by rw[ku,am hq]
   rw[CB,am hq];simp only[hl,aH,Nat.add_lt_add_iff_right]at h;simp only[hl,List.getElem_cons_succ]at d;rw[hl,List.set_cons_succ,f h d]
  .have hl:ku k (e::r)=0:=by rw[ku,aq hq]
   simp only[hl,List.getElem_cons_zero]at d;rw[CB,aq hq,am d,hl,List.set_cons_zero]
theorem alX (k v:List UInt8): ∀(T:List ny),Asc T->kD k T=none->CB k v T=T.take (ku k T)++[(k,(v,()))]++T.drop (ku k T)
 |[],_,_=>rfl
 |e::r,g,d=>by
  have f:e.1≠k:=fun h=>by rw[kD,am h]at d;cases d
  rw[kD,aq f]at d;have i:=alX k v r (List.pairwise_cons.1 g).2 d;by_cases hq:FT e.1 k=true
  .have hl:ku k (e::r)=ku k r+1:=by rw[ku,am hq]
   rw[CB,am hq,hl,i];rfl
  .have hl:ku k (e::r)=0:=by rw[ku,aq hq]
   rw[CB,aq hq,aq f,hl];rfl
theorem Qo (k v:List UInt8): ∀(T:List ny),∀e∈CB k v T,e=(k,(v,()))\/e∈T
 |[],e,h=>by rw[CB]at h;simp_all
 |x::r,e,h=>by
  have d:=Qo k v r e;rw[CB]at h;split at h
  .rcases List.mem_cons.1 h with rfl|h
   .simp
   .rcases d h with h|h<;>simp[h]
  .split at h<;>simp_all;rcases h with h|h<;>simp[h]
theorem afz (k v:List UInt8): ∀(T:List ny),(CB k v T).length<=T.length+1
 |[]=>ae _
 |x::r=>by have:=afz k v r;grind [CB]
theorem alW (k v:List UInt8): ∀(T:List ny),Asc T->Asc (CB k v T)
 |[],_=>by simp[CB,Asc]
 |e::r,f=>by
  have l:=alW k v r (List.pairwise_cons.1 f).2;have g:=(List.pairwise_cons.1 f).1;have o:=(List.pairwise_cons.1 f).2;unfold Asc at*;rw[CB];split
  .rename_i h
   refine List.pairwise_cons.2 ⟨fun x d=> ?_,l⟩;rcases Qo k v r x d with rfl|d
   .exact h
   .exact g x d
  .rename_i h
   split
   .rename_i i
    subst i;exact List.pairwise_cons.2 ⟨g,o⟩
   .rename_i i
    have j:=Za _ _ (by simpa using h) i;refine List.pairwise_cons.2 ⟨fun x d=> ?_,f⟩;rcases List.mem_cons.1 d with rfl|d
    .exact j
    .exact aes _ _ _ j (g x d)
theorem get_mem (k:List UInt8): ∀(T:List ny) (v:List UInt8),kD k T=some v->(k,(v,()))∈T
 |[],_,h=>by cases h
 |e::r,v,h=>by
  have f:=get_mem k r v;rw[kD]at h;obtain⟨a,b,u⟩:=e;cases u;split at h
  .rename_i d
   cases h;simp only at d;subst d;simp
  .exact ak _ (f h)
end
section
open Option renaming some → a6, none → a7
open Bool renaming not_true → au, not_false → az
open List renaming append_assoc → ag, mem_cons_of_mem → ak, drop_eq_getElem_cons → aA, mem_cons_self → aF, drop_zero → aJ, nil_append → aO, foldl_cons → aU, drop_eq_nil_of_le → aV, all_cons → aW
open Nat renaming le_refl → ae
open Go.RowKit
theorem aIt {i j:Nat} (h:i+j<1000000):IntKind.i64.wrap (UJ .u64 (IntKind.u64.wrap (di .i64 (i:Int) (j:Int))) 1)=((i+j)/2:Nat):=by
 rw[dn,IntKind.wrap_u64];unfold UJ;rw[show(2:Int)^(min (Int.toNat 1) IntKind.u64.bits)=2 from rfl,IntKind.wrap_i64]
 grind
theorem akB {T:List ny} {m:Nat} (h:m<T.length):dJ T dEn m=T[m]:=oQ h
theorem WC {T:List ny} {m:Nat} (h:m<T.length):dw T dEn (m:Int)=T[m]:=by
 grind [dw]
theorem VW (a b:List UInt8):ayA a b=a6 (amG a b,()):=rfl
theorem I5 {k:List UInt8} {T:List ny} (f:Asc T) (hT:T.length<=100000) (n:Int) (a b:List UInt8) (c:Int): ∀(N i j:Nat),j-i<N->i<=ku k T->ku k T<=j->j<=T.length->
  ww N k n (i:Int) (j:Int) a b c T=a6 (.inl ((k,n,((ku k T:Nat):Int),()),((a,b,()),(),()),((c,()),T,())))
 |0,i,j,h,_,_,_=>by omega
 |N+1,i,j,h,g,l,hl=>by
  rw[ww,Gm];by_cases e:i<j
  .have d:(i+j)/2<T.length:=by omega
   rw[bV (eH),bV (show leI 0 1=true from rfl)];simp only[ER,aIt (i:=i) (j:=j) (by omega)];rw[bV (dV),show dC (((i+j)/2:Nat):Int)=(i+j)/2 from rfl,bV (l9 d),show([],([],()))=dEn from rfl,akB d,VW,bG];simp only[aqX];rw[dn,show(((i+j)/2:Nat):Int)+1=(((i+j)/2+1:Nat):Int) by omega];by_cases hlt:(i+j)/2<ku k T
   .rw[aui k T _ d hlt,aa];exact I5 f hT n a b c N _ j (by omega) (by omega) l hl
   .rw[auh k T f _ d (by omega),ac];exact I5 f hT n a b c N i _ (by omega) g (by omega) (by omega)
  .rw[dI (ig),show i=ku k T by omega]
theorem asF {k:List UInt8} {T:List ny} (d:Asc T) (hT:T.length<=100000) (c:Int):asP c T k=a6 ((c,(T,())),(((ku k T:Nat):Int),((kD k T).isSome,()))):=by
 have e:=Y5 k T;rw[asP,show ww bM k (bI T) 0 (bI T) k k c T=_ from I5 d hT _ _ _ _ bM 0 T.length (dK) (by omega) e (ae _),bG];simp only[dN];rw[PT k T d];by_cases h:ku k T<T.length
 .rw[bV (eH (by rw[bK];omega)),bV (dV),show dC ((ku k T:Nat):Int)=ku k T from rfl,bV (l9 h),show([],([],()))=dEn from rfl,akB h,VW,bG,dif_pos h];simp only[aiG];by_cases he:T[ku k T].1=k
  .rw[am he,aiP he];rfl
  .rw[aq he,CV he];rfl
 .rw[dI (iG (by rw[bK];omega)),dif_neg h];rfl
theorem aGT {k:List UInt8} {T:List ny} (e:Asc T) (hT:T.length<=100000) (c:Int):ayy c T k=a6 ((c,(T,())),((kD k T).getD [],((kD k T).isSome,()))):=by
 have f:=Y5 k T;have d:=PT k T e;rw[ayy,asF e hT,bG];simp only;cases h:kD k T with
 |none=>rfl
 |some v=>
  rw[h]at d;have hl:ku k T<T.length:=by
   by_cases hl:ku k T<T.length
   .exact hl
   .rw[dif_neg hl]at d;cases d
  rw[dif_pos hl]at d;split at d
  .injection d with d
   rw[Option.isSome_some,au,ac,bV (dV),show dC ((ku k T:Nat):Int)=ku k T from rfl,bV (l9 hl),show([],([],()))=dEn from rfl,akB hl,d];rfl
  .cases d
theorem acD (k:List UInt8) (T:List ny) (hT:T.length<=100000): ∀(N m:Nat),T.length-m<N->m<=T.length->(∃v,kD k (T.drop m)=a6 v/\DZ N T k (m:Int)=a6 (.inr ((v,1,()),())))\/(kD k (T.drop m)=a7/\DZ N T k (m:Int)=a6 (.inl ((),())))
 |0,m,h,_=>by omega
 |N+1,m,h,f=>by
  rw[DZ,ab2];by_cases e:m<T.length
  .have d:=acD k T hT N (m+1) (by omega) (by omega);rw[aA e,kD,bV (eH (by rw[bK];omega)),bV (dV),show([],([],()))=dEn from rfl,WC e,dn];by_cases he:T[m].1=k
   .rw[aiP he,aa,am he,bV (dV)];exact .inl ⟨_,rfl,rfl⟩
   .rw[CV he,ac,aq he];exact d
  .rw[aV (by omega),dI (iG (by rw[bK];omega))];exact .inr ⟨rfl,rfl⟩
theorem air (k:List UInt8) (T:List ny) (hT:T.length<=100000):adw T k=a6 ((kD k T).getD [],(if(kD k T).isSome=true then 1 else 0,())):=by
 have h:=acD k T hT bM 0 (dK) (by omega);rw[aJ]at h;rcases h with ⟨v,d,e⟩|⟨d,e⟩
 .rw[adw,show DZ bM T k 0=_ from e,d];rfl
 .rw[adw,show DZ bM T k 0=_ from e,d];rfl
def nmB (c:UInt8):Bool:=Pn c&& !(bP (c.toNat:Int) 47)
def Zb (k:List UInt8):Bool:= !(gG k [])&&k.all nmB
theorem XU {k:List UInt8} (hk:k.length<=100000): ∀(N m:Nat),k.length-m<N->m<=k.length->
  MQ N k (k.length:Int) (m:Int)=a6 (if(k.drop m).all nmB=true then .inl ((),())else .inr ((false,()),()))
 |0,m,h,_=>by omega
 |N+1,m,h,g=>by
  rw[MQ,ab8];by_cases e:m<k.length
  .have d:=XU hk N (m+1) (by omega) (by omega);rw[aA e,aW,bV (eH),bV (dV),byte_at e,aFX,bG,dn,show(m:Int)+1=((m+1:Nat):Int) by omega,d];have f:fD k (m:Int)=true:=dV;unfold nmB;cases Pn k[m]<;>cases bP (k[m].toNat:Int) 47<;>simp[f]
  .rw[aV (by omega),dI (iG)];rfl
theorem aA2 {k:List UInt8} (hk:k.length<=100000):agB k=a6 (Zb k,()):=by
 rw[agB,show MQ bM k (bI k) 0=_ from XU hk bM 0 (dK) (by omega),aJ];unfold Zb;cases gG k []<;>cases k.all nmB<;>rfl
theorem aet {k:List UInt8} (hk:k.length<=100000): ∀(N m:Nat),k.length-m<N->m<=k.length->
  Ir N k (m:Int)=a6 (if(k.drop m).all nmB=true then .inl ((),())else .inr ((false,()),()))
 |0,m,h,_=>by omega
 |N+1,m,h,g=>by
  rw[Ir,abS];by_cases e:m<k.length
  .have d:=aet hk N (m+1) (by omega) (by omega);rw[aA e,aW,bV (eH (by rw[bK];omega)),bV (dV),byte_at e,(aAS k[m]).2.1,bG,dn,show(m:Int)+1=((m+1:Nat):Int) by omega,d];have f:fD k (m:Int)=true:=dV;unfold nmB;cases Pn k[m]<;>cases bP (k[m].toNat:Int) 47<;>simp[f]
  .rw[aV (by omega),dI (iG (by rw[bK];omega))];rfl
theorem aGW {k:List UInt8} (hk:k.length<=100000):ayw 2 k=a6 (Zb k,()):=by
 rw[ayw,show bP 2 1=false from rfl,ac,show bP 2 3=false from rfl,ac,eP,aa,aa,aA2 hk,bG]
theorem aGX {k:List UInt8} (hk:k.length<=100000):ayq 2 k=a6 (Zb k,()):=by
 rw[ayq,show bP 2 1=false from rfl,ac,show bP 2 3=false from rfl,ac,eP,au,ac,show Ir bM k 0=_ from aet hk bM 0 (dK) (by omega),aJ];unfold Zb;cases gG k []<;>cases k.all nmB<;>rfl
def Ux (T:List ny) (k v:List UInt8):List ny:=if Zb k=true then CB k v T else T
theorem aG1 {k v:List UInt8} {T:List ny} (e:Asc T) (hT:T.length<10000) (hk:k.length<=100000) (g:v.length<=65536): ∃c,ays 2 T k v=a6 ((2,(Ux T k v,())),(c,())):=by
 have i:=Y5 k T;have d:=PT k T e;rw[ays,aGW hk,bG];unfold Ux;cases hm:Zb k with
 |false=>exact⟨5,rfl⟩
 |true=>
  rw[au,ac,dI (iG (by rw[bK];omega)),asF e (by omega),bG,am rfl];simp only;cases h:kD k T with
  |none=>
   rw[Option.isSome_none,ac,dI (JO (by rw[bK];omega)),lQ,lQ (by rw[bK];omega),lM (by omega),alX k v T e h];exact⟨0,rfl⟩
  |some u=>
   rw[h]at d;have hl:ku k T<T.length:=by
    by_cases hl:ku k T<T.length
    .exact hl
    .rw[dif_neg hl]at d;cases d
   rw[dif_pos hl]at d;split at d
   .rename_i f
    rw[Option.isSome_some,aa,bV (dV),show dC ((ku k T:Nat):Int)=ku k T from rfl,bV (l9 hl),show([],([],()))=dEn from rfl,akB hl,alY k v T hl f,f];exact⟨0,rfl⟩
   .cases d
theorem UH (k v:List UInt8): ∀T:List ny,Asc T->(∀e∈T,FT k e.1=true)->(T.filter fun e=> !(gG e.1 k))=T
 |[],_,_=>rfl
 |e::r,g,h=>by
  have i:=UH k v r (List.pairwise_cons.1 g).2 (fun e d=>h e (ak _ d));have f:=h e aF;have:e.1≠k:=fun d=>by rw[d,TP]at f;cases f
  rw[List.filter_cons,CV this,i];rfl
theorem Jg {k v:List UInt8} {T:List ny} (hT:T.length<=100000): ∀(N m:Nat) (out:List ny),T.length-m<N->m<=T.length->out.length<=m+1->
  qY N T k v true (m:Int) out=a6 (.inl ((k,v,true,()),(out++((T.drop m).filter fun e=> !(gG e.1 k)),())))
 |0,m,out,h,_,_=>by omega
 |N+1,m,out,h,g,i=>by
  rw[qY,La];by_cases e:m<T.length
  .have d:fD T (m:Int)=true:=dV;simp only[d,aa];rw[aA e,List.filter_cons,bV (eH (by rw[bK];omega)),au,ac,show([],([],()))=dEn from rfl,WC e,dn,show(m:Int)+1=((m+1:Nat):Int) by omega];cases gG T[m].1 k with
   |true=>exact Jg hT N (m+1) out (by omega) (by omega) (by omega)
   |false=>
    have f:=Jg (k:=k) (v:=v) hT N (m+1) (out++[T[m]]) (by omega) (by omega) (by simp;omega);rw[az,aa,bV (lM (by simp[bT];omega)),show bT out [T[m]]=out++[T[m]] from rfl,f,ag];rfl
  .rw[aV (by omega),dI (iG (by rw[bK];omega))];simp
theorem acE {k v:List UInt8} {T:List ny} (j:Asc T) (hT:T.length<=100000): ∀(N m:Nat) (out:List ny),T.length-m<N->m<=T.length->out.length<=m->
  (∃f,qY N T k v false (m:Int) out=a6 (.inl ((k,v,false,()),(f,())))/\f++[(k,(v,()))]=out++CB k v (T.drop m)/\f.length<=T.length)\/
  qY N T k v false (m:Int) out=a6 (.inl ((k,v,true,()),(out++CB k v (T.drop m),())))
 |0,m,out,h,_,_=>by omega
 |N+1,m,out,h,y,z=>by
  rw[qY,La];by_cases e:m<T.length
  .have hd:=aA e;have g:Asc (T.drop m):=List.Pairwise.sublist (List.drop_sublist m T) j;rw[hd]at g;have l:=(List.pairwise_cons.1 g).1;have o:=(List.pairwise_cons.1 g).2;have q:fD T (m:Int)=true:=dV;simp only[q,aa];rw[hd,CB,bV (eH (by rw[bK];omega)),az,aa,show([],([],()))=dEn from rfl,WC e,dn,show(m:Int)+1=((m+1:Nat):Int) by omega];cases hq:FT T[m].1 k with
   |true=>
    have s:T[m].1≠k:=fun h=>by rw[h,TP]at hq;cases hq
    have p:=acE (k:=k) (v:=v) j hT N (m+1) (out++[T[m]]) (by omega) (by omega) (by simp;omega);rw[au,ac,CV s,az,aa,bV (lM (by simp[bT];omega)),am rfl,show bT out [T[m]]=out++[T[m]] from rfl];rw[ag]at p;exact p
   |false=>
    right;rw[az,aa,bV (lM (by simp[bT];omega)),aq (by simp)];have hr: ∀x∈T.drop (m+1),T[m].1=k\/FT k T[m].1=true->FT k x.1=true:=fun x d i=>by
     rcases i with rfl|i
     .exact l x d
     .exact aes _ _ _ i (l x d)
    by_cases he:T[m].1=k
    .have hk:=UH k v _ o (fun x d=>hr x d (.inl he));rw[aiP he,au,ac,am he,show bT out [(k,(v,()))]=out++[(k,(v,()))] from rfl,Jg hT N (m+1) _ (by omega) (by omega) (by simp;omega),hk,ag];rfl
    .have u:=Za _ _ hq he;have hk:=UH k v _ o (fun x d=>hr x d (.inr u));rw[CV he,az,aa,aq he,bV (lM (by simp[bT];omega)),show bT (bT out [(k,(v,()))]) [T[m]]=out++[(k,(v,()))]++[T[m]] from rfl,Jg hT N (m+1) _ (by omega) (by omega) (by simp;omega),hk,ag,ag];rfl
  .left;rw[aV (by omega),dI (iG (by rw[bK];omega))];exact⟨out,rfl,rfl,by omega⟩
theorem aG2 {k v:List UInt8} {T:List ny} (e:Asc T) (hT:T.length<10000) (hk:k.length<=100000) (g:v.length<=65536): ∃c,ayt 2 T k v=a6 (Ux T k v,(c,())):=by
 rw[ayt,aGX hk,bG];unfold Ux;cases hm:Zb k with
 |false=>exact⟨5,rfl⟩
 |true=>
  rw[au,ac,dI (iG (by rw[bK];omega)),air _ _ (by omega),bG,am rfl];simp only;rw[dI (b:=leI 10000 (bI T)) (JO (by rw[bK];omega))];have h:=acE (k:=k) (v:=v) e (by omega) bM 0 [] (dK) (by omega) (ae _);rw[aJ,aO]at h;rcases h with ⟨out,d,f,i⟩|d
  .rw[show qY bM T k v false 0 []=_ from d,bG];simp only[dN];rw[az,aa,bV (lM (by simp[bT];omega)),show bT out [(k,(v,()))]=out++[(k,(v,()))] from rfl,f];cases bP (if(kD k T).isSome=true then 1 else 0) 0<;>exact⟨0,rfl⟩
  .rw[show qY bM T k v false 0 []=_ from d,bG];simp only[dN];rw[au,ac];cases bP (if(kD k T).isSome=true then 1 else 0) 0<;>exact⟨0,rfl⟩
def ofT (l:List ny):List ny:=l.foldl (fun T e=>Ux T e.1 e.2.1) []
def Lit (n a b:Nat) (l:List ny):Prop:=l.length<=n/\ ∀e∈l,e.1.length<=a/\e.2.1.length<=b
def Tab (n a b:Nat) (T:List ny):Prop:=Asc T/\Lit n a b T/\ ∀e∈T,Zb e.1=true
theorem abz {n a b:Nat} {T:List ny} (h:Tab n a b T) {k v:List UInt8} (hk:k.length<=a) (j:v.length<=b):Tab (n+1) a b (Ux T k v):=by
 obtain⟨f,⟨o,g⟩,i⟩:=h;unfold Ux;split
 .rename_i l
  refine⟨alW k v T f,⟨by have:=afz k v T;omega,fun e d=> ?_⟩,fun e d=> ?_⟩
  .rcases Qo k v T e d with rfl|d
   .exact⟨hk,j⟩
   .exact g e d
  .rcases Qo k v T e d with rfl|d
   .exact l
   .exact i e d
 .exact⟨f,⟨by omega,g⟩,i⟩
theorem amu {a b:Nat}: ∀(l T:List ny) (n m:Nat),Tab m a b T->Lit n a b l->Tab (m+n) a b (l.foldl (fun T e=>Ux T e.1 e.2.1) T)
 |[],T,n,m,h,_=>⟨h.1,⟨by have:=h.2.1.1;show T.length<=_;omega,h.2.1.2⟩,h.2.2⟩
 |e::r,T,n,m,h,hl=>by
  obtain⟨n,rfl⟩: ∃k,n=k+1:=⟨n-1,by have:=hl.1;simp at this;omega⟩;have d:=hl.2 e aF;have:=amu r _ n (m+1) (abz h d.1 d.2) ⟨by have:=hl.1;simp at this;omega,fun x f=>hl.2 x (ak _ f)⟩;rw[aU,show m+(n+1)=m+1+n by omega];exact this
theorem azY {n a b:Nat} {l:List ny} (h:Lit n a b l):Tab n a b (ofT l):=by
 have:=amu l [] n 0 ⟨List.Pairwise.nil,⟨ae _,fun e d=>by cases d⟩,fun e d=>by cases d⟩ h;rwa [Nat.zero_add]at this
end
section
open Go.RowKit
theorem aBF {k:List UInt8} {T:List ny} (d:Asc T) (hT:T.length<=100000) (c:Int):asM c T k=some ((c,(T,())),((kD k T).getD [],((kD k T).isSome,()))):=by
 rw[asM,aGT d hT];rfl
theorem ajv {n a b:Nat} {T:List ny} (h:Tab n a b T) {k v:List UInt8} (d:kD k T=some v):v.length<=b:=(h.2.1.2 _ (get_mem k T v d)).2
end
section
open Option renaming some → a6, none → a7
open Tryz
open Go.RowKit
def ayu (d:bZ):Option pq:=cond (!(gG d [])) (cond (fD d (eU .i64 (bI d) 1)) (bH (SI (bY d (eU .i64 (bI d) 1))) fun e=>a6 ((bP e.1 1),())) a7)<|some (false,())
def aCl:Sum:=⟨[.str],NZ,fun x=>ayu x.1⟩
noncomputable def aHx:Env:=iJ prog tt 25 [(44,amn)] [] []
theorem arq:eu aHx:=eA Tryz.f25 (aD uN aN)
theorem aw9:dU prog 25 aCl:=sA arq
noncomputable def b10:Code:=(f10.body).getD .skip
noncomputable def afP:Code:=(f40.body).getD .skip
noncomputable def acO:Code:=cA (cA (cB (afP)))
def adV:eQ:=⟨[0,1,5,6,7,41000001],[],[],[],[],[]⟩
def aD3:eQ:=⟨[2,4,7,8],[],[],[],[],[]⟩
def aDY:eQ:=⟨[2,4,7,8],[],[],[],[],[]⟩
def an5:eQ:=⟨[0,1,4,5,6,7],[],[],[],[],[]⟩
def Kw:SQ:=⟨us [.yld 1700025,eb,.u,.u,.u,c7,bO,bO] 24,[ck,[.yld 1700025],bN],ce⟩
def Nh:SQ:=⟨us [] 32,[ck,[.yld 1700025],bN],ce⟩
def Np:SQ:=⟨us [] 32,[ck,[.yld 1700025],bN],[]⟩
def Gf {y:Type} (u:(List gJ)->Int->Int->(List gJ)->(List qm)->(List gu)->(List gu)->Int->Dj->Bool->(List sO)->Int->(List kW)->Option y) (z:(List gJ)->(List qm)->(List gu)->(List gu)->Int->Dj->Bool->(List sO)->Int->(List kW)->Option y) (B:Option y) (e:List gJ) (l d:Int) (g:List gJ) (h:List qm) (f o:List gu) (p:Int) (q:Dj) (s:Bool) (i:List sO) (v:Int) (x:List kW):Option y:=cond (gV d l) (cond (fD e d) (cond (bP (dw e (0,(0,(0,(0,())))) d).1 7) (cond (fD g (dw e (0,(0,(0,(0,())))) d).2.2.2.1) (cond (bP (dw g (0,(0,(0,(0,())))) (dw e (0,(0,(0,(0,())))) d).2.2.2.1).1 5) (cond (bP (kN h (dw e (0,(0,(0,(0,())))) d).2.2.2.1) 2) (u e l (di .i64 d 1) g h f o p q s i v x)<|cond (fD f (dw e (0,(0,(0,(0,())))) d).2.1) (bH (asM v x (dw f (0,([],(0,(0,())))) (dw e (0,(0,(0,(0,())))) d).2.1).2.1) fun j=>cond (!j.2.2.1) (u e l (di .i64 d 1) g (nS h (dw e (0,(0,(0,(0,())))) d).2.2.2.1 2) f o p q s i j.1.1 j.1.2.1)<|cond (fD f (dw e (0,(0,(0,(0,())))) d).2.1) (cond (fD f (dw e (0,(0,(0,(0,())))) d).2.1) (cond (mr Vb f f) (cond (bP (dw e (0,(0,(0,(0,())))) d).2.1 (dw e (0,(0,(0,(0,())))) d).2.1) (cond (fD f (dw e (0,(0,(0,(0,())))) d).2.1) (cond ((bP (dw f (0,([],(0,(0,())))) (dw e (0,(0,(0,(0,())))) d).2.1).1 (dw f (0,([],(0,(0,())))) (dw e (0,(0,(0,(0,())))) d).2.1).1)&&((gG (dw f (0,([],(0,(0,())))) (dw e (0,(0,(0,(0,())))) d).2.1).2.1 (dw f (0,([],(0,(0,())))) (dw e (0,(0,(0,(0,())))) d).2.1).2.1)&&((bP (dw f (0,([],(0,(0,())))) (dw e (0,(0,(0,(0,())))) d).2.1).2.2.1 (dw f (0,([],(0,(0,())))) (dw e (0,(0,(0,(0,())))) d).2.1).2.2.1)&&((bP (dw f (0,([],(0,(0,())))) (dw e (0,(0,(0,(0,())))) d).2.1).2.2.2.1 (dw f (0,([],(0,(0,())))) (dw e (0,(0,(0,(0,())))) d).2.1).2.2.2.1)&&true)))) (cond (bP (dw f (0,([],(0,(0,())))) (dw e (0,(0,(0,(0,())))) d).2.1).2.2.1 (dw f (0,([],(0,(0,())))) (dw e (0,(0,(0,(0,())))) d).2.1).2.2.1) (cond (bP (dw f (0,([],(0,(0,())))) (dw e (0,(0,(0,(0,())))) d).2.1).2.2.1 (dw f (0,([],(0,(0,())))) (dw e (0,(0,(0,(0,())))) d).2.1).2.2.1) (cond (mr Vb f f) (cond (bP (dw e (0,(0,(0,(0,())))) d).2.1 (dw e (0,(0,(0,(0,())))) d).2.1) (cond (fD f (dw e (0,(0,(0,(0,())))) d).2.1) (cond ((bP (dw f (0,([],(0,(0,())))) (dw e (0,(0,(0,(0,())))) d).2.1).1 (dw f (0,([],(0,(0,())))) (dw e (0,(0,(0,(0,())))) d).2.1).1)&&((gG (dw f (0,([],(0,(0,())))) (dw e (0,(0,(0,(0,())))) d).2.1).2.1 (dw f (0,([],(0,(0,())))) (dw e (0,(0,(0,(0,())))) d).2.1).2.1)&&((bP (dw f (0,([],(0,(0,())))) (dw e (0,(0,(0,(0,())))) d).2.1).2.2.1 (dw f (0,([],(0,(0,())))) (dw e (0,(0,(0,(0,())))) d).2.1).2.2.1)&&((bP (dw f (0,([],(0,(0,())))) (dw e (0,(0,(0,(0,())))) d).2.1).2.2.2.1 (dw f (0,([],(0,(0,())))) (dw e (0,(0,(0,(0,())))) d).2.1).2.2.2.1)&&true)))) (cond (bP (dw f (0,([],(0,(0,())))) (dw e (0,(0,(0,(0,())))) d).2.1).2.2.2.1 (dw f (0,([],(0,(0,())))) (dw e (0,(0,(0,(0,())))) d).2.1).2.2.2.1) (cond (bP (dw f (0,([],(0,(0,())))) (dw e (0,(0,(0,(0,())))) d).2.1).2.2.2.1 (dw f (0,([],(0,(0,())))) (dw e (0,(0,(0,(0,())))) d).2.1).2.2.2.1) (cond (dY (bT i [(6,((dw f (0,([],(0,(0,())))) (dw e (0,(0,(0,(0,())))) d).2.1).2.2.1,((dw f (0,([],(0,(0,())))) (dw e (0,(0,(0,(0,())))) d).2.1).2.2.2.1,(false,()))))]) 32) (cond (mr Vb f f) (cond (bP (dw e (0,(0,(0,(0,())))) d).2.1 (dw e (0,(0,(0,(0,())))) d).2.1) (cond (fD f (dw e (0,(0,(0,(0,())))) d).2.1) (cond ((bP (dw f (0,([],(0,(0,())))) (dw e (0,(0,(0,(0,())))) d).2.1).1 (dw f (0,([],(0,(0,())))) (dw e (0,(0,(0,(0,())))) d).2.1).1)&&((gG (dw f (0,([],(0,(0,())))) (dw e (0,(0,(0,(0,())))) d).2.1).2.1 (dw f (0,([],(0,(0,())))) (dw e (0,(0,(0,(0,())))) d).2.1).2.1)&&((bP (dw f (0,([],(0,(0,())))) (dw e (0,(0,(0,(0,())))) d).2.1).2.2.1 (dw f (0,([],(0,(0,())))) (dw e (0,(0,(0,(0,())))) d).2.1).2.2.1)&&((bP (dw f (0,([],(0,(0,())))) (dw e (0,(0,(0,(0,())))) d).2.1).2.2.2.1 (dw f (0,([],(0,(0,())))) (dw e (0,(0,(0,(0,())))) d).2.1).2.2.2.1)&&true)))) (cond (bP (dw f (0,([],(0,(0,())))) (dw e (0,(0,(0,(0,())))) d).2.1).2.2.1 (dw f (0,([],(0,(0,())))) (dw e (0,(0,(0,(0,())))) d).2.1).2.2.1) (cond (bP (dw f (0,([],(0,(0,())))) (dw e (0,(0,(0,(0,())))) d).2.1).2.2.1 (dw f (0,([],(0,(0,())))) (dw e (0,(0,(0,(0,())))) d).2.1).2.2.1) (cond (mr Vb f f) (cond (bP (dw e (0,(0,(0,(0,())))) d).2.1 (dw e (0,(0,(0,(0,())))) d).2.1) (cond (fD f (dw e (0,(0,(0,(0,())))) d).2.1) (cond ((bP (dw f (0,([],(0,(0,())))) (dw e (0,(0,(0,(0,())))) d).2.1).1 (dw f (0,([],(0,(0,())))) (dw e (0,(0,(0,(0,())))) d).2.1).1)&&((gG (dw f (0,([],(0,(0,())))) (dw e (0,(0,(0,(0,())))) d).2.1).2.1 (dw f (0,([],(0,(0,())))) (dw e (0,(0,(0,(0,())))) d).2.1).2.1)&&((bP (dw f (0,([],(0,(0,())))) (dw e (0,(0,(0,(0,())))) d).2.1).2.2.1 (dw f (0,([],(0,(0,())))) (dw e (0,(0,(0,(0,())))) d).2.1).2.2.1)&&((bP (dw f (0,([],(0,(0,())))) (dw e (0,(0,(0,(0,())))) d).2.1).2.2.2.1 (dw f (0,([],(0,(0,())))) (dw e (0,(0,(0,(0,())))) d).2.1).2.2.2.1)&&true)))) (cond (bP (dw f (0,([],(0,(0,())))) (dw e (0,(0,(0,(0,())))) d).2.1).2.2.2.1 (dw f (0,([],(0,(0,())))) (dw e (0,(0,(0,(0,())))) d).2.1).2.2.2.1) (cond (bP (dw f (0,([],(0,(0,())))) (dw e (0,(0,(0,(0,())))) d).2.1).2.2.2.1 (dw f (0,([],(0,(0,())))) (dw e (0,(0,(0,(0,())))) d).2.1).2.2.2.1) (cond ((bP 6 6)&&((bP (dw f (0,([],(0,(0,())))) (dw e (0,(0,(0,(0,())))) d).2.1).2.2.1 (dw f (0,([],(0,(0,())))) (dw e (0,(0,(0,(0,())))) d).2.1).2.2.1)&&((bP (dw f (0,([],(0,(0,())))) (dw e (0,(0,(0,(0,())))) d).2.1).2.2.2.1 (dw f (0,([],(0,(0,())))) (dw e (0,(0,(0,(0,())))) d).2.1).2.2.2.1)&&((jv false false)&&true)))) (bH (ayu j.2.1) fun A=>cond A.1 (u e l (di .i64 d 1) g (nS (nS h (dw e (0,(0,(0,(0,())))) d).2.2.2.1 2) (dw e (0,(0,(0,(0,())))) d).2.2.2.1 1) f o p q s (bT i [(6,((dw f (0,([],(0,(0,())))) (dw e (0,(0,(0,(0,())))) d).2.1).2.2.1,((dw f (0,([],(0,(0,())))) (dw e (0,(0,(0,(0,())))) d).2.1).2.2.2.1,(false,()))))]) j.1.1 j.1.2.1)<|u e l (di .i64 d 1) g (nS h (dw e (0,(0,(0,(0,())))) d).2.2.2.1 2) f o p q s (bT i [(6,((dw f (0,([],(0,(0,())))) (dw e (0,(0,(0,(0,())))) d).2.1).2.2.1,((dw f (0,([],(0,(0,())))) (dw e (0,(0,(0,(0,())))) d).2.1).2.2.2.1,(false,()))))]) j.1.1 j.1.2.1) a7) a7) a7) a7) a7) a7) a7) a7) a7) a7) a7) a7) a7) a7) a7) a7) a7) a7) a7) a7) a7) a7) a7) a7) a7) a7) a7) a7) a7)<|u e l (di .i64 d 1) g h f o p q s i v x) a7)<|u e l (di .i64 d 1) g h f o p q s i v x) a7)<|z g h f o p q s i v x
def vZ:Nat->(List gJ)->Int->Int->(List gJ)->(List qm)->(List gu)->(List gu)->Int->Dj->Bool->(List sO)->Int->(List kW)->Option (Nh.den⊕Np.den)
 |0,_,_,_,_,_,_,_,_,_,_,_,_,_=>a7
 |n+1,d,e,f,g,h,i,j,l,o,p,q,s,u=>Gf (vZ n) (fun v x y z A B D E G I=>a6 (.inl ((),((),(),(),()),((),(v,()),(),x,(y,()),z,(A,B,D,()),(),E,(),(G,()),I,())))) (a6 (.inr ((),((),(),(),()),()))) d e f g h i j l o p q s u
def aog (n:Nat) (v:Kw.den):=bA (vZ n) v
noncomputable def WO:dE:=fF adV Kw Nh Np (.exit 0) (aog bM) 6
def anM (i:Int) (j:List kW) (g:bZ):Option ((Int×(List kW)×Unit)×((List sO)×Unit)):=bH (asK g) fun e=>bH (asL g e.1) fun h=>bH (anO h.1) fun f=>bH (vZ bM f.1 (bI f.1) 0 f.1 [] h.1 [] e.2.1.1 e.2.1.2.1 e.2.1.2.2.1 [] i j) fun l=>dN l (fun d=>cond ((afh d.2.2.2.2.2.2.2.2.2.2.1)&&(dY d.2.2.2.2.2.2.2.2.2.2.1 64)) (a6 ((d.2.2.2.2.2.2.2.2.2.2.2.2.1.1,(d.2.2.2.2.2.2.2.2.2.2.2.2.2.1,())),(d.2.2.2.2.2.2.2.2.2.2.1,()))) a7) (fun o=>a7)
def awh:fZ:=⟨79,tzF,[.str],[.list Hu],fun x y=>anM x.1 x.2.1 y.1⟩
noncomputable def aiK:Env:=gB prog tt [(20,awP),(21,awW),(23,aw3),(25,aCl)] [(40,1,adV),(10,500007,aD3),(10,600004,aDY),(40,600003,an5)] [(40,1,WO)] [10] [(24,aw5)]
def Xk {d:Type} (a:Kw.den->Option d) (b:Nh.den->Option d) (c:Np.den->Option d) (v:Kw.den):Option d:=bA (Gf (fun e f g h i j l o p q s u x=>a ((e,f,g,()),((),(),(),()),((),(h,()),(),i,(j,()),l,(o,p,q,()),(),s,(),(u,()),x,()))) (fun y z A B D E G I J K=>b ((),((),(),(),()),((),(y,()),(),z,(A,()),B,(D,E,G,()),(),I,(),(J,()),K,()))) (c ((),((),(),(),()),()))) v
theorem aoo:dQ aiK 40 acO WO:=lu (Xk) (h2:=by intros;simp only[Xk,bA,Gf,cO,cZ,bG,bW,dh])
theorem aHV:jJ b10=[]:=by kernel_rfl
theorem aIG:jP b10=[(cA (cA (cB (cA (cB (cB (cB (cB (b10)))))))),cB (cA (cB (cA (cB (cB (cB (cB (b10)))))))))]:=by kernel_rfl
theorem aH0:dM aiK 10 b10:=uz b10 (by rw[aIG];exact(aD (fun _=>(show rH 10 7=a6 (cA (cA (cB (cA (cB (cB (cB (cB (b10)))))))),cB (cA (cB (cA (cB (cB (cB (cB (b10))))))))) by kernel_rfl)) aN)) (by rw[aHV];exact aN)
theorem aud:dM aiK 40 afP:=nV [acO] (aD (fM (aoo)) aN)
theorem aq7:eu aiK:=eB (aD afn (aD afo (aD afp (aD aw9 aN)))) [10,40] (aD ⟨f10,b10,by kernel_rfl,by kernel_rfl,aH0⟩ (aD ⟨f40,afP,by kernel_rfl,by kernel_rfl,aud⟩ aN)) (hx:=(aD afq aN))
theorem afj:dW prog 10 awh:=sB aq7
noncomputable def b12:Code:=(f12.body).getD .skip
noncomputable def aBc:Code:=cA (cA (cB (cA (cB (cB (cB (b12)))))))
def aBH:eQ:=⟨[0,1,6,7,14,15,16,100004],[(6,(.int .u8))],[1,6,7],[],[4,5],[]⟩
def akF:SQ:=⟨us [co,bR,.u,.u,.u,.u,.slc 1800006,bO,.u,.u,.u,.u,.u,.u,cT,bO,bO] 39,c9,[.arr 1800006 (.int .u8),cN,eV]⟩
def ahg:SQ:=⟨us [.u,bR,.u,.u,.u,.u,.slc 1800006,bO] 48,c9,[.arr 1800006 (.int .u8),cN,eV]⟩
def ahC:SQ:=⟨us [.u,.u,.u,.u,bR,bO] 50,c9,[cN,eV]⟩
def abQ {j:Type} (q:bZ->Int->(List sO)->Int->Int->jM->Int->(List kW)->Option j) (s:bZ->Int->jM->Int->(List kW)->Option j) (u:bZ->Int->Int->(List kW)->Option j) (f:bZ) (h:Int) (e:List sO) (l d:Int) (i:jM) (o:Int) (p:List kW):Option j:=cond (gV d l) (cond (fD e d) (cond (fE (bI f) (dw e (0,(0,(0,(false,())))) d).2.1 (dw e (0,(0,(0,(false,())))) d).2.2.1) (bH (asM o p (sub f (dw e (0,(0,(0,(false,())))) d).2.1 (dw e (0,(0,(0,(false,())))) d).2.2.1)) fun g=>cond (fE (bI f) h (dw e (0,(0,(0,(false,())))) d).2.1) (cond (dY (bT i (dD (sub f h (dw e (0,(0,(0,(false,())))) d).2.1))) 1) (cond (dY (bT (bT i (dD (sub f h (dw e (0,(0,(0,(false,())))) d).2.1))) (dD g.2.1)) 1) (cond (gV 1048576 (bI (bT (bT i (dD (sub f h (dw e (0,(0,(0,(false,())))) d).2.1))) (dD g.2.1)))) (u [] 2 g.1.1 g.1.2.1)<|q f (dw e (0,(0,(0,(false,())))) d).2.2.1 e l (di .i64 d 1) (bT (bT i (dD (sub f h (dw e (0,(0,(0,(false,())))) d).2.1))) (dD g.2.1)) g.1.1 g.1.2.1) a7) a7) a7) a7) a7)<|s f h i o p
def MI:Nat->bZ->Int->(List sO)->Int->Int->jM->Int->(List kW)->Option (ahg.den⊕ahC.den)
 |0,_,_,_,_,_,_,_,_=>a7
 |n+1,d,e,f,g,h,i,j,l=>abQ (MI n) (fun o p q s u=>a6 (.inl ((o,p,()),((),()),(q,(s,()),u,())))) (fun v x y z=>a6 (.inr ((v,x,()),((),()),((y,()),z,())))) d e f g h i j l
def aEP (n:Nat) (v:akF.den):=MI n v.1.1 v.1.2.1 v.1.2.2.1 v.1.2.2.2.1 v.1.2.2.2.2.1 v.2.2.1 v.2.2.2.1.1 v.2.2.2.2.1
noncomputable def aus:dE:=fF aBH akF ahg ahC (.exit 0) (aEP bM) 6
def ayo (h:Int) (i:List kW) (g:bZ):Option ((Int×(List kW)×Unit)×(bZ×Int×Unit)):=bH (anM h i g) fun e=>bH (MI bM g 0 e.2.1 (bI e.2.1) 0 [] e.1.1 e.1.2.1) fun j=>dN j (fun d=>cond (fE (bI d.1.1) d.1.2.1 (bI d.1.1)) (cond (dY (bT d.2.2.1 (dD (sub d.1.1 d.1.2.1 (bI d.1.1)))) 1) (cond (gV 1048576 (bI (bT d.2.2.1 (dD (sub d.1.1 d.1.2.1 (bI d.1.1)))))) (a6 ((d.2.2.2.1.1,(d.2.2.2.2.1,())),([],(2,()))))<|some ((d.2.2.2.1.1,(d.2.2.2.2.1,())),((ofBytes (bT d.2.2.1 (dD (sub d.1.1 d.1.2.1 (bI d.1.1))))),(0,())))) a7) a7) (fun f=>a6 ((f.2.2.1.1,(f.2.2.2.1,())),(f.1.1,(f.1.2.1,()))))
def awr:fZ:=⟨79,tzF,[.str],[.str,dA],fun x y=>ayo x.1 x.2.1 y.1⟩
noncomputable def aq9:Env:=gB prog tt [] [(12,4,aBH)] [(12,4,aus)] [] [(24,aw5),(10,awh)]
def avC {d:Type} (a:akF.den->Option d) (b:ahg.den->Option d) (c:ahC.den->Option d) (v:akF.den):Option d:=abQ (fun e f g h i j l o=>a ((e,f,g,h,i,()),((),()),(j,(l,()),o,()))) (fun p q s u x=>b ((p,q,()),((),()),(s,(u,()),x,()))) (fun y z A B=>c ((y,z,()),((),()),((A,()),B,()))) v.1.1 v.1.2.1 v.1.2.2.1 v.1.2.2.2.1 v.1.2.2.2.2.1 v.2.2.1 v.2.2.2.1.1 v.2.2.2.2.1
theorem aFl:dQ aq9 12 aBc aus:=lu (avC) (h2:=by intros;simp only[avC,abQ,cO,cZ,bG,bW,dh])
theorem aH2:dM aq9 12 b12:=nV [aBc] (aD (fM (aFl)) aN)
theorem ara:eu aq9:=eB aN [12] (aD ⟨f12,b12,by kernel_rfl,by kernel_rfl,aH2⟩ aN) (hx:=(aD afq (aD afj aN)))
theorem afl:dW prog 12 awr:=sB ara
def ayr (d:bZ):Option pq:=cond (gV 0 (bI d)) (cond (fD d (eU .i64 (bI d) 1)) (cond (bP (bY d (eU .i64 (bI d) 1)) 32) (a6 (true,()))<|cond (fD d (eU .i64 (bI d) 1)) (a6 ((bP (bY d (eU .i64 (bI d) 1)) 9),())) a7) a7)<|some (false,())
def aCj:Sum:=⟨[.str],NZ,fun x=>ayr x.1⟩
noncomputable def aHu:Env:=iJ prog tt 16 [] [] []
theorem arh:eu aHu:=eA f16 aN
theorem awH:dU prog 16 aCj:=sA arh
end
section
open Bool renaming not_true → au, and_true → ay, not_false → az
open Int renaming eq_ofNat_of_zero_le → aX, toNat_natCast → aZ
open List renaming append_assoc → ag, length_append → ai, drop_eq_getElem_cons → aA, getElem_mem → aG, length_cons → aH, drop_zero → aJ, nil_append → aO, length_drop → aP, foldl_cons → aU, drop_eq_nil_of_le → aV
open Nat renaming le_refl → ae, le_trans → aB, mul_le_mul_right → bC
open Go.RowKit
def AZ (v:bZ):Bool:=o8 ((v.getLastD 0).toNat:Int)
theorem last_at {v:List UInt8} (h:v≠[]):bY v (eU .i64 (bI v) 1)=((v.getLastD 0).toNat:Int)\/ ¬v.length<=1000000:=by
 by_cases hl:v.length<=1000000
 .left;have h0:0<v.length:=List.length_pos_iff.2 h;rw[bK,iw,show(v.length:Int)-1=((v.length-1:Nat):Int) by omega,byte_at (by omega)];congr 2;cases v with
  |nil=>exact absurd rfl h
  |cons a r=>rw[List.getLastD_eq_getLast?,List.getLast?_eq_getElem?];simp
 .exact .inr hl
theorem aJS {v:List UInt8} (i:v.length<=1000000):ayu v=some (AZ v,()):=by
 rw[ayu];by_cases h:v=[]
 .subst h;rfl
 .have h0:0<v.length:=List.length_pos_iff.2 h;have d:=(last_at h).resolve_right (by omega);have e:fD v (eU .i64 (bI v) 1)=true:=by
   rw[bK,iw];exact dV
  obtain⟨k,f,g,_⟩:=azZ (b:=((v.getLastD 0).toNat:Int)) ⟨by omega,by have:=(v.getLastD 0).toNat_lt;omega⟩;rw[CV h,az,aa,e,aa,d,f,bG];simp only[g];rfl
def DR (T:List ny) (F:List Lf) (x:List qm×List Tok) (d:Nd):List qm×List Tok:=
 if kN x.1 d.2.2.2.1=2 then x else match kD (dw F PM d.2.1).2.1 T with
  |none=>(nS x.1 d.2.2.2.1 2,x.2)
  |some v=>(if AZ v=true then nS (nS x.1 d.2.2.2.1 2) d.2.2.2.1 1 else nS x.1 d.2.2.2.1 2,x.2++[(6,((dw F PM d.2.1).2.2.1,((dw F PM d.2.1).2.2.2.1,(false,()))))])
def DV (L:List Nd) (d:Nd):Prop:=d.1=7/\(dw L AU d.2.2.2.1).1=5
instance (L:List Nd) (d:Nd):Decidable (DV L d):=by unfold DV;infer_instance
def JL (T:List ny) (F:List Lf) (L:List Nd) (x:List qm×List Tok) (d:Nd):List qm×List Tok:=if DV L d then DR T F x d else x
theorem as7 (T:List ny) (F:List Lf) (L:List Nd) (x:List qm×List Tok) (d:Nd):(JL T F L x d).2.length<=x.2.length+1:=by
 unfold JL;split
 .unfold DR;split
  .omega
  .split<;>simp
 .omega
structure aCV (L:List Nd) (F:List Lf):Prop where
 len:L.length<=1000000
 up: ∀d∈L,d.1=7->0<=d.2.2.2.1/\d.2.2.2.1<L.length
 at_: ∀d∈L,DV L d->0<=d.2.1/\d.2.1<F.length
theorem ayK {L:List Nd} {m:Nat} (h:m<L.length):dw L AU (m:Int)=L[m]:=by
 grind [dw]
theorem aJU (F:List Lf):mr Vb F F=true:=gQ _ _
theorem WG {n b:Nat} {T:List ny} {a:Nat} (hT:Tab n a b T) (j:n<=10000) (hb:b<=10000) {L:List Nd} {F:List Lf} (hF:aCV L F) (g:List Lf) (p:Int) (q:List Dlm) (r:Bool) (c:Int):
  ∀(N i:Nat) (x:List qm×List Tok),L.length-i<N->i<=L.length->x.2.length<=i->
  vZ N L (L.length:Int) (i:Int) L x.1 F g p q r x.2 c T=
   some (.inl ((),((),(),(),()),((),(L,()),(),((L.drop i).foldl (JL T F L) x).1,(F,()),g,(p,q,r,()),(),((L.drop i).foldl (JL T F L) x).2,(),(c,()),T,())))
 |0,i,x,h,_,_=>by omega
 |N+1,i,x,h,J,l=>by
  have K:=hF.len;have M:T.length<=10000:=aB hT.2.1.1 j;rw[vZ,Gf];by_cases e:i<L.length
  .have hd:=aA e;have o:L[i]∈L:=aG e;have d:=fun y=>WG hT j hb hF g p q r c N (i+1) y (by omega) (by omega);have u:fD L (i:Int)=true:=dV;have z:dw L (0,(0,(0,(0,())))) (i:Int)=L[i]:=ayK e;simp only[u,z];rw[hd,aU,bV (eH),aa,dn,show(i:Int)+1=((i+1:Nat):Int) by omega];by_cases h7:L[i].1=7
   .obtain⟨A,B⟩:=hF.up _ o h7;rw[fK h7,aa,bV (dV A B)];by_cases h5:(dw L AU L[i].2.2.2.1).1=5
    .have f:DV L L[i]:=⟨h7,h5⟩;obtain⟨D,k1⟩:=hF.at_ _ o f;have E:fD F L[i].2.1=true:=dV D k1;have G:dw F (0,([],(0,(0,())))) L[i].2.1=dw F PM L[i].2.1:=rfl;rw[show dw L (0,(0,(0,(0,())))) L[i].2.2.2.1=dw L AU L[i].2.2.2.1 from rfl,fK h5,aa];unfold JL;rw[am f];unfold DR;by_cases h2:kN x.1 L[i].2.2.2.1=2
     .rw[fK h2,aa,am h2];exact d x (by omega)
     .rw[dX h2,ac,aq h2];simp only[E,G,aa,aJU,eP,mW,iC,ay,Bool.and_self];rw[aBF hT.1 (by omega),bG];simp only;cases hgt:kD (dw F PM L[i].2.1).2.1 T with
      |none=>exact d (_,_) (Nat.le_succ_of_le l)
      |some v=>
       have O:=ajv hT hgt;have I: ∀y:Tok,dY (bT x.2 [y]) 32=true:=fun y=>lM (aB (bC 32 (show(bT x.2 [y]).length<=i+1 from by rw[show(bT x.2 [y]).length=x.2.length+1 from ai];exact Nat.succ_le_succ l)) (by omega));simp only[Option.isSome_some,au,ac,I,aa,Option.getD_some];rw[aJS (by omega),bG];simp only;have s:(x.2++[((6:Int),((dw F PM L[i].2.1).2.2.1,((dw F PM L[i].2.1).2.2.2.1,(false,()))))]).length<=i+1:=by simp;omega
       cases hbl:AZ v with
       |true=>exact d (_,_) s
       |false=>exact d (_,_) s
    .have f: ¬DV L L[i]:=fun h=>h5 h.2;rw[show dw L (0,(0,(0,(0,())))) L[i].2.2.2.1=dw L AU L[i].2.2.2.1 from rfl,dX h5,ac];unfold JL;rw[aq f];exact d x (by omega)
   .have f: ¬DV L L[i]:=fun h=>h7 h.1;rw[dX h7,ac];unfold JL;rw[aq f];exact d x (by omega)
  .rw[aV (by omega),dI (iG)];rfl
def GU (T:List ny) (F:List Lf) (L:List Nd):List Tok:=(L.foldl (JL T F L) ([],[])).2
theorem Td (T:List ny) (F:List Lf) (L:List Nd): ∀(l:List Nd) (x:List qm×List Tok),(l.foldl (JL T F L) x).2.length<=x.2.length+l.length
 |[],x=>ae _
 |d::l,x=>by
  have e:=Td T F L l (JL T F L x d);have f:=as7 T F L x d;rw[aU,aH];omega
theorem aCW {n b:Nat} {T:List ny} {a:Nat} (hT:Tab n a b T) (e:n<=10000) (hb:b<=10000) {s:List UInt8} {F:List Lf} {L:List Nd} {t:List Tok} {x:XY} (f:asK s=some (t,(x,()))) (h2:asL s t=some (F,())) (g:anO F=some (L,()))
  (hF:aCV L F) (hr:afh (GU T F L)=true) (c:Int):anM c T s=some ((c,(T,())),(GU T F L,())):=by
 have d:=WG hT e hb hF [] x.1 x.2.1 x.2.2.1 c bM 0 ([],[]) (dK (by have:=hF.len;omega)) (by omega) (ae _);have hl:=Td T F L L ([],[]);have h:=hF.len;rw[aJ]at d;rw[anM,f,bG];simp only;rw[h2,bG];simp only;rw[g,bG];simp only;rw[show vZ bM L (bI L) 0 L [] F [] x.1 x.2.1 x.2.2.1 [] c T=_ from d,bG];simp only[dN];rw[show(L.foldl (JL T F L) ([],[])).2=GU T F L from rfl,hr,lM (by unfold GU;simp at hl;omega)];rfl
def OW (T:List ny) (s:bZ):Nat->List Tok->bZ
 |at_,[]=>s.drop at_
 |at_,h::r=>(s.take h.2.1.toNat).drop at_++(kD (sub s h.2.1 h.2.2.1) T).getD []++OW T s h.2.2.1.toNat r
def GK (s:bZ):Nat->List Tok->Prop
 |at_,[]=>at_<=s.length
 |at_,h::r=>(at_:Int)<=h.2.1/\h.2.1<=h.2.2.1/\h.2.2.1<=s.length/\GK s h.2.2.1.toNat r
theorem SY {n b:Nat} {T:List ny} {a:Nat} (hT:Tab n a b T) (k:bZ):((kD k T).getD []).length<=b:=by
 cases h:kD k T with
 |none=>simp
 |some v=>exact ajv hT h
theorem WX {n b:Nat} {T:List ny} {a:Nat} (hT:Tab n a b T) (p:n<=10000) {s:List UInt8} {H:List Tok} (v:s.length<=10000) (x:H.length*b<=100000) (z:H.length<=100000) (c:Int):
  ∀(N i at_:Nat) (o:bZ),H.length-i<N->i<=H.length->GK s at_ (H.drop i)->o.length<=s.length+i*b->o.length<=at_+i*b->
  ∃(d:Nat) (o':bZ),MI N s (at_:Int) H (H.length:Int) (i:Int) (dD o) c T=some (.inl ((s,(d:Int),()),((),()),(dD o',(c,()),T,())))/\d<=s.length/\o'.length<=d+H.length*b/\o'++s.drop d=o++OW T s at_ (H.drop i)
 |0,i,at_,o,h,_,_,_,_=>by omega
 |N+1,i,at_,o,h,W,j,X,A=>by
  have Y:T.length<=10000:=aB hT.2.1.1 p;rw[MI,abQ];by_cases e:i<H.length
  .have hd:=aA e;rw[hd]at j ⊢;obtain⟨g1,g2,g3,g4⟩:=j;obtain⟨f,Z⟩:=aX (show 0<=H[i].2.1 by omega);obtain⟨t,l⟩:=aX (show 0<=H[i].2.2.1 by omega);have B:dw H (0,(0,(0,(false,())))) (i:Int)=H[i]:=by grind [dw]
   have ab:=SY hT (sub s H[i].2.1 H[i].2.2.1);have ad:(i+1)*b<=H.length*b:=bC b (by omega);have af:(i+1)*b=i*b+b:=Nat.succ_mul i b;simp only[B];rw[bV (eH),bV (dV),bV (fO (by omega) (by omega) (by rw[bK];omega)),aBF hT.1 (by omega),bG];simp only;have D:sub s (at_:Int) H[i].2.1=(s.take H[i].2.1.toNat).drop at_:=by simp[sub]
   have g:((s.take H[i].2.1.toNat).drop at_).length=f-at_:=by
    have E:f<=s.length:=by omega
    have G:H[i].2.1.toNat=f:=by omega
    rw[G,aP,List.length_take,Nat.min_eq_left E]
   have d:bT (dD o) (dD ((s.take H[i].2.1.toNat).drop at_))=dD (o++(s.take H[i].2.1.toNat).drop at_):=qo _ _;have I: ∀y:bZ,bT (dD (o++(s.take H[i].2.1.toNat).drop at_)) (dD y)=dD (o++(s.take H[i].2.1.toNat).drop at_++y):=fun y=>qo _ _;rw[bV (fO (by omega) (by omega) (by rw[bK];omega)),D,d,I,bV (CW (by rw[ai,g];omega)),bV (CW (by rw[ai,ai,g];omega)),dI (iG (by rw[bK,QZ,ai,ai,g];omega)),dn,show(i:Int)+1=((i+1:Nat):Int) by omega,l];have J:GK s t (H.drop (i+1)):=by rw[l]at g4;exact g4
   obtain⟨K,M,q,O,S,u⟩:=WX hT p v x z c N (i+1) t (o++(s.take H[i].2.1.toNat).drop at_++(kD (sub s H[i].2.1 H[i].2.2.1) T).getD []) (by omega) (by omega) J (by rw[ai,ai,g];omega) (by rw[ai,ai,g];omega);rw[l]at q u;refine⟨K,M,q,O,S, ?_⟩;rw[u,OW,l];simp only[ag,Int.ofNat_eq_natCast,aZ]
  .have U:H.drop i=[]:=aV (by omega);rw[U]at j ⊢;have V:i=H.length:=by omega
   rw[dI (iG)];exact⟨at_,o,rfl,j,by rw[<-V];exact A,rfl⟩
theorem aIu (t:bZ):ofBytes (dD t)=t:=IC t
theorem aC0 {n b:Nat} {T:List ny} {a:Nat} (hT:Tab n a b T) (g:n<=10000) {s:List UInt8} {H:List Tok} (h:s.length<=10000) (i:H.length*b<=100000) (j:H.length<=100000) (c:Int) (l:anM c T s=some ((c,(T,())),(H,()))) (o:GK s 0 H):
  ayo c T s=some ((c,(T,())),(OW T s 0 H,(0,()))):=by
 obtain⟨d,f,p,u,v,e⟩:=WX hT g h i j c bM 0 0 [] (dK) (by omega) o (by simp) (by simp);rw[aJ,aO]at e;rw[ayo,l,bG];simp only;rw[show MI bM s 0 H (bI H) 0 [] c T=_ from p,bG];simp only[dN];have q:sub s (d:Int) (bI s)=s.drop d:=by simp[sub,bK]
 have x:(s.drop d).length=s.length-d:=by simp
 rw[bV (fO (by omega) (by rw[bK];omega) (Int.le_refl _)),q,show bT (dD f) (dD (s.drop d))=dD (f++s.drop d) from qo _ _,e,bV (CW (by rw[<-e,ai];omega)),dI (iG (by rw[bK,QZ,<-e,ai];omega)),aIu]
end
section
open List renaming length_map → aK, length_drop → aP
open Nat renaming le_trans → aB
open Go.RowKit
theorem WI {s:List UInt8} (d:s.length<=10000):OkF (gp s (oq s).1):=by
 refine⟨?_,fun f e=> ?_⟩
 .have h:=(PS d).2.2;unfold gp;rw[aK];exact aB (List.length_filter_le _ _) (aB h d)
 .unfold gp at e;obtain⟨t,_,rfl⟩:=List.mem_map.1 e;refine aB ?_ d;unfold aBZ sub;simp only[List.length_take,aP];omega
theorem aFI {s:List UInt8} (d:s.length<=10000): ∃l,anO (gp s (oq s).1)=some (l,())/\anP (gp s (oq s).1)=some (l,())/\l.length<=16*(gp s (oq s).1).length+1/\ ∃m,l=(1,0,((gp s (oq s).1).length:Int),-1,())::m/\Tr (gp s (oq s).1) 0 (gp s (oq s).1).length 0 1 m:=
 ave (WI d)
end
section
open Int renaming eq_ofNat_of_zero_le → aX, toNat_natCast → aZ
open List renaming length_append → ai, mem_cons_of_mem → ak, map_cons → ax, mem_cons_self → aF, getElem_mem → aG, length_cons → aH, foldl_cons → aU
open Go.RowKit
structure TrG (F:List Lf) (a b:Nat) (u:Int) (k:Nat) (m:List Nd):Prop where
 lo: ∀x∈m,(a:Int)<=x.2.1
 hi: ∀x∈m,x.1=7->x.2.1+1<=(b:Int)
 row:m.Pairwise fun x y=>x.1=7->x.2.1+1<=y.2.1
 wd: ∀x∈m,x.1=7->x.2.2.1=x.2.1+1/\ ∃f:Nat,x.2.1=f/\ ∃h:f<F.length,F[f].1=6
 up: ∀x∈m,x.2.2.2.1=u\/(k:Int)<=x.2.2.2.1/\x.2.2.2.1<((k+m.length:Nat):Int)
theorem Tr.facts {F:List Lf} {a b:Nat} {u:Int} {k:Nat} {m:List Nd} (h:Tr F a b u k m):TrG F a b u k m:=by
 induction h with
 |nil h=>exact⟨by simp,by simp,List.Pairwise.nil,by simp,by simp⟩
 | @leaf a b f t u k kd m h1 hk hf h2 i=>
  have o:=h2.le;refine⟨?_, ?_, ?_, ?_, ?_⟩
  .intro x d;rcases List.mem_cons.1 d with rfl|d
   .show(a:Int)<=(f:Int);omega
   .have:=i.lo x d;omega
  .intro x d g;rcases List.mem_cons.1 d with rfl|d
   .have g:kd=7:=g;show(f:Int)+1<=(b:Int);omega
   .exact i.hi x d g
  .refine List.pairwise_cons.2 ⟨fun y l g=> ?_,i.row⟩;have g:kd=7:=g;have:=i.lo y l;show(f:Int)+1<=y.2.1;omega
  .intro x d g;rcases List.mem_cons.1 d with rfl|d
   .have g:kd=7:=g;obtain⟨g1,g2⟩:=hf (.inr g);exact⟨by show(t:Int)=(f:Int)+1;omega,f,rfl,g1,g2⟩
   .exact i.wd x d g
  .intro x d;rcases List.mem_cons.1 d with rfl|d
   .exact .inl rfl
   .rw[aH];exact(i.up x d).imp id fun⟨p,q⟩=>⟨by omega,by omega⟩
 | @node a b f t u k kd m n h1 hk h8 h h2 ih1 j=>
  have o:=h.le;have s:=h2.le;refine⟨?_, ?_, ?_, ?_, ?_⟩
  .intro x d;rcases List.mem_cons.1 d with rfl|d
   .show(a:Int)<=(f:Int);omega
   .rcases List.mem_append.1 d with d|d
    .have:=ih1.lo x d;omega
    .have:=j.lo x d;omega
  .intro x d g;rcases List.mem_cons.1 d with rfl|d
   .exact absurd g hk.2.2.2
   .rcases List.mem_append.1 d with d|d
    .have:=ih1.hi x d g;omega
    .exact j.hi x d g
  .refine List.pairwise_cons.2 ⟨fun y l g=>absurd g hk.2.2.2,List.pairwise_append.2 ⟨ih1.row,j.row,fun x d y l g=> ?_⟩⟩;have:=ih1.hi x d g;have:=j.lo y l;omega
  .intro x d g;rcases List.mem_cons.1 d with rfl|d
   .exact absurd g hk.2.2.2
   .rcases List.mem_append.1 d with d|d
    .exact ih1.wd x d g
    .exact j.wd x d g
  .intro x d;rw[aH,ai];rcases List.mem_cons.1 d with rfl|d
   .exact .inl rfl
   .rcases List.mem_append.1 d with d|d
    .exact .inr ((ih1.up x d).elim (fun e=>⟨by omega,by omega⟩) fun⟨p,q⟩=>⟨by omega,by omega⟩)
    .exact(j.up x d).imp id fun⟨p,q⟩=>⟨by omega,by omega⟩
structure PsG (F:List Lf) (L:List Nd):Prop where
 len:L.length<=1000000
 row:L.Pairwise fun x y=>x.1=7->x.2.1+1<=y.2.1
 wd: ∀x∈L,x.1=7->x.2.2.1=x.2.1+1/\ ∃f:Nat,x.2.1=f/\ ∃h:f<F.length,F[f].1=6
 up: ∀x∈L,x.1=7->0<=x.2.2.2.1/\x.2.2.2.1<L.length
theorem aIB {F:List Lf} (hF:OkF F) {m:List Nd} (h:Tr F 0 F.length 0 1 m) (hl:m.length<=900000):PsG F ((1,0,(F.length:Int),-1,())::m):=by
 have g:=h.facts;refine⟨by simp;omega,List.pairwise_cons.2 ⟨fun y i f=>absurd f (by show ¬((1:Int)=7);omega),g.row⟩, ?_, ?_⟩
 .intro x d f;rcases List.mem_cons.1 d with rfl|d
  .exact absurd f (by show ¬((1:Int)=7);omega)
  .exact g.wd x d f
 .intro x d f;rw[aH];rcases List.mem_cons.1 d with rfl|d
  .exact absurd f (by show ¬((1:Int)=7);omega)
  .rcases g.up x d with e|⟨p,q⟩<;>omega
theorem PsG.fine {F:List Lf} {L:List Nd} (h:PsG F L):aCV L F:=
 ⟨h.len,h.up,fun d hd i=>by
  obtain⟨_,f,e,g,_⟩:=h.wd d hd i.1;omega⟩
structure LvG (s:List UInt8) (F:List Lf):Prop where
 row:F.Pairwise fun x y=>x.2.2.2.1<=y.2.2.1
 in_: ∀x∈F,0<=x.2.2.1/\x.2.2.1<x.2.2.2.1/\x.2.2.2.1<=s.length
theorem ad9 {s:List UInt8} (g:s.length<=10000): ∀(n a:Nat) (l:List Tok) (x:XY),(l.Pairwise fun x y=>x.2.2.1<=y.2.1)->(∀t∈l,0<=t.2.1/\t.2.1<t.2.2.1/\t.2.2.1<=(a:Int))->a<=s.length->
  ((qN s n a l x).1.Pairwise fun x y=>x.2.2.1<=y.2.1)/\ ∀t∈(qN s n a l x).1,0<=t.2.1/\t.2.1<t.2.2.1/\t.2.2.1<=(s.length:Int)
 |0,a,l,x,f,e,h=>⟨f,fun t d=>by have:=e t d;omega⟩
 |n+1,a,l,x,f,e,h=>by
  rw[qN];split
  .rename_i i
   obtain⟨g1,g2,g3⟩:=AC g i x;refine ad9 g n _ _ _ (List.pairwise_append.2 ⟨f,List.pairwise_singleton _ _,fun y j z o=> ?_⟩) (fun t d=> ?_) (by omega)
   .rw[List.mem_singleton.1 o,g3];exact(e y j).2.2
   .rcases List.mem_append.1 d with d|d
    .have:=e t d;omega
    .rw[List.mem_singleton.1 d];omega
  .exact⟨f,fun t d=>by have:=e t d;omega⟩
theorem aIs {s:List UInt8} (d:s.length<=10000):LvG s (gp s (oq s).1):=by
 obtain⟨e,f⟩:=ad9 d (s.length+1) 0 [] (0,[],false,()) List.Pairwise.nil (by simp) (by omega);unfold gp oq;refine⟨List.pairwise_map.2 ((e.filter _).imp fun h=>h),fun x g=> ?_⟩;obtain⟨t,i,rfl⟩:=List.mem_map.1 g;exact f t (List.mem_filter.1 i).1
theorem aju {F:List Lf} {i:Nat} (h:i<F.length):dw F PM (i:Int)=F[i]:=by
 unfold dw;rw[aZ,List.getD_eq_getElem?_getD,List.getElem?_eq_getElem h];rfl
def NY (F:List Lf) (i:Nat):Tok:=(6,((dw F PM (i:Int)).2.2.1,((dw F PM (i:Int)).2.2.2.1,(false,()))))
theorem asV (T:List ny) (F:List Lf) (L:List Nd): ∀(l:List Nd) (x:List (Int×Int)×List Tok),l.foldl (JL T F L) x=(l.filter fun d=>decide (DV L d)).foldl (DR T F) x
 |[],x=>rfl
 |d::l,x=>by
  rw[aU,asV T F L l,List.filter_cons];unfold JL;by_cases h:DV L d
  .rw[am h,am (decide_eq_true h),aU]
  .rw[aq h,aq (by simp[h])]
theorem adG (T:List ny) (F:List Lf): ∀(l:List Nd) (x:List (Int×Int)×List Tok) (b:Int),(l.Pairwise fun x y=>x.2.1+1<=y.2.1)->(∀d∈l,b<=d.2.1/\ ∃f:Nat,d.2.1=f/\f<F.length)->
  ∃S:List Nat,(l.foldl (DR T F) x).2=x.2++S.map (NY F)/\(S.Pairwise fun i j=>i<j)/\ ∀i∈S,b<=(i:Int)/\i<F.length
 |[],x,b,_,_=>⟨[],by simp,List.Pairwise.nil,by simp⟩
 |d::l,x,b,p,h=>by
  obtain⟨q,s⟩:=List.pairwise_cons.1 p;obtain⟨hd,f,u,A⟩:=h d aF;obtain⟨S,g1,g2,g3⟩:=adG T F l (DR T F x d) (d.2.1+1) s (fun y o=>⟨q y o,(h y (ak _ o)).2⟩);rw[aU,g1];have v:(DR T F x d).2=x.2\/(DR T F x d).2=x.2++[NY F f]:=by
   unfold DR NY;split
   .exact .inl rfl
   .split
    .exact .inl rfl
    .rw[u];exact .inr rfl
  rcases v with e|e
  .exact⟨S,by rw[e],g2,fun i g=>by have:=g3 i g;omega⟩
  .refine⟨f::S,by rw[e];simp,List.pairwise_cons.2 ⟨fun j z=>by have:=g3 j z;omega,g2⟩,fun i g=> ?_⟩;rcases List.mem_cons.1 g with rfl|g
   .omega
   .have:=g3 i g;omega
theorem acv {s:List UInt8} {F:List Lf} (h:LvG s F) (l:s.length<=10000): ∀(S:List Nat) (a:Nat),(S.Pairwise fun i j=>i<j)->(∀i∈S,i<F.length)->(∀i∈S,(a:Int)<=(dw F PM (i:Int)).2.2.1)->a<=s.length->
  Xj (a:Int) (S.map (NY F))=true/\GK s a (S.map (NY F))
 |[],a,_,_,_,o=>⟨rfl,o⟩
 |i::S,a,y,hl,z,o=>by
  obtain⟨A,p⟩:=List.pairwise_cons.1 y;have e:=hl i aF;have f:=aju e;have g:=z i aF;obtain⟨g1,g2,g3⟩:=h.in_ F[i] (aG e);have u: ∀j∈S,F[i].2.2.2.1<=(dw F PM (j:Int)).2.2.1:=fun j d=>by
   have v:=hl j (ak _ d);have B:=aju v;rw[B];exact List.pairwise_iff_getElem.1 h.row i j e v (A j d)
  rw[f]at g;obtain⟨q,D⟩:=aX (show 0<=F[i].2.2.1 by omega);obtain⟨t,E⟩:=aX (show 0<=F[i].2.2.2.1 by omega);obtain⟨k1,_⟩:=acv h l S (q+1) p (fun j d=>hl j (ak _ d)) (fun j d=>by have:=u j d;omega) (by omega);obtain⟨_,k2⟩:=acv h l S t p (fun j d=>hl j (ak _ d)) (fun j d=>by have:=u j d;omega) (by omega);have x:(NY F i).2.1=F[i].2.2.1:=by unfold NY;rw[f]
  have G:(NY F i).2.2.1=F[i].2.2.2.1:=by unfold NY;rw[f]
  rw[ax];constructor
  .show(leI (a:Int) (NY F i).2.1&&(leI (NY F i).2.1 4611686018427387904&&Xj ((NY F i).2.1+1) (S.map (NY F))))=true;rw[x,lQ g,lQ,D];exact k1
  .rw[GK,x,G,E];exact⟨g,by omega,by omega,k2⟩
theorem anW {T:List ny} {s:List UInt8} (o:s.length<=10000) {F:List Lf} {L:List Nd} (hL:LvG s F) (hP:PsG F L):afh (GU T F L)=true/\GK s 0 (GU T F L):=by
 unfold GU;rw[asV];have p:(L.filter fun d=>decide (DV L d)).Pairwise fun x y=>x.2.1+1<=y.2.1:=by
  refine List.Pairwise.imp_of_mem (fun {x y} q A h=>h (of_decide_eq_true (List.mem_filter.1 q).2).1) (hP.row.filter _)
 obtain⟨S,g1,g2,g3⟩:=adG T F _ ([],[]) 0 p (fun d hd=>by
  obtain⟨u,v⟩:=List.mem_filter.1 hd;obtain⟨_,f,e,g,_⟩:=hP.wd d u (of_decide_eq_true v).1;exact⟨by omega,f,e,g⟩)
 rw[g1];have:=acv hL o S 0 g2 (fun i j=>(g3 i j).2) (fun i j=>by
  have l:=(g3 i j).2;have z:=aju l;rw[z];exact(hL.in_ _ (aG l)).1) (by omega)
 exact this
end
section
open Option renaming some → a6, none → a7
open Tryz
open Go.RowKit
noncomputable def b30:Code:=(f30.body).getD .skip
noncomputable def aBj:Code:=cA (cA (cB (cA (cB (cB (b30))))))
def aBO:eQ:=⟨[0,1,5,6,100003],[],[5],[],[4],[]⟩
def akM:SP:=⟨us [c7,bO,.u,.u,.u,bO,bO] 24,[]⟩
def ahn:SP:=⟨us [.u,.u,.u,.u,.u,bO] 25,[]⟩
def ahJ:SP:=⟨us cP 26,[]⟩
def ab1 {g:Type} (h:(List gJ)->Int->Int->Int->Option g) (j l:Int->Option g) (e:List gJ) (f i d:Int):Option g:=cond (gV d (bI e)) (cond (fD e d) (cond (leI (dw e (0,(0,(0,(0,())))) d).2.1 f) (cond (fD e d) (cond (gV f (dw e (0,(0,(0,(0,())))) d).2.2.1) (h e f d (di .i64 d 1))<|h e f i (di .i64 d 1)) a7)<|h e f i (di .i64 d 1)) a7)<|j i
def ML:Nat->(List gJ)->Int->Int->Int->Option (ahn.den⊕ahJ.den)
 |0,_,_,_,_=>a7
 |n+1,d,e,f,g=>ab1 (ML n) (fun h=>a6 (.inl ((h,()),()))) (fun i=>a6 (.inr ((i,()),()))) d e f g
def aEW (n:Nat) (v:akM.den):=aR (ML n) v
noncomputable def auz:dE:=fJ aBO akM ahn ahJ (.exit 0) (aEW bM) 6
def asO (d:List gJ) (e:Int):Option CQ:=bH (ML bM d e 0 0) fun f=>dN f (fun g=>a6 (g.1.1,())) (fun h=>a6 (h.1.1,()))
def aCo:Sum:=⟨[.list nK,dA],Ve,fun x=>asO x.1 x.2.1⟩
noncomputable def arv:Env:=iJ prog tt 30 [] [(3,aBO)] [(3,auz)]
def avJ {d:Type} (a:akM.den->Option d) (b:ahn.den->Option d) (c:ahJ.den->Option d) (v:akM.den):Option d:=aR (ab1 (aM a) (aE b) (aE c)) v
theorem aFs:dQ arv 30 aBj auz:=uV (avJ) (h2:=by intros;simp only[avJ,aM,aE,aR,ab1,cO,cZ,bG,bW,dh])
theorem aIa:dM arv 30 b30:=nV [aBj] (aD (fM (aFs)) aN)
theorem arw:eu arv:=eA f30 aN (aIa)
theorem axe:dU prog 30 aCo:=sA arw
noncomputable def b11:Code:=(f11.body).getD .skip
noncomputable def aqk:Code:=cA (cA (cB (cA (cB (cB (cB (cA (cA (cB (cA (cA (cB (cA (cB (cB (cB (cB (cB (b11)))))))))))))))))))
noncomputable def aBb:Code:=cA (cA (cB (cA (cB (cB (cB (cB (cB (b11)))))))))
def ato:eQ:=⟨[0,5,6,7,8,9,10,11,12,100012],[],[0,5,6,7,8,9,11],[],[4],[(4,Hu)]⟩
def aBG:eQ:=⟨[0,5,6,7,8,9,100006],[(8,Hu)],[8],[],[4],[(4,Hu)]⟩
def Zw:SP:=⟨us [eO,.u,.u,.u,.u,.v oG,c7,.slc 1000025,.slc 1800008,bO,bO,bO,bO] 131,dr⟩
def aai:SP:=⟨us [eO,.u,.u,.u,.u,.v oG,c7,.slc 1000025,.slc 1800008,bO,.u,bO] 132,dr⟩
def aaV:SP:=⟨us [.u,.u,.u,.u,cT] 139,[]⟩
def Qx {h:Type} (q:(List kW)->(List gu)->(List gJ)->Int->Int->Int->Int->(List sO)->(List (Bool))->Option h) (u:(List kW)->(List gu)->(List gJ)->Int->Int->(List sO)->(List (Bool))->Option h) (v:(List sO)->Option h) (i:List kW) (j:List gu) (d:List gJ) (f g s e:Int) (l:List sO) (o:List (Bool)):Option h:=cond (gV e f) (bH (asO d e) fun p=>cond (fD d p.1) (cond (bP (dw d (0,(0,(0,(0,())))) p.1).1 7) (cond (fD d p.1) (cond (fD d g) (cond (bP (dw d (0,(0,(0,(0,())))) p.1).2.2.2.1 (dw d (0,(0,(0,(0,())))) g).2.2.2.1) (q i j d f g e (di .i64 e 1) l o)<|q i j d f g s (di .i64 e 1) l o) a7) a7)<|q i j d f g s (di .i64 e 1) l o) a7)<|u i j d f s l o
def Fz:Nat->(List kW)->(List gu)->(List gJ)->Int->Int->Int->Int->(List sO)->(List (Bool))->Option (aai.den⊕aaV.den)
 |0,_,_,_,_,_,_,_,_,_=>a7
 |n+1,d,e,f,g,h,i,j,l,o=>Qx (Fz n) (fun p q s u v x y=>a6 (.inl ((p,q,s,u,v,()),(x,y,())))) (fun z=>a6 (.inr ((z,()),()))) d e f g h i j l o
def azj (n:Nat) (v:Zw.den):=Fz n v.1.1 v.1.2.1 v.1.2.2.1 v.1.2.2.2.1 v.1.2.2.2.2.1 v.1.2.2.2.2.2.1 v.1.2.2.2.2.2.2.1 v.2.1 v.2.2.1
noncomputable def ajX:dE:=fJ ato Zw aai aaV (.exit 2) (azj bM) 6
def akE:SP:=⟨us [eO,.u,.u,.u,.u,.v oG,c7,.slc 1000025,.slc 1800008,bO] 134,dr⟩
def ahf:SP:=⟨us [.u,.u,.u,.u,.u,.u,.u,.u,.slc 1800008] 135,[.arr 1800008 Hu]⟩
def ahB:SP:=⟨us [.u,.u,.u,.u,cT] 139,[]⟩
def abP {p:Type} (e:(List kW)->(List gu)->(List gJ)->Int->(List sO)->(List (Bool))->Option p) (s u:(List sO)->Option p) (l:List kW) (h:List gu) (f:List gJ) (g:Int) (j:List sO) (o:List (Bool)):Option p:=cond (gV g (bI h)) (bH (asO f g) fun i=>cond (fD h g) (cond (!(bP (dw h (0,([],(0,(0,())))) g).1 6)) (e l h f (di .i64 g 1) j o)<|cond (fD f i.1) (cond (!(bP (dw f (0,(0,(0,(0,())))) i.1).1 7)) (e l h f (di .i64 g 1) j o)<|cond (fD f i.1) (cond (fD f (dw f (0,(0,(0,(0,())))) i.1).2.2.2.1) (cond (!(bP (dw f (0,(0,(0,(0,())))) (dw f (0,(0,(0,(0,())))) i.1).2.2.2.1).1 5)) (e l h f (di .i64 g 1) j o)<|bH (Fz bM l h f g i.1 (-1) 0 j o) fun v=>dN v (fun d=>cond (fD d.1.2.1 d.1.2.2.2.1) (bH (adw d.1.1 (dw d.1.2.1 (0,([],(0,(0,())))) d.1.2.2.2.1).2.1) fun q=>cond (leI 0 d.1.2.2.2.2.1) (cond (fD d.2.2.1 d.1.2.2.2.2.1) (cond (lZ (dC d.1.2.2.2.2.1) d.2.2.1) (cond (dJ d.2.2.1 false (dC d.1.2.2.2.2.1)) (cond (fD d.1.2.1 d.1.2.2.2.2.1) (bH (adw d.1.1 (dw d.1.2.1 (0,([],(0,(0,())))) d.1.2.2.2.2.1).2.1) fun x=>bH (ayr x.1) fun y=>cond (bP q.2.1 1) (cond y.1 (cond (fD d.2.2.1 d.1.2.2.2.1) (cond (lZ (dC d.1.2.2.2.1) d.2.2.1) (cond (fD d.1.2.1 d.1.2.2.2.1) (cond (fD d.1.2.1 d.1.2.2.2.1) (cond (dY (bT d.2.1 [(6,((dw d.1.2.1 (0,([],(0,(0,())))) d.1.2.2.2.1).2.2.1,((dw d.1.2.1 (0,([],(0,(0,())))) d.1.2.2.2.1).2.2.2.1,(false,()))))]) 32) (e d.1.1 d.1.2.1 d.1.2.2.1 (di .i64 d.1.2.2.2.1 1) (bT d.2.1 [(6,((dw d.1.2.1 (0,([],(0,(0,())))) d.1.2.2.2.1).2.2.1,((dw d.1.2.1 (0,([],(0,(0,())))) d.1.2.2.2.1).2.2.2.1,(false,()))))]) (gX d.2.2.1 (dC d.1.2.2.2.1) true)) a7) a7) a7) a7) a7)<|e d.1.1 d.1.2.1 d.1.2.2.1 (di .i64 d.1.2.2.2.1 1) d.2.1 d.2.2.1)<|e d.1.1 d.1.2.1 d.1.2.2.1 (di .i64 d.1.2.2.2.1 1) d.2.1 d.2.2.1) a7)<|cond (bP q.2.1 1) (cond (gV d.1.2.2.2.2.1 0) (cond (fD d.2.2.1 d.1.2.2.2.1) (cond (lZ (dC d.1.2.2.2.1) d.2.2.1) (cond (fD d.1.2.1 d.1.2.2.2.1) (cond (fD d.1.2.1 d.1.2.2.2.1) (cond (dY (bT d.2.1 [(6,((dw d.1.2.1 (0,([],(0,(0,())))) d.1.2.2.2.1).2.2.1,((dw d.1.2.1 (0,([],(0,(0,())))) d.1.2.2.2.1).2.2.2.1,(false,()))))]) 32) (e d.1.1 d.1.2.1 d.1.2.2.1 (di .i64 d.1.2.2.2.1 1) (bT d.2.1 [(6,((dw d.1.2.1 (0,([],(0,(0,())))) d.1.2.2.2.1).2.2.1,((dw d.1.2.1 (0,([],(0,(0,())))) d.1.2.2.2.1).2.2.2.1,(false,()))))]) (gX d.2.2.1 (dC d.1.2.2.2.1) true)) a7) a7) a7) a7) a7)<|e d.1.1 d.1.2.1 d.1.2.2.1 (di .i64 d.1.2.2.2.1 1) d.2.1 d.2.2.1)<|e d.1.1 d.1.2.1 d.1.2.2.1 (di .i64 d.1.2.2.2.1 1) d.2.1 d.2.2.1) a7) a7)<|cond (bP q.2.1 1) (cond (gV d.1.2.2.2.2.1 0) (cond (fD d.2.2.1 d.1.2.2.2.1) (cond (lZ (dC d.1.2.2.2.1) d.2.2.1) (cond (fD d.1.2.1 d.1.2.2.2.1) (cond (fD d.1.2.1 d.1.2.2.2.1) (cond (dY (bT d.2.1 [(6,((dw d.1.2.1 (0,([],(0,(0,())))) d.1.2.2.2.1).2.2.1,((dw d.1.2.1 (0,([],(0,(0,())))) d.1.2.2.2.1).2.2.2.1,(false,()))))]) 32) (e d.1.1 d.1.2.1 d.1.2.2.1 (di .i64 d.1.2.2.2.1 1) (bT d.2.1 [(6,((dw d.1.2.1 (0,([],(0,(0,())))) d.1.2.2.2.1).2.2.1,((dw d.1.2.1 (0,([],(0,(0,())))) d.1.2.2.2.1).2.2.2.1,(false,()))))]) (gX d.2.2.1 (dC d.1.2.2.2.1) true)) a7) a7) a7) a7) a7)<|e d.1.1 d.1.2.1 d.1.2.2.1 (di .i64 d.1.2.2.2.1 1) d.2.1 d.2.2.1)<|e d.1.1 d.1.2.1 d.1.2.2.1 (di .i64 d.1.2.2.2.1 1) d.2.1 d.2.2.1) a7) (fun z=>u z.1.1)) a7) a7) a7) a7)<|s j
def MH:Nat->(List kW)->(List gu)->(List gJ)->Int->(List sO)->(List (Bool))->Option (ahf.den⊕ahB.den)
 |0,_,_,_,_,_,_=>a7
 |n+1,d,e,f,g,h,i=>abP (MH n) (fun j=>a6 (.inl ((),(j,())))) (fun l=>a6 (.inr ((l,()),()))) d e f g h i
def aEO (n:Nat) (v:akE.den):=MH n v.1.1 v.1.2.1 v.1.2.2.1 v.1.2.2.2.1 v.2.1 v.2.2.1
noncomputable def aur:dE:=fJ aBG akE ahf ahB (.exit 0) (aEO bM) 12
def anN (e:List kW) (f:bZ):Option ((List sO)×Unit):=bH (asN f) fun d=>bH (anP d.1) fun g=>cond ((leI 0 (bI d.1))&&((leI (bI d.1) (bI d.1))&&(ak8 (bI d.1) 1))) (bH (MH bM e d.1 g.1 0 [] (aoz (dC (bI d.1)) false)) fun h=>dN h (fun i=>a6 (i.2.1,())) (fun b3=>a6 (b3.1.1,()))) a7
def awk:Sum:=⟨[LD,.str],[(.list Hu,false)],fun x=>anN x.1 x.2.1⟩
noncomputable def aiL:Env:=iJ prog tt 11 [(16,aCj),(28,aCm),(29,aCn),(30,aCo),(31,amm)] [(12,ato),(6,aBG)] [(12,ajX),(6,aur)]
def alk {d:Type} (a:Zw.den->Option d) (b:aai.den->Option d) (c:aaV.den->Option d) (v:Zw.den):Option d:=Qx (fun e f g h i j l o p=>a ((e,f,g,h,i,j,l,()),(o,p,()))) (fun q s u x y z A=>b ((q,s,u,x,y,()),(z,A,()))) (aE c) v.1.1 v.1.2.1 v.1.2.2.1 v.1.2.2.2.1 v.1.2.2.2.2.1 v.1.2.2.2.2.2.1 v.1.2.2.2.2.2.2.1 v.2.1 v.2.2.1
theorem az8:dQ aiL 11 aqk ajX:=uV (alk) (h2:=by intros;simp only[alk,aE,Qx,cO,cZ,bG,bW,dh])
def avA {d:Type} (a:akE.den->Option d) (b:ahf.den->Option d) (c:ahB.den->Option d) (v:akE.den):Option d:=abP (fun e f g h i j=>a ((e,f,g,h,()),(i,j,()))) (fun l=>b ((),(l,()))) (aE c) v.1.1 v.1.2.1 v.1.2.2.1 v.1.2.2.2.1 v.2.1 v.2.2.1
theorem aFk:dQ aiL 11 aBb aur:=uV (avA) (h2:=by intros;simp only[avA,aE,abP,cO,cZ,bG,bW,dh])
theorem aH1:dM aiL 11 b11:=nV [aqk,aBb] (aD (fM (az8)) (aD (fM (aFk)) aN))
theorem aq8:eu aiL:=eA f11 (aD awH (aD axc (aD axd (aD axe (aD UX aN))))) (aH1)
theorem afk:dU prog 11 awk:=sA aq8
noncomputable def b13:Code:=(f13.body).getD .skip
noncomputable def aBd:Code:=cA (cA (cB (cA (cB (cB (cB (cB (b13))))))))
def aBI:eQ:=⟨[0,1,5,6,7,8,100005],[],[1,6,7],[],[4],[]⟩
def akG:SP:=⟨us [eO,bR,.u,.u,.u,cT,bR,bO,bO] 50,[]⟩
def ahh:SP:=⟨us [.u,bR,.u,.u,.u,.u,bR,bO] 51,[]⟩
def ahD:SP:=⟨us [.u,.u,.u,.u,bR] 54,[]⟩
def abR {h:Type} (o:(List kW)->bZ->(List sO)->bZ->Int->Int->Option h) (p:bZ->bZ->Int->Option h) (q:bZ->Option h) (j:List kW) (f:bZ) (d:List sO) (i:bZ) (g e:Int):Option h:=cond (gV e (bI d)) (cond (fD d e) (cond (fD d e) (cond (fE (bI f) (dw d (0,(0,(0,(false,())))) e).2.1 (dw d (0,(0,(0,(false,())))) e).2.2.1) (bH (adw j (sub f (dw d (0,(0,(0,(false,())))) e).2.1 (dw d (0,(0,(0,(false,())))) e).2.2.1)) fun l=>cond (fD d e) (cond (fE (bI f) g (dw d (0,(0,(0,(false,())))) e).2.1) (cond (iH i (sub f g (dw d (0,(0,(0,(false,())))) e).2.1)) (cond (iH (bT i (sub f g (dw d (0,(0,(0,(false,())))) e).2.1)) l.1) (cond (fD d e) (o j f d (bT (bT i (sub f g (dw d (0,(0,(0,(false,())))) e).2.1)) l.1) (dw d (0,(0,(0,(false,())))) e).2.2.1 (di .i64 e 1)) a7) a7) a7) a7) a7) a7) a7) a7)<|p f i g
def MJ:Nat->(List kW)->bZ->(List sO)->bZ->Int->Int->Option (ahh.den⊕ahD.den)
 |0,_,_,_,_,_,_=>a7
 |n+1,d,e,f,g,h,i=>abR (MJ n) (fun j l o=>a6 (.inl ((j,l,o,()),()))) (fun p=>a6 (.inr ((p,()),()))) d e f g h i
def aEQ (n:Nat) (v:akG.den):=MJ n v.1.1 v.1.2.1 v.1.2.2.1 v.1.2.2.2.1 v.1.2.2.2.2.1 v.1.2.2.2.2.2.1
noncomputable def aut:dE:=fJ aBI akG ahh ahD (.exit 0) (aEQ bM) 6
def ayp (e:List kW) (f:bZ):Option (bZ×Unit):=bH (anN e f) fun g=>bH (MJ bM e f g.1 [] 0 0) fun h=>dN h (fun d=>cond (fE (bI d.1.1) d.1.2.2.1 (bI d.1.1)) (cond (iH d.1.2.1 (sub d.1.1 d.1.2.2.1 (bI d.1.1))) (a6 ((bT d.1.2.1 (sub d.1.1 d.1.2.2.1 (bI d.1.1))),())) a7) a7) (fun i=>a6 (i.1.1,()))
def aCh:Sum:=⟨[LD,.str],tzI,fun x=>ayp x.1 x.2.1⟩
noncomputable def arb:Env:=iJ prog tt 13 [(11,awk),(31,amm)] [(5,aBI)] [(5,aut)]
def avD {d:Type} (a:akG.den->Option d) (b:ahh.den->Option d) (c:ahD.den->Option d) (v:akG.den):Option d:=abR (fun e f g h i j=>a ((e,f,g,h,i,j,()),())) (a8 b) (aE c) v.1.1 v.1.2.1 v.1.2.2.1 v.1.2.2.2.1 v.1.2.2.2.2.1 v.1.2.2.2.2.2.1
theorem aFm:dQ arb 13 aBd aut:=uV (avD) (h2:=by intros;simp only[avD,a8,aE,abR,cO,cZ,bG,bW,dh])
theorem aH3:dM arb 13 b13:=nV [aBd] (aD (fM (aFm)) aN)
theorem arc:eu arb:=eA f13 (aD afk (aD UX aN)) (aH3)
theorem aww:dU prog 13 aCh:=sA arc
noncomputable def b9:Code:=(f9.body).getD .skip
noncomputable def aHk:Code:=cA (cA (cB (cA (cB (cB (b9))))))
def aHQ:eQ:=⟨[0,1,5,6,100003],[(5,.pair .unit Vp)],[5],[],[4],[(4,Vp)]⟩
def aAJ:SP:=⟨us [bO,eO,.u,.u,.u,eO,bO] 23,[]⟩
def avc:SP:=⟨us [.u,.u,.u,.u,.u,eO] 24,[]⟩
def avg:SP:=⟨us [.u,.u,.u,.u,eO] 25,[]⟩
def al5 {f:Type} (i:Int->(List kW)->(List kW)->Int->Option f) (j o:(List kW)->Option f) (g:Int) (d h:List kW) (e:Int):Option f:=cond (gV e (bI d)) (cond (fD d e) (cond (fD d e) (bH (ayt g h (dw d ([],([],())) e).1 (dw d ([],([],())) e).2.1) fun l=>i g d l.1 (di .i64 e 1)) a7) a7)<|j h
def WN:Nat->Int->(List kW)->(List kW)->Int->Option (avc.den⊕avg.den)
 |0,_,_,_,_=>a7
 |n+1,d,e,f,g=>al5 (WN n) (fun h=>a6 (.inl ((h,()),()))) (fun i=>a6 (.inr ((i,()),()))) d e f g
def aIr (n:Nat) (v:aAJ.den):=aR (WN n) v
noncomputable def aB1:dE:=fJ aHQ aAJ avc avg (.exit 0) (aIr bM) 6
def fn9 (d:Int) (e:List kW):Option ((List kW)×Unit):=bH (WN bM d e [] 0) fun f=>dN f (fun g=>a6 (g.1.1,())) (fun h=>a6 (h.1.1,()))
def aIS:Sum:=⟨[dA,LD],[(.list Vp,false)],fun x=>fn9 x.1 x.2.1⟩
noncomputable def aDD:Env:=iJ prog tt 9 [(19,aCk)] [(3,aHQ)] [(3,aB1)]
def aB7 {d:Type} (a:aAJ.den->Option d) (b:avc.den->Option d) (c:avg.den->Option d) (v:aAJ.den):Option d:=aR (al5 (aM a) (aE b) (aE c)) v
theorem aIx:dQ aDD 9 aHk aB1:=uV (aB7) (h2:=by intros;simp only[aB7,aM,aE,aR,al5,cO,cZ,bG,bW,dh])
theorem aJZ:dM aDD 9 b9:=nV [aHk] (aD (fM (aIx)) aN)
theorem ayd:eu aDD:=eA f9 (aD awO aN) (aJZ)
theorem aAY:dU prog 9 aIS:=sA ayd
noncomputable def b7:Code:=(f7.body).getD .skip
noncomputable def aHj:Code:=cA (cA (cB (cA (cB (cB (b7))))))
def aHP:eQ:=⟨[0,3,100004],[],[],[],[2],[]⟩
def aAI:SP:=⟨us [eO,.u,.u,bO] 25,[]⟩
def avb:SP:=⟨us [] 29,[]⟩
def avf:SP:=⟨us [.u,.u,ca] 26,[]⟩
def al4 {f:Type} (h:(List kW)->Int->Option f) (i:Option f) (g:Bool->Option f) (d:List kW) (e:Int):Option f:=cond (gV e (bI d)) (cond (fD d e) (cond (gV 40 (bI (dw d ([],([],())) e).1)) (g false)<|cond (fD d e) (cond (gV 60 (bI (dw d ([],([],())) e).2.1)) (g false)<|h d (di .i64 e 1)) a7) a7) i
def OC:Nat->(List kW)->Int->Option (avb.den⊕avf.den)
 |0,_,_=>a7
 |n+1,d,e=>al4 (OC n) (a6 (.inl ((),()))) (fun f=>a6 (.inr ((f,()),()))) d e
def aIq (n:Nat) (v:aAI.den):=OC n v.1.1 v.1.2.1
noncomputable def aB0:dE:=fJ aHP aAI avb avf (.exit 0) (aIq bM) 6
def fn7 (d:List kW):Option pq:=cond (gV 10 (bI d)) (a6 (false,()))<|bH (OC bM d 0) fun e=>dN e (fun g=>a6 (true,())) (fun f=>a6 (f.1.1,()))
def aIQ:Sum:=⟨[LD],NZ,fun x=>fn7 x.1⟩
noncomputable def aDC:Env:=iJ prog tt 7 [] [(4,aHP)] [(4,aB0)]
def aB6 {d:Type} (a:aAI.den->Option d) (b:avb.den->Option d) (c:avf.den->Option d) (v:aAI.den):Option d:=al4 (aL a) (b ((),())) (aE c) v.1.1 v.1.2.1
theorem aIw:dQ aDC 7 aHj aB0:=uV (aB6) (h2:=by intros;simp only[aB6,aL,aE,al4,cO,cZ,bG,bW,dh])
theorem aJY:dM aDC 7 b7:=nV [aHj] (aD (fM (aIw)) aN)
theorem ayc:eu aDC:=eA f7 aN (aJY)
theorem aAX:dU prog 7 aIQ:=sA ayc
end
section
open Int renaming eq_ofNat_of_zero_le → aX
open List renaming getElem_mem → aG
open Go.RowKit
def qQ (L:List Nd) (leaf:Int):Nat->Int
 |0=>0
 |k+1=>if(dw L AU (k:Int)).2.1<=leaf/\leaf<(dw L AU (k:Int)).2.2.1 then(k:Int)else qQ L leaf k
theorem Ym (L:List Nd) (leaf:Int): ∀k,qQ L leaf k=0\/(0<=qQ L leaf k/\qQ L leaf k<k/\(dw L AU (qQ L leaf k)).2.1<=leaf/\leaf<(dw L AU (qQ L leaf k)).2.2.1)
 |0=>.inl rfl
 |k+1=>by
  rw[qQ];split
  .rename_i h
   exact .inr ⟨by omega,by omega,h⟩
  .rcases Ym L leaf k with h|⟨d,f,e⟩
   .exact .inl h
   .exact .inr ⟨d,by omega,e⟩
theorem RQ {L:List Nd} (hl:L.length<=1000000) (leaf:Int): ∀(N k:Nat),L.length-k<N->k<=L.length->ML N L leaf (qQ L leaf k) (k:Int)=some (.inl ((qQ L leaf L.length,()),()))
 |0,k,h,_=>by omega
 |N+1,k,h,hk=>by
  rw[ML,ab1];by_cases e:k<L.length
  .have f:fD L (k:Int)=true:=dV;have d:=RQ hl leaf N (k+1) (by omega) (by omega);simp only[f,aa];rw[bV (eH (by rw[bK];omega)),show dw L (0,(0,(0,(0,())))) (k:Int)=dw L AU (k:Int) from rfl,dn,show(k:Int)+1=((k+1:Nat):Int) by omega];rw[qQ]at d;by_cases h1:(dw L AU (k:Int)).2.1<=leaf
   .rw[bV (lQ h1)];by_cases h2:leaf<(dw L AU (k:Int)).2.2.1
    .rw[bV (eH h2)];rw[am ⟨h1,h2⟩]at d;exact d
    .rw[dI (ig h2)];rw[aq (fun h=>h2 h.2)]at d;exact d
   .rw[dI (zX h1)];rw[aq (fun h=>h1 h.1)]at d;exact d
  .rw[dI (iG (by rw[bK];omega)),show k=L.length by omega]
theorem aiq {L:List Nd} (hl:L.length<=1000000) (leaf:Int):asO L leaf=some (qQ L leaf L.length,()):=by
 rw[asO,show ML bM L leaf 0 0=_ from RQ hl leaf bM 0 (dK) (by omega)];rfl
theorem LK {L:List Nd} (hL:0<L.length) (leaf:Int):0<=qQ L leaf L.length/\qQ L leaf L.length<L.length:=by
 rcases Ym L leaf L.length with h|⟨d,e,_⟩<;>omega
section
variable {F:List Lf} {L:List Nd} (hP:PsG F L) (h0:(dw L AU 0).1≠7) (hL:0<L.length)
include hP h0 hL
omit h0 hL in
theorem acY {j:Nat} (d:j<L.length) (f:L[j].1=7): ∀k,j<k->k<=L.length->qQ L L[j].2.1 k=(j:Int)
 |0,h,_=>by omega
 |k+1,h,hk=>by
  rw[qQ,ayK (show k<L.length by omega)];by_cases e:k=j
  .subst e;have:=(hP.wd _ (aG d) f).1;rw[am ⟨Int.le_refl _,by omega⟩]
  .have:=List.pairwise_iff_getElem.1 hP.row j k d (by omega) (by omega) f;rw[aq (by omega)];exact acY d f k (by omega) (by omega)
theorem aqZ {i:Int} (d:(dw L AU (qQ L i L.length)).1=7):(dw L AU (qQ L i L.length)).2.1=i/\dw L AU (qQ L i L.length)∈L:=by
 obtain⟨g,j⟩:=LK hL i;have e:dw L AU (qQ L i L.length)∈L:=by
  obtain⟨c,f⟩:=aX g;rw[f]at j;rw[f];have l:c<L.length:=by omega
  rw[ayK l];exact aG _
 rcases Ym L i L.length with h|⟨o,p,q,s⟩
 .rw[h]at d;exact absurd d h0
 .have:=(hP.wd _ e d).1;exact⟨by omega,e⟩
end
def acJ (L:List Nd) (d:Int):Nat->Int
 |0=> -1
 |k+1=>if(dw L AU (qQ L (k:Int) L.length)).1=7/\(dw L AU (qQ L (k:Int) L.length)).2.2.2.1=d then(k:Int)else acJ L d k
theorem acK {F:List Lf} {L:List Nd} (hP:PsG F L) (h0:(dw L AU 0).1≠7) (hL:0<L.length) (T:List ny) {i:Nat} (hi:i<=10000) {c:Int} (g:fD L c=true) (out:List Tok) (f:List Bool): ∀(N k:Nat),i-k<N->k<=i->
  Fz N T F L (i:Int) c (acJ L (dw L AU c).2.2.2.1 k) (k:Int) out f=some (.inl ((T,F,L,(i:Int),acJ L (dw L AU c).2.2.2.1 i,()),(out,f,())))
 |0,k,h,_=>by omega
 |N+1,k,h,hk=>by
  rw[Fz,Qx];by_cases e:k<i
  .have d:=acK hP h0 hL T hi g out f N (k+1) (by omega) (by omega);obtain⟨j,l⟩:=LK hL (k:Int);have o:fD L (qQ L (k:Int) L.length)=true:=dV j l;rw[bV (eH),aiq hP.len,bG];simp only[o,g,aa];rw[show ∀z:Int,dw L (0,(0,(0,(0,())))) z=dw L AU z from fun _=>rfl,dn,show(k:Int)+1=((k+1:Nat):Int) by omega];rw[acJ]at d;by_cases h7:(dw L AU (qQ L (k:Int) L.length)).1=7
   .rw[bV (fK h7),show dw L (0,(0,(0,(0,())))) c=dw L AU c from rfl];by_cases hu:(dw L AU (qQ L (k:Int) L.length)).2.2.2.1=(dw L AU c).2.2.2.1
    .rw[bV (fK hu)];rw[am ⟨h7,hu⟩]at d;exact d
    .rw[dI (dX hu)];rw[aq (fun h=>hu h.2)]at d;exact d
   .rw[dI (dX h7)];rw[aq (fun h=>h7 h.1)]at d;exact d
  .rw[dI (iG),show k=i by omega]
def aCY (T:List ny) (F:List Lf) (L:List Nd) (i:Nat) (M:List (Int×Int)) (e:List Bool):Prop:= ∀d:Int,(dw L AU d).1=5->
 (acJ L d i= -1/\kN M d=0)\/ ∃b:Nat,b<i/\acJ L d i=(b:Int)/\kN M d=if e.getD b false=true/\AZ ((kD (dw F PM (b:Int)).2.1 T).getD [])=true then 1 else 2
def isH (T:List ny) (F:List Lf) (x:List (Int×Int)×List Tok) (d:Nd):Bool:=decide (kN x.1 d.2.2.2.1≠2)&&(kD (dw F PM d.2.1).2.1 T).isSome
theorem as8 (T:List ny) (F:List Lf) (x:List (Int×Int)×List Tok) (d:Nd):(DR T F x d).2=if isH T F x d=true then x.2++[(6,((dw F PM d.2.1).2.2.1,((dw F PM d.2.1).2.2.2.1,(false,()))))]else x.2:=by
 unfold DR isH;by_cases h:kN x.1 d.2.2.2.1=2
 .simp[h]
 .cases hg:kD (dw F PM d.2.1).2.1 T with
  |none=>simp[h]
  |some v=>simp[h]
theorem ayL (T:List ny) (F:List Lf) (x:List (Int×Int)×List Tok) (d:Nd) (u:Int):kN (DR T F x d).1 u=if u=d.2.2.2.1 then(if isH T F x d=true/\AZ ((kD (dw F PM d.2.1).2.1 T).getD [])=true then 1 else 2)else kN x.1 u:=by
 unfold DR isH;by_cases h:kN x.1 d.2.2.2.1=2
 .rw[am h];split
  .rename_i e;subst e;simp[h]
  .rfl
 .rw[aq h];cases hg:kD (dw F PM d.2.1).2.1 T with
  |none=>simp only[LC];simp
  |some v=>
   simp only;by_cases hb:AZ v=true
   .simp only[am hb,LC];split<;>simp[h,hb]
   .simp only[aq hb,LC];split<;>simp[hb]
theorem adD (l:List Bool) (i b:Nat) (h:b≠i):(gX l i true).getD b false=l.getD b false:=by
 unfold gX;rw[List.getD_eq_getElem?_getD,List.getD_eq_getElem?_getD,List.getElem?_set_ne (fun e=>h e.symm)]
theorem getD_at (l:List Bool) (i:Nat) (h:i<l.length):(gX l i true).getD i false=true:=by
 unfold gX;rw[List.getD_eq_getElem?_getD,List.getElem?_set_self h];rfl
theorem aJR {v:List UInt8} (g:v.length<=1000000):ayr v=some (AZ v,()):=by
 rw[ayr];by_cases h:v=[]
 .subst h;rfl
 .have h0:0<v.length:=List.length_pos_iff.2 h;have d:=(last_at h).resolve_right (by omega);have e:fD v (eU .i64 (bI v) 1)=true:=by
   rw[bK,iw];exact dV
  rw[bV (eH (by rw[bK];omega)),e,aa,d,aa];unfold AZ o8 bP;generalize ((v.getLastD 0).toNat:Int)=b;by_cases h1:b=32
  .subst h1;rfl
  .have f:(b==32)=false:=by simpa using h1
   rw[f,decide_eq_false h1];rfl
end
section
open Bool renaming not_true → au, not_false → az
open List renaming length_append → ai, mem_cons_of_mem → ak, mem_cons_self → aF, foldl_cons → aU, length_singleton → bu
open Nat renaming le_refl → ae, le_trans → aB, mul_le_mul_right → bC
open Go.RowKit
theorem ayJ (L:List Nd) (z:Int):dw L (0,(0,(0,(0,())))) z=dw L AU z:=rfl
theorem ajt (F:List Lf) (z:Int):dw F (0,([],(0,(0,())))) z=dw F PM z:=rfl
theorem RV {n b:Nat} {T:List ny} {a:Nat} (hT:Tab n a b T) (Y:n<=10000) (hb:b<=10000) {F:List Lf} {L:List Nd} (hP:PsG F L) (h0:(dw L AU 0).1≠7) (hL:0<L.length) (hF:F.length<=10000):
  ∀(N i:Nat) (R:List Nd) (x:List (Int×Int)×List Tok) (g:List Bool),F.length-i<N->i<=F.length->(R.Pairwise fun x y=>x.2.1+1<=y.2.1)->(∀d∈R,d∈L/\DV L d/\(i:Int)<=d.2.1)->(∀d∈L,DV L d->(i:Int)<=d.2.1->d∈R)->
  aCY T F L i x.1 g->x.2.length<=i->g.length=F.length->(∀k,i<=k->g.getD k false=false)->
  MH N T F L (i:Int) x.2 g=some (.inl ((),((R.foldl (DR T F) x).2,())))
 |0,i,R,x,g,h,_,_,_,_,_,_,_,_=>by omega
 |N+1,i,R,x,g,h,hi,S,K,Z,hI,hx,hl,U=>by
  have aY:T.length<=10000:=aB hT.2.1.1 Y;rw[MH,abP];by_cases e:i<F.length
  .obtain⟨c0,c1⟩:=LK hL (i:Int);have af:fD F (i:Int)=true:=dV;have ag:fD L (qQ L (i:Int) L.length)=true:=dV c0 c1;have E:dw F PM (i:Int)=F[i]:=aju e;rw[bV (eH (by rw[bK];omega)),aiq hP.len,bG];simp only[af,ag,aa,ayJ,ajt];rw[dn (a:=(i:Int)) (by omega) (by omega),show(i:Int)+1=((i+1:Nat):Int) by omega];by_cases hW:DV L (dw L AU (qQ L (i:Int) L.length))
   .
    obtain⟨hf,G⟩:=aqZ hP h0 hL hW.1;obtain⟨d,hd⟩: ∃d,d=dw L AU (qQ L (i:Int) L.length):=⟨_,rfl⟩;rw[<-hd]at hW hf G;obtain⟨_,f,ab,aZ,V⟩:=hP.wd d G hW.1;obtain rfl:f=i:=by omega
    obtain⟨u0,u1⟩:=hP.up d G hW.1;have aw:fD L d.2.2.2.1=true:=dV u0 u1;have ah:=Z d G hW (by omega);obtain⟨u,rfl⟩: ∃u,R=d::u:=by
     cases R with
     |nil=>cases ah
     |cons y u=>
      rcases List.mem_cons.1 ah with z|z
      .exact⟨u,by rw[z]⟩
      .have g1:=(List.pairwise_cons.1 S).1 d z;have g2:=(K y aF).2.2;omega
    have ax:=(List.pairwise_cons.1 S).2;have ay:=(List.pairwise_cons.1 S).1;have k1: ∀y∈u,y∈L/\DV L y/\((f+1:Nat):Int)<=y.2.1:=fun y p=>⟨(K y (ak _ p)).1,(K y (ak _ p)).2.1,by have:=ay y p;omega⟩;have k2: ∀y∈L,DV L y->((f+1:Nat):Int)<=y.2.1->y∈u:=fun y p hw aj=>by
     rcases List.mem_cons.1 (Z y p hw (by omega))with z|z
     .rw[z]at aj;omega
     .exact z
    have al:=acK hP h0 hL T (i:=f) (by omega) ag x.2 g bM 0 (dK) (by omega);rw[<-hd]at al;have aA: ∀o,o=(if isH T F x d=true then gX g f true else g)->aCY T F L (f+1) (DR T F x d).1 o:=fun o I M J=>by
     have aG:o.getD f false=isH T F x d:=by
      rw[I];cases W:isH T F x d with
      |true=>rw[am rfl];exact getD_at g f (by omega)
      |false=>rw[aq (by simp)];exact U f (ae _)
     have ad: ∀q,q<f->o.getD q false=g.getD q false:=fun q W=>by
      rw[I];split
      .exact adD g f q (by omega)
      .rfl
     have an:=ayL T F x d M;rw[acJ,<-hd];by_cases hu:d.2.2.2.1=M
     .rw[am ⟨hW.1,hu⟩];right;refine⟨f,by omega,rfl, ?_⟩;rw[an,am hu.symm,aG,ab]
     .rw[aq (fun h=>hu h.2),an,aq (fun h=>hu h.symm)];rcases hI M J with ⟨A,s⟩|⟨q,A,s,B⟩
      .exact .inl ⟨A,s⟩
      .exact .inr ⟨q,by omega,s,by rw[B,ad q A]⟩
    have aH: ∀o,o=(if isH T F x d=true then gX g f true else g)->o.length=F.length:=fun o I=>by
     rw[I];split
     .unfold gX;rw[List.length_set];exact hl
     .exact hl
    have aI: ∀o,o=(if isH T F x d=true then gX g f true else g)-> ∀k,f+1<=k->o.getD k false=false:=fun o I k hk=>by
     rw[I];split
     .rw[adD g f k (by omega)];exact U k (by omega)
     .exact U k (by omega)
    have ao:=as8 T F x d;have aJ:(DR T F x d).2.length<=f+1:=by
     rw[ao];split
     .rw[ai,bu];omega
     .omega
    have l:=RV hT Y hb hP h0 hL hF N (f+1) u (DR T F x d) _ (by omega) (by omega) ax k1 k2 (aA _ rfl) aJ (aH _ rfl) (aI _ rfl);rw[ao,ab]at l;have av:kD (dw F PM d.2.1).2.1 T=kD F[f].2.1 T:=by rw[ab,E]
    have aK:fD g (f:Int)=true:=dV;have aO:lZ (Int.toNat (f:Int)) g=true:=l9 (show f<g.length by omega);have aP: ∀y:Tok,dY (bT x.2 [y]) 32=true:=fun y=>lM (aB (bC 32 (show(bT x.2 [y]).length<=f+1 from by rw[show(bT x.2 [y]).length=x.2.length+1 from ai];exact Nat.succ_le_succ hx)) (by omega));rw[aU];simp only[E,<-hd];rw[fK V,au,ac,fK hW.1,au,ac];simp only[aw,aa];rw[fK hW.2,au,ac,show Fz bM T F L (f:Int) (qQ L (f:Int) L.length) (-1) 0 x.2 g=_ from al,bG];simp only[dN,af,aK,aO,aa,ajt,E,aP,dC];rw[air _ _ (by omega),bG];simp only;rw[dn (a:=(f:Int)) (by omega) (by omega),show(f:Int)+1=((f+1:Nat):Int) by omega];rcases hI d.2.2.2.1 hW.2 with ⟨A,s⟩|⟨q,A,s,B⟩
    .have D:isH T F x d=(kD F[f].2.1 T).isSome:=by unfold isH;rw[av,s];rfl
     rw[D]at l;rw[A,show leI 0 (-1)=false from rfl,ac,show gV (-1) 0=true from rfl];cases hg:kD F[f].2.1 T with
     |none=>rw[hg]at l;exact l
     |some v=>rw[hg]at l;rw[E]at l;exact l
    .have aQ:fD g (q:Int)=true:=dV;have aS:lZ (Int.toNat (q:Int)) g=true:=l9 (show q<g.length by omega);have aV:fD F (q:Int)=true:=dV;have bd:=SY hT (dw F PM (q:Int)).2.1;rw[s,lQ,aa];simp only[aQ,aS,aV,aa];rw[show dJ g false (Int.toNat (q:Int))=g.getD q false from rfl];cases W:g.getD q false with
     |false=>
      have D:isH T F x d=false:=by unfold isH;rw[B,W];simp
      rw[D]at l;rw[ac,iG];cases hg:kD F[f].2.1 T with
      |none=>exact l
      |some v=>exact l
     |true=>
      rw[aa,air _ _ (by omega),bG];simp only;rw[aJR (by omega),bG];simp only;cases hbl:AZ ((kD (dw F PM (q:Int)).2.1 T).getD [])with
      |true=>
       have D:isH T F x d=(kD F[f].2.1 T).isSome:=by unfold isH;rw[av,B,W,hbl];rfl
       rw[D]at l;cases hg:kD F[f].2.1 T with
       |none=>rw[hg]at l;exact l
       |some v=>rw[hg]at l;rw[E]at l;exact l
      |false=>
       have D:isH T F x d=false:=by unfold isH;rw[B,hbl];simp
       rw[D]at l;cases hg:kD F[f].2.1 T with
       |none=>exact l
       |some v=>exact l
   .
    have k1: ∀y∈R,y∈L/\DV L y/\((i+1:Nat):Int)<=y.2.1:=fun y p=>by
     obtain⟨X,O,r3⟩:=K y p;refine⟨X,O, ?_⟩;by_cases ad:y.2.1=(i:Int)
     .obtain⟨j,hj,rfl⟩:=List.mem_iff_getElem.1 X;have hc:=acY hP hj O.1 L.length hj (ae _);rw[ad]at hc;rw[hc,ayK hj]at hW;exact absurd O hW
     .omega
    have aW:aCY T F L (i+1) x.1 g:=fun M J=>by
     rw[acJ,aq (fun h=>hW ⟨h.1,by rw[h.2];exact J⟩)];rcases hI M J with q|⟨q,A,s,B⟩
     .exact .inl q
     .exact .inr ⟨q,by omega,s,B⟩
    have l:=RV hT Y hb hP h0 hL hF N (i+1) R x g (by omega) (by omega) S k1 (fun y p hw aj=>Z y p hw (by omega)) aW (by omega) hl (fun k hk=>U k (by omega));rw[E];by_cases V:F[i].1=6
    .rw[fK V,au,ac];by_cases h7:(dw L AU (qQ L (i:Int) L.length)).1=7
     .obtain⟨_,G⟩:=aqZ hP h0 hL h7;obtain⟨u0,u1⟩:=hP.up _ G h7;rw[fK h7,au,ac,bV (dV u0 u1),dX (fun J=>hW ⟨h7,J⟩),az,aa];exact l
     .rw[dX h7,az,aa];exact l
    .rw[dX V,az,aa];exact l
  .have aX:R=[]:=by
    cases R with
    |nil=>rfl
    |cons y u=>
     obtain⟨X,O,r3⟩:=K y aF;obtain⟨_,f,g1,g2,_⟩:=hP.wd y X O.1;omega
   rw[aX,dI (iG (by rw[bK];omega))];rfl
end
section
open Option renaming some → a6, none → a7
open Nat renaming eq_of_beq_eq_true → aj
open Tryz
open Go.RowKit
noncomputable def aHD (sg:FuncId->Option Sum):Env:={P:=prog,T:=tt,cl:=true,kp:=fun _ _=>a7,sg:=sg,lp:=fun _ _=>a7,sb:=aoC [(18,awI),(12,awr)],bf:=GV,em:=DT,il:=GX,sl:=GY,sc:=CG}
theorem ayf {sg:FuncId->Option Sum} (h: ∀g s,sg g=a6 s->dU prog g s):eu (aHD sg):=⟨tok,mixed,OV,h,fun f fn c _ _=>iZ (fun _=>rfl) (fun _=>rfl) c,ae2 _ fun f fn c _ _=>iZ (fun _=>rfl) (fun _=>rfl) c,RJ,Qn _ (List.forall_mem_cons.2 ⟨afm,List.forall_mem_cons.2 ⟨afl,(fun _ h=>absurd h List.not_mem_nil)⟩⟩)⟩
theorem av6 {sg:FuncId->Option Sum} (h: ∀g s,sg g=a6 s->dU prog g s) {f:FuncId} {d:Sum} (h0:dU prog f d): ∀g s,(bif Nat.beq g f then a6 d else sg g)=a6 s->dU prog g s:=fun g s e=>by
 rw[cond_eq_ite]at e;split at e
 .rename_i i
  obtain rfl:g=f:=aj i;cases e;exact h0
 .exact h g s e
noncomputable def aB8 (g:FuncId):Option Sum:=cond (Nat.beq g 20) (a6 awP)<|sg1 g
theorem av3: ∀g s,aB8 g=a6 s->dU prog g s:=av6 ah8 afn
noncomputable def aB9 (g:FuncId):Option Sum:=cond (Nat.beq g 21) (a6 awW)<|aB8 g
theorem av4: ∀g s,aB9 g=a6 s->dU prog g s:=av6 av3 afo
noncomputable def aCa (g:FuncId):Option Sum:=cond (Nat.beq g 23) (a6 aw3)<|aB9 g
theorem av5: ∀g s,aCa g=a6 s->dU prog g s:=av6 av4 afp
theorem amA:UC (aHD aCa) 6 [] NZ ()=a6 (true,()):=by kernel_rfl
def U1:Sum:=⟨[],NZ,fun _=>a6 (true,())⟩
theorem VS:dU prog 6 U1:=U2 (ayf av5) (by decide) fun x y h=>by
 cases h;exact amA
end
section
open Option renaming some → a6, none → a7
open Tryz
open Go.RowKit
noncomputable def b3:Code:=(Tryz.f3.body).getD .skip
noncomputable def aDm:Code:=(f8.body).getD .skip
noncomputable def aBm:Code:=cA (cA (cB (cA (cB (cB (cB (cB (cB (cB (cB (cB (b3))))))))))))
noncomputable def aqQ:Code:=cA (cA (cB (cA (cB (cB (cB (aDm)))))))
def aBQ:eQ:=⟨[1,5,6,7,8,9,100012],[],[1,5,6],[],[4],[]⟩
def atU:eQ:=⟨[5,12,13,14,9000005],[(300001101,.pair (.list .unit) Vp)],[5],[],[4],[]⟩
def aHS:eQ:=⟨[0,1],[],[],[],[],[]⟩
def ayZ:eQ:=⟨[0,1],[],[],[],[],[]⟩
def Z9:SQ:=⟨us [.u,.u,.u,.u,.u,eM,.u,.u,.u,.u,.u,.u,eO,bO,bO] 11,cx,cE⟩
def aaN:SQ:=⟨us [.u,.u,.u,.u,.u,eM] 20,cx,cE⟩
def abt:SQ:=⟨us [] 26,cx,[]⟩
def QW {e:Type} (q:(List kW)->Int->Int->(List kW)->bZ->(List kW)->(List kW)->Int->Option e) (s:(List kW)->bZ->(List kW)->(List kW)->Int->Option e) (u:(List kW)->bZ->(List kW)->Option e) (f:List kW) (g d:Int) (h:List kW) (i:bZ) (j l:List kW) (o:Int):Option e:=cond (gV d g) (cond (fD f d) (bH (ays o l (dw f ([],([],())) d).1 (dw f ([],([],())) d).2.1) fun p=>q f g (di .i64 d 1) h i j p.1.2.1 p.1.1) a7)<|s h i j l o
def FQ:Nat->(List kW)->Int->Int->(List kW)->bZ->(List kW)->(List kW)->Int->Option (aaN.den⊕abt.den)
 |0,_,_,_,_,_,_,_,_=>a7
 |n+1,d,e,f,g,h,i,j,l=>QW (FQ n) (fun o p q s u=>a6 (.inl ((),((o,p,q,()),(),()),(s,(u,()),())))) (fun v x y=>a6 (.inr ((),((v,x,y,()),(),()),()))) d e f g h i j l
def azP (n:Nat) (v:Z9.den):=FQ n v.1.1 v.1.2.1 v.1.2.2.1 v.2.1.1.1 v.2.1.1.2.1 v.2.1.1.2.2.1 v.2.2.1 v.2.2.2.1.1
noncomputable def aku:dE:=fF atU Z9 aaN abt (.exit 0) (azP bM) 6
def akP:SP:=⟨us [.u,bR,.u,.u,.u,eM,eO,cT,cT,bO] 57,cE⟩
def ahq:SP:=⟨us [.u,bR,.u,.u,.u,eM,eO] 60,cE⟩
def ahM:SP:=⟨us [.u,.u,.u,.u,ca] 62,[]⟩
def ab4 {g:Type} (o:bZ->(List kW)->(List sO)->(List sO)->Int->(List kW)->Int->Option g) (p:bZ->(List kW)->(List kW)->Int->Option g) (q:Bool->Option g) (h:bZ) (i:List kW) (e f:List sO) (d:Int) (j:List kW) (l:Int):Option g:=cond (gV d (bI e)) (cond (fD e d) (cond (fD f d) (cond (!((bP (dw e (0,(0,(0,(false,())))) d).1 (dw f (0,(0,(0,(false,())))) d).1)&&((bP (dw e (0,(0,(0,(false,())))) d).2.1 (dw f (0,(0,(0,(false,())))) d).2.1)&&((bP (dw e (0,(0,(0,(false,())))) d).2.2.1 (dw f (0,(0,(0,(false,())))) d).2.2.1)&&((jv (dw e (0,(0,(0,(false,())))) d).2.2.2.1 (dw f (0,(0,(0,(false,())))) d).2.2.2.1)&&true))))) (q false)<|o h i e f (di .i64 d 1) j l) a7) a7)<|p h i j l
def MN:Nat->bZ->(List kW)->(List sO)->(List sO)->Int->(List kW)->Int->Option (ahq.den⊕ahM.den)
 |0,_,_,_,_,_,_,_=>a7
 |n+1,d,e,f,g,h,i,j=>ab4 (MN n) (fun l o p q=>a6 (.inl ((l,o,()),(p,(q,()),())))) (fun s=>a6 (.inr ((s,()),()))) d e f g h i j
def aEZ (n:Nat) (v:akP.den):=MN n v.1.1 v.1.2.1 v.1.2.2.1 v.1.2.2.2.1 v.1.2.2.2.2.1 v.2.1 v.2.2.1.1
noncomputable def auC:dE:=fJ aBQ akP ahq ahM (.exit 0) (aEZ bM) 12
def fn3 (e:List kW) (i:bZ):Option pq:=bH (fn7 e) fun o=>cond (!o.1) (a6 (true,()))<|cond (gV 80 (bI i)) (a6 (true,()))<|cond (gV 2 1) a7<|cond (gV 4 2) a7<|bH (FQ bM e (bI e) 0 e i e [] 2) fun p=>dN p (fun d=>bH (fn9 2 d.2.1.1.1) fun h=>bH (anM d.2.2.2.1.1 d.2.2.1 d.2.1.1.2.1) fun g=>bH (anN h.1 d.2.1.1.2.1) fun j=>cond (!(bP (bI g.2.1) (bI j.1))) (a6 (false,()))<|bH (MN bM d.2.1.1.2.1 h.1 g.2.1 j.1 0 g.1.2.1 g.1.1) fun q=>dN q (fun f=>bH (ayo f.2.2.1.1 f.2.1 f.1.1) fun l=>cond (bP l.2.2.1 0) (bH (ayp f.1.2.1 f.1.1) fun s=>a6 ((gG l.2.1 s.1),()))<|some (false,())) (fun b7=>a6 (b7.1.1,()))) (fun u=>bH (fn9 2 u.2.1.1.1) fun h=>a7)
def aIO:Sum:=⟨[LD,.str],NZ,fun x=>fn3 x.1 x.2.1⟩
noncomputable def anD:Env:=gB prog tt [(6,U1),(7,aIQ),(9,aIS),(11,awk),(13,aCh)] [(3,12,aBQ),(8,5,atU),(3,600005,aHS),(8,600001,ayZ)] [(8,5,aku),(3,12,auC)] [] [(10,awh),(12,awr),(18,awI)]
def alT {d:Type} (a:Z9.den->Option d) (b:aaN.den->Option d) (c:abt.den->Option d) (v:Z9.den):Option d:=QW (fun e f g h i j l o=>a ((e,f,g,()),((h,i,j,()),(),()),(l,(o,()),()))) (fun p q s u x=>b ((),((p,q,s,()),(),()),(u,(x,()),()))) (fun y z A=>c ((),((y,z,A,()),(),()),())) v.1.1 v.1.2.1 v.1.2.2.1 v.2.1.1.1 v.2.1.1.2.1 v.2.1.1.2.2.1 v.2.2.1 v.2.2.2.1.1
theorem aAE:dQ anD 8 aqQ aku:=lu (alT) (h2:=by intros;simp only[alT,QW,cO,cZ,bG,bW,dh])
def avM {d:Type} (a:akP.den->Option d) (b:ahq.den->Option d) (c:ahM.den->Option d) (v:akP.den):Option d:=ab4 (fun e f g h i j l=>a ((e,f,g,h,i,()),(j,(l,()),()))) (fun o p q s=>b ((o,p,()),(q,(s,()),()))) (aE c) v.1.1 v.1.2.1 v.1.2.2.1 v.1.2.2.2.1 v.1.2.2.2.2.1 v.2.1 v.2.2.1.1
theorem aFv:dQ anD 3 aBm auC:=uV (avM) (h2:=by intros;simp only[avM,aE,ab4,cO,cZ,bG,bW,dh])
theorem aJX:dM anD 3 b3:=nV [aBm] (aD (fM (aFv)) aN)
theorem aEM:dM anD 8 aDm:=nV [aqQ] (aD (fM (aAE)) aN)
theorem ayb:eu anD:=eB (aD VS (aD aAX (aD aAY (aD afk (aD aww aN))))) [3,8] (aD ⟨Tryz.f3,b3,by kernel_rfl,by kernel_rfl,aJX⟩ (aD ⟨f8,aDm,by kernel_rfl,by kernel_rfl,aEM⟩ aN)) (hx:=(aD afj (aD afl (aD afm aN))))
end
section
open Option renaming some → a6, none → a7
open Bool renaming not_true → au, and_true → ay
open Int renaming eq_ofNat_of_zero_le → aX, toNat_natCast → aZ
open List renaming append_assoc → ag, length_append → ai, mem_cons_of_mem → ak, drop_eq_getElem_cons → aA, mem_cons_self → aF, length_cons → aH, drop_zero → aJ, length_map → aK, nil_append → aO, length_drop → aP, foldl_cons → aU, drop_eq_nil_of_le → aV
open Nat renaming le_refl → ae, le_trans → aB, mul_le_mul_right → bC
open Go.RowKit
theorem TC {l:List ny} (hl:l.length<=100000): ∀(N m:Nat),l.length-m<N->m<=l.length->
  (∃b,OC N l (m:Int)=a6 (.inr ((b,()),()))/\b=false)\/(OC N l (m:Int)=a6 (.inl ((),()))/\ ∀e∈l.drop m,e.1.length<=40/\e.2.1.length<=60)
 |0,m,h,_=>by omega
 |N+1,m,h,j=>by
  rw[OC,al4];by_cases e:m<l.length
  .have f:=TC hl N (m+1) (by omega) (by omega);rw[aA e,bV (eH (by rw[bK];omega)),bV (dV),bV (dV),show([],([],()))=dEn from rfl,WC e,dn,show(m:Int)+1=((m+1:Nat):Int) by omega];by_cases h1:l[m].1.length<=40
   .rw[dI (iG (by rw[bK];omega))];by_cases h2:l[m].2.1.length<=60
    .rw[dI (iG (by rw[bK];omega))];rcases f with h|⟨g,i⟩
     .exact .inl h
     .refine .inr ⟨g,fun x d=> ?_⟩;rcases List.mem_cons.1 d with rfl|d
      .exact⟨h1,h2⟩
      .exact i x d
    .rw[bV (eH (by rw[bK];omega))];exact .inl ⟨_,rfl,rfl⟩
   .rw[bV (eH (by rw[bK];omega))];exact .inl ⟨_,rfl,rfl⟩
  .rw[aV (by omega),dI (iG (by rw[bK];omega))];exact .inr ⟨rfl,by simp⟩
theorem axQ (l:List ny): ∃b,fn7 l=a6 (b,())/\(b=true->Lit 10 40 60 l):=by
 rw[fn7];by_cases h:l.length<=10
 .rw[dI (iG (by rw[bK];omega))];have g:=TC (l:=l) (by omega) bM 0 (dK) (by omega);rw[aJ]at g;rcases g with ⟨b,d,f⟩|⟨d,f⟩
  .rw[show OC bM l 0=_ from d];exact⟨b,rfl,fun e=>by rw[f]at e;cases e⟩
  .rw[show OC bM l 0=_ from d];exact⟨true,rfl,fun _=>⟨h,f⟩⟩
 .rw[bV (eH (by rw[bK];omega))];exact⟨false,rfl,fun e=>by cases e⟩
theorem afy {a b:Nat} {l:List ny} (o:l.length<=100000) (p:a<=100000) (hb:b<=65536) (d:List ny) (f:List UInt8) (g:List ny): ∀(N m n:Nat) (T:List ny),l.length-m<N->m<=l.length->Tab n a b T->Lit (l.length-m) a b (l.drop m)->n+l.length<=9000+m->
  FQ N l (l.length:Int) (m:Int) d f g T 2=a6 (.inl ((),((d,f,g,()),(),()),((l.drop m).foldl (fun T e=>Ux T e.1 e.2.1) T,(2,()),())))
 |0,m,n,T,h,_,_,_,_=>by omega
 |N+1,m,n,T,h,u,i,hl,y=>by
  rw[FQ,QW];by_cases e:m<l.length
  .have hd:=aA e;have j:=hl.2 l[m] (by rw[hd];exact aF);have hT:T.length<10000:=by have:=i.2.1.1;omega
   obtain⟨c,q⟩:=aG1 (k:=l[m].1) (v:=l[m].2.1) i.1 hT (by omega) (by omega);rw[hd,bV (eH),bV (dV),show([],([],()))=dEn from rfl,WC e,q,bG,dn,show(m:Int)+1=((m+1:Nat):Int) by omega,aU];exact afy o p hb d f g N (m+1) (n+1) _ (by omega) (by omega) (abz i j.1 j.2) ⟨by simp,fun x s=>hl.2 x (by rw[hd];exact ak _ s)⟩ (by omega)
  .rw[aV (by omega),dI (iG)];rfl
theorem aIv {a b:Nat} {l:List ny} (g:l.length<=100000) (i:a<=100000) (hb:b<=65536): ∀(N m n:Nat) (T:List ny),l.length-m<N->m<=l.length->Tab n a b T->Lit (l.length-m) a b (l.drop m)->n+l.length<=9000+m->
  WN N 2 l T (m:Int)=a6 (.inl (((l.drop m).foldl (fun T e=>Ux T e.1 e.2.1) T,()),()))
 |0,m,n,T,h,_,_,_,_=>by omega
 |N+1,m,n,T,h,p,d,hl,q=>by
  rw[WN,al5];by_cases e:m<l.length
  .have hd:=aA e;have f:=hl.2 l[m] (by rw[hd];exact aF);have hT:T.length<10000:=by have:=d.2.1.1;omega
   obtain⟨c,j⟩:=aG2 (k:=l[m].1) (v:=l[m].2.1) d.1 hT (by omega) (by omega);rw[hd,bV (eH (by rw[bK];omega)),bV (dV),bV (dV),show([],([],()))=dEn from rfl,WC e,j,bG,dn,show(m:Int)+1=((m+1:Nat):Int) by omega,aU];exact aIv g i hb N (m+1) (n+1) _ (by omega) (by omega) (abz d f.1 f.2) ⟨by simp,fun x o=>hl.2 x (by rw[hd];exact ak _ o)⟩ (by omega)
  .rw[aV (by omega),dI (iG (by rw[bK];omega))];rfl
theorem ams (a b:Nat):Tab 0 a b []:=⟨List.Pairwise.nil,⟨ae _,fun e d=>by cases d⟩,fun e d=>by cases d⟩
theorem aIX {n a b:Nat} {l:List ny} (h:Lit n a b l) (e:n<=9000) (d:a<=100000) (hb:b<=65536):fn9 2 l=a6 (ofT l,()):=by
 have hl:=h.1;rw[fn9,show WN bM 2 l [] 0=_ from aIv (by omega) d hb bM 0 0 [] (dK) (by omega) (ams a b) ⟨by simp,by rw[aJ];exact h.2⟩ (by omega),aJ];rfl
theorem ah7 {a b:List UInt8} (h:a.length+b.length<=140737488355328):iH a b=true:=by
 grind [iH,kH]
theorem avr (n i:Nat):(aoz n false).getD i false=false:=by
 unfold aoz;rw[List.getD_eq_getElem?_getD,List.getElem?_replicate];split<;>rfl
theorem aCX {n b:Nat} {T:List ny} {a:Nat} (hT:Tab n a b T) (j:n<=10000) (hb:b<=10000) {s:List UInt8} (B:s.length<=10000) {F:List Lf} (hl:asN s=a6 (F,())) (hF:F.length<=10000) {m:List Nd}
  (l:anP F=a6 ((1,0,(F.length:Int),-1,())::m,())) (hP:PsG F ((1,0,(F.length:Int),-1,())::m)):anN T s=a6 (GU T F ((1,0,(F.length:Int),-1,())::m),()):=by
 have o:(leI 0 (bI F)&&(leI (bI F) (bI F)&&ak8 (bI F) 1))=true:=by
  have p:ak8 (bI F) 1=true:=by
   unfold ak8 kH;rw[bK];exact decide_eq_true (by omega)
  rw[lQ (by rw[bK];omega),lQ (Int.le_refl _),p];rfl
 have q:(((((1:Int),((0:Int),((F.length:Int),((-1:Int),()))))::m).filter fun d=>decide (DV (((1:Int),((0:Int),((F.length:Int),((-1:Int),()))))::m) d))).Pairwise fun x y=>x.2.1+1<=y.2.1:=
  List.Pairwise.imp_of_mem (fun {x y} u D h=>h (of_decide_eq_true (List.mem_filter.1 u).2).1) (hP.row.filter _)
 have v:=RV hT j hb hP (by show ¬((1:Int)=7);omega) (Nat.succ_pos _) hF bM 0 _ ([],[]) (aoz (dC (bI F)) false) (dK) (Nat.zero_le _) q
  (fun d hd=>by
   obtain⟨g,z⟩:=List.mem_filter.1 hd;have i:=of_decide_eq_true z;obtain⟨_,f,e,_⟩:=hP.wd d g i.1;exact⟨g,i,by omega⟩)
  (fun d hd A _=>List.mem_filter.2 ⟨hd,decide_eq_true A⟩)
  (fun E _=>.inl ⟨rfl,rfl⟩) (Nat.zero_le _) (by simp[aoz,dC,bK]) (fun k _=>avr _ _)
 rw[anN,hl,bG];simp only;rw[l,bG];simp only;rw[bV o,show MH bM T F _ 0 [] (aoz (dC (bI F)) false)=_ from v,bG];simp only[dN];unfold GU;rw[asV]
theorem au7 {n b:Nat} {T:List ny} {a:Nat} (hT:Tab n a b T) (p:n<=10000) {s:List UInt8} {H:List Tok} (v:s.length<=10000) (x:H.length*b<=100000) (y:H.length<=100000):
  ∀(N i at_:Nat) (o:List UInt8),H.length-i<N->i<=H.length->GK s at_ (H.drop i)->o.length<=at_+i*b->at_<=s.length->
  ∃(d:Nat) (o':List UInt8),MJ N T s H o (at_:Int) (i:Int)=a6 (.inl ((s,o',(d:Int),()),()))/\d<=s.length/\o'.length<=d+H.length*b/\o'++s.drop d=o++OW T s at_ (H.drop i)
 |0,i,at_,o,h,_,_,_,_=>by omega
 |N+1,i,at_,o,h,V,g,z,W=>by
  have X:T.length<=10000:=aB hT.2.1.1 p;rw[MJ,abR];by_cases e:i<H.length
  .have hd:=aA e;rw[hd]at g ⊢;obtain⟨g1,g2,g3,g4⟩:=g;obtain⟨f,Y⟩:=aX (show 0<=H[i].2.1 by omega);obtain⟨t,j⟩:=aX (show 0<=H[i].2.2.1 by omega);have A:dw H (0,(0,(0,(false,())))) (i:Int)=H[i]:=by grind [dw]
   have Z:=SY hT (sub s H[i].2.1 H[i].2.2.1);have ab:(i+1)*b<=H.length*b:=bC b (by omega);have ad:(i+1)*b=i*b+b:=Nat.succ_mul i b;have B:fD H (i:Int)=true:=dV;simp only[A,B,aa];have D:sub s (at_:Int) H[i].2.1=(s.take H[i].2.1.toNat).drop at_:=by simp[sub]
   have l:((s.take H[i].2.1.toNat).drop at_).length=f-at_:=by
    have E:f<=s.length:=by omega
    have G:H[i].2.1.toNat=f:=by omega
    rw[G,aP,List.length_take,Nat.min_eq_left E]
   rw[bV (eH (by rw[bK];omega)),bV (fO (by omega) (by omega) (by rw[bK];omega)),air _ _ (by omega),bG];simp only;rw[bV (fO (by omega) (by omega) (by rw[bK];omega)),D,bV (ah7 (by rw[l];omega)),bV (ah7 (by rw[show(bT o ((s.take H[i].2.1.toNat).drop at_)).length=o.length+((s.take H[i].2.1.toNat).drop at_).length from ai,l];omega)),dn,show(i:Int)+1=((i+1:Nat):Int) by omega,j];have I:GK s t (H.drop (i+1)):=by rw[j]at g4;exact g4
   obtain⟨J,K,q,M,O,u⟩:=au7 hT p v x y N (i+1) t (o++(s.take H[i].2.1.toNat).drop at_++(kD (sub s H[i].2.1 H[i].2.2.1) T).getD []) (by omega) (by omega) I (by rw[ai,ai,l];omega) (by omega);rw[j]at q u;refine⟨J,K,q,M,O, ?_⟩;rw[u,OW,j];simp only[ag,Int.ofNat_eq_natCast,aZ]
  .have S:H.drop i=[]:=aV (by omega);rw[S]at g ⊢;have U:i=H.length:=by omega
   rw[dI (iG (by rw[bK];omega))];exact⟨at_,o,rfl,g,by rw[<-U];exact z,rfl⟩
theorem aC1 {n b:Nat} {T:List ny} {a:Nat} (hT:Tab n a b T) (f:n<=10000) {s:List UInt8} {H:List Tok} (g:s.length<=10000) (h:H.length*b<=100000) (i:H.length<=100000) (j:anN T s=a6 (H,())) (l:GK s 0 H):
  ayp T s=a6 (OW T s 0 H,()):=by
 obtain⟨d,o,p,u,v,e⟩:=au7 hT f g h i bM 0 0 [] (dK) (by omega) l (by simp) (by omega);rw[aJ,aO]at e;rw[ayp,j,bG];simp only;rw[show MJ bM T s H [] 0 0=_ from p,bG];simp only[dN];have q:sub s (d:Int) (bI s)=s.drop d:=by simp[sub,bK]
 have x:(s.drop d).length=s.length-d:=by simp
 rw[bV (fO (by omega) (by rw[bK];omega) (Int.le_refl _)),q,show bT o (s.drop d)=OW T s 0 H from e,bV (ah7 (by omega))]
theorem acU (s:List UInt8) (T:List ny) (H:List Tok) (f:H.length<=100000) (d:List ny) (c:Int): ∀(N i:Nat),H.length-i<N->i<=H.length->
  MN N s T H H (i:Int) d c=a6 (.inl ((s,T,()),(d,(c,()),())))
 |0,i,h,_=>by omega
 |N+1,i,h,j=>by
  rw[MN,ab4];by_cases e:i<H.length
  .have g:=acU s T H f d c N (i+1) (by omega) (by omega);rw[bV (eH (by rw[bK];omega)),bV (dV),bV (dV),dn,show(i:Int)+1=((i+1:Nat):Int) by omega];simp only[eP,iC,ay,Bool.and_self,au,ac];exact g
  .rw[dI (iG (by rw[bK];omega))]
theorem at7 (l:List ny) (s:List UInt8):fn3 l s=a6 (true,()):=by
 rw[fn3];obtain⟨b,p,q⟩:=axQ l;rw[p,bG];cases b with
 |false=>rfl
 |true=>
  have hL:=q rfl;have hl:=hL.1;have hT:=azY hL;simp only;rw[au,ac];by_cases hs:s.length<=80
  .obtain⟨L,u,v,x,m,rfl,y⟩:=aFI (s:=s) (by omega);have z:=WI (s:=s) (by omega);have A:(gp s (oq s).1).length<=80:=by
    have h:=(PS (s:=s) (by omega)).2.2;unfold gp;rw[aK];exact aB (List.length_filter_le _ _) (aB h hs)
   rw[aH]at x;have hP:=aIB z y (by omega);have d:=Td (ofT l) (gp s (oq s).1) ((1,0,((gp s (oq s).1).length:Int),-1,())::m) ((1,0,((gp s (oq s).1).length:Int),-1,())::m) ([],[]);obtain⟨j,f⟩:=anW (T:=ofT l) (s:=s) (by omega) (aIs (by omega)) hP;have g:=aCW hT (by omega) (by omega) (aGU (by omega)) (apU (by omega)) u hP.fine j;have i:=aCX hT (by omega) (by omega) (s:=s) (by omega) (apV (by omega)) (by omega) v hP;obtain⟨H,o⟩: ∃H,H=GU (ofT l) (gp s (oq s).1) ((1,0,((gp s (oq s).1).length:Int),-1,())::m):=⟨_,rfl⟩;rw[show(List.foldl (JL (ofT l) (gp s (oq s).1) ((1,0,((gp s (oq s).1).length:Int),-1,())::m)) ([],[]) ((1,0,((gp s (oq s).1).length:Int),-1,())::m)).2=H from o.symm]at d;rw[<-o]at j f g i;rw[aH]at d;simp only[List.length_nil]at d;rw[dI (iG (by rw[bK];omega)),show gV 2 1=false from rfl,ac,show gV 4 2=false from rfl,ac,
    show FQ bM l (bI l) 0 l s l [] 2=_ from afy (by omega) (a:=40) (b:=60) (by omega) (by omega) l s l bM 0 0 [] (dK) (by omega) (ams _ _) ⟨by simp,by rw[aJ];exact hL.2⟩ (by omega),bG,aJ]
   simp only[dN];rw[show l.foldl (fun T e=>Ux T e.1 e.2.1) []=ofT l from rfl,aIX hL (by omega) (by omega) (by omega),bG];simp only;rw[g,bG];simp only;rw[i,bG];simp only;rw[eP,au,ac,show MN bM s (ofT l) H H 0 (ofT l) 2=_ from acU s (ofT l) H (by omega) (ofT l) 2 bM 0 (dK) (by omega),bG];simp only;rw[aC0 hT (by omega) (by omega) (by omega) (by omega) 2 (g 2) f,bG];simp only;rw[eP,aa,aC1 hT (by omega) (by omega) (by omega) (by omega) i f,bG];simp only;rw[mW]
  .rw[bV (eH (by rw[bK];omega))]
end
end Go.Proofs.YtlhpdcadgbjhiaaGreatDoor
