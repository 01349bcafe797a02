/- Parts of the proof, joined and shortened by a program: the plain machine, the functions as it prints them, and the mathematics over them. -/
import Derived.Test.YtjgoejaajmhllaaGreatDoorZ8
set_option linter.unusedVariables false
set_option linter.unusedSimpArgs false
set_option maxRecDepth 100000
set_option maxHeartbeats 4000000
namespace Go.Proofs.YtjgoejaajmhllaaGreatDoor
section
open Bool renaming and_eq_true → ae
open List renaming mem_cons_of_mem → ai, mem_cons_self → az, length_cons → aJ
open Nat renaming le_refl → af
open Go.RowKit
abbrev oC:Type:=List UInt8×List UInt8×Unit
def dEn:oC:=([],([],()))
theorem akl: ∀a b:List UInt8,gJ (ag8 a b) 0=Ag a b
 |[],[]=>rfl
 |[],_::_=>rfl
 |_::_,[]=>rfl
 |x::a,y::b=>by
  have d:=akl a b;unfold ag8 Ag at*;rw[Lib.compareBytes,Op.bytesLess];by_cases h:x<y
  .simp[h,gJ]
  .by_cases h2:y<x
   .have:x≠y:=fun e=>by subst e;exact h h2
    simp[h,h2,gJ,this]
   .have:x=y:=UInt8.le_antisymm (UInt8.not_lt.1 h2) (UInt8.not_lt.1 h);subst this;simp[h,d]
theorem adY: ∀a b:List UInt8,bJ (ag8 a b) 0=eX a b
 |[],[]=>rfl
 |[],_::_=>rfl
 |_::_,[]=>rfl
 |x::a,y::b=>by
  have d:=adY a b;unfold ag8 eX at*;rw[Lib.compareBytes];by_cases h:x<y
  .have:x≠y:=fun e=>by subst e;exact UInt8.lt_irrefl _ h
   simp[h,bJ,this]
  .by_cases h2:y<x
   .have:x≠y:=fun e=>by subst e;exact h h2
    simp[h,h2,bJ,this]
   .have:x=y:=UInt8.le_antisymm (UInt8.not_lt.1 h2) (UInt8.not_lt.1 h);subst this;simp[h,d]
theorem Jb: ∀a:List UInt8,Ag a a=false
 |[]=>rfl
 |x::a=>by
  have d:=Jb a;unfold Ag at*;rw[Op.bytesLess];simp[d,UInt8.lt_irrefl]
theorem Sj: ∀a b c:List UInt8,Ag a b=true->Ag b c=true->Ag a c=true
 |_,[],[],_,h=>by cases h
 |_,_::_,[],_,h=>by cases h
 |[],[],_::_,h,_=>by cases h
 |_::_,[],_::_,h,_=>by cases h
 |[],_::_,_::_,_,_=>rfl
 |x::a,y::b,z::c,d,e=>by
  have f:=Sj a b c;unfold Ag at*;rw[Op.bytesLess]at*;simp only[Bool.or_eq_true,decide_eq_true_eq,ae,beq_iff_eq]at*;rcases d with d|⟨rfl,d⟩<;>rcases e with e|⟨rfl,e⟩
  .exact .inl (UInt8.lt_trans d e)
  .exact .inl d
  .exact .inl e
  .exact .inr ⟨rfl,f d e⟩
theorem U8: ∀a b:List UInt8,Ag a b=false->a≠b->Ag b a=true
 |[],[],_,h=>absurd rfl h
 |[],_::_,h,_=>by cases h
 |_::_,[],_,_=>rfl
 |x::a,y::b,h,d=>by
  have e:=U8 a b;unfold Ag at*;rw[Op.bytesLess]at*;by_cases h1:x<y
  .simp[h1]at h
  .by_cases h2:y<x
   .simp[h2]
   .have:x=y:=UInt8.le_antisymm (UInt8.not_lt.1 h2) (UInt8.not_lt.1 h1);subst this;simp_all
theorem aDL {a b:List UInt8} (h:Ag a b=true):Ag b a=false:=by
 cases e:Ag b a with
 |false=>rfl
 |true=>have:=Sj _ _ _ h e;rw[Jb]at this;cases this
def jI (k:List UInt8):List oC->Nat
 |[]=>0
 |e::r=>if Ag e.1 k=true then jI k r+1 else 0
def kU (k:List UInt8):List oC->Option (List UInt8)
 |[]=>none
 |e::r=>if e.1=k then some e.2.1 else kU k r
def zM (k v:List UInt8):List oC->List oC
 |[]=>[(k,(v,()))]
 |e::r=>if Ag e.1 k=true then e::zM k v r else if e.1=k then(k,(v,()))::r else(k,(v,()))::e::r
def Asc (T:List oC):Prop:=T.Pairwise fun x y=>Ag x.1 y.1=true
theorem UV (k:List UInt8): ∀T,jI k T<=T.length
 |[]=>af _
 |e::r=>by have:=UV k r;grind [jI]
theorem anb (k:List UInt8): ∀(T:List oC) (m:Nat) (h:m<T.length),m<jI k T->Ag T[m].1 k=true
 |[],_,h,_=>by cases h
 |e::r,m,h,d=>by
  have f:=anb k r;rw[jI]at d;cases m<;>grind
theorem ana (k:List UInt8): ∀(T:List oC),Asc T-> ∀(m:Nat) (h:m<T.length),jI k T<=m->Ag T[m].1 k=false
 |[],_,_,h,_=>by cases h
 |e::r,d,m,h,f=>by
  have g:=ana k r (List.pairwise_cons.1 d).2;have i:=(List.pairwise_cons.1 d).1;rw[jI]at f;cases m with
  |zero=>cases hq:Ag e.1 k<;>simp_all
  |succ m=>
   simp only[List.getElem_cons_succ];have l:m<r.length:=by simp at h;omega
   by_cases hq:Ag e.1 k=true
   .exact g m _ (by simp_all)
   .have j:=i r[m] (List.getElem_mem _);cases hz:Ag r[m].1 k with
    |false=>rfl
    |true=>exact absurd (Sj _ _ _ j hz) hq
theorem Y6 (k:List UInt8): ∀(T:List oC),(∀e∈T,Ag k e.1=true)->kU k T=none
 |[],_=>rfl
 |e::r,h=>by
  have g:=Y6 k r (fun e d=>h e (ai _ d));have f:=h e az;have:e.1≠k:=fun d=>by rw[d,Jb]at f;cases f
  rw[kU,ap this,g]
theorem Ls (k:List UInt8): ∀(T:List oC),Asc T->kU k T=if h:jI k T<T.length then(if T[jI k T].1=k then some T[jI k T].2.1 else none)else none
 |[],_=>rfl
 |e::r,f=>by
  have g:=Ls k r (List.pairwise_cons.1 f).2;have i:=(List.pairwise_cons.1 f).1;by_cases hq:Ag e.1 k=true
  .have j:e.1≠k:=fun h=>by rw[h,Jb]at hq;cases hq
   have d:jI k (e::r)=jI k r+1:=by rw[jI,am hq]
   rw[kU,ap j,g];simp only[d,aJ,List.getElem_cons_succ,Nat.add_lt_add_iff_right]
  .have d:jI k (e::r)=0:=by rw[jI,ap hq]
   simp only[d,aJ,List.getElem_cons_zero];rw[kU];by_cases he:e.1=k
   .simp[he]
   .have l:Ag k e.1=true:=U8 _ _ (by simpa using hq) he;have:=Y6 k r (fun x m=>Sj _ _ _ l (i x m));simp[he,this]
theorem agC (k v:List UInt8): ∀(T:List oC) (h:jI k T<T.length),T[jI k T].1=k->zM k v T=T.set (jI k T) (k,(v,()))
 |[],h,_=>by cases h
 |e::r,h,f=>by
  have g:=agC k v r;by_cases hq:Ag e.1 k=true
  .have d:jI k (e::r)=jI k r+1:=by rw[jI,am hq]
   rw[zM,am hq];simp only[d,aJ,Nat.add_lt_add_iff_right]at h;simp only[d,List.getElem_cons_succ]at f;rw[d,List.set_cons_succ,g h f]
  .have d:jI k (e::r)=0:=by rw[jI,ap hq]
   simp only[d,List.getElem_cons_zero]at f;rw[zM,ap hq,am f,d,List.set_cons_zero]
theorem agB (k v:List UInt8): ∀(T:List oC),Asc T->kU k T=none->zM k v T=T.take (jI k T)++[(k,(v,()))]++T.drop (jI k T)
 |[],_,_=>rfl
 |e::r,i,d=>by
  have g:e.1≠k:=fun h=>by rw[kU,am h]at d;cases d
  rw[kU,ap g]at d;have j:=agB k v r (List.pairwise_cons.1 i).2 d;by_cases hq:Ag e.1 k=true
  .have f:jI k (e::r)=jI k r+1:=by rw[jI,am hq]
   rw[zM,am hq,f,j];rfl
  .have f:jI k (e::r)=0:=by rw[jI,ap hq]
   rw[zM,ap hq,ap g,f];rfl
theorem LY (k v:List UInt8): ∀(T:List oC),∀e∈zM k v T,e=(k,(v,()))\/e∈T
 |[],e,h=>by rw[zM]at h;simp_all
 |x::r,e,h=>by
  have d:=LY k v r e;rw[zM]at h;split at h
  .rcases List.mem_cons.1 h with rfl|h
   .simp
   .rcases d h with h|h<;>simp[h]
  .split at h<;>simp_all;rcases h with h|h<;>simp[h]
theorem sSq (k v:List UInt8): ∀(T:List oC),(zM k v T).length<=T.length+1
 |[]=>af _
 |x::r=>by have:=sSq k v r;grind [zM]
theorem agA (k v:List UInt8): ∀(T:List oC),Asc T->Asc (zM k v T)
 |[],_=>by simp[zM,Asc]
 |e::r,f=>by
  have l:=agA k v r (List.pairwise_cons.1 f).2;have g:=(List.pairwise_cons.1 f).1;have m:=(List.pairwise_cons.1 f).2;unfold Asc at*;rw[zM];split
  .rename_i h
   refine List.pairwise_cons.2 ⟨fun x d=> ?_,l⟩;rcases LY k v r x d with rfl|d
   .exact h
   .exact g x d
  .rename_i h
   split
   .rename_i i
    subst i;exact List.pairwise_cons.2 ⟨g,m⟩
   .rename_i i
    have j:=U8 _ _ (by simpa using h) i;refine List.pairwise_cons.2 ⟨fun x d=> ?_,f⟩;rcases List.mem_cons.1 d with rfl|d
    .exact j
    .exact Sj _ _ _ j (g x d)
theorem get_mem (k:List UInt8): ∀(T:List oC) (v:List UInt8),kU k T=some v->(k,(v,()))∈T
 |[],_,h=>by cases h
 |e::r,v,h=>by
  have f:=get_mem k r v;rw[kU]at h;obtain⟨a,b,u⟩:=e;cases u;split at h
  .rename_i d
   cases h;simp only at d;subst d;simp
  .exact ai _ (f h)
end
section
open Option renaming some → a6, none → a7
open Bool renaming not_true → ak, not_false → aA
open List renaming mem_cons_of_mem → ai, drop_eq_getElem_cons → au, append_assoc → ax, drop_zero → ay, mem_cons_self → az, nil_append → aO, all_cons → aP, drop_eq_nil_of_le → aS
open Nat renaming le_refl → af
open Option renaming isSome_some → aZ
open Go.RowKit
theorem aBP {i j:Nat} (h:i+j<1000000):IntKind.i64.wrap (adu .u64 (IntKind.u64.wrap (bZ .i64 (i:Int) (j:Int))) 1)=((i+j)/2:Nat):=by
 rw[dA,IntKind.wrap_u64];unfold adu;rw[show(2:Int)^(min (Int.toNat 1) IntKind.u64.bits)=2 from rfl,IntKind.wrap_i64]
 grind
theorem afn {T:List oC} {m:Nat} (h:m<T.length):dB T dEn m=T[m]:=lC h
theorem RF {T:List oC} {m:Nat} (h:m<T.length):gu T dEn (m:Int)=T[m]:=by
 grind [gu]
theorem QU (a b:List UInt8):arA a b=a6 (ag8 a b,()):=rfl
theorem tJq {k:List UInt8} {T:List oC} (f:Asc T) (hT:T.length<=100000) (n:Int) (a b:List UInt8) (c:Int): ∀(N i j:Nat),j-i<N->i<=jI k T->jI k T<=j->j<=T.length->
  tX N k n (i:Int) (j:Int) a b c T=a6 (.inl ((k,n,((jI k T:Nat):Int),()),((a,b,()),(),()),((c,()),T,())))
 |0,i,j,h,_,_,_=>by omega
 |N+1,i,j,h,g,l,m=>by
  rw[tX,DD];by_cases e:i<j
  .have d:(i+j)/2<T.length:=by omega
   rw[bM (eU),bM (show leI 0 1=true from rfl)];simp only[oq,aqH,aBP (i:=i) (j:=j) (by omega)];rw[bM (dV),show dh (((i+j)/2:Nat):Int)=(i+j)/2 from rfl,bM (mV d),show([],([],()))=dEn from rfl,afn d,QU,bu];simp only[akl];rw[dA,show(((i+j)/2:Nat):Int)+1=(((i+j)/2+1:Nat):Int) by omega];by_cases hlt:(i+j)/2<jI k T
   .rw[anb k T _ d hlt,aa];exact tJq f hT n a b c N _ j (by omega) (by omega) l m
   .rw[ana k T f _ d (by omega),ac];exact tJq f hT n a b c N i _ (by omega) g (by omega) (by omega)
  .rw[dD (iG),show i=jI k T by omega]
theorem alO {k:List UInt8} {T:List oC} (d:Asc T) (hT:T.length<=100000) (c:Int):al0 c T k=a6 ((c,(T,())),(((jI k T:Nat):Int),((kU k T).isSome,()))):=by
 have e:=UV k T;rw[al0,show tX bG k (bD T) 0 (bD T) k k c T=_ from tJq d hT _ _ _ _ bG 0 T.length (dK) (by omega) e (af _),bu];simp only[dL];rw[Ls k T d];by_cases h:jI k T<T.length
 .rw[bM (eU (by rw[bF];omega)),bM (dV),show dh ((jI k T:Nat):Int)=jI k T from rfl,bM (mV h),show([],([],()))=dEn from rfl,afn h,QU,bu,dif_pos h];simp only[adY];by_cases he:T[jI k T].1=k
  .rw[am he,NF he];rfl
  .rw[ap he,vH he];rfl
 .rw[dD (gX (by rw[bF];omega)),dif_neg h];rfl
theorem azZ {k:List UInt8} {T:List oC} (f:Asc T) (hT:T.length<=100000) (c:Int):arv c T k=a6 ((c,(T,())),((kU k T).getD [],((kU k T).isSome,()))):=by
 have g:=UV k T;have d:=Ls k T f;rw[arv,alO f hT,bu];simp only;cases h:kU k T with
 |none=>rfl
 |some v=>
  rw[h]at d;have e:jI k T<T.length:=by
   by_cases e:jI k T<T.length
   .exact e
   .rw[dif_neg e]at d;cases d
  rw[dif_pos e]at d;split at d
  .injection d with d
   rw[aZ,ak,ac,bM (dV),show dh ((jI k T:Nat):Int)=jI k T from rfl,bM (mV e),show([],([],()))=dEn from rfl,afn e,d];rfl
  .cases d
theorem Yq (k:List UInt8) (T:List oC) (hT:T.length<=100000): ∀(N m:Nat),T.length-m<N->m<=T.length->(∃v,kU k (T.drop m)=a6 v/\Kq N T k (m:Int)=a6 (.inr ((v,1,()),())))\/(kU k (T.drop m)=a7/\Kq N T k (m:Int)=a6 (.inl ((),())))
 |0,m,h,_=>by omega
 |N+1,m,h,f=>by
  rw[Kq,agI];by_cases e:m<T.length
  .have d:=Yq k T hT N (m+1) (by omega) (by omega);rw[au e,kU,bM (eU (by rw[bF];omega)),bM (dV),show([],([],()))=dEn from rfl,RF e,dA];by_cases he:T[m].1=k
   .rw[NF he,aa,am he,bM (dV)];exact .inl ⟨_,rfl,rfl⟩
   .rw[vH he,ac,ap he];exact d
  .rw[aS (by omega),dD (gX (by rw[bF];omega))];exact .inr ⟨rfl,rfl⟩
theorem adK (k:List UInt8) (T:List oC) (hT:T.length<=100000):fn8 T k=a6 ((kU k T).getD [],(if(kU k T).isSome=true then 1 else 0,())):=by
 have h:=Yq k T hT bG 0 (dK) (by omega);rw[ay]at h;rcases h with ⟨v,d,e⟩|⟨d,e⟩
 .rw[fn8,show Kq bG T k 0=_ from e,d];rfl
 .rw[fn8,show Kq bG T k 0=_ from e,d];rfl
def okBq (c:UInt8):Bool:=Ad c&& !(bJ (c.toNat:Int) 47)
def Qw (k:List UInt8):Bool:= !(eX k [])&&k.all okBq
theorem TJ {k:List UInt8} (hk:k.length<=100000): ∀(N m:Nat),k.length-m<N->m<=k.length->
  I8 N k (k.length:Int) (m:Int)=a6 (if(k.drop m).all okBq=true then .inl ((),())else .inr ((false,()),()))
 |0,m,h,_=>by omega
 |N+1,m,h,g=>by
  rw[I8,XX];by_cases e:m<k.length
  .have d:=TJ hk N (m+1) (by omega) (by omega);rw[au e,aP,bM (eU),bM (dV),byte_at e,aoX,bu,dA,show(m:Int)+1=((m+1:Nat):Int) by omega,d];have f:fV k (m:Int)=true:=dV;unfold okBq;cases Ad k[m]<;>cases bJ (k[m].toNat:Int) 47<;>simp[f]
  .rw[aS (by omega),dD (gX)];rfl
theorem azz {k:List UInt8} (hk:k.length<=100000):al6 k=a6 (Qw k,()):=by
 rw[al6,show I8 bG k (bD k) 0=_ from TJ hk bG 0 (dK) (by omega),ay];unfold Qw;cases eX k []<;>cases k.all okBq<;>rfl
theorem ZA {k:List UInt8} (hk:k.length<=100000): ∀(N m:Nat),k.length-m<N->m<=k.length->
  EW N k (m:Int)=a6 (if(k.drop m).all okBq=true then .inl ((),())else .inr ((false,()),()))
 |0,m,h,_=>by omega
 |N+1,m,h,g=>by
  rw[EW,XL];by_cases e:m<k.length
  .have d:=ZA hk N (m+1) (by omega) (by omega);rw[au e,aP,bM (eU (by rw[bF];omega)),bM (dV),byte_at e,(Xr k[m]).2.1,bu,dA,show(m:Int)+1=((m+1:Nat):Int) by omega,d];have f:fV k (m:Int)=true:=dV;unfold okBq;cases Ad k[m]<;>cases bJ (k[m].toNat:Int) 47<;>simp[f]
  .rw[aS (by omega),dD (gX (by rw[bF];omega))];rfl
theorem az1 {k:List UInt8} (hk:k.length<=100000):art 2 k=a6 (Qw k,()):=by
 rw[art,show bJ 2 1=false from rfl,ac,show bJ 2 3=false from rfl,ac,alZ,gq,aa,aa,azz hk,bu]
theorem az2 {k:List UInt8} (hk:k.length<=100000):aru 2 k=a6 (Qw k,()):=by
 rw[aru,show bJ 2 1=false from rfl,ac,show bJ 2 3=false from rfl,ac,gq,ak,ac,show EW bG k 0=_ from ZA hk bG 0 (dK) (by omega),ay];unfold Qw;cases eX k []<;>cases k.all okBq<;>rfl
def O5 (T:List oC) (k v:List UInt8):List oC:=if Qw k=true then zM k v T else T
theorem az5 {k v:List UInt8} {T:List oC} (f:Asc T) (hT:T.length<10000) (hk:k.length<=100000) (i:v.length<=65536): ∃c,arn 2 T k v=a6 ((2,(O5 T k v,())),(c,())):=by
 have j:=UV k T;have e:=Ls k T f;rw[arn,az1 hk,bu];unfold O5;cases hm:Qw k with
 |false=>exact⟨5,rfl⟩
 |true=>
  rw[ak,ac,dD (gX (by rw[bF];omega)),alO f (by omega),bu,am rfl];simp only;cases h:kU k T with
  |none=>
   rw[Option.isSome_none,ac,dD (Eh (by rw[bF];omega)),nD,nD (by rw[bF];omega),lL (by omega),agB k v T f h];exact⟨0,rfl⟩
  |some u=>
   rw[h]at e;have d:jI k T<T.length:=by
    by_cases d:jI k T<T.length
    .exact d
    .rw[dif_neg d]at e;cases e
   rw[dif_pos d]at e;split at e
   .rename_i g
    rw[aZ,aa,bM (dV),show dh ((jI k T:Nat):Int)=jI k T from rfl,bM (mV d),show([],([],()))=dEn from rfl,afn d,agC k v T d g,g];exact⟨0,rfl⟩
   .cases e
theorem Pz (k v:List UInt8): ∀T:List oC,Asc T->(∀e∈T,Ag k e.1=true)->(T.filter fun e=> !(eX e.1 k))=T
 |[],_,_=>rfl
 |e::r,g,h=>by
  have i:=Pz k v r (List.pairwise_cons.1 g).2 (fun e d=>h e (ai _ d));have f:=h e az;have:e.1≠k:=fun d=>by rw[d,Jb]at f;cases f
  rw[List.filter_cons,vH this,i];rfl
theorem Gg {k v:List UInt8} {T:List oC} (hT:T.length<=100000): ∀(N m:Nat) (out:List oC),T.length-m<N->m<=T.length->out.length<=m+1->
  qo N T k v true (m:Int) out=a6 (.inl ((k,v,true,()),(out++((T.drop m).filter fun e=> !(eX e.1 k)),())))
 |0,m,out,h,_,_=>by omega
 |N+1,m,out,h,g,i=>by
  rw[qo,Ig];by_cases e:m<T.length
  .have d:fV T (m:Int)=true:=dV;simp only[Jw,d,aa];rw[au e,List.filter_cons,bM (eU (by rw[bF];omega)),ak,ac,show([],([],()))=dEn from rfl,RF e,dA,show(m:Int)+1=((m+1:Nat):Int) by omega];cases eX T[m].1 k with
   |true=>exact Gg hT N (m+1) out (by omega) (by omega) (by omega)
   |false=>
    have f:=Gg (k:=k) (v:=v) hT N (m+1) (out++[T[m]]) (by omega) (by omega) (by simp;omega);rw[aA,aa,bM (lL (by simp[bP];omega)),show bP out [T[m]]=out++[T[m]] from rfl,f,ax];rfl
  .rw[aS (by omega),dD (gX (by rw[bF];omega))];simp
theorem Yt {k v:List UInt8} {T:List oC} (j:Asc T) (hT:T.length<=100000): ∀(N m:Nat) (out:List oC),T.length-m<N->m<=T.length->out.length<=m->
  (∃f,qo N T k v false (m:Int) out=a6 (.inl ((k,v,false,()),(f,())))/\f++[(k,(v,()))]=out++zM k v (T.drop m)/\f.length<=T.length)\/
  qo N T k v false (m:Int) out=a6 (.inl ((k,v,true,()),(out++zM k v (T.drop m),())))
 |0,m,out,h,_,_=>by omega
 |N+1,m,out,h,z,A=>by
  rw[qo,Ig];by_cases e:m<T.length
  .have hd:=au e;have g:Asc (T.drop m):=List.Pairwise.sublist (List.drop_sublist m T) j;rw[hd]at g;have l:=(List.pairwise_cons.1 g).1;have o:=(List.pairwise_cons.1 g).2;have s:fV T (m:Int)=true:=dV;simp only[Jw,s,aa];rw[hd,zM,bM (eU (by rw[bF];omega)),aA,aa,show([],([],()))=dEn from rfl,RF e,dA,show(m:Int)+1=((m+1:Nat):Int) by omega];cases hq:Ag T[m].1 k with
   |true=>
    have u:T[m].1≠k:=fun h=>by rw[h,Jb]at hq;cases hq
    have p:=Yt (k:=k) (v:=v) j hT N (m+1) (out++[T[m]]) (by omega) (by omega) (by simp;omega);rw[ak,ac,vH u,aA,aa,bM (lL (by simp[bP];omega)),am rfl,show bP out [T[m]]=out++[T[m]] from rfl];rw[ax]at p;exact p
   |false=>
    right;rw[aA,aa,bM (lL (by simp[bP];omega)),ap (by simp)];have q: ∀x∈T.drop (m+1),T[m].1=k\/Ag k T[m].1=true->Ag k x.1=true:=fun x d i=>by
     rcases i with rfl|i
     .exact l x d
     .exact Sj _ _ _ i (l x d)
    by_cases he:T[m].1=k
    .have hk:=Pz k v _ o (fun x d=>q x d (.inl he));rw[NF he,ak,ac,am he,show bP out [(k,(v,()))]=out++[(k,(v,()))] from rfl,Gg hT N (m+1) _ (by omega) (by omega) (by simp;omega),hk,ax];rfl
    .have y:=U8 _ _ hq he;have hk:=Pz k v _ o (fun x d=>q x d (.inr y));rw[vH he,aA,aa,ap he,bM (lL (by simp[bP];omega)),show bP (bP out [(k,(v,()))]) [T[m]]=out++[(k,(v,()))]++[T[m]] from rfl,Gg hT N (m+1) _ (by omega) (by omega) (by simp;omega),hk,ax,ax];rfl
  .left;rw[aS (by omega),dD (gX (by rw[bF];omega))];exact⟨out,rfl,rfl,by omega⟩
theorem az6 {k v:List UInt8} {T:List oC} (e:Asc T) (hT:T.length<10000) (hk:k.length<=100000) (g:v.length<=65536): ∃c,aro 2 T k v=a6 (O5 T k v,(c,())):=by
 rw[aro,az2 hk,bu];unfold O5;cases hm:Qw k with
 |false=>exact⟨5,rfl⟩
 |true=>
  rw[ak,ac,dD (gX (by rw[bF];omega)),adK _ _ (by omega),bu,am rfl];simp only;rw[dD (b:=leI 10000 (bD T)) (Eh (by rw[bF];omega))];have h:=Yt (k:=k) (v:=v) e (by omega) bG 0 [] (dK) (by omega) (af _);rw[ay,aO]at h;rcases h with ⟨out,d,f,i⟩|d
  .simp only[alW];rw[show qo bG T k v false 0 []=_ from d,bu];simp only[dL];rw[aA,aa,bM (lL (by simp[bP];omega)),show bP out [(k,(v,()))]=out++[(k,(v,()))] from rfl,f];cases bJ (if(kU k T).isSome=true then 1 else 0) 0<;>exact⟨0,rfl⟩
  .simp only[alW];rw[show qo bG T k v false 0 []=_ from d,bu];simp only[dL];rw[ak,ac];cases bJ (if(kU k T).isSome=true then 1 else 0) 0<;>exact⟨0,rfl⟩
def ofT (l:List oC):List oC:=l.foldl (fun T e=>O5 T e.1 e.2.1) []
def Lit (n a b:Nat) (l:List oC):Prop:=l.length<=n/\ ∀e∈l,e.1.length<=a/\e.2.1.length<=b
def Tab (n a b:Nat) (T:List oC):Prop:=Asc T/\Lit n a b T/\ ∀e∈T,Qw e.1=true
theorem Xl {n a b:Nat} {T:List oC} (h:Tab n a b T) {k v:List UInt8} (hk:k.length<=a) (j:v.length<=b):Tab (n+1) a b (O5 T k v):=by
 obtain⟨f,⟨m,g⟩,i⟩:=h;unfold O5;split
 .rename_i l
  refine⟨agA k v T f,⟨by have:=sSq k v T;omega,fun e d=> ?_⟩,fun e d=> ?_⟩
  .rcases LY k v T e d with rfl|d
   .exact⟨hk,j⟩
   .exact g e d
  .rcases LY k v T e d with rfl|d
   .exact l
   .exact i e d
 .exact⟨f,⟨by omega,g⟩,i⟩
theorem Vgq {a b:Nat}: ∀(l T:List oC) (n m:Nat),Tab m a b T->Lit n a b l->Tab (m+n) a b (l.foldl (fun T e=>O5 T e.1 e.2.1) T)
 |[],T,n,m,h,_=>⟨h.1,⟨by have:=h.2.1.1;show T.length<=_;omega,h.2.1.2⟩,h.2.2⟩
 |e::r,T,n,m,h,d=>by
  obtain⟨n,rfl⟩: ∃k,n=k+1:=⟨n-1,by have:=d.1;simp at this;omega⟩;have f:=d.2 e az;have:=Vgq r _ n (m+1) (Xl h f.1 f.2) ⟨by have:=d.1;simp at this;omega,fun x g=>d.2 x (ai _ g)⟩;rw[List.foldl_cons,show m+(n+1)=m+1+n by omega];exact this
theorem asK {n a b:Nat} {l:List oC} (h:Lit n a b l):Tab n a b (ofT l):=by
 have:=Vgq l [] n 0 ⟨List.Pairwise.nil,⟨af _,fun e d=>by cases d⟩,fun e d=>by cases d⟩ h;rwa [Nat.zero_add]at this
end
section
open Option renaming some → a6, none → a7
open Nat renaming eq_of_beq_eq_true → ag
open Tryz
open Go.RowKit
noncomputable def aAo (sg:FuncId->Option Sum):Env:={P:=prog,T:=tt,cl:=true,kp:=fun _ _=>a7,sg:=sg,lp:=fun _ _=>a7,sb:=aiC [(16,apt),(18,apB)],bf:=Ee,em:=AP,il:=Ef}
theorem aq9 {sg:FuncId->Option Sum} (h: ∀g s,sg g=a6 s->dE prog g s):eF (aAo sg):=⟨tok,mixed,OJ,h,fun f fn c _ _=>je (fun _=>rfl) (fun _=>rfl) c,Z8 _ fun f fn c _ _=>je (fun _=>rfl) (fun _=>rfl) c,Nu,LX _ (List.forall_mem_cons.2 ⟨aam,List.forall_mem_cons.2 ⟨PS,(fun _ h=>absurd h List.not_mem_nil)⟩⟩)⟩
theorem ao4 {sg:FuncId->Option Sum} (h: ∀g s,sg g=a6 s->dE prog g s) {f:FuncId} {d:Sum} (i:dE prog f d): ∀g s,(bif Nat.beq g f then a6 d else sg g)=a6 s->dE prog g s:=fun g s e=>by
 rw[cond_eq_ite]at e;split at e
 .rename_i j
  obtain rfl:g=f:=ag j;cases e;exact i
 .exact h g s e
noncomputable def avg (g:FuncId):Option Sum:=cond (Nat.beq g 46) (a6 avI)<|sg1 g
theorem ao1: ∀g s,avg g=a6 s->dE prog g s:=ao4 adt ap6
noncomputable def avh (g:FuncId):Option Sum:=cond (Nat.beq g 47) (a6 avJ)<|avg g
theorem ao2: ∀g s,avh g=a6 s->dE prog g s:=ao4 ao1 ap7
noncomputable def avi (g:FuncId):Option Sum:=cond (Nat.beq g 49) (a6 avK)<|avh g
theorem ao3: ∀g s,avi g=a6 s->dE prog g s:=ao4 ao2 ap8
theorem ag3:Ph (aAo avi) 4 [] Ip ()=a6 (true,()):=by kernel_rfl
def PZ:Sum:=⟨[],Ip,fun _=>a6 (true,())⟩
theorem QQ:dE prog 4 PZ:=P6 (aq9 ao3) (by decide) fun x y h=>by
 cases h;exact ag3
end
section
open Option renaming some → a6, none → a7
open Tryz
open Go.RowKit
noncomputable def aws:Code:=(f6.body).getD .skip
noncomputable def ajK:Code:=(f12.body).getD .skip
noncomputable def akh:Code:=cA (cA (cB (cA (cB (cB (cB (aws)))))))
noncomputable def adU:Code:=cA (cA (cA (cB (cB (cA (cB (ajK)))))))
def amY:dZ:=⟨[5,12,13,14,7000005],[(300001101,.pair (.list .unit) tyG)],[5],[],[4],[]⟩
def aeK:dZ:=⟨[0,1,5,13000002],[],[5],[],[4],[]⟩
def awZ:dZ:=⟨[1,5,6],[],[],[],[],[]⟩
def VR:SQ:=⟨us [.u,.u,.u,.u,.u,dk,.u,.u,.u,.u,.u,.u,ez,bE,bE] 11,co,[du,cH]⟩
def LK:SQ:=⟨us [.u,.u,.u,.u,.u,dk] 20,co,[du,cH]⟩
def Xf:SQ:=⟨us [] 26,co,[]⟩
def ML {e:Type} (p:(List lF)->Int->Int->(List lF)->bQ->(List lF)->(List lF)->Int->Option e) (q:(List lF)->bQ->(List lF)->(List lF)->Int->Option e) (s:(List lF)->bQ->(List lF)->Option e) (f:List lF) (g d:Int) (h:List lF) (i:bQ) (j l:List lF) (m:Int):Option e:=cond (gJ d g) (cond (fV f d) (bz (arn m l (gu f ([],([],())) d).1 (gu f ([],([],())) d).2.1) fun o=>p f g (bZ .i64 d 1) h i j o.1.2.1 o.1.1) a7)<|q h i j l m
def Dc:Nat->(List lF)->Int->Int->(List lF)->bQ->(List lF)->(List lF)->Int->Option (LK.den⊕Xf.den)
 |0,_,_,_,_,_,_,_,_=>a7
 |n+1,d,e,f,g,h,i,j,l=>ML (Dc n) (fun m o p q s=>a6 (.inl ((),((m,o,p,()),(),()),(q,(s,()),())))) (fun u v x=>a6 (.inr ((),((u,v,x,()),(),()),()))) d e f g h i j l
def asC (n:Nat) (v:VR.den):=Dc n v.1.1 v.1.2.1 v.1.2.2.1 v.2.1.1.1 v.2.1.1.2.1 v.2.1.1.2.2.1 v.2.2.1 v.2.2.2.1.1
noncomputable def afj:dm:=fQ amY VR LK Xf (.exit 0) (asC bG) 6
def LJ:SQ:=⟨us [dk,bB,.u,.u,.u,.slc 2000011] 34,[bS,[]],[.arr 2000011 .str,du,cH]⟩
def OX:SQ:=⟨us [.u,.u,.u,.u,.u,.slc 2000011] 34,[bS,[]],[.arr 2000011 .str,du,cH]⟩
def O3:SQ:=⟨us [] 40,[bS,[]],[]⟩
def Ii {h:Type} (o:bQ->bQ->(List lF)->bQ->(List bQ)->(List lF)->Int->Option h) (m:bQ->(List lF)->bQ->(List bQ)->(List lF)->Int->Option h) (v:bQ->(List lF)->bQ->Option h) (p i:bQ) (j:List lF) (l:bQ) (e:List bQ) (q:List lF) (s:Int):Option h:=bz (ahP s q p) fun f=>cond (!f.2.2.1) (m i j l e f.1.2.1 f.1.1)<|bz (arq f.2.1) fun g=>bz (ahP f.1.1 f.1.2.1 g.1) fun d=>cond (!d.2.2.1) (m i j l e d.1.2.1 d.1.1)<|bz (ars e g.1) fun u=>cond u.1 (m i j l e d.1.2.1 d.1.1)<|cond (dN (bP e [g.1]) 16) (o g.1 i j l (bP e [g.1]) d.1.2.1 d.1.1) a7
def xZ:Nat->bQ->bQ->(List lF)->bQ->(List bQ)->(List lF)->Int->Option (OX.den⊕O3.den)
 |0,_,_,_,_,_,_,_=>a7
 |n+1,d,e,f,g,h,i,j=>Ii (xZ n) (fun l m o p q s=>a6 (.inl ((),((l,m,o,()),(),()),(p,q,(s,()),())))) (fun u v x=>a6 (.inr ((),((u,v,x,()),(),()),()))) d e f g h i j
def anh (n:Nat) (v:LJ.den):=xZ n v.1.1 v.2.1.1.1 v.2.1.1.2.1 v.2.1.1.2.2.1 v.2.2.1 v.2.2.2.1 v.2.2.2.2.1.1
noncomputable def Zz:dm:=fQ aeK LJ OX O3 (.exit 0) (anh bG) 12
def auF (e:taT) (d:LK.den) (m:(bQ×Int×Unit)) (j:((List lF)×Unit)):Option nH:=cond e.2.2.1 (cond (fG [97,108,105,97,115,32] d.2.1.1.2.1) (cond (fG (bP [97,108,105,97,115,32] d.2.1.1.2.1) [61]) (bz (arl m.1) fun f=>cond (fG (bP (bP [97,108,105,97,115,32] d.2.1.1.2.1) [61]) f.1) (cond (!(eX e.2.1 (bP (bP (bP [97,108,105,97,115,32] d.2.1.1.2.1) [61]) f.1))) (a6 (false,()))<|bz (xZ bG d.2.1.1.2.1 d.2.1.1.2.1 j.1 d.2.1.1.2.1 [d.2.1.1.2.1] e.1.2.1 e.1.1) fun o=>dL o (fun h=>bz (abq h.2.1.1.2.1 h.2.1.1.1) fun g=>bz (alS h.2.2.1 g.1) fun p=>a6 (p.1,())) (fun b8=>bz (abq b8.2.1.1.2.1 b8.2.1.1.1) fun g=>a7)) a7) a7) a7)<|bz (xZ bG d.2.1.1.2.1 d.2.1.1.2.1 j.1 d.2.1.1.2.1 [d.2.1.1.2.1] e.1.2.1 e.1.1) fun f=>dL f (fun i=>bz (abq i.2.1.1.2.1 i.2.1.1.1) fun l=>bz (alS i.2.2.1 l.1) fun g=>a6 (g.1,())) (fun b7=>bz (abq b7.2.1.1.2.1 b7.2.1.1.1) fun l=>a7)
def fn3 (e:List lF) (i:bQ):Option nH:=bz (fn5 e) fun l=>cond (!l.1) (a6 (true,()))<|cond (gJ 40 (bD i)) (a6 (true,()))<|cond (gJ 2 1) a7<|cond (gJ 4 2) a7<|bz (Dc bG e (bD e) 0 e i e [] 2) fun m=>dL m (fun d=>bz (fn7 2 d.2.1.1.1) fun f=>bz (fn8 f.1 d.2.1.1.2.1) fun h=>bz (fn9 d.2.2.2.1.1 d.2.2.1 d.2.1.1.2.1) fun g=>cond (!(ja g.2.2.1 (bJ h.2.1 1))) (a6 (false,()))<|cond (!g.2.2.1) (cond (!(eX g.2.1 [])) (a6 (false,()))<|auF g d h f)<|auF g d h f) (fun j=>bz (fn7 2 j.2.1.1.1) fun f=>bz (fn8 f.1 j.2.1.1.2.1) fun h=>a7)
def azs:Sum:=⟨[JL,.str],Ip,fun x=>fn3 x.1 x.2.1⟩
noncomputable def ahG:Env:=gB prog tt [(4,PZ),(5,aCi),(7,aCq),(8,atC),(10,avn),(11,avo),(13,avp),(21,avs),(22,avt)] [(6,5,amY),(12,2,aeK),(3,600005,mr),(3,600011,awZ),(6,600001,mr)] [(6,5,afj),(12,2,Zz)] [] [(9,aCw),(16,apt),(18,apB)]
def agz {d:Type} (a:VR.den->Option d) (b:LK.den->Option d) (c:Xf.den->Option d) (v:VR.den):Option d:=ML (fun e f g h i j l m=>a ((e,f,g,()),((h,i,j,()),(),()),(l,(m,()),()))) (fun o p q s u=>b ((),((o,p,q,()),(),()),(s,(u,()),()))) (fun x y z=>c ((),((x,y,z,()),(),()),())) v.1.1 v.1.2.1 v.1.2.2.1 v.2.1.1.1 v.2.1.1.2.1 v.2.1.1.2.2.1 v.2.2.1 v.2.2.2.1.1
theorem atf:dJ ahG 6 akh afj:=nU (agz) (h2:=by intros;simp only[agz,ML,bV,bW,bu,bT,bY])
def aaf {d:Type} (a:LJ.den->Option d) (b:OX.den->Option d) (c:O3.den->Option d) (v:LJ.den):Option d:=Ii (fun e f g h i j l=>a ((e,()),((f,g,h,()),(),()),(i,j,(l,()),()))) (fun m o p q s u=>b ((),((m,o,p,()),(),()),(q,s,(u,()),()))) (fun x y z=>c ((),((x,y,z,()),(),()),())) v.1.1 v.2.1.1.1 v.2.1.1.2.1 v.2.1.1.2.2.1 v.2.2.1 v.2.2.2.1 v.2.2.2.2.1.1
theorem anZ:dJ ahG 12 adU Zz:=nU (aaf) (h2:=by intros;simp only[aaf,Ii,bV,bW,bu,bT,bY])
theorem axv:dI ahG 6 aws:=nG [akh] (aD (fM (atf)) aN)
theorem ar5:dI ahG 12 ajK:=nG [adU] (aD (fM (anZ)) aN)
theorem ad6:eF ahG:=eB (aD QQ (aD atA (aD atB (aD Yh (aD apd (aD apf (aD apk (aD apJ (aD apM aN))))))))) [6,12] (aD ⟨f6,aws,by kernel_rfl,by kernel_rfl,axv⟩ (aD ⟨f12,ajK,by kernel_rfl,by kernel_rfl,ar5⟩ aN)) (hx:=(aD atD (aD aam (aD PS aN))))
theorem aDm:dE prog 3 azs:=sA ad6
end
section
open Option renaming some → a6, none → a7
open Bool renaming not_true → ak
open List renaming mem_cons_of_mem → ai, drop_eq_getElem_cons → au, drop_zero → ay, mem_cons_self → az, nil_append → aO, drop_eq_nil_of_le → aS
open Nat renaming le_refl → af, le_trans → aG
open Option renaming isSome_some → aZ
open Go.RowKit
def lx0:Yr:=(0,([],(false,())))
def firstT (v:List UInt8):List UInt8:=if v=[]then []else if(kT v 0 lx0).1.1=6 then sub v 0 (kT v 0 lx0).1.2.2.1 else []
theorem ark {v:List UInt8} (d:v.length<=10000):arq v=a6 (firstT v,()):=by
 unfold firstT;by_cases h:v=[]
 .subst h;rfl
 .have e:0<v.length:=List.length_pos_iff.2 h;have f:=ajE d (a:=0) e lx0 (fun h=>by cases h) (Nat.zero_le _);have g:=yC d (a:=0) e lx0;obtain⟨j,l,i⟩:=g;rw[arq,ap h,show ahQ v 0 (0,([],(false,())))=_ from f,bu];simp only;by_cases h6:(kT v 0 lx0).1.1=6
  .rw[fU h6,ak,ac,am h6,ahR];simp only[i];rw[dD (gX),dD (gX),dD (gX (by rw[bF];omega)),bM (fH (by omega) (by omega) (by rw[bF];omega)),bu];rfl
  .rw[dX h6,ap h6];rfl
theorem azF (v:List UInt8):(firstT v).length<=v.length:=by
 unfold firstT;split
 .simp
 .split
  .simp[sub];omega
  .simp
theorem amm {k:List UInt8} {T:List oC} (d:Asc T) (hT:T.length<=100000) (c:Int):ahP c T k=a6 ((c,(T,())),((kU k T).getD [],((kU k T).isSome,()))):=by
 rw[ahP,azZ d hT];rfl
theorem NY (x:List UInt8) (l:List (List UInt8)) (hl:l.length<=100000): ∀(N m:Nat),l.length-m<N->m<=l.length->
  (x∈l.drop m/\ ∃i:Nat,AZ N l x (l.length:Int) (m:Int)=a6 (.inr (((i:Int),()),())))\/(x∉l.drop m/\AZ N l x (l.length:Int) (m:Int)=a6 (.inl ((),())))
 |0,m,h,_=>by omega
 |N+1,m,h,o=>by
  rw[AZ,XP];by_cases e:m<l.length
  .have g:=NY x l hl N (m+1) (by omega) (by omega);have j:gu l [] (m:Int)=l[m]:=by grind [gu]
   rw[au e,bM (eU),bM (dV),j,dA,show(m:Int)+1=((m+1:Nat):Int) by omega];by_cases he:x=l[m]
   .rw[NF he,aa];exact .inl ⟨by rw[he];exact az,m,rfl⟩
   .rw[vH he,ac,List.mem_cons];rcases g with ⟨d,f⟩|⟨d,f⟩
    .exact .inl ⟨.inr d,f⟩
    .exact .inr ⟨fun h=>h.elim he d,f⟩
  .rw[aS (by omega),dD (gX)];exact .inr ⟨by simp,rfl⟩
theorem aaZ {x:List UInt8} {l:List (List UInt8)} (hl:l.length<=100000):ars l x=a6 (decide (x∈l),()):=by
 have h:=NY x l hl bG 0 (dK) (by omega);rw[ay]at h;rw[ars,awO];rcases h with ⟨d,i,e⟩|⟨d,e⟩
 .rw[show AZ bG l x (bD l) 0=_ from e,decide_eq_true d];simp only[bu,dL];rw[nD]
 .rw[show AZ bG l x (bD l) 0=_ from e,decide_eq_false d];rfl
def cnt (out:List (List UInt8)):List oC->Nat
 |[]=>0
 |e::r=>if e.1∈out then cnt out r else cnt out r+1
theorem Uj (out:List (List UInt8)): ∀T,cnt out T<=T.length
 |[]=>af _
 |e::r=>by have:=Uj out r;grind [cnt]
theorem akm (out:List (List UInt8)) (k:List UInt8): ∀T,cnt (out++[k]) T<=cnt out T
 |[]=>af _
 |e::r=>by have:=akm out k r;grind [cnt]
theorem cnt_lt (out:List (List UInt8)) (k:List UInt8) (hk:k∉out): ∀T,kU k T≠a7->cnt (out++[k]) T<cnt out T
 |[],h=>absurd rfl h
 |e::r,h=>by
  have d:=cnt_lt out k hk r;have:=akm out k r;rw[kU]at h;split at h
  .rename_i f
   grind [cnt]
  .have:=d h
   grind [cnt]
def yQ (T:List oC):Nat->List (List UInt8)->List UInt8->List (List UInt8)
 |0,out,_=>out
 |n+1,out,k=>match kU k T with
  |none=>out
  |some v=>if kU (firstT v) T=a7 then out else if firstT v∈out then out else yQ T n (out++[firstT v]) (firstT v)
theorem Lm {n a b:Nat} {T:List oC} (h:Tab n a b T) {k v:List UInt8} (d:kU k T=a6 v):v.length<=b:=(h.2.1.2 _ (get_mem k T v d)).2
theorem Ns {n b:Nat} {T:List oC} {a:Nat} (h:Tab n a b T) (g:n<=10000) (hb:b<=10000) (d:List UInt8) (e:List oC) (f:List UInt8) (c:Int): ∀(N m:Nat) (out:List (List UInt8)) (k:List UInt8),m<N->cnt out T<=m->out.length+m<=100000->
  xZ N k d e f out T c=a6 (.inl ((),((d,e,f,()),(),()),(yQ T (m+1) out k,T,(c,()),())))
 |0,m,out,k,h,_,_=>by omega
 |N+1,m,out,k,i,j,l=>by
  have hT:T.length<=10000:=aG h.2.1.1 g;rw[xZ,Ii,amm h.1 (by omega),bu,yQ];simp only;cases hg:kU k T with
  |none=>rfl
  |some v=>
   have o:=Lm h hg;rw[aZ,ak,ac,Option.getD_some,ark (by omega),bu];simp only;rw[amm h.1 (by omega),bu];simp only;cases hg2:kU (firstT v) T with
   |none=>simp
   |some u=>
    rw[aZ,ak,ac,aaZ (by omega),bu,ap (by simp)];simp only;by_cases hin:firstT v∈out
    .rw[decide_eq_true hin,aa,am hin]
    .have p:=cnt_lt out (firstT v) hin T (by rw[hg2];simp);obtain⟨m,rfl⟩: ∃q,m=q+1:=⟨m-1,by omega⟩;rw[decide_eq_false hin,ac,ap hin,bM (lL (by simp[bP];omega)),show bP out [firstT v]=out++[firstT v] from rfl];exact Ns h g hb d e f c N m _ _ (by omega) (by omega) (by simp;omega)
theorem ZB (T:List oC) (x:List UInt8) (l:List (List UInt8)) (hl:l.length<=100000): ∀(N m:Nat),l.length-m<N->m<=l.length->
  CY N T x (m:Int) l=a6 (if x∈l.drop m then .inr ((l,()),())else .inl ((T,x,()),(l,())))
 |0,m,h,_=>by omega
 |N+1,m,h,g=>by
  rw[CY,Md];by_cases e:m<l.length
  .have d:=ZB T x l hl N (m+1) (by omega) (by omega);have f:dB l [] m=l[m]:=lC e;rw[au e,bM (eU (by rw[bF];omega)),bM (dV),show dh (m:Int)=m from rfl,bM (mV e),f,dA,show(m:Int)+1=((m+1:Nat):Int) by omega,d];by_cases he:l[m]=x
   .rw[NF he,aa,am (by simp[he])]
   .rw[vH he,ac];by_cases hi:x∈l.drop (m+1)
    .rw[am hi,am (ai _ hi)]
    .rw[ap hi,ap (fun h=>(List.mem_cons.1 h).elim (fun h=>he h.symm) hi)]
  .rw[aS (by omega),dD (gX (by rw[bF];omega)),ap (by simp)]
theorem aDh:Qw []=false:=rfl
theorem aez {n a b:Nat} {T:List oC} (h:Tab n a b T):kU [] T=a7:=by
 cases hg:kU [] T with
 |none=>rfl
 |some v=>
  have:=h.2.2 _ (get_mem [] T v hg);cases this
theorem adV {n b:Nat} {T:List oC} {a:Nat} (h:Tab n a b T) (e:n<=10000) (hb:b<=10000): ∀(N m:Nat) (out:List (List UInt8)) (k:List UInt8),m<N->cnt (out++[k]) T<=m->out.length+m<=90000->
  IW N T (out++[k])=a6 (.inr ((yQ T (m+1) (out++[k]) k,()),()))
 |0,m,out,k,h,_,_=>by omega
 |N+1,m,out,k,l,o,p=>by
  have hT:T.length<=10000:=aG h.2.1.1 e;have g:ed .i64 (bD (out++[k])) 1=(out.length:Int):=by
   rw[bF,iZ (by simp<;>omega) (by simp<;>omega)];simp
  have i:dB (out++[k]) [] out.length=k:=by rw[lC (by simp)];simp
  rw[IW,XB];simp only[g];rw[bM (dV (by omega) (by simp<;>omega)),show dh (out.length:Int)=out.length from rfl,bM (mV (by simp)),i,adK _ _ (by omega),bu,yQ];simp only;cases hg:kU k T with
  |none=>rfl
  |some v=>
   have x:=Lm h hg;rw[aZ,am rfl,Option.getD_some,show bJ 1 0=false from rfl,ac];simp only;by_cases hv0:v=[]
   .rw[NF hv0,aa,hv0,show firstT []=[] from rfl,aez h,am rfl]
   .have f:0<v.length:=List.length_pos_iff.2 hv0;have j:=awe (s:=v) (by omega) (a:=0) f lx0 (fun h=>by cases h) (Nat.zero_le _);obtain⟨y,z,A⟩:=yC (s:=v) (by omega) (a:=0) f lx0;rw[vH hv0,ac,show alY v 0 (0,([],(false,())))=_ from j,bu];simp only;by_cases h6:(kT v 0 lx0).1.1=6
    .have d:firstT v=sub v 0 (kT v 0 lx0).1.2.2.1:=by unfold firstT;rw[ap hv0,am h6]
     rw[fU h6,ak,ac,bM (fH (by omega) (by omega) (by rw[bF];omega)),<-d,adK _ _ (by omega),bu];simp only;cases hg2:kU (firstT v) T with
     |none=>rfl
     |some u=>
      rw[aZ,am rfl,show bJ 1 0=false from rfl,ac,ap (by simp),show CY bG T (firstT v) 0 (out++[k])=_ from ZB T _ _ (by simp;omega) bG 0 (dK (by simp;omega)) (by omega),bu,ay];by_cases hin:firstT v∈out++[k]
      .rw[am hin,am hin];rfl
      .have B:=cnt_lt (out++[k]) (firstT v) hin T (by rw[hg2];simp);obtain⟨m,rfl⟩: ∃q,m=q+1:=⟨m-1,by omega⟩;rw[ap hin,ap hin];simp only[dL];rw[bM (lL (by simp[bP];omega)),show bP (out++[k]) [firstT v]=(out++[k])++[firstT v] from rfl];exact adV h e hb N m _ _ (by omega) (by omega) (by simp;omega)
    .have d:firstT v=[]:=by unfold firstT;rw[ap hv0,ap h6]
     rw[dX h6,d,aez h];rfl
theorem aqK {n b:Nat} {T:List oC} {a:Nat} (h:Tab n a b T) (d:n<=10000) (hb:b<=10000) (k:List UInt8):abq T k=a6 (yQ T (10000+1) [k] k,()):=by
 have e:=Uj [k] T;have hT:=h.2.1.1;rw[abq,show IW bG T [k]=_ from adV h d hb bG 10000 [] k (dK) (by rw[aO];omega) (by simp)];rfl
theorem Td {l:List (List UInt8)} (hl:l.length<=100000): ∀(N m:Nat),l.length-m<N->m<=l.length->IV N l l (m:Int)=a6 (.inl ((),()))
 |0,m,h,_=>by omega
 |N+1,m,h,d=>by
  rw[IV,Xz];by_cases e:m<l.length
  .rw[bM (eU (by rw[bF];omega)),bM (dV),bM (dV),lG,ak,ac,dA];exact Td hl N (m+1) (by omega) (by omega)
  .rw[dD (gX (by rw[bF];omega))]
theorem ayK {l:List (List UInt8)} (hl:l.length<=100000):alS l l=a6 (true,()):=by
 rw[alS,gq,ak,ac,show IV bG l l 0=_ from Td hl bG 0 (dK) (by omega)];rfl
theorem Nr (T:List oC): ∀(n:Nat) (out:List (List UInt8)) (k:List UInt8),(yQ T n out k).length<=out.length+n
 |0,out,k=>af _
 |n+1,out,k=>by
  rw[yQ];split
  .omega
  .rename_i v _
   have:=Nr T n (out++[firstT v]) (firstT v);split
   .omega
   .split
    .omega
    .simp at this;omega
end
section
open Bool renaming not_true → ak
open List renaming mem_cons_of_mem → ai, drop_eq_getElem_cons → au, drop_zero → ay, mem_cons_self → az, drop_eq_nil_of_le → aS
open Nat renaming le_refl → af, le_trans → aG
open Option renaming map_some → aU, isSome_some → aZ
open Go.RowKit
theorem Og {l:List oC} (hl:l.length<=100000): ∀(N m:Nat),l.length-m<N->m<=l.length->
  (∃b,Ko N l (m:Int)=some (.inr ((b,()),()))/\b=false)\/(Ko N l (m:Int)=some (.inl ((),()))/\ ∀e∈l.drop m,e.1.length<=40/\e.2.1.length<=60)
 |0,m,h,_=>by omega
 |N+1,m,h,j=>by
  rw[Ko,agG];by_cases e:m<l.length
  .have f:=Og hl N (m+1) (by omega) (by omega);rw[au e,bM (eU (by rw[bF];omega)),bM (dV),bM (dV),show([],([],()))=dEn from rfl,RF e,dA,show(m:Int)+1=((m+1:Nat):Int) by omega];by_cases h1:l[m].1.length<=40
   .rw[dD (gX (by rw[bF];omega))];by_cases h2:l[m].2.1.length<=60
    .rw[dD (gX (by rw[bF];omega))];rcases f with h|⟨g,i⟩
     .exact .inl h
     .refine .inr ⟨g,fun x d=> ?_⟩;rcases List.mem_cons.1 d with rfl|d
      .exact⟨h1,h2⟩
      .exact i x d
    .rw[bM (eU (by rw[bF];omega))];exact .inl ⟨_,rfl,rfl⟩
   .rw[bM (eU (by rw[bF];omega))];exact .inl ⟨_,rfl,rfl⟩
  .rw[aS (by omega),dD (gX (by rw[bF];omega))];exact .inr ⟨rfl,by simp⟩
theorem aqL (l:List oC): ∃b,fn5 l=some (b,())/\(b=true->Lit 10 40 60 l):=by
 rw[fn5];by_cases h:l.length<=10
 .rw[dD (gX (by rw[bF];omega))];have g:=Og (l:=l) (by omega) bG 0 (dK) (by omega);rw[ay]at g;rcases g with ⟨b,d,f⟩|⟨d,f⟩
  .rw[show Ko bG l 0=_ from d];exact⟨b,rfl,fun e=>by rw[f]at e;cases e⟩
  .rw[show Ko bG l 0=_ from d];exact⟨true,rfl,fun _=>⟨h,f⟩⟩
 .rw[bM (eU (by rw[bF];omega))];exact⟨false,rfl,fun e=>by cases e⟩
theorem Djq {a b:Nat} {l:List oC} (p:l.length<=100000) (q:a<=100000) (hb:b<=65536) (d:List oC) (f:List UInt8) (g:List oC): ∀(N m n:Nat) (T:List oC),l.length-m<N->m<=l.length->Tab n a b T->Lit (l.length-m) a b (l.drop m)->n+l.length<=9000+m->
  Dc N l (l.length:Int) (m:Int) d f g T 2=some (.inl ((),((d,f,g,()),(),()),((l.drop m).foldl (fun T e=>O5 T e.1 e.2.1) T,(2,()),())))
 |0,m,n,T,h,_,_,_,_=>by omega
 |N+1,m,n,T,h,y,i,j,z=>by
  rw[Dc,ML];by_cases e:m<l.length
  .have hd:=au e;have o:=j.2 l[m] (by rw[hd];exact az);have hT:T.length<10000:=by have:=i.2.1.1;omega
   obtain⟨c,s⟩:=az5 (k:=l[m].1) (v:=l[m].2.1) i.1 hT (by omega) (by omega);rw[hd,bM (eU),bM (dV),show([],([],()))=dEn from rfl,RF e,s,bu,dA,show(m:Int)+1=((m+1:Nat):Int) by omega,List.foldl_cons];exact Djq p q hb d f g N (m+1) (n+1) _ (by omega) (by omega) (Xl i o.1 o.2) ⟨by simp,fun x u=>j.2 x (by rw[hd];exact ai _ u)⟩ (by omega)
  .rw[aS (by omega),dD (gX)];rfl
theorem aBQ {a b:Nat} {l:List oC} (i:l.length<=100000) (j:a<=100000) (hb:b<=65536): ∀(N m n:Nat) (T:List oC),l.length-m<N->m<=l.length->Tab n a b T->Lit (l.length-m) a b (l.drop m)->n+l.length<=9000+m->
  RZ N 2 l T (m:Int)=some (.inl (((l.drop m).foldl (fun T e=>O5 T e.1 e.2.1) T,()),()))
 |0,m,n,T,h,_,_,_,_=>by omega
 |N+1,m,n,T,h,q,d,f,s=>by
  rw[RZ,agH];by_cases e:m<l.length
  .have hd:=au e;have g:=f.2 l[m] (by rw[hd];exact az);have hT:T.length<10000:=by have:=d.2.1.1;omega
   obtain⟨c,o⟩:=az6 (k:=l[m].1) (v:=l[m].2.1) d.1 hT (by omega) (by omega);rw[hd,bM (eU (by rw[bF];omega)),bM (dV),bM (dV),show([],([],()))=dEn from rfl,RF e,o,bu,dA,show(m:Int)+1=((m+1:Nat):Int) by omega,List.foldl_cons];exact aBQ i j hb N (m+1) (n+1) _ (by omega) (by omega) (Xl d g.1 g.2) ⟨by simp,fun x p=>f.2 x (by rw[hd];exact ai _ p)⟩ (by omega)
  .rw[aS (by omega),dD (gX (by rw[bF];omega))];rfl
theorem agW (a b:Nat):Tab 0 a b []:=⟨List.Pairwise.nil,⟨af _,fun e d=>by cases d⟩,fun e d=>by cases d⟩
theorem awcq {n a b:Nat} {l:List oC} (h:Lit n a b l) (e:n<=9000) (d:a<=100000) (hb:b<=65536):fn7 2 l=some (ofT l,()):=by
 have f:=h.1;rw[fn7,show RZ bG 2 l [] 0=_ from aBQ (by omega) d hb bG 0 0 [] (dK) (by omega) (agW a b) ⟨by simp,by rw[ay];exact h.2⟩ (by omega),ay];rfl
theorem Jq {a b:List UInt8} (h:a.length+b.length<=140737488355328):fG a b=true:=by
 grind [fG,kF]
theorem PE {s:List UInt8} (d:s.length<=2000000):(BB s).length<=8000002:=by
 have e:=CG d 0;have f:=CG d 4;have g:=CG d 5;have h:nY s 0=oW s:=rfl
 grind [BB]
def avV (k v:List UInt8):List UInt8:=bP (bP (bP [97,108,105,97,115,32] k) [61]) (BB v)
theorem aqO {n a b:Nat} {T:List oC} (h:Tab n a b T) (d:n<=10000) (hb:b<=60) {k:List UInt8} (hk:k.length<=100000) (c:Int):
  fn9 c T k=some ((c,(T,())),(((kU k T).map (avV k)).getD [],((kU k T).isSome,()))):=by
 have hT:=h.2.1.1;rw[fn9,amm h.1 (by omega),bu];simp only;cases hg:kU k T with
 |none=>rfl
 |some v=>
  have e:=Lm h hg;have f:=PE (s:=v) (by omega);rw[aZ,ak,ac,bM (Jq (by simp;omega)),bM (Jq (by simp[bP];omega)),Option.getD_some,aaR (by omega),bu];simp only;rw[bM (Jq (by simp[bP];omega))];rfl
theorem abY (l:List oC) (k:List UInt8):fn3 l k=some (true,()):=by
 rw[fn3];obtain⟨b,f,g⟩:=aqL l;rw[f,bu];cases b with
 |false=>rfl
 |true=>
  have d:=g rfl;have j:=d.1;have hT:=asK d;simp only;rw[ak,ac];by_cases hk:k.length<=40
  .rw[dD (gX (by rw[bF];omega)),show gJ 2 1=false from rfl,ac,show gJ 4 2=false from rfl,ac,
    show Dc bG l (bD l) 0 l k l [] 2=_ from Djq (by omega) (a:=40) (b:=60) (by omega) (by omega) l k l bG 0 0 [] (dK) (by omega) (agW _ _) ⟨by simp,by rw[ay];exact d.2⟩ (by omega),bu,ay]
   simp only[dL];have m:(ofT l).length<=10:=hT.2.1.1;rw[show l.foldl (fun T e=>O5 T e.1 e.2.1) []=ofT l from rfl,awcq d (by omega) (by omega) (by omega),bu];simp only;rw[adK _ _ (by omega),bu,aqO hT (by omega) (by omega) (by omega),bu];simp only;have h:=Ns hT (by omega) (by omega) k (ofT l) k 2 bG 10000 [k] k (dK) (by have:=Uj [k] (ofT l);omega) (by simp);have i:(yQ (ofT l) (10000+1) [k] k).length<=100000:=aG (Nr (ofT l) (10000+1) [k] k) (by simp);simp only[auF];rw[h];simp only[bu,dL];rw[aqK hT (by omega) (by omega)];simp only[bu];rw[ayK i];cases hg:kU k (ofT l)with
   |none=>rfl
   |some v=>
    have o:=Lm hT hg;have p:=PE (s:=v) (by omega);simp only[aZ,aU,Option.getD_some,if_true];rw[aaS (by omega),Jq (by simp;omega),Jq (by simp[bP];omega)];simp only[bu];rw[Jq (by simp[bP];omega)];show(bif !(ja true (bJ 1 1))then _ else _)=_;rw[show bJ 1 1=true from rfl,show ja true true=true from rfl,ak,ac,ac,show eX (avV k v) (bP (bP (bP [97,108,105,97,115,32] k) [61]) (BB v))=true from lG _];rfl
  .rw[bM (eU (by rw[bF];omega))]
end
end Go.Proofs.YtjgoejaajmhllaaGreatDoor
