/- Parts of the proof, joined and shortened by a program: the plain machine, the functions as it prints them, and the mathematics over them. -/
import Derived.Test.YtlhpdcadgbjhiaaGreatDoorV3
import Derived.Test.YtlhpdcadgbjhiaaGreatDoorV4
import Derived.Test.YtlhpdcadgbjhiaaGreatDoorV5
import Derived.Test.YtlhpdcadgbjhiaaGreatDoorV6
import Derived.Test.YtlhpdcadgbjhiaaGreatDoorV7
import Derived.Test.YtlhpdcadgbjhiaaGreatDoorV8
import Derived.Test.YtlhpdcadgbjhiaaGreatDoorV9
import Derived.Test.YtlhpdcadgbjhiaaGreatDoorV10
set_option linter.unusedVariables false
set_option linter.unusedSimpArgs false
set_option maxRecDepth 100000
set_option maxHeartbeats 4000000
namespace Go.Proofs.YtlhpdcadgbjhiaaGreatDoor
section
open Bool renaming and_eq_true → af
open List renaming mem_cons_of_mem → ak, mem_cons_self → aA, getElem_mem → aG, length_cons → aH
open Nat renaming le_refl → ae
open Go.RowKit
abbrev oW:Type:=List UInt8×List UInt8×Unit
def dEn:oW:=([],([],()))
theorem ahg: ∀a b:List UInt8,gY (aeb a b) 0=Gx a b
 |[],[]=>rfl
 |[],_::_=>rfl
 |_::_,[]=>rfl
 |x::a,y::b=>by
  have d:=ahg a b;unfold aeb Gx at*;rw[Lib.compareBytes,Op.bytesLess];by_cases h:x<y
  .simp[h,gY]
  .by_cases h2:y<x
   .have:x≠y:=fun e=>by subst e;exact h h2
    simp[h,h2,gY,this]
   .have:x=y:=UInt8.le_antisymm (UInt8.not_lt.1 h2) (UInt8.not_lt.1 h);subst this;simp[h,d]
theorem abx: ∀a b:List UInt8,bC (aeb a b) 0=iG a b
 |[],[]=>rfl
 |[],_::_=>rfl
 |_::_,[]=>rfl
 |x::a,y::b=>by
  have d:=abx a b;unfold aeb iG at*;rw[Lib.compareBytes];by_cases h:x<y
  .have:x≠y:=fun e=>by subst e;exact UInt8.lt_irrefl _ h
   simp[h,bC,this]
  .by_cases h2:y<x
   .have:x≠y:=fun e=>by subst e;exact h h2
    simp[h,h2,bC,this]
   .have:x=y:=UInt8.le_antisymm (UInt8.not_lt.1 h2) (UInt8.not_lt.1 h);subst this;simp[h,d]
theorem aaK: ∀a:List UInt8,Gx a a=false
 |[]=>rfl
 |x::a=>by
  have d:=aaK a;unfold Gx at*;rw[Op.bytesLess];simp[d,UInt8.lt_irrefl]
theorem acL: ∀a b c:List UInt8,Gx a b=true->Gx b c=true->Gx a c=true
 |_,[],[],_,h=>by cases h
 |_,_::_,[],_,h=>by cases h
 |[],[],_::_,h,_=>by cases h
 |_::_,[],_::_,h,_=>by cases h
 |[],_::_,_::_,_,_=>rfl
 |x::a,y::b,z::c,d,e=>by
  have f:=acL a b c;unfold Gx at*;rw[Op.bytesLess]at*;simp only[Bool.or_eq_true,decide_eq_true_eq,af,beq_iff_eq]at*;rcases d with d|⟨rfl,d⟩<;>rcases e with e|⟨rfl,e⟩
  .exact .inl (UInt8.lt_trans d e)
  .exact .inl d
  .exact .inl e
  .exact .inr ⟨rfl,f d e⟩
theorem aaL: ∀a b:List UInt8,Gx a b=false->a≠b->Gx b a=true
 |[],[],_,h=>absurd rfl h
 |[],_::_,h,_=>by cases h
 |_::_,[],_,_=>rfl
 |x::a,y::b,h,d=>by
  have e:=aaL a b;unfold Gx at*;rw[Op.bytesLess]at*;by_cases h1:x<y
  .simp[h1]at h
  .by_cases h2:y<x
   .simp[h2]
   .have:x=y:=UInt8.le_antisymm (UInt8.not_lt.1 h2) (UInt8.not_lt.1 h1);subst this;simp_all
def jq (k:List UInt8):List oW->Nat
 |[]=>0
 |e::r=>if Gx e.1 k=true then jq k r+1 else 0
def rO (k:List UInt8):List oW->Option (List UInt8)
 |[]=>none
 |e::r=>if e.1=k then some e.2.1 else rO k r
def Dj (k v:List UInt8):List oW->List oW
 |[]=>[(k,(v,()))]
 |e::r=>if Gx e.1 k=true then e::Dj k v r else if e.1=k then(k,(v,()))::r else(k,(v,()))::e::r
def Asc (T:List oW):Prop:=T.Pairwise fun x y=>Gx x.1 y.1=true
theorem Uc (k:List UInt8): ∀T,jq k T<=T.length
 |[]=>ae _
 |e::r=>by have:=Uc k r;grind [jq]
theorem ajn (k:List UInt8): ∀(T:List oW) (m:Nat) (h:m<T.length),m<jq k T->Gx T[m].1 k=true
 |[],_,h,_=>by cases h
 |e::r,m,h,d=>by
  have f:=ajn k r;rw[jq]at d;cases m<;>grind
theorem ajm (k:List UInt8): ∀(T:List oW),Asc T-> ∀(m:Nat) (h:m<T.length),jq k T<=m->Gx T[m].1 k=false
 |[],_,_,h,_=>by cases h
 |e::r,d,m,h,f=>by
  have g:=ajm k r (List.pairwise_cons.1 d).2;have i:=(List.pairwise_cons.1 d).1;rw[jq]at f;cases m with
  |zero=>cases hq:Gx e.1 k<;>simp_all
  |succ m=>
   simp only[List.getElem_cons_succ];have l:m<r.length:=by simp at h;omega
   by_cases hq:Gx e.1 k=true
   .exact g m _ (by simp_all)
   .have j:=i r[m] (aG _);cases hz:Gx r[m].1 k with
    |false=>rfl
    |true=>exact absurd (acL _ _ _ j hz) hq
theorem Xv (k:List UInt8): ∀(T:List oW),(∀e∈T,Gx k e.1=true)->rO k T=none
 |[],_=>rfl
 |e::r,h=>by
  have g:=Xv k r (fun e d=>h e (ak _ d));have f:=h e aA;have:e.1≠k:=fun d=>by rw[d,aaK]at f;cases f
  rw[rO,aq this,g]
theorem KF (k:List UInt8): ∀(T:List oW),Asc T->rO k T=if h:jq k T<T.length then(if T[jq k T].1=k then some T[jq k T].2.1 else none)else none
 |[],_=>rfl
 |e::r,d=>by
  have f:=KF k r (List.pairwise_cons.1 d).2;have g:=(List.pairwise_cons.1 d).1;by_cases hq:Gx e.1 k=true
  .have i:e.1≠k:=fun h=>by rw[h,aaK]at hq;cases hq
   have hl:jq k (e::r)=jq k r+1:=by rw[jq,am hq]
   rw[rO,aq i,f];simp only[hl,aH,List.getElem_cons_succ,Nat.add_lt_add_iff_right]
  .have hl:jq k (e::r)=0:=by rw[jq,aq hq]
   simp only[hl,aH,List.getElem_cons_zero];rw[rO];by_cases he:e.1=k
   .simp[he]
   .have j:Gx k e.1=true:=aaL _ _ (by simpa using hq) he;have:=Xv k r (fun x l=>acL _ _ _ j (g x l));simp[he,this]
theorem ady (k v:List UInt8): ∀(T:List oW) (h:jq k T<T.length),T[jq k T].1=k->Dj k v T=T.set (jq k T) (k,(v,()))
 |[],h,_=>by cases h
 |e::r,h,d=>by
  have f:=ady k v r;by_cases hq:Gx e.1 k=true
  .have hl:jq k (e::r)=jq k r+1:=by rw[jq,am hq]
   rw[Dj,am hq];simp only[hl,aH,Nat.add_lt_add_iff_right]at h;simp only[hl,List.getElem_cons_succ]at d;rw[hl,List.set_cons_succ,f h d]
  .have hl:jq k (e::r)=0:=by rw[jq,aq hq]
   simp only[hl,List.getElem_cons_zero]at d;rw[Dj,aq hq,am d,hl,List.set_cons_zero]
theorem adx (k v:List UInt8): ∀(T:List oW),Asc T->rO k T=none->Dj k v T=T.take (jq k T)++[(k,(v,()))]++T.drop (jq k T)
 |[],_,_=>rfl
 |e::r,g,d=>by
  have f:e.1≠k:=fun h=>by rw[rO,am h]at d;cases d
  rw[rO,aq f]at d;have i:=adx k v r (List.pairwise_cons.1 g).2 d;by_cases hq:Gx e.1 k=true
  .have hl:jq k (e::r)=jq k r+1:=by rw[jq,am hq]
   rw[Dj,am hq,hl,i];rfl
  .have hl:jq k (e::r)=0:=by rw[jq,aq hq]
   rw[Dj,aq hq,aq f,hl];rfl
theorem KT (k v:List UInt8): ∀(T:List oW),∀e∈Dj k v T,e=(k,(v,()))\/e∈T
 |[],e,h=>by rw[Dj]at h;simp_all
 |x::r,e,h=>by
  have d:=KT k v r e;rw[Dj]at h;split at h
  .rcases List.mem_cons.1 h with rfl|h
   .simp
   .rcases d h with h|h<;>simp[h]
  .split at h<;>simp_all;rcases h with h|h<;>simp[h]
theorem Zh (k v:List UInt8): ∀(T:List oW),(Dj k v T).length<=T.length+1
 |[]=>ae _
 |x::r=>by have:=Zh k v r;grind [Dj]
theorem adw (k v:List UInt8): ∀(T:List oW),Asc T->Asc (Dj k v T)
 |[],_=>by simp[Dj,Asc]
 |e::r,f=>by
  have l:=adw k v r (List.pairwise_cons.1 f).2;have g:=(List.pairwise_cons.1 f).1;have o:=(List.pairwise_cons.1 f).2;unfold Asc at*;rw[Dj];split
  .rename_i h
   refine List.pairwise_cons.2 ⟨fun x d=> ?_,l⟩;rcases KT k v r x d with rfl|d
   .exact h
   .exact g x d
  .rename_i h
   split
   .rename_i i
    subst i;exact List.pairwise_cons.2 ⟨g,o⟩
   .rename_i i
    have j:=aaL _ _ (by simpa using h) i;refine List.pairwise_cons.2 ⟨fun x d=> ?_,f⟩;rcases List.mem_cons.1 d with rfl|d
    .exact j
    .exact acL _ _ _ j (g x d)
theorem get_mem (k:List UInt8): ∀(T:List oW) (v:List UInt8),rO k T=some v->(k,(v,()))∈T
 |[],_,h=>by cases h
 |e::r,v,h=>by
  have f:=get_mem k r v;rw[rO]at h;obtain⟨a,b,u⟩:=e;cases u;split at h
  .rename_i d
   cases h;simp only at d;subst d;simp
  .exact ak _ (f h)
end
section
open Bool renaming not_true → ax
open List renaming mem_cons_of_mem → ak, mem_cons_self → aA, drop_eq_getElem_cons → aF, foldl_cons → aP
open Nat renaming le_refl → ae
open Go.RowKit
theorem ato {i j:Nat} (h:i+j<1000000):IntKind.i64.wrap (OJ .u64 (IntKind.u64.wrap (bV .i64 (i:Int) (j:Int))) 1)=((i+j)/2:Nat):=by
 rw[bQ,IntKind.wrap_u64];unfold OJ;rw[show(2:Int)^(min (Int.toNat 1) IntKind.u64.bits)=2 from rfl,IntKind.wrap_i64]
 grind
theorem acP {T:List oW} {m:Nat} (h:m<T.length):cO T dEn m=T[m]:=ql h
theorem aot {T:List oW} {m:Nat} (h:m<T.length):bT T dEn (m:Int)=T[m]:=by
 grind [bT]
theorem Qg (a b:List UInt8):amf a b=some (aeb a b,()):=rfl
theorem EP {k:List UInt8} {T:List oW} (f:Asc T) (hT:T.length<=100000) (n:Int) (a b:List UInt8) (c:Int): ∀(N i j:Nat),j-i<N->i<=jq k T->jq k T<=j->j<=T.length->
  tN N k n (i:Int) (j:Int) a b c T=some (.inl ((k,n,((jq k T:Nat):Int),()),((a,b,()),(),()),((c,()),T,())))
 |0,i,j,h,_,_,_=>by omega
 |N+1,i,j,h,g,l,hl=>by
  rw[tN,CX];by_cases e:i<j
  .have d:(i+j)/2<T.length:=by omega
   rw[bJ (eU),bJ (show leI 0 1=true from rfl)];simp only[BK,ato (i:=i) (j:=j) (by omega)];rw[bJ (dQ),show bP (((i+j)/2:Nat):Int)=(i+j)/2 from rfl,bJ (oJ d),show([],([],()))=dEn from rfl,acP d,Qg,aY];simp only[ahg];rw[bQ,show(((i+j)/2:Nat):Int)+1=(((i+j)/2+1:Nat):Int) by omega];by_cases hlt:(i+j)/2<jq k T
   .rw[ajn k T _ d hlt,aa];exact EP f hT n a b c N _ j (by omega) (by omega) l hl
   .rw[ajm k T f _ d (by omega),ac];exact EP f hT n a b c N i _ (by omega) g (by omega) (by omega)
  .rw[dE (iy),show i=jq k T by omega]
theorem aie {k:List UInt8} {T:List oW} (d:Asc T) (hT:T.length<=100000) (c:Int):aij c T k=some ((c,(T,())),(((jq k T:Nat):Int),((rO k T).isSome,()))):=by
 have e:=Uc k T;rw[aij,show tN bD k (bi T) 0 (bi T) k k c T=_ from EP d hT _ _ _ _ bD 0 T.length (dC) (by omega) e (ae _),aY];simp only[dB];rw[KF k T d];by_cases h:jq k T<T.length
 .rw[bJ (eU (by rw[bz];omega)),bJ (dQ),show bP ((jq k T:Nat):Int)=jq k T from rfl,bJ (oJ h),show([],([],()))=dEn from rfl,acP h,Qg,aY,dif_pos h];simp only[abx];by_cases he:T[jq k T].1=k
  .rw[am he,aol he];rfl
  .rw[aq he,Jn he];rfl
 .rw[dE (jc (by rw[bz];omega)),dif_neg h];rfl
theorem ash {k:List UInt8} {T:List oW} (e:Asc T) (hT:T.length<=100000) (c:Int):ame c T k=some ((c,(T,())),((rO k T).getD [],((rO k T).isSome,()))):=by
 have f:=Uc k T;have d:=KF k T e;rw[ame,aie e hT,aY];simp only;cases h:rO k T with
 |none=>rfl
 |some v=>
  rw[h]at d;have hl:jq k T<T.length:=by
   by_cases hl:jq k T<T.length
   .exact hl
   .rw[dif_neg hl]at d;cases d
  rw[dif_pos hl]at d;split at d
  .injection d with d
   rw[Option.isSome_some,ax,ac,bJ (dQ),show bP ((jq k T:Nat):Int)=jq k T from rfl,bJ (oJ hl),show([],([],()))=dEn from rfl,acP hl,d];rfl
  .cases d
def nmB (c:UInt8):Bool:=adu c&& !(bC (c.toNat:Int) 47)
def afo (k:List UInt8):Bool:= !(iG k [])&&k.all nmB
theorem RX {k:List UInt8} (hk:k.length<=100000): ∀(N m:Nat),k.length-m<N->m<=k.length->
  Ip N k (k.length:Int) (m:Int)=some (if(k.drop m).all nmB=true then .inl ((),())else .inr ((false,()),()))
 |0,m,h,_=>by omega
 |N+1,m,h,g=>by
  rw[Ip,VS];by_cases e:m<k.length
  .have d:=RX hk N (m+1) (by omega) (by omega);rw[aF e,List.all_cons,bJ (eU),bJ (dQ),byte_at e,ars,aY,bQ,show(m:Int)+1=((m+1:Nat):Int) by omega,d];have f:gm k (m:Int)=true:=dQ;unfold nmB;cases adu k[m]<;>cases bC (k[m].toNat:Int) 47<;>simp[f]
  .rw[List.drop_eq_nil_of_le (by omega),dE (jc)];rfl
theorem an8 {k:List UInt8} (hk:k.length<=100000):aad k=some (afo k,()):=by
 rw[aad,show Ip bD k (bi k) 0=_ from RX hk bD 0 (dC) (by omega),List.drop_zero];unfold afo;cases iG k []<;>cases k.all nmB<;>rfl
theorem asi {k:List UInt8} (hk:k.length<=100000):amc 2 k=some (afo k,()):=by
 rw[amc,show bC 2 1=false from rfl,ac,show bC 2 3=false from rfl,ac,fB,aa,aa,an8 hk,aY]
def YG (T:List oW) (k v:List UInt8):List oW:=if afo k=true then Dj k v T else T
theorem asl {k v:List UInt8} {T:List oW} (e:Asc T) (hT:T.length<10000) (hk:k.length<=100000) (g:v.length<=65536): ∃c,ama 2 T k v=some ((2,(YG T k v,())),(c,())):=by
 have i:=Uc k T;have d:=KF k T e;rw[ama,asi hk,aY];unfold YG;cases hm:afo k with
 |false=>exact⟨5,rfl⟩
 |true=>
  rw[ax,ac,dE (jc (by rw[bz];omega)),aie e (by omega),aY,am rfl];simp only;cases h:rO k T with
  |none=>
   rw[Option.isSome_none,ac,dE (XW (by rw[bz];omega)),qX,qX (by rw[bz];omega),FT (by omega),adx k v T e h];exact⟨0,rfl⟩
  |some u=>
   rw[h]at d;have hl:jq k T<T.length:=by
    by_cases hl:jq k T<T.length
    .exact hl
    .rw[dif_neg hl]at d;cases d
   rw[dif_pos hl]at d;split at d
   .rename_i f
    rw[Option.isSome_some,aa,bJ (dQ),show bP ((jq k T:Nat):Int)=jq k T from rfl,bJ (oJ hl),show([],([],()))=dEn from rfl,acP hl,ady k v T hl f,f];exact⟨0,rfl⟩
   .cases d
def ofT (l:List oW):List oW:=l.foldl (fun T e=>YG T e.1 e.2.1) []
def Lit (n a b:Nat) (l:List oW):Prop:=l.length<=n/\ ∀e∈l,e.1.length<=a/\e.2.1.length<=b
def Tab (n a b:Nat) (T:List oW):Prop:=Asc T/\Lit n a b T/\ ∀e∈T,afo e.1=true
theorem acZ {n a b:Nat} {T:List oW} (h:Tab n a b T) {k v:List UInt8} (hk:k.length<=a) (j:v.length<=b):Tab (n+1) a b (YG T k v):=by
 obtain⟨f,⟨o,g⟩,i⟩:=h;unfold YG;split
 .rename_i l
  refine⟨adw k v T f,⟨by have:=Zh k v T;omega,fun e d=> ?_⟩,fun e d=> ?_⟩
  .rcases KT k v T e d with rfl|d
   .exact⟨hk,j⟩
   .exact g e d
  .rcases KT k v T e d with rfl|d
   .exact l
   .exact i e d
 .exact⟨f,⟨by omega,g⟩,i⟩
theorem adX {a b:Nat}: ∀(l T:List oW) (n m:Nat),Tab m a b T->Lit n a b l->Tab (m+n) a b (l.foldl (fun T e=>YG T e.1 e.2.1) T)
 |[],T,n,m,h,_=>⟨h.1,⟨by have:=h.2.1.1;show T.length<=_;omega,h.2.1.2⟩,h.2.2⟩
 |e::r,T,n,m,h,hl=>by
  obtain⟨n,rfl⟩: ∃k,n=k+1:=⟨n-1,by have:=hl.1;simp at this;omega⟩;have d:=hl.2 e aA;have:=adX r _ n (m+1) (acZ h d.1 d.2) ⟨by have:=hl.1;simp at this;omega,fun x f=>hl.2 x (ak _ f)⟩;rw[aP,show m+(n+1)=m+1+n by omega];exact this
theorem anj {n a b:Nat} {l:List oW} (h:Lit n a b l):Tab n a b (ofT l):=by
 have:=adX l [] n 0 ⟨List.Pairwise.nil,⟨ae _,fun e d=>by cases d⟩,fun e d=>by cases d⟩ h;rwa [Nat.zero_add]at this
end
section
open Go.RowKit
theorem aou {k:List UInt8} {T:List oW} (d:Asc T) (hT:T.length<=100000) (c:Int):aih c T k=some ((c,(T,())),((rO k T).getD [],((rO k T).isSome,()))):=by
 rw[aih,ash d hT];rfl
theorem aca {n a b:Nat} {T:List oW} (h:Tab n a b T) {k v:List UInt8} (d:rO k T=some v):v.length<=b:=(h.2.1.2 _ (get_mem k T v d)).2
end
section
open Option renaming some → a6, none → a7
open Tryz
open Go.RowKit
def amb (d:bH):Option o8:=cond (!(iG d [])) (cond (gm d (eY .i64 (bi d) 1)) (aZ (Nh (bU d (eY .i64 (bi d) 1))) fun e=>a6 ((bC e.1 1),())) a7)<|some (false,())
def ak7:Sum:=⟨[.str],Wl,fun x=>amb x.1⟩
noncomputable def asD:Env:=oC prog tt 25 [(44,adV)] [] []
theorem ahv:eP asD:=eA Tryz.f25 (aD rH aN)
theorem Y9:dO prog 25 ak7:=sA ahv
def auN (d e:yc):Option EO:=a6 ((eY .i64 d.2.1 e.2.1),())
def aoO:Sum:=⟨[Wj,Wj],tzD,fun x=>auN x.1 x.2.1⟩
noncomputable def asE:Env:=oC prog tt 27 [] [] []
theorem ahw:eP asE:=eA Tryz.f27 aN
theorem ala:dO prog 27 aoO:=sA ahw
noncomputable def zT:Code:=(f10.body).getD .skip
noncomputable def Zz:Code:=(f40.body).getD .skip
noncomputable def WB:Code:=cA (cA (cB (Zz)))
def XI:dW:=⟨[0,1,5,6,7,41000001],[],[],[],[],[]⟩
def ap7:dW:=⟨[2,4,7,8],[],[],[],[],[]⟩
def ap1:dW:=⟨[2,4,7,8],[],[],[],[],[]⟩
def ae9:dW:=⟨[0,1,4,5,6,7],[],[],[],[],[]⟩
def GH:SQ:=⟨us [.yld 1700025,c9,.u,.u,.u,cQ,bX,bX] 24,[cg,[.yld 1700025],bs],bS⟩
def IC:SQ:=⟨us [] 32,[cg,[.yld 1700025],bs],bS⟩
def IJ:SQ:=⟨us [] 32,[cg,[.yld 1700025],bs],[]⟩
def CU {y:Type} (u:(List eX)->Int->Int->(List eX)->(List mJ)->(List eG)->(List eG)->Int->EW->Bool->(List yc)->Int->(List oU)->Option y) (z:(List eX)->(List mJ)->(List eG)->(List eG)->Int->EW->Bool->(List yc)->Int->(List oU)->Option y) (B:Option y) (e:List eX) (l d:Int) (g:List eX) (h:List mJ) (f o:List eG) (p:Int) (q:EW) (s:Bool) (i:List yc) (v:Int) (x:List oU):Option y:=cond (gY d l) (cond (gm e d) (cond (bC (bT e (0,(0,(0,(0,())))) d).1 7) (cond (gm g (bT e (0,(0,(0,(0,())))) d).2.2.2.1) (cond (bC (bT g (0,(0,(0,(0,())))) (bT e (0,(0,(0,(0,())))) d).2.2.2.1).1 5) (cond (bC (kw h (bT e (0,(0,(0,(0,())))) d).2.2.2.1) 2) (u e l (bV .i64 d 1) g h f o p q s i v x)<|cond (gm f (bT e (0,(0,(0,(0,())))) d).2.1) (aZ (aih v x (bT f (0,([],(0,(0,())))) (bT e (0,(0,(0,(0,())))) d).2.1).2.1) fun j=>cond (!j.2.2.1) (u e l (bV .i64 d 1) g (kN h (bT e (0,(0,(0,(0,())))) d).2.2.2.1 2) f o p q s i j.1.1 j.1.2.1)<|cond (gm f (bT e (0,(0,(0,(0,())))) d).2.1) (cond (gm f (bT e (0,(0,(0,(0,())))) d).2.1) (cond (Fz RS f f) (cond (bC (bT e (0,(0,(0,(0,())))) d).2.1 (bT e (0,(0,(0,(0,())))) d).2.1) (cond (gm f (bT e (0,(0,(0,(0,())))) d).2.1) (cond ((bC (bT f (0,([],(0,(0,())))) (bT e (0,(0,(0,(0,())))) d).2.1).1 (bT f (0,([],(0,(0,())))) (bT e (0,(0,(0,(0,())))) d).2.1).1)&&((iG (bT f (0,([],(0,(0,())))) (bT e (0,(0,(0,(0,())))) d).2.1).2.1 (bT f (0,([],(0,(0,())))) (bT e (0,(0,(0,(0,())))) d).2.1).2.1)&&((bC (bT f (0,([],(0,(0,())))) (bT e (0,(0,(0,(0,())))) d).2.1).2.2.1 (bT f (0,([],(0,(0,())))) (bT e (0,(0,(0,(0,())))) d).2.1).2.2.1)&&((bC (bT f (0,([],(0,(0,())))) (bT e (0,(0,(0,(0,())))) d).2.1).2.2.2.1 (bT f (0,([],(0,(0,())))) (bT e (0,(0,(0,(0,())))) d).2.1).2.2.2.1)&&true)))) (cond (bC (bT f (0,([],(0,(0,())))) (bT e (0,(0,(0,(0,())))) d).2.1).2.2.1 (bT f (0,([],(0,(0,())))) (bT e (0,(0,(0,(0,())))) d).2.1).2.2.1) (cond (bC (bT f (0,([],(0,(0,())))) (bT e (0,(0,(0,(0,())))) d).2.1).2.2.1 (bT f (0,([],(0,(0,())))) (bT e (0,(0,(0,(0,())))) d).2.1).2.2.1) (cond (Fz RS f f) (cond (bC (bT e (0,(0,(0,(0,())))) d).2.1 (bT e (0,(0,(0,(0,())))) d).2.1) (cond (gm f (bT e (0,(0,(0,(0,())))) d).2.1) (cond ((bC (bT f (0,([],(0,(0,())))) (bT e (0,(0,(0,(0,())))) d).2.1).1 (bT f (0,([],(0,(0,())))) (bT e (0,(0,(0,(0,())))) d).2.1).1)&&((iG (bT f (0,([],(0,(0,())))) (bT e (0,(0,(0,(0,())))) d).2.1).2.1 (bT f (0,([],(0,(0,())))) (bT e (0,(0,(0,(0,())))) d).2.1).2.1)&&((bC (bT f (0,([],(0,(0,())))) (bT e (0,(0,(0,(0,())))) d).2.1).2.2.1 (bT f (0,([],(0,(0,())))) (bT e (0,(0,(0,(0,())))) d).2.1).2.2.1)&&((bC (bT f (0,([],(0,(0,())))) (bT e (0,(0,(0,(0,())))) d).2.1).2.2.2.1 (bT f (0,([],(0,(0,())))) (bT e (0,(0,(0,(0,())))) d).2.1).2.2.2.1)&&true)))) (cond (bC (bT f (0,([],(0,(0,())))) (bT e (0,(0,(0,(0,())))) d).2.1).2.2.2.1 (bT f (0,([],(0,(0,())))) (bT e (0,(0,(0,(0,())))) d).2.1).2.2.2.1) (cond (bC (bT f (0,([],(0,(0,())))) (bT e (0,(0,(0,(0,())))) d).2.1).2.2.2.1 (bT f (0,([],(0,(0,())))) (bT e (0,(0,(0,(0,())))) d).2.1).2.2.2.1) (cond (dZ (bI i [(6,((bT f (0,([],(0,(0,())))) (bT e (0,(0,(0,(0,())))) d).2.1).2.2.1,((bT f (0,([],(0,(0,())))) (bT e (0,(0,(0,(0,())))) d).2.1).2.2.2.1,(false,()))))]) 32) (cond (Fz RS f f) (cond (bC (bT e (0,(0,(0,(0,())))) d).2.1 (bT e (0,(0,(0,(0,())))) d).2.1) (cond (gm f (bT e (0,(0,(0,(0,())))) d).2.1) (cond ((bC (bT f (0,([],(0,(0,())))) (bT e (0,(0,(0,(0,())))) d).2.1).1 (bT f (0,([],(0,(0,())))) (bT e (0,(0,(0,(0,())))) d).2.1).1)&&((iG (bT f (0,([],(0,(0,())))) (bT e (0,(0,(0,(0,())))) d).2.1).2.1 (bT f (0,([],(0,(0,())))) (bT e (0,(0,(0,(0,())))) d).2.1).2.1)&&((bC (bT f (0,([],(0,(0,())))) (bT e (0,(0,(0,(0,())))) d).2.1).2.2.1 (bT f (0,([],(0,(0,())))) (bT e (0,(0,(0,(0,())))) d).2.1).2.2.1)&&((bC (bT f (0,([],(0,(0,())))) (bT e (0,(0,(0,(0,())))) d).2.1).2.2.2.1 (bT f (0,([],(0,(0,())))) (bT e (0,(0,(0,(0,())))) d).2.1).2.2.2.1)&&true)))) (cond (bC (bT f (0,([],(0,(0,())))) (bT e (0,(0,(0,(0,())))) d).2.1).2.2.1 (bT f (0,([],(0,(0,())))) (bT e (0,(0,(0,(0,())))) d).2.1).2.2.1) (cond (bC (bT f (0,([],(0,(0,())))) (bT e (0,(0,(0,(0,())))) d).2.1).2.2.1 (bT f (0,([],(0,(0,())))) (bT e (0,(0,(0,(0,())))) d).2.1).2.2.1) (cond (Fz RS f f) (cond (bC (bT e (0,(0,(0,(0,())))) d).2.1 (bT e (0,(0,(0,(0,())))) d).2.1) (cond (gm f (bT e (0,(0,(0,(0,())))) d).2.1) (cond ((bC (bT f (0,([],(0,(0,())))) (bT e (0,(0,(0,(0,())))) d).2.1).1 (bT f (0,([],(0,(0,())))) (bT e (0,(0,(0,(0,())))) d).2.1).1)&&((iG (bT f (0,([],(0,(0,())))) (bT e (0,(0,(0,(0,())))) d).2.1).2.1 (bT f (0,([],(0,(0,())))) (bT e (0,(0,(0,(0,())))) d).2.1).2.1)&&((bC (bT f (0,([],(0,(0,())))) (bT e (0,(0,(0,(0,())))) d).2.1).2.2.1 (bT f (0,([],(0,(0,())))) (bT e (0,(0,(0,(0,())))) d).2.1).2.2.1)&&((bC (bT f (0,([],(0,(0,())))) (bT e (0,(0,(0,(0,())))) d).2.1).2.2.2.1 (bT f (0,([],(0,(0,())))) (bT e (0,(0,(0,(0,())))) d).2.1).2.2.2.1)&&true)))) (cond (bC (bT f (0,([],(0,(0,())))) (bT e (0,(0,(0,(0,())))) d).2.1).2.2.2.1 (bT f (0,([],(0,(0,())))) (bT e (0,(0,(0,(0,())))) d).2.1).2.2.2.1) (cond (bC (bT f (0,([],(0,(0,())))) (bT e (0,(0,(0,(0,())))) d).2.1).2.2.2.1 (bT f (0,([],(0,(0,())))) (bT e (0,(0,(0,(0,())))) d).2.1).2.2.2.1) (cond ((bC 6 6)&&((bC (bT f (0,([],(0,(0,())))) (bT e (0,(0,(0,(0,())))) d).2.1).2.2.1 (bT f (0,([],(0,(0,())))) (bT e (0,(0,(0,(0,())))) d).2.1).2.2.1)&&((bC (bT f (0,([],(0,(0,())))) (bT e (0,(0,(0,(0,())))) d).2.1).2.2.2.1 (bT f (0,([],(0,(0,())))) (bT e (0,(0,(0,(0,())))) d).2.1).2.2.2.1)&&((Pz false false)&&true)))) (aZ (amb j.2.1) fun A=>cond A.1 (u e l (bV .i64 d 1) g (kN (kN h (bT e (0,(0,(0,(0,())))) d).2.2.2.1 2) (bT e (0,(0,(0,(0,())))) d).2.2.2.1 1) f o p q s (bI i [(6,((bT f (0,([],(0,(0,())))) (bT e (0,(0,(0,(0,())))) d).2.1).2.2.1,((bT f (0,([],(0,(0,())))) (bT e (0,(0,(0,(0,())))) d).2.1).2.2.2.1,(false,()))))]) j.1.1 j.1.2.1)<|u e l (bV .i64 d 1) g (kN h (bT e (0,(0,(0,(0,())))) d).2.2.2.1 2) f o p q s (bI i [(6,((bT f (0,([],(0,(0,())))) (bT e (0,(0,(0,(0,())))) d).2.1).2.2.1,((bT f (0,([],(0,(0,())))) (bT e (0,(0,(0,(0,())))) d).2.1).2.2.2.1,(false,()))))]) j.1.1 j.1.2.1) a7) a7) a7) a7) a7) a7) a7) a7) a7) a7) a7) a7) a7) a7) a7) a7) a7) a7) a7) a7) a7) a7) a7) a7) a7) a7) a7) a7) a7)<|u e l (bV .i64 d 1) g h f o p q s i v x) a7)<|u e l (bV .i64 d 1) g h f o p q s i v x) a7)<|z g h f o p q s i v x
def tH:Nat->(List eX)->Int->Int->(List eX)->(List mJ)->(List eG)->(List eG)->Int->EW->Bool->(List yc)->Int->(List oU)->Option (IC.den⊕IJ.den)
 |0,_,_,_,_,_,_,_,_,_,_,_,_,_=>a7
 |n+1,d,e,f,g,h,i,j,l,o,p,q,s,u=>CU (tH n) (fun v x y z A B D E G I=>a6 (.inl ((),((),(),(),()),((),(v,()),(),x,(y,()),z,(A,B,D,()),(),E,(),(G,()),I,())))) (a6 (.inr ((),((),(),(),()),()))) d e f g h i j l o p q s u
def afk (n:Nat) (v:GH.den):=bm (tH n) v
noncomputable def QM:dA:=eH XI GH IC IJ (.exit 0) (afk bD) 6
def aab (i:Int) (j:List oU) (g:bH):Option ((Int×(List oU)×Unit)×((List yc)×Unit)):=aZ (Xi g) fun e=>aZ (Xk g e.1) fun h=>aZ (Tv h.1) fun f=>aZ (tH bD f.1 (bi f.1) 0 f.1 [] h.1 [] e.2.1.1 e.2.1.2.1 e.2.1.2.2.1 [] i j) fun l=>dB l (fun d=>cond ((OU d.2.2.2.2.2.2.2.2.2.2.1)&&(dZ d.2.2.2.2.2.2.2.2.2.2.1 64)) (a6 ((d.2.2.2.2.2.2.2.2.2.2.2.2.1.1,(d.2.2.2.2.2.2.2.2.2.2.2.2.2.1,())),(d.2.2.2.2.2.2.2.2.2.2.1,()))) a7) (fun o=>a7)
def akH:fF:=⟨79,tzE,[.str],[.list Wj],fun x y=>aab x.1 x.2.1 y.1⟩
noncomputable def abB:Env:=fK prog tt [(20,adJ),(21,adK),(23,adM),(25,ak7)] [(40,1,XI),(10,500007,ap7),(10,600004,ap1),(40,600003,ae9)] [(40,1,QM)] [10] [(24,adN)]
def Rk {d:Type} (a:GH.den->Option d) (b:IC.den->Option d) (c:IJ.den->Option d) (v:GH.den):Option d:=bm (CU (fun e f g h i j l o p q s u x=>a ((e,f,g,()),((),(),(),()),((),(h,()),(),i,(j,()),l,(o,p,q,()),(),s,(),(u,()),x,()))) (fun y z A B D E G I J K=>b ((),((),(),(),()),((),(y,()),(),z,(A,()),B,(D,E,G,()),(),I,(),(J,()),K,()))) (c ((),((),(),(),()),()))) v
theorem aft:dU abB 40 WB QM:=lN (Rk) (h2:=by intros;simp only[Rk,bm,CU,di,dm,aY,bZ,dn])
theorem as8:iW zT=[]:=by kernel_rfl
theorem aty:iU zT=[(cA (cA (cB (cA (cB (cB (cB (cB (zT)))))))),cB (cA (cB (cA (cB (cB (cB (cB (zT)))))))))]:=by kernel_rfl
theorem atd:dL abB 10 zT:=nX zT (by rw[aty];exact(aD (fun _=>(show oO 10 7=a6 (cA (cA (cB (cA (cB (cB (cB (cB (zT)))))))),cB (cA (cB (cA (cB (cB (cB (cB (zT))))))))) by kernel_rfl)) aN)) (by rw[as8];exact aN)
theorem aji:dL abB 40 Zz:=zL [WB] (aD (fM (aft)) aN)
theorem ahn:eP abB:=eB (aD OV (aD OW (aD OX (aD Y9 aN)))) [10,40] (aD ⟨f10,zT,by kernel_rfl,by kernel_rfl,atd⟩ (aD ⟨f40,Zz,by kernel_rfl,by kernel_rfl,aji⟩ aN)) (hx:=(aD OY aN))
theorem Y6:dJ prog 10 akH:=sB ahn
noncomputable def b12:Code:=(f12.body).getD .skip
noncomputable def aoe:Code:=cA (cA (cB (cA (cB (cB (cB (b12)))))))
def aov:dW:=⟨[0,1,6,7,14,15,16,100004],[(6,(.int .u8))],[1,6,7],[],[4,5],[]⟩
def acS:SQ:=⟨us [ct,bL,.u,.u,.u,.u,.slc 1800006,bX,.u,.u,.u,.u,.u,.u,.v (.list Wj),bX,bX] 39,cY,[.arr 1800006 (.int .u8),cH,d8]⟩
def aaR:SQ:=⟨us [.u,bL,.u,.u,.u,.u,.slc 1800006,bX] 48,cY,[.arr 1800006 (.int .u8),cH,d8]⟩
def aaW:SQ:=⟨us [.u,.u,.u,.u,bL,bX] 50,cY,[cH,d8]⟩
def VM {j:Type} (q:bH->Int->(List yc)->Int->Int->jB->Int->(List oU)->Option j) (s:bH->Int->jB->Int->(List oU)->Option j) (u:bH->Int->Int->(List oU)->Option j) (f:bH) (h:Int) (e:List yc) (l d:Int) (i:jB) (o:Int) (p:List oU):Option j:=cond (gY d l) (cond (gm e d) (cond (gy (bi f) (bT e (0,(0,(0,(false,())))) d).2.1 (bT e (0,(0,(0,(false,())))) d).2.2.1) (aZ (aih o p (sub f (bT e (0,(0,(0,(false,())))) d).2.1 (bT e (0,(0,(0,(false,())))) d).2.2.1)) fun g=>cond (gy (bi f) h (bT e (0,(0,(0,(false,())))) d).2.1) (cond (dZ (bI i (bF (sub f h (bT e (0,(0,(0,(false,())))) d).2.1))) 1) (cond (dZ (bI (bI i (bF (sub f h (bT e (0,(0,(0,(false,())))) d).2.1))) (bF g.2.1)) 1) (cond (gY 1048576 (bi (bI (bI i (bF (sub f h (bT e (0,(0,(0,(false,())))) d).2.1))) (bF g.2.1)))) (u [] 2 g.1.1 g.1.2.1)<|q f (bT e (0,(0,(0,(false,())))) d).2.2.1 e l (bV .i64 d 1) (bI (bI i (bF (sub f h (bT e (0,(0,(0,(false,())))) d).2.1))) (bF g.2.1)) g.1.1 g.1.2.1) a7) a7) a7) a7) a7)<|s f h i o p
def Ik:Nat->bH->Int->(List yc)->Int->Int->jB->Int->(List oU)->Option (aaR.den⊕aaW.den)
 |0,_,_,_,_,_,_,_,_=>a7
 |n+1,d,e,f,g,h,i,j,l=>VM (Ik n) (fun o p q s u=>a6 (.inl ((o,p,()),((),()),(q,(s,()),u,())))) (fun v x y z=>a6 (.inr ((v,x,()),((),()),((y,()),z,())))) d e f g h i j l
def aqz (n:Nat) (v:acS.den):=Ik n v.1.1 v.1.2.1 v.1.2.2.1 v.1.2.2.2.1 v.1.2.2.2.2.1 v.2.2.1 v.2.2.2.1.1 v.2.2.2.2.1
noncomputable def ajt:dA:=eH aov acS aaR aaW (.exit 0) (aqz bD) 6
def al9 (h:Int) (i:List oU) (g:bH):Option ((Int×(List oU)×Unit)×(bH×Int×Unit)):=aZ (aab h i g) fun e=>aZ (Ik bD g 0 e.2.1 (bi e.2.1) 0 [] e.1.1 e.1.2.1) fun j=>dB j (fun d=>cond (gy (bi d.1.1) d.1.2.1 (bi d.1.1)) (cond (dZ (bI d.2.2.1 (bF (sub d.1.1 d.1.2.1 (bi d.1.1)))) 1) (cond (gY 1048576 (bi (bI d.2.2.1 (bF (sub d.1.1 d.1.2.1 (bi d.1.1)))))) (a6 ((d.2.2.2.1.1,(d.2.2.2.2.1,())),([],(2,()))))<|some ((d.2.2.2.1.1,(d.2.2.2.2.1,())),((ofBytes (bI d.2.2.1 (bF (sub d.1.1 d.1.2.1 (bi d.1.1))))),(0,())))) a7) a7) (fun f=>a6 ((f.2.2.1.1,(f.2.2.2.1,())),(f.1.1,(f.1.2.1,()))))
def akK:fF:=⟨79,tzE,[.str],[.str,bW],fun x y=>al9 x.1 x.2.1 y.1⟩
noncomputable def aho:Env:=fK prog tt [] [(12,4,aov)] [(12,4,ajt)] [] [(24,adN),(10,akH)]
def akh {d:Type} (a:acS.den->Option d) (b:aaR.den->Option d) (c:aaW.den->Option d) (v:acS.den):Option d:=VM (fun e f g h i j l o=>a ((e,f,g,h,i,()),((),()),(j,(l,()),o,()))) (fun p q s u x=>b ((p,q,()),((),()),(s,(u,()),x,()))) (fun y z A B=>c ((y,z,()),((),()),((A,()),B,()))) v.1.1 v.1.2.1 v.1.2.2.1 v.1.2.2.2.1 v.1.2.2.2.2.1 v.2.2.1 v.2.2.2.1.1 v.2.2.2.2.1
theorem aqL:dU aho 12 aoe ajt:=lN (akh) (h2:=by intros;simp only[akh,VM,di,dm,aY,bZ,dn])
theorem ate:dL aho 12 b12:=zL [aoe] (aD (fM (aqL)) aN)
theorem ahp:eP aho:=eB aN [12] (aD ⟨f12,b12,by kernel_rfl,by kernel_rfl,ate⟩ aN) (hx:=(aD OY (aD Y6 aN)))
theorem Y7:dJ prog 12 akK:=sB ahp
end
section
open Bool renaming not_true → ax, and_true → ay, not_false → aB
open Int renaming eq_ofNat_of_zero_le → aV
open List renaming append_assoc → ai, length_append → aj, drop_eq_getElem_cons → aF, getElem_mem → aG, length_cons → aH, nil_append → aO, foldl_cons → aP, length_drop → aQ
open Nat renaming le_refl → ae, le_trans → az
open Go.RowKit
def ZC (v:bH):Bool:=ui ((v.getLastD 0).toNat:Int)
theorem last_at {v:List UInt8} (h:v≠[]):bU v (eY .i64 (bi v) 1)=((v.getLastD 0).toNat:Int)\/ ¬v.length<=1000000:=by
 by_cases hl:v.length<=1000000
 .left;have d:0<v.length:=List.length_pos_iff.2 h;rw[bz,iq,show(v.length:Int)-1=((v.length-1:Nat):Int) by omega,byte_at (by omega)];congr 2;cases v with
  |nil=>exact absurd rfl h
  |cons a r=>rw[List.getLastD_eq_getLast?,List.getLast?_eq_getElem?];simp
 .exact .inr hl
theorem auJ {v:List UInt8} (i:v.length<=1000000):amb v=some (ZC v,()):=by
 rw[amb];by_cases h:v=[]
 .subst h;rfl
 .have j:0<v.length:=List.length_pos_iff.2 h;have d:=(last_at h).resolve_right (by omega);have e:gm v (eY .i64 (bi v) 1)=true:=by
   rw[bz,iq];exact dQ
  obtain⟨k,f,g,_⟩:=ank (b:=((v.getLastD 0).toNat:Int)) ⟨by omega,by have:=(v.getLastD 0).toNat_lt;omega⟩;rw[Jn h,aB,aa,e,aa,d,f,aY];simp only[g];rfl
def TJ (T:List oW) (F:List Lf) (x:List mJ×List Tok) (d:Nd):List mJ×List Tok:=
 if kw x.1 d.2.2.2.1=2 then x else match rO (bT F dLf d.2.1).2.1 T with
  |none=>(kN x.1 d.2.2.2.1 2,x.2)
  |some v=>(if ZC v=true then kN (kN x.1 d.2.2.2.1 2) d.2.2.2.1 1 else kN x.1 d.2.2.2.1 2,x.2++[(6,((bT F dLf d.2.1).2.2.1,((bT F dLf d.2.1).2.2.2.1,(false,()))))])
def PG (L:List Nd) (d:Nd):Prop:=d.1=7/\(bT L Wi d.2.2.2.1).1=5
instance (L:List Nd) (d:Nd):Decidable (PG L d):=by unfold PG;infer_instance
def FZ (T:List oW) (F:List Lf) (L:List Nd) (x:List mJ×List Tok) (d:Nd):List mJ×List Tok:=if PG L d then TJ T F x d else x
theorem aiy (T:List oW) (F:List Lf) (L:List Nd) (x:List mJ×List Tok) (d:Nd):(FZ T F L x d).2.length<=x.2.length+1:=by
 unfold FZ;split
 .unfold TJ;split
  .omega
  .split<;>simp
 .omega
structure agE (L:List Nd) (F:List Lf):Prop where
 len:L.length<=1000000
 up: ∀d∈L,d.1=7->0<=d.2.2.2.1/\d.2.2.2.1<L.length
 at_: ∀d∈L,PG L d->0<=d.2.1/\d.2.1<F.length
theorem apW {L:List Nd} {m:Nat} (h:m<L.length):bT L Wi (m:Int)=L[m]:=by
 grind [bT]
theorem auL (F:List Lf):Fz RS F F=true:=kY _ _
theorem QG {n b:Nat} {T:List oW} {a:Nat} (hT:Tab n a b T) (j:n<=10000) (hb:b<=10000) {L:List Nd} {F:List Lf} (hF:agE L F) (g:List Lf) (p:Int) (q:List Dlm) (r:Bool) (c:Int):
  ∀(N i:Nat) (x:List mJ×List Tok),L.length-i<N->i<=L.length->x.2.length<=i->
  tH N L (L.length:Int) (i:Int) L x.1 F g p q r x.2 c T=
   some (.inl ((),((),(),(),()),((),(L,()),(),((L.drop i).foldl (FZ T F L) x).1,(F,()),g,(p,q,r,()),(),((L.drop i).foldl (FZ T F L) x).2,(),(c,()),T,())))
 |0,i,x,h,_,_=>by omega
 |N+1,i,x,h,J,l=>by
  have K:=hF.len;have M:T.length<=10000:=az hT.2.1.1 j;rw[tH,CU];by_cases e:i<L.length
  .have hd:=aF e;have o:L[i]∈L:=aG e;have d:=fun y=>QG hT j hb hF g p q r c N (i+1) y (by omega) (by omega);have u:gm L (i:Int)=true:=dQ;have z:bT L (0,(0,(0,(0,())))) (i:Int)=L[i]:=apW e;simp only[u,z];rw[hd,aP,bJ (eU),aa,bQ,show(i:Int)+1=((i+1:Nat):Int) by omega];by_cases h7:L[i].1=7
   .obtain⟨A,B⟩:=hF.up _ o h7;rw[gB h7,aa,bJ (dQ A B)];by_cases h5:(bT L Wi L[i].2.2.2.1).1=5
    .have f:PG L L[i]:=⟨h7,h5⟩;obtain⟨D,k1⟩:=hF.at_ _ o f;have E:gm F L[i].2.1=true:=dQ D k1;have G:bT F (0,([],(0,(0,())))) L[i].2.1=bT F dLf L[i].2.1:=rfl;rw[show bT L (0,(0,(0,(0,())))) L[i].2.2.2.1=bT L Wi L[i].2.2.2.1 from rfl,gB h5,aa];unfold FZ;rw[am f];unfold TJ;by_cases h2:kw x.1 L[i].2.2.2.1=2
     .rw[gB h2,aa,am h2];exact d x (by omega)
     .rw[dV h2,ac,aq h2];simp only[E,G,aa,auL,fB,qQ,qP,ay,Bool.and_self];rw[aou hT.1 (by omega),aY];simp only;cases hgt:rO (bT F dLf L[i].2.1).2.1 T with
      |none=>exact d (_,_) (Nat.le_succ_of_le l)
      |some v=>
       have O:=aca hT hgt;have I: ∀y:Tok,dZ (bI x.2 [y]) 32=true:=fun y=>FT (az (Nat.mul_le_mul_right 32 (show(bI x.2 [y]).length<=i+1 from by rw[show(bI x.2 [y]).length=x.2.length+1 from aj];exact Nat.succ_le_succ l)) (by omega));simp only[Option.isSome_some,ax,ac,I,aa,Option.getD_some];rw[auJ (by omega),aY];simp only;have s:(x.2++[((6:Int),((bT F dLf L[i].2.1).2.2.1,((bT F dLf L[i].2.1).2.2.2.1,(false,()))))]).length<=i+1:=by simp;omega
       cases hbl:ZC v with
       |true=>exact d (_,_) s
       |false=>exact d (_,_) s
    .have f: ¬PG L L[i]:=fun h=>h5 h.2;rw[show bT L (0,(0,(0,(0,())))) L[i].2.2.2.1=bT L Wi L[i].2.2.2.1 from rfl,dV h5,ac];unfold FZ;rw[aq f];exact d x (by omega)
   .have f: ¬PG L L[i]:=fun h=>h7 h.1;rw[dV h7,ac];unfold FZ;rw[aq f];exact d x (by omega)
  .rw[List.drop_eq_nil_of_le (by omega),dE (jc)];rfl
def Jy (T:List oW) (F:List Lf) (L:List Nd):List Tok:=(L.foldl (FZ T F L) ([],[])).2
theorem Nz (T:List oW) (F:List Lf) (L:List Nd): ∀(l:List Nd) (x:List mJ×List Tok),(l.foldl (FZ T F L) x).2.length<=x.2.length+l.length
 |[],x=>ae _
 |d::l,x=>by
  have e:=Nz T F L l (FZ T F L x d);have f:=aiy T F L x d;rw[aP,aH];omega
theorem ao8 {n b:Nat} {T:List oW} {a:Nat} (hT:Tab n a b T) (e:n<=10000) (hb:b<=10000) {s:List UInt8} {F:List Lf} {L:List Nd} {t:List Tok} {x:Wq} (f:Xi s=some (t,(x,()))) (h2:Xk s t=some (F,())) (g:Tv F=some (L,()))
  (hF:agE L F) (hr:OU (Jy T F L)=true) (c:Int):aab c T s=some ((c,(T,())),(Jy T F L,())):=by
 have d:=QG hT e hb hF [] x.1 x.2.1 x.2.2.1 c bD 0 ([],[]) (dC (by have:=hF.len;omega)) (by omega) (ae _);have hl:=Nz T F L L ([],[]);have h:=hF.len;rw[List.drop_zero]at d;rw[aab,f,aY];simp only;rw[h2,aY];simp only;rw[g,aY];simp only;rw[show tH bD L (bi L) 0 L [] F [] x.1 x.2.1 x.2.2.1 [] c T=_ from d,aY];simp only[dB];rw[show(L.foldl (FZ T F L) ([],[])).2=Jy T F L from rfl,hr,FT (by unfold Jy;simp at hl;omega)];rfl
def QV (T:List oW) (s:bH):Nat->List Tok->bH
 |at_,[]=>s.drop at_
 |at_,h::r=>(s.take h.2.1.toNat).drop at_++(rO (sub s h.2.1 h.2.2.1) T).getD []++QV T s h.2.2.1.toNat r
def LG (s:bH):Nat->List Tok->Prop
 |at_,[]=>at_<=s.length
 |at_,h::r=>(at_:Int)<=h.2.1/\h.2.1<=h.2.2.1/\h.2.2.1<=s.length/\LG s h.2.2.1.toNat r
theorem air {n b:Nat} {T:List oW} {a:Nat} (hT:Tab n a b T) (k:bH):((rO k T).getD []).length<=b:=by
 cases h:rO k T with
 |none=>simp
 |some v=>exact aca hT h
theorem QW {n b:Nat} {T:List oW} {a:Nat} (hT:Tab n a b T) (p:n<=10000) {s:List UInt8} {H:List Tok} (v:s.length<=10000) (x:H.length*b<=100000) (z:H.length<=100000) (c:Int):
  ∀(N i at_:Nat) (o:bH),H.length-i<N->i<=H.length->LG s at_ (H.drop i)->o.length<=s.length+i*b->o.length<=at_+i*b->
  ∃(d:Nat) (o':bH),Ik N s (at_:Int) H (H.length:Int) (i:Int) (bF o) c T=some (.inl ((s,(d:Int),()),((),()),(bF o',(c,()),T,())))/\d<=s.length/\o'.length<=d+H.length*b/\o'++s.drop d=o++QV T s at_ (H.drop i)
 |0,i,at_,o,h,_,_,_,_=>by omega
 |N+1,i,at_,o,h,V,j,W,A=>by
  have X:T.length<=10000:=az hT.2.1.1 p;rw[Ik,VM];by_cases e:i<H.length
  .have hd:=aF e;rw[hd]at j ⊢;obtain⟨g1,g2,g3,g4⟩:=j;obtain⟨f,Y⟩:=aV (show 0<=H[i].2.1 by omega);obtain⟨t,l⟩:=aV (show 0<=H[i].2.2.1 by omega);have B:bT H (0,(0,(0,(false,())))) (i:Int)=H[i]:=by grind [bT]
   have Z:=air hT (sub s H[i].2.1 H[i].2.2.1);have ab:(i+1)*b<=H.length*b:=Nat.mul_le_mul_right b (by omega);have ad:(i+1)*b=i*b+b:=Nat.succ_mul i b;simp only[B];rw[bJ (eU),bJ (dQ),bJ (gZ (by omega) (by omega) (by rw[bz];omega)),aou hT.1 (by omega),aY];simp only;have D:sub s (at_:Int) H[i].2.1=(s.take H[i].2.1.toNat).drop at_:=by simp[sub]
   have g:((s.take H[i].2.1.toNat).drop at_).length=f-at_:=by
    have E:f<=s.length:=by omega
    have G:H[i].2.1.toNat=f:=by omega
    rw[G,aQ,List.length_take,Nat.min_eq_left E]
   have d:bI (bF o) (bF ((s.take H[i].2.1.toNat).drop at_))=bF (o++(s.take H[i].2.1.toNat).drop at_):=nI _ _;have I: ∀y:bH,bI (bF (o++(s.take H[i].2.1.toNat).drop at_)) (bF y)=bF (o++(s.take H[i].2.1.toNat).drop at_++y):=fun y=>nI _ _;rw[bJ (gZ (by omega) (by omega) (by rw[bz];omega)),D,d,I,bJ (xB (by rw[aj,g];omega)),bJ (xB (by rw[aj,aj,g];omega)),dE (jc (by rw[bz,Hg,aj,aj,g];omega)),bQ,show(i:Int)+1=((i+1:Nat):Int) by omega,l];have J:LG s t (H.drop (i+1)):=by rw[l]at g4;exact g4
   obtain⟨K,L,q,M,O,u⟩:=QW hT p v x z c N (i+1) t (o++(s.take H[i].2.1.toNat).drop at_++(rO (sub s H[i].2.1 H[i].2.2.1) T).getD []) (by omega) (by omega) J (by rw[aj,aj,g];omega) (by rw[aj,aj,g];omega);rw[l]at q u;refine⟨K,L,q,M,O, ?_⟩;rw[u,QV,l];simp only[ai,Int.ofNat_eq_natCast,Int.toNat_natCast]
  .have S:H.drop i=[]:=List.drop_eq_nil_of_le (by omega);rw[S]at j ⊢;have U:i=H.length:=by omega
   rw[dE (jc)];exact⟨at_,o,rfl,j,by rw[<-U];exact A,rfl⟩
theorem aoC (t:bH):ofBytes (bF t)=t:=Ep t
theorem apa {n b:Nat} {T:List oW} {a:Nat} (hT:Tab n a b T) (g:n<=10000) {s:List UInt8} {H:List Tok} (h:s.length<=10000) (i:H.length*b<=100000) (j:H.length<=100000) (c:Int) (l:aab c T s=some ((c,(T,())),(H,()))) (o:LG s 0 H):
  al9 c T s=some ((c,(T,())),(QV T s 0 H,(0,()))):=by
 obtain⟨d,f,p,u,v,e⟩:=QW hT g h i j c bD 0 0 [] (dC) (by omega) o (by simp) (by simp);rw[List.drop_zero,aO]at e;rw[al9,l,aY];simp only;rw[show Ik bD s 0 H (bi H) 0 [] c T=_ from p,aY];simp only[dB];have q:sub s (d:Int) (bi s)=s.drop d:=by simp[sub,bz]
 have x:(s.drop d).length=s.length-d:=by simp
 rw[bJ (gZ (by omega) (by rw[bz];omega) (Int.le_refl _)),q,show bI (bF f) (bF (s.drop d))=bF (f++s.drop d) from nI _ _,e,bJ (xB (by rw[<-e,aj];omega)),dE (jc (by rw[bz,Hg,<-e,aj];omega)),aoC]
end
section
open List renaming length_map → aI, length_drop → aQ
open Nat renaming le_trans → az
open Go.RowKit
theorem QI {s:List UInt8} (d:s.length<=10000):Wh (fP s (jV s).1):=by
 refine⟨?_,fun f e=> ?_⟩
 .have h:=(Ua d).2.2;unfold fP;rw[aI];exact az (List.length_filter_le _ _) (az h d)
 .unfold fP at e;obtain⟨t,_,rfl⟩:=List.mem_map.1 e;refine az ?_ d;unfold aoA sub;simp only[List.length_take,aQ];omega
theorem aq1 {s:List UInt8} (d:s.length<=10000): ∃l,Tv (fP s (jV s).1)=some (l,())/\apQ (fP s (jV s).1)=some (l,())/\l.length<=16*(fP s (jV s).1).length+1/\ ∃m,l=(1,0,((fP s (jV s).1).length:Int),-1,())::m/\Tr (fP s (jV s).1) 0 (fP s (jV s).1).length 0 1 m:=
 ajU (QI d)
end
section
open Int renaming eq_ofNat_of_zero_le → aV
open List renaming length_append → aj, mem_cons_of_mem → ak, map_cons → au, mem_cons_self → aA, getElem_mem → aG, length_cons → aH, foldl_cons → aP
open Go.RowKit
structure TrG (F:List Lf) (a b:Nat) (u:Int) (k:Nat) (m:List Nd):Prop where
 lo: ∀x∈m,(a:Int)<=x.2.1
 hi: ∀x∈m,x.1=7->x.2.1+1<=(b:Int)
 row:m.Pairwise fun x y=>x.1=7->x.2.1+1<=y.2.1
 wd: ∀x∈m,x.1=7->x.2.2.1=x.2.1+1/\ ∃f:Nat,x.2.1=f/\ ∃h:f<F.length,F[f].1=6
 up: ∀x∈m,x.2.2.2.1=u\/(k:Int)<=x.2.2.2.1/\x.2.2.2.1<((k+m.length:Nat):Int)
theorem Tr.facts {F:List Lf} {a b:Nat} {u:Int} {k:Nat} {m:List Nd} (h:Tr F a b u k m):TrG F a b u k m:=by
 induction h with
 |nil h=>exact⟨by simp,by simp,List.Pairwise.nil,by simp,by simp⟩
 | @leaf a b f t u k kd m h1 hk hf h2 i=>
  have o:=h2.le;refine⟨?_, ?_, ?_, ?_, ?_⟩
  .intro x d;rcases List.mem_cons.1 d with rfl|d
   .show(a:Int)<=(f:Int);omega
   .have:=i.lo x d;omega
  .intro x d g;rcases List.mem_cons.1 d with rfl|d
   .have g:kd=7:=g;show(f:Int)+1<=(b:Int);omega
   .exact i.hi x d g
  .refine List.pairwise_cons.2 ⟨fun y l g=> ?_,i.row⟩;have g:kd=7:=g;have:=i.lo y l;show(f:Int)+1<=y.2.1;omega
  .intro x d g;rcases List.mem_cons.1 d with rfl|d
   .have g:kd=7:=g;obtain⟨g1,g2⟩:=hf (.inr g);exact⟨by show(t:Int)=(f:Int)+1;omega,f,rfl,g1,g2⟩
   .exact i.wd x d g
  .intro x d;rcases List.mem_cons.1 d with rfl|d
   .exact .inl rfl
   .rw[aH];exact(i.up x d).imp id fun⟨p,q⟩=>⟨by omega,by omega⟩
 | @node a b f t u k kd m n h1 hk h8 h h2 ih1 j=>
  have o:=h.le;have s:=h2.le;refine⟨?_, ?_, ?_, ?_, ?_⟩
  .intro x d;rcases List.mem_cons.1 d with rfl|d
   .show(a:Int)<=(f:Int);omega
   .rcases List.mem_append.1 d with d|d
    .have:=ih1.lo x d;omega
    .have:=j.lo x d;omega
  .intro x d g;rcases List.mem_cons.1 d with rfl|d
   .exact absurd g hk.2.2.2
   .rcases List.mem_append.1 d with d|d
    .have:=ih1.hi x d g;omega
    .exact j.hi x d g
  .refine List.pairwise_cons.2 ⟨fun y l g=>absurd g hk.2.2.2,List.pairwise_append.2 ⟨ih1.row,j.row,fun x d y l g=> ?_⟩⟩;have:=ih1.hi x d g;have:=j.lo y l;omega
  .intro x d g;rcases List.mem_cons.1 d with rfl|d
   .exact absurd g hk.2.2.2
   .rcases List.mem_append.1 d with d|d
    .exact ih1.wd x d g
    .exact j.wd x d g
  .intro x d;rw[aH,aj];rcases List.mem_cons.1 d with rfl|d
   .exact .inl rfl
   .rcases List.mem_append.1 d with d|d
    .exact .inr ((ih1.up x d).elim (fun e=>⟨by omega,by omega⟩) fun⟨p,q⟩=>⟨by omega,by omega⟩)
    .exact(j.up x d).imp id fun⟨p,q⟩=>⟨by omega,by omega⟩
structure PsG (F:List Lf) (L:List Nd):Prop where
 len:L.length<=1000000
 row:L.Pairwise fun x y=>x.1=7->x.2.1+1<=y.2.1
 wd: ∀x∈L,x.1=7->x.2.2.1=x.2.1+1/\ ∃f:Nat,x.2.1=f/\ ∃h:f<F.length,F[f].1=6
 up: ∀x∈L,x.1=7->0<=x.2.2.2.1/\x.2.2.2.1<L.length
theorem atv {F:List Lf} (hF:Wh F) {m:List Nd} (h:Tr F 0 F.length 0 1 m) (hl:m.length<=900000):PsG F ((1,0,(F.length:Int),-1,())::m):=by
 have g:=h.facts;refine⟨by simp;omega,List.pairwise_cons.2 ⟨fun y i f=>absurd f (by show ¬((1:Int)=7);omega),g.row⟩, ?_, ?_⟩
 .intro x d f;rcases List.mem_cons.1 d with rfl|d
  .exact absurd f (by show ¬((1:Int)=7);omega)
  .exact g.wd x d f
 .intro x d f;rw[aH];rcases List.mem_cons.1 d with rfl|d
  .exact absurd f (by show ¬((1:Int)=7);omega)
  .rcases g.up x d with e|⟨p,q⟩<;>omega
theorem PsG.fine {F:List Lf} {L:List Nd} (h:PsG F L):agE L F:=
 ⟨h.len,h.up,fun d hd i=>by
  obtain⟨_,f,e,g,_⟩:=h.wd d hd i.1;omega⟩
structure LvG (s:List UInt8) (F:List Lf):Prop where
 row:F.Pairwise fun x y=>x.2.2.2.1<=y.2.2.1
 in_: ∀x∈F,0<=x.2.2.1/\x.2.2.1<x.2.2.2.1/\x.2.2.2.1<=s.length
theorem XX {s:List UInt8} (g:s.length<=10000): ∀(n a:Nat) (l:List Tok) (x:Wq),(l.Pairwise fun x y=>x.2.2.1<=y.2.1)->(∀t∈l,0<=t.2.1/\t.2.1<t.2.2.1/\t.2.2.1<=(a:Int))->a<=s.length->
  ((sH s n a l x).1.Pairwise fun x y=>x.2.2.1<=y.2.1)/\ ∀t∈(sH s n a l x).1,0<=t.2.1/\t.2.1<t.2.2.1/\t.2.2.1<=(s.length:Int)
 |0,a,l,x,f,e,h=>⟨f,fun t d=>by have:=e t d;omega⟩
 |n+1,a,l,x,f,e,h=>by
  rw[sH];split
  .rename_i i
   obtain⟨g1,g2,g3⟩:=BC g i x;refine XX g n _ _ _ (List.pairwise_append.2 ⟨f,List.pairwise_singleton _ _,fun y j z o=> ?_⟩) (fun t d=> ?_) (by omega)
   .rw[List.mem_singleton.1 o,g3];exact(e y j).2.2
   .rcases List.mem_append.1 d with d|d
    .have:=e t d;omega
    .rw[List.mem_singleton.1 d];omega
  .exact⟨f,fun t d=>by have:=e t d;omega⟩
theorem atn {s:List UInt8} (d:s.length<=10000):LvG s (fP s (jV s).1):=by
 obtain⟨e,f⟩:=XX d (s.length+1) 0 [] (0,[],false,()) List.Pairwise.nil (by simp) (by omega);unfold fP jV;refine⟨List.pairwise_map.2 ((e.filter _).imp fun h=>h),fun x g=> ?_⟩;obtain⟨t,i,rfl⟩:=List.mem_map.1 g;exact f t (List.mem_filter.1 i).1
theorem ait {F:List Lf} {i:Nat} (h:i<F.length):bT F dLf (i:Int)=F[i]:=by
 unfold bT;rw[Int.toNat_natCast,List.getD_eq_getElem?_getD,List.getElem?_eq_getElem h];rfl
def Jd (F:List Lf) (i:Nat):Tok:=(6,((bT F dLf (i:Int)).2.2.1,((bT F dLf (i:Int)).2.2.2.1,(false,()))))
theorem aos (T:List oW) (F:List Lf) (L:List Nd): ∀(l:List Nd) (x:List (Int×Int)×List Tok),l.foldl (FZ T F L) x=(l.filter fun d=>decide (PG L d)).foldl (TJ T F) x
 |[],x=>rfl
 |d::l,x=>by
  rw[aP,aos T F L l,List.filter_cons];unfold FZ;by_cases h:PG L d
  .rw[am h,am (decide_eq_true h),aP]
  .rw[aq h,aq (by simp[h])]
theorem Xx (T:List oW) (F:List Lf): ∀(l:List Nd) (x:List (Int×Int)×List Tok) (b:Int),(l.Pairwise fun x y=>x.2.1+1<=y.2.1)->(∀d∈l,b<=d.2.1/\ ∃f:Nat,d.2.1=f/\f<F.length)->
  ∃S:List Nat,(l.foldl (TJ T F) x).2=x.2++S.map (Jd F)/\(S.Pairwise fun i j=>i<j)/\ ∀i∈S,b<=(i:Int)/\i<F.length
 |[],x,b,_,_=>⟨[],by simp,List.Pairwise.nil,by simp⟩
 |d::l,x,b,p,h=>by
  obtain⟨q,s⟩:=List.pairwise_cons.1 p;obtain⟨hd,f,u,A⟩:=h d aA;obtain⟨S,g1,g2,g3⟩:=Xx T F l (TJ T F x d) (d.2.1+1) s (fun y o=>⟨q y o,(h y (ak _ o)).2⟩);rw[aP,g1];have v:(TJ T F x d).2=x.2\/(TJ T F x d).2=x.2++[Jd F f]:=by
   unfold TJ Jd;split
   .exact .inl rfl
   .split
    .exact .inl rfl
    .rw[u];exact .inr rfl
  rcases v with e|e
  .exact⟨S,by rw[e],g2,fun i g=>by have:=g3 i g;omega⟩
  .refine⟨f::S,by rw[e];simp,List.pairwise_cons.2 ⟨fun j z=>by have:=g3 j z;omega,g2⟩,fun i g=> ?_⟩;rcases List.mem_cons.1 g with rfl|g
   .omega
   .have:=g3 i g;omega
theorem V7 {s:List UInt8} {F:List Lf} (h:LvG s F) (l:s.length<=10000): ∀(S:List Nat) (a:Nat),(S.Pairwise fun i j=>i<j)->(∀i∈S,i<F.length)->(∀i∈S,(a:Int)<=(bT F dLf (i:Int)).2.2.1)->a<=s.length->
  Rj (a:Int) (S.map (Jd F))=true/\LG s a (S.map (Jd F))
 |[],a,_,_,_,o=>⟨rfl,o⟩
 |i::S,a,y,hl,z,o=>by
  obtain⟨A,p⟩:=List.pairwise_cons.1 y;have e:=hl i aA;have f:=ait e;have g:=z i aA;obtain⟨g1,g2,g3⟩:=h.in_ F[i] (aG e);have u: ∀j∈S,F[i].2.2.2.1<=(bT F dLf (j:Int)).2.2.1:=fun j d=>by
   have v:=hl j (ak _ d);have B:=ait v;rw[B];exact List.pairwise_iff_getElem.1 h.row i j e v (A j d)
  rw[f]at g;obtain⟨q,D⟩:=aV (show 0<=F[i].2.2.1 by omega);obtain⟨t,E⟩:=aV (show 0<=F[i].2.2.2.1 by omega);obtain⟨k1,_⟩:=V7 h l S (q+1) p (fun j d=>hl j (ak _ d)) (fun j d=>by have:=u j d;omega) (by omega);obtain⟨_,k2⟩:=V7 h l S t p (fun j d=>hl j (ak _ d)) (fun j d=>by have:=u j d;omega) (by omega);have x:(Jd F i).2.1=F[i].2.2.1:=by unfold Jd;rw[f]
  have G:(Jd F i).2.2.1=F[i].2.2.2.1:=by unfold Jd;rw[f]
  rw[au];constructor
  .show(leI (a:Int) (Jd F i).2.1&&(leI (Jd F i).2.1 4611686018427387904&&Rj ((Jd F i).2.1+1) (S.map (Jd F))))=true;rw[x,qX g,qX,D];exact k1
  .rw[LG,x,G,E];exact⟨g,by omega,by omega,k2⟩
theorem ae0 {T:List oW} {s:List UInt8} (q:s.length<=10000) {F:List Lf} {L:List Nd} (l:LvG s F) (o:PsG F L):OU (Jy T F L)=true/\LG s 0 (Jy T F L):=by
 unfold Jy;rw[aos];have u:(L.filter fun d=>decide (PG L d)).Pairwise fun x y=>x.2.1+1<=y.2.1:=by
  refine List.Pairwise.imp_of_mem (fun {x y} v D h=>h (of_decide_eq_true (List.mem_filter.1 v).2).1) (o.row.filter _)
 obtain⟨S,g1,g2,g3⟩:=Xx T F _ ([],[]) 0 u (fun d hd=>by
  obtain⟨z,A⟩:=List.mem_filter.1 hd;obtain⟨_,f,e,g,_⟩:=o.wd d z (of_decide_eq_true A).1;exact⟨by omega,f,e,g⟩)
 rw[g1];have:=V7 l q S 0 g2 (fun i j=>(g3 i j).2) (fun i j=>by
  have p:=(g3 i j).2;have B:=ait p;rw[B];exact(l.in_ _ (aG p)).1) (by omega)
 exact this
end
section
open Option renaming some → a6, none → a7
open Nat renaming eq_of_beq_eq_true → ah
open Tryz
open Go.RowKit
noncomputable def asK (sg:FuncId->Option Sum):Env:={P:=prog,T:=tt,cl:=true,kp:=fun _ _=>a7,sg:=sg,lp:=fun _ _=>a7,sb:=afG [(18,akT),(12,akK)],bf:=Dq,em:=Ap,il:=Dt,sl:=Du,sc:=zu}
theorem al1 {sg:FuncId->Option Sum} (h: ∀g s,sg g=a6 s->dO prog g s):eP (asK sg):=⟨tok,mixed,JS,h,fun f fn c _ _=>ig (fun _=>rfl) (fun _=>rfl) c,YO _ fun f fn c _ _=>ig (fun _=>rfl) (fun _=>rfl) c,MJ,KR _ (List.forall_mem_cons.2 ⟨Y8,List.forall_mem_cons.2 ⟨Y7,(fun _ h=>absurd h List.not_mem_nil)⟩⟩)⟩
theorem akt {sg:FuncId->Option Sum} (h: ∀g s,sg g=a6 s->dO prog g s) {f:FuncId} {d:Sum} (i:dO prog f d): ∀g s,(bif Nat.beq g f then a6 d else sg g)=a6 s->dO prog g s:=fun g s e=>by
 rw[cond_eq_ite]at e;split at e
 .rename_i j
  obtain rfl:g=f:=ah j;cases e;exact i
 .exact h g s e
noncomputable def aoG (g:FuncId):Option Sum:=cond (Nat.beq g 20) (a6 adJ)<|sg1 g
theorem akq: ∀g s,aoG g=a6 s->dO prog g s:=akt aa8 OV
noncomputable def aoH (g:FuncId):Option Sum:=cond (Nat.beq g 21) (a6 adK)<|aoG g
theorem akr: ∀g s,aoH g=a6 s->dO prog g s:=akt akq OW
noncomputable def aoI (g:FuncId):Option Sum:=cond (Nat.beq g 23) (a6 adM)<|aoH g
theorem aks: ∀g s,aoI g=a6 s->dO prog g s:=akt akr OX
theorem ad6:OB (asK aoI) 6 [] Wl ()=a6 (true,()):=by kernel_rfl
def O1:Sum:=⟨[],Wl,fun _=>a6 (true,())⟩
theorem Qd:dO prog 6 O1:=O3 (al1 aks) (by decide) fun x y h=>by
 cases h;exact ad6
end
section
open Option renaming some → a6, none → a7
open Tryz
open Go.RowKit
noncomputable def b7:Code:=(f7.body).getD .skip
noncomputable def ass:Code:=cA (cA (cB (cA (cB (cB (b7))))))
def asZ:dW:=⟨[0,3,100004],[],[],[],[2],[]⟩
def anH:SP:=⟨us [d9,.u,.u,bX] 25,[]⟩
def ajT:SP:=⟨us [] 29,[]⟩
def ajZ:SP:=⟨us [.u,.u,ci] 26,[]⟩
def adE {f:Type} (h:(List oU)->Int->Option f) (i:Option f) (g:Bool->Option f) (d:List oU) (e:Int):Option f:=cond (gY e (bi d)) (cond (gm d e) (cond (gY 40 (bi (bT d ([],([],())) e).1)) (g false)<|cond (gm d e) (cond (gY 60 (bi (bT d ([],([],())) e).2.1)) (g false)<|h d (bV .i64 e 1)) a7) a7) i
def JE:Nat->(List oU)->Int->Option (ajT.den⊕ajZ.den)
 |0,_,_=>a7
 |n+1,d,e=>adE (JE n) (a6 (.inl ((),()))) (fun f=>a6 (.inr ((f,()),()))) d e
def atm (n:Nat) (v:anH.den):=JE n v.1.1 v.1.2.1
noncomputable def aoB:dA:=jb asZ anH ajT ajZ (.exit 0) (atm bD) 6
def fn7 (d:List oU):Option o8:=cond (gY 10 (bi d)) (a6 (false,()))<|aZ (JE bD d 0) fun e=>dB e (fun g=>a6 (true,())) (fun f=>a6 (f.1.1,()))
def atI:Sum:=⟨[.list Ht],Wl,fun x=>fn7 x.1⟩
noncomputable def apG:Env:=oC prog tt 7 [] [(4,asZ)] [(4,aoB)]
def aoF {d:Type} (a:anH.den->Option d) (b:ajT.den->Option d) (c:ajZ.den->Option d) (v:anH.den):Option d:=adE (aL a) (b ((),())) (aE c) v.1.1 v.1.2.1
theorem atq:dU apG 7 ass aoB:=lpS (aoF) (h2:=by intros;simp only[aoF,aL,aE,adE,di,dm,aY,bZ,dn])
theorem auP:dL apG 7 b7:=zL [ass] (aD (fM (atq)) aN)
theorem alZ:eP apG:=eA f7 aN (auP)
theorem an3:dO prog 7 atI:=sA alZ
noncomputable def aps:Code:=(f8.body).getD .skip
noncomputable def agN:Code:=(f12.body).getD .skip
noncomputable def E9:Code:=(f10.body).getD .skip
noncomputable def agO:Code:=(f40.body).getD .skip
noncomputable def ahb:Code:=cA (cA (cB (cA (cB (cB (cB (aps)))))))
noncomputable def abu:Code:=cA (cA (cB (cA (cB (cB (cB (agN)))))))
noncomputable def Kz:Code:=cA (cA (cB (agO)))
def ai1:dW:=⟨[5,12,13,14,9000005],[(300001101,.pair (.list .unit) Ht)],[5],[],[4],[]⟩
def acj:dW:=⟨[0,1,6,7,14,15,16,13000004],[(6,(.int .u8))],[1,6,7],[],[4,5],[]⟩
def TS:dW:=⟨[0,1,5,6,7,41000001],[],[],[],[],[]⟩
def ai9:dW:=⟨[2,4,7,8],[],[],[],[],[]⟩
def as2:dW:=⟨[0,1],[],[],[],[],[]⟩
def as3:dW:=⟨[1,5],[],[],[],[],[]⟩
def as4:dW:=⟨[1,5,6,7],[],[],[],[],[]⟩
def as5:dW:=⟨[1,5,6,7,8,9],[],[],[],[],[]⟩
def ap4:dW:=⟨[1,5,6],[],[],[],[],[]⟩
def amE:dW:=⟨[0,1],[],[],[],[],[]⟩
def ai6:dW:=⟨[0,1,6,7],[],[],[],[],[]⟩
def ai7:dW:=⟨[0,1,6,7,9,14,15,16],[],[],[],[],[]⟩
def ai4:dW:=⟨[2,4,7,8],[],[],[],[],[]⟩
def ai5:dW:=⟨[2,4,7,8,9,10],[],[],[],[],[]⟩
def ai8:dW:=⟨[0,1,4,5,6,7],[],[],[],[],[]⟩
def UN:SQ:=⟨us [.u,.u,.u,.u,.u,d6,.u,.u,.u,.u,.u,.u,d9,bX,bX] 11,cq,[cP,co]⟩
def U8:SQ:=⟨us [.u,.u,.u,.u,.u,d6] 20,cq,[cP,co]⟩
def Vu:SQ:=⟨us [] 26,cq,[]⟩
def Lu {e:Type} (q:(List oU)->Int->Int->(List oU)->bH->(List oU)->(List oU)->Int->Option e) (s:(List oU)->bH->(List oU)->(List oU)->Int->Option e) (u:(List oU)->bH->(List oU)->Option e) (f:List oU) (g d:Int) (h:List oU) (i:bH) (j l:List oU) (o:Int):Option e:=cond (gY d g) (cond (gm f d) (aZ (ama o l (bT f ([],([],())) d).1 (bT f ([],([],())) d).2.1) fun p=>q f g (bV .i64 d 1) h i j p.1.2.1 p.1.1) a7)<|s h i j l o
def Cj:Nat->(List oU)->Int->Int->(List oU)->bH->(List oU)->(List oU)->Int->Option (U8.den⊕Vu.den)
 |0,_,_,_,_,_,_,_,_=>a7
 |n+1,d,e,f,g,h,i,j,l=>Lu (Cj n) (fun o p q s u=>a6 (.inl ((),((o,p,q,()),(),()),(s,(u,()),())))) (fun v x y=>a6 (.inr ((),((v,x,y,()),(),()),()))) d e f g h i j l
def anc (n:Nat) (v:UN.den):=Cj n v.1.1 v.1.2.1 v.1.2.2.1 v.2.1.1.1 v.2.1.1.2.1 v.2.1.1.2.2.1 v.2.2.1 v.2.2.2.1.1
noncomputable def acI:dA:=eH ai1 UN U8 Vu (.exit 0) (anc bD) 6
def KL:SQ:=⟨us [.yld 3700025,.ptr 4000001 0,.u,.u,.u,cQ,bX,bX] 24,ca,bN⟩
def Om:SQ:=⟨us [] 32,ca,bN⟩
def Ov:SQ:=⟨us [] 32,ca,[]⟩
def Ha {E:Type} (G:(List eX)->Int->Int->bH->Int->bH->bH->bH->Int->bH->(List eX)->(List mJ)->(List eG)->(List eG)->Int->EW->Bool->(List yc)->(List oU)->Int->Option E) (I:bH->Int->bH->bH->bH->Int->bH->(List eX)->(List mJ)->(List eG)->(List eG)->Int->EW->Bool->(List yc)->(List oU)->Int->Option E) (J:bH->Int->bH->bH->bH->Int->bH->Option E) (e:List eX) (i d:Int) (j:bH) (l:Int) (o p q:bH) (s:Int) (u:bH) (f:List eX) (g:List mJ) (h v:List eG) (x:Int) (y:EW) (z:Bool) (A:List yc) (B:List oU) (D:Int):Option E:=cond (gY d i) (cond (gm e d) (cond (bC (bT e (0,(0,(0,(0,())))) d).1 7) (cond (gm f (bT e (0,(0,(0,(0,())))) d).2.2.2.1) (cond (bC (bT f (0,(0,(0,(0,())))) (bT e (0,(0,(0,(0,())))) d).2.2.2.1).1 5) (cond (bC (kw g (bT e (0,(0,(0,(0,())))) d).2.2.2.1) 2) (G e i (bV .i64 d 1) j l o p q s u f g h v x y z A B D)<|cond (gm h (bT e (0,(0,(0,(0,())))) d).2.1) (G e i (bV .i64 d 1) j l o p q s u f (kN g (bT e (0,(0,(0,(0,())))) d).2.2.2.1 2) h v x y z A B D) a7)<|G e i (bV .i64 d 1) j l o p q s u f g h v x y z A B D) a7)<|G e i (bV .i64 d 1) j l o p q s u f g h v x y z A B D) a7)<|I j l o p q s u f g h v x y z A B D
def xM:Nat->(List eX)->Int->Int->bH->Int->bH->bH->bH->Int->bH->(List eX)->(List mJ)->(List eG)->(List eG)->Int->EW->Bool->(List yc)->(List oU)->Int->Option (Om.den⊕Ov.den)
 |0,_,_,_,_,_,_,_,_,_,_,_,_,_,_,_,_,_,_,_,_=>a7
 |n+1,d,e,f,g,h,i,j,l,o,p,q,s,u,v,x,y,z,A,B,D=>Ha (xM n) (fun E G I J K L M N O S U V W X Y Z ab=>a6 (.inl ((),((),(),(E,G,I,()),(J,K,L,M,()),(),()),((),(N,()),(),O,(S,()),U,(V,W,X,()),(),Y,(),Z,(ab,()),())))) (fun r0 r1 r2 r3 r4 r5 r6=>a6 (.inr ((),((),(),(r0,r1,r2,()),(r3,r4,r5,r6,()),(),()),()))) d e f g h i j l o p q s u v x y z A B D
def ajs (n:Nat) (v:KL.den):=bo (xM n) v
noncomputable def NV:dA:=eH TS KL Om Ov (.exit 0) (ajs bD) 12
def KJ:SQ:=⟨us [.nilp,bL,.u,.u,.u,.u,.slc 2800006,bX,.u,.u,.u,.u,.u,.u,.slc 3500004,bX,bX] 39,[bx,[]],[.arr 2800006 (.int .u8),.arr 3500004 Wj,cP,co]⟩
def Ol:SQ:=⟨us [.u,bL,.u,.u,.u,.u,.slc 2800006,bX] 48,[bx,[]],[.arr 2800006 (.int .u8),cP,co]⟩
def Ou:SQ:=⟨us [.u,.u,.u,.u,bL,bX] 50,[bx,[]],[cP,co]⟩
def G9 {i:Type} (v:bH->Int->Int->Int->bH->bH->Int->bH->jB->(List yc)->(List oU)->Int->Option i) (x:bH->Int->bH->bH->Int->bH->jB->(List oU)->Int->Option i) (y:bH->Int->bH->bH->Int->bH->(List oU)->Int->Option i) (f:bH) (g u d:Int) (j l:bH) (o:Int) (p:bH) (h:jB) (e:List yc) (q:List oU) (s:Int):Option i:=cond (gY d u) (cond (gm e d) (cond (mV (bP d) e) (cond (gy (bi f) (cO e (0,(0,(0,(false,())))) (bP d)).2.1 (cO e (0,(0,(0,(false,())))) (bP d)).2.2.1) (cond (gy (bi f) g (cO e (0,(0,(0,(false,())))) (bP d)).2.1) (cond (dZ (bI h (bF (sub f g (cO e (0,(0,(0,(false,())))) (bP d)).2.1))) 1) (cond (dZ (bI (bI h (bF (sub f g (cO e (0,(0,(0,(false,())))) (bP d)).2.1))) (bF [])) 1) (cond (gY 1048576 (bi (bI (bI h (bF (sub f g (cO e (0,(0,(0,(false,())))) (bP d)).2.1))) (bF [])))) (y [] 2 j l o p q s)<|v f (cO e (0,(0,(0,(false,())))) (bP d)).2.2.1 u (bV .i64 d 1) j l o p (bI (bI h (bF (sub f g (cO e (0,(0,(0,(false,())))) (bP d)).2.1))) (bF [])) e q s) a7) a7) a7) a7) a7) a7)<|x f g j l o p h q s
def xK:Nat->bH->Int->Int->Int->bH->bH->Int->bH->jB->(List yc)->(List oU)->Int->Option (Ol.den⊕Ou.den)
 |0,_,_,_,_,_,_,_,_,_,_,_,_=>a7
 |n+1,d,e,f,g,h,i,j,l,o,p,q,s=>G9 (xK n) (fun u v x y z A B D E=>a6 (.inl ((u,v,()),((x,y,z,A,()),(),()),(B,D,(E,()),())))) (fun G I J K L M N O=>a6 (.inr ((G,I,()),((J,K,L,M,()),(),()),(N,(O,()),())))) d e f g h i j l o p q s
def ajr (n:Nat) (v:KJ.den):=xK n v.1.1 v.1.2.1 v.1.2.2.1 v.1.2.2.2.1 v.2.1.1.1 v.2.1.1.2.1 v.2.1.1.2.2.1 v.2.1.1.2.2.2.1 v.2.2.1 v.2.2.2.1 v.2.2.2.2.1 v.2.2.2.2.2.1.1
noncomputable def Yb:dA:=eH acj KJ Ol Ou (.exit 0) (ajr bD) 18
def CG:SQ:=⟨us [.yld 2700025,.ptr 3000001 0,.u,.u,.u,cQ,bX,bX] 24,bv,bO⟩
def Ey:SQ:=⟨us [] 32,bv,bO⟩
def ED:SQ:=⟨us [] 32,bv,[]⟩
def zy {V:Type} (W:(List eX)->Int->Int->bH->bH->Int->bH->Int->Int->Bool->Bool->Int->Bool->Bool->Bool->bH->bH->Bool->Bool->Bool->bH->(List eX)->(List mJ)->(List eG)->(List eG)->Int->EW->Bool->(List yc)->(List oU)->Int->Option V) (X:bH->bH->Int->bH->Int->Int->Bool->Bool->Int->Bool->Bool->Bool->bH->bH->Bool->Bool->Bool->bH->(List eX)->(List mJ)->(List eG)->(List eG)->Int->EW->Bool->(List yc)->(List oU)->Int->Option V) (Y:bH->bH->Int->bH->Int->Int->Bool->Bool->Int->Bool->Bool->Bool->bH->bH->Bool->Bool->Bool->bH->Option V) (e:List eX) (i d:Int) (j l:bH) (o:Int) (p:bH) (q s:Int) (u v:Bool) (x:Int) (y z A:Bool) (B D:bH) (E G I:Bool) (J:bH) (f:List eX) (g:List mJ) (h K:List eG) (L:Int) (M:EW) (N:Bool) (O:List yc) (S:List oU) (U:Int):Option V:=cond (gY d i) (cond (gm e d) (cond (bC (bT e (0,(0,(0,(0,())))) d).1 7) (cond (gm f (bT e (0,(0,(0,(0,())))) d).2.2.2.1) (cond (bC (bT f (0,(0,(0,(0,())))) (bT e (0,(0,(0,(0,())))) d).2.2.2.1).1 5) (cond (bC (kw g (bT e (0,(0,(0,(0,())))) d).2.2.2.1) 2) (W e i (bV .i64 d 1) j l o p q s u v x y z A B D E G I J f g h K L M N O S U)<|cond (gm h (bT e (0,(0,(0,(0,())))) d).2.1) (W e i (bV .i64 d 1) j l o p q s u v x y z A B D E G I J f (kN g (bT e (0,(0,(0,(0,())))) d).2.2.2.1 2) h K L M N O S U) a7)<|W e i (bV .i64 d 1) j l o p q s u v x y z A B D E G I J f g h K L M N O S U) a7)<|W e i (bV .i64 d 1) j l o p q s u v x y z A B D E G I J f g h K L M N O S U) a7)<|X j l o p q s u v x y z A B D E G I J f g h K L M N O S U
def nP:Nat->(List eX)->Int->Int->bH->bH->Int->bH->Int->Int->Bool->Bool->Int->Bool->Bool->Bool->bH->bH->Bool->Bool->Bool->bH->(List eX)->(List mJ)->(List eG)->(List eG)->Int->EW->Bool->(List yc)->(List oU)->Int->Option (Ey.den⊕ED.den)
 |0,_,_,_,_,_,_,_,_,_,_,_,_,_,_,_,_,_,_,_,_,_,_,_,_,_,_,_,_,_,_,_=>a7
 |n+1,d,e,f,g,h,i,j,l,o,p,q,s,u,v,x,y,z,A,B,D,E,G,I,J,K,L,M,N,O,S,U=>zy (nP n) (fun V W X Y Z e5 e6 e7 e8 e9 ab ad ae af ag ah ai aj ak al an ao au av aw ax ay az=>a6 (.inl ((),((),(),(V,W,X,Y,Z,e5,e6,e7,e8,e9,ab,ad,ae,af,ag,ah,ai,aj,()),(),()),((),(ak,()),(),al,(an,()),ao,(au,av,aw,()),(),ax,(),ay,(az,()),())))) (fun r0 r1 r2 r3 r4 r5 r6 r7 r8 r9 aA aB aF aG aH aI aJ aK=>a6 (.inr ((),((),(),(r0,r1,r2,r3,r4,r5,r6,r7,r8,r9,aA,aB,aF,aG,aH,aI,aJ,aK,()),(),()),()))) d e f g h i j l o p q s u v x y z A B D E G I J K L M N O S U
def aaI (n:Nat) (v:CG.den):=bp (nP n) v
noncomputable def Eh:dA:=eH TS CG Ey ED (.exit 0) (aaI bD) 24
def fn4 (j:List oU) (v:bH):Option o8:=aZ (fn7 j) fun y=>cond (!y.1) (a6 (true,()))<|cond (gY 80 (bi v)) (a6 (true,()))<|aZ (Cj bD j (bi j) 0 j v j [] 2) fun z=>dB z (fun g=>aZ (al9 g.2.2.2.1.1 g.2.2.1 g.2.1.1.2.1) fun o=>aZ (Xi g.2.1.1.2.1) fun p=>aZ (Xk g.2.1.1.2.1 p.1) fun x=>aZ (Tv x.1) fun q=>aZ (xM bD q.1 (bi q.1) 0 g.2.1.1.2.1 0 g.2.1.1.2.1 g.2.1.1.2.1 o.2.1 o.2.2.1 g.2.1.1.2.1 q.1 [] x.1 [] p.2.1.1 p.2.1.2.1 p.2.1.2.2.1 [] o.1.2.1 o.1.1) fun A=>dB A (fun f=>cond ((OU f.2.2.2.2.2.2.2.2.2.2.1)&&(dZ f.2.2.2.2.2.2.2.2.2.2.1 64)) (aZ (xK bD f.2.1.2.2.1.1 f.2.1.2.2.1.2.1 (bi f.2.2.2.2.2.2.2.2.2.2.1) 0 f.2.1.2.2.2.1.1 f.2.1.2.2.2.1.2.1 f.2.1.2.2.2.1.2.2.1 f.2.1.2.2.2.1.2.2.2.1 [] f.2.2.2.2.2.2.2.2.2.2.1 f.2.2.2.2.2.2.2.2.2.2.2.2.1 f.2.2.2.2.2.2.2.2.2.2.2.2.2.1.1) fun B=>dB B (fun d=>cond (gy (bi d.1.1) d.1.2.1 (bi d.1.1)) (cond (dZ (bI d.2.2.1 (bF (sub d.1.1 d.1.2.1 (bi d.1.1)))) 1) (cond (gY 1048576 (bi (bI d.2.2.1 (bF (sub d.1.1 d.1.2.1 (bi d.1.1)))))) (cond (!(bC d.2.1.1.2.2.1 0)) (a6 (false,()))<|some (false,()))<|cond (!(bC d.2.1.1.2.2.1 0)) (a6 (false,()))<|cond (!(iG (ofBytes (bI d.2.2.1 (bF (sub d.1.1 d.1.2.1 (bi d.1.1))))) d.2.1.1.1)) (a6 (false,()))<|aZ (Xi d.2.1.1.1) fun h=>aZ (Xk d.2.1.1.1 h.1) fun l=>aZ (Tv l.1) fun i=>aZ (nP bD i.1 (bi i.1) 0 d.2.1.1.1 d.2.1.1.2.1 d.2.1.1.2.2.1 (ofBytes (bI d.2.2.1 (bF (sub d.1.1 d.1.2.1 (bi d.1.1))))) 0 d.2.1.1.2.2.1 (!(bC d.2.1.1.2.2.1 0)) false 0 (!(bC 0 0)) (!(bC 0 0)) false (ofBytes (bI d.2.2.1 (bF (sub d.1.1 d.1.2.1 (bi d.1.1))))) d.2.1.1.1 (!(iG (ofBytes (bI d.2.2.1 (bF (sub d.1.1 d.1.2.1 (bi d.1.1))))) d.2.1.1.1)) (!(iG (ofBytes (bI d.2.2.1 (bF (sub d.1.1 d.1.2.1 (bi d.1.1))))) d.2.1.1.1)) false d.2.1.1.1 i.1 [] l.1 [] h.2.1.1 h.2.1.2.1 h.2.1.2.2.1 [] d.2.2.2.1 d.2.2.2.2.1.1) fun s=>dB s (fun e=>cond ((OU e.2.2.2.2.2.2.2.2.2.2.1)&&(dZ e.2.2.2.2.2.2.2.2.2.2.1 64)) (cond e.2.1.2.2.1.2.2.2.2.2.2.2.2.2.2.2.2.2.2.2.2.1 (a6 (false,()))<|cond (!(bC (bi e.2.2.2.2.2.2.2.2.2.2.1) 0)) (a6 (false,()))<|aZ (aab e.2.2.2.2.2.2.2.2.2.2.2.2.2.1.1 e.2.2.2.2.2.2.2.2.2.2.2.2.1 e.2.1.2.2.1.1) fun u=>cond (gY 0 (bi u.2.1)) (a6 (true,()))<|some ((iG e.2.1.2.2.1.2.1 e.2.1.2.2.1.1),())) a7) (fun b15=>a7)) a7) a7) (fun zT=>cond (!(bC zT.2.1.1.2.2.1 0)) (a6 (false,()))<|cond (!(bC zT.1.2.1 0)) (a6 (false,()))<|cond (!(iG zT.1.1 zT.2.1.1.1)) (a6 (false,()))<|aZ (Xi zT.2.1.1.1) fun h=>aZ (Xk zT.2.1.1.1 h.1) fun l=>aZ (Tv l.1) fun i=>aZ (nP bD i.1 (bi i.1) 0 zT.2.1.1.1 zT.2.1.1.2.1 zT.2.1.1.2.2.1 zT.1.1 zT.1.2.1 zT.2.1.1.2.2.1 (!(bC zT.2.1.1.2.2.1 0)) false zT.1.2.1 (!(bC zT.1.2.1 0)) (!(bC zT.1.2.1 0)) false zT.1.1 zT.2.1.1.1 (!(iG zT.1.1 zT.2.1.1.1)) (!(iG zT.1.1 zT.2.1.1.1)) false zT.2.1.1.1 i.1 [] l.1 [] h.2.1.1 h.2.1.2.1 h.2.1.2.2.1 [] zT.2.2.1 zT.2.2.2.1.1) fun s=>dB s (fun e=>cond ((OU e.2.2.2.2.2.2.2.2.2.2.1)&&(dZ e.2.2.2.2.2.2.2.2.2.2.1 64)) (cond e.2.1.2.2.1.2.2.2.2.2.2.2.2.2.2.2.2.2.2.2.2.1 (a6 (false,()))<|cond (!(bC (bi e.2.2.2.2.2.2.2.2.2.2.1) 0)) (a6 (false,()))<|aZ (aab e.2.2.2.2.2.2.2.2.2.2.2.2.2.1.1 e.2.2.2.2.2.2.2.2.2.2.2.2.1 e.2.1.2.2.1.1) fun u=>cond (gY 0 (bi u.2.1)) (a6 (true,()))<|some ((iG e.2.1.2.2.1.2.1 e.2.1.2.2.1.1),())) a7) (fun b15=>a7))) a7) (fun D=>a7)) (fun E=>a7)
def atG:Sum:=⟨[.list Ht,.str],Wl,fun x=>fn4 x.1 x.2.1⟩
noncomputable def MO:Env:=fK prog tt [(6,O1),(7,atI),(20,adJ),(21,adK),(23,adM),(25,ak7),(27,aoO)] [(8,5,ai1),(12,4,acj),(40,1,TS),(10,500007,ai9),(4,600005,as2),(4,600006,as3),(4,600007,as4),(4,600008,as5),(4,600010,ap4),(8,600001,amE),(12,600003,ai6),(12,600006,ai7),(10,600004,ai4),(10,600008,ai5),(40,600003,ai8)] [(8,5,acI),(40,1,ku NV Eh),(12,4,Yb)] [10] [(10,akH),(12,akK),(18,akT),(24,adN),(43,alf)]
def adt {d:Type} (a:UN.den->Option d) (b:U8.den->Option d) (c:Vu.den->Option d) (v:UN.den):Option d:=Lu (fun e f g h i j l o=>a ((e,f,g,()),((h,i,j,()),(),()),(l,(o,()),()))) (fun p q s u x=>b ((),((p,q,s,()),(),()),(u,(x,()),()))) (fun y z A=>c ((),((y,z,A,()),(),()),())) v.1.1 v.1.2.1 v.1.2.2.1 v.2.1.1.1 v.2.1.1.2.1 v.2.1.1.2.2.1 v.2.2.1 v.2.2.2.1.1
theorem anF:dU MO 8 ahb acI:=lN (adt) (h2:=by intros;simp only[adt,Lu,di,dm,aY,bZ,dn])
def YS {d:Type} (a:KL.den->Option d) (b:Om.den->Option d) (c:Ov.den->Option d) (v:KL.den):Option d:=bo (Ha (fun e f g h i j l o p q s u x y z A B D E G=>a ((e,f,g,()),((),(),(h,i,j,()),(l,o,p,q,()),(),()),((),(s,()),(),u,(x,()),y,(z,A,B,()),(),D,(),E,(G,()),()))) (fun I J K L M N O S U V W X Y Z ab ad ae=>b ((),((),(),(I,J,K,()),(L,M,N,O,()),(),()),((),(S,()),(),U,(V,()),W,(X,Y,Z,()),(),ab,(),ad,(ae,()),()))) (fun r0 r1 r2 r3 r4 r5 r6=>c ((),((),(),(r0,r1,r2,()),(r3,r4,r5,r6,()),(),()),()))) v
theorem ajL:dU MO 40 Kz NV:=lN (YS) (h2:=by intros;simp only[YS,bo,Ha,di,dm,aY,bZ,dn])
def YR {d:Type} (a:KJ.den->Option d) (b:Ol.den->Option d) (c:Ou.den->Option d) (v:KJ.den):Option d:=G9 (fun e f g h i j l o p q s u=>a ((e,f,g,h,()),((i,j,l,o,()),(),()),(p,q,s,(u,()),()))) (fun x y z A B D E G I=>b ((x,y,()),((z,A,B,D,()),(),()),(E,G,(I,()),()))) (fun J K L M N O S U=>c ((J,K,()),((L,M,N,O,()),(),()),(S,(U,()),()))) v.1.1 v.1.2.1 v.1.2.2.1 v.1.2.2.2.1 v.2.1.1.1 v.2.1.1.2.1 v.2.1.1.2.2.1 v.2.1.1.2.2.2.1 v.2.2.1 v.2.2.2.1 v.2.2.2.2.1 v.2.2.2.2.2.1.1
theorem ajK:dU MO 12 abu Yb:=lN (YR) (h2:=by intros;simp only[YR,G9,di,dm,aY,bZ,dn])
def OG {d:Type} (a:CG.den->Option d) (b:Ey.den->Option d) (c:ED.den->Option d) (v:CG.den):Option d:=bp (zy (fun e f g h i j l o p q s u x y z A B D E G I J K L M N O S U V W=>a ((e,f,g,()),((),(),(h,i,j,l,o,p,q,s,u,x,y,z,A,B,D,E,G,I,()),(),()),((),(J,()),(),K,(L,()),M,(N,O,S,()),(),U,(),V,(W,()),()))) (fun X Y Z e3 e4 e5 e6 e7 e8 e9 ab ad ae af ag ah ai aj ak al an ao au av aw ax ay az=>b ((),((),(),(X,Y,Z,e3,e4,e5,e6,e7,e8,e9,ab,ad,ae,af,ag,ah,ai,aj,()),(),()),((),(ak,()),(),al,(an,()),ao,(au,av,aw,()),(),ax,(),ay,(az,()),()))) (fun r0 r1 r2 r3 r4 r5 r6 r7 r8 r9 aA aB aF aG aH aI aJ aK=>c ((),((),(),(r0,r1,r2,r3,r4,r5,r6,r7,r8,r9,aA,aB,aF,aG,aH,aI,aJ,aK,()),(),()),()))) v
theorem aaO:dU MO 40 Kz Eh:=lN (OG) (h2:=by intros;simp only[OG,bp,zy,di,dm,aY,bZ,dn])
theorem aqx:dL MO 8 aps:=zL [ahb] (aD (fM (anF)) aN)
theorem amS:dL MO 12 agN:=zL [abu] (aD (fM (ajK)) aN)
theorem amO:iW E9=[]:=by kernel_rfl
theorem anX:iU E9=[(cA (cA (cB (cA (cB (cB (cB (cB (E9)))))))),cB (cA (cB (cA (cB (cB (cB (cB (E9)))))))))]:=by kernel_rfl
theorem amR:dL MO 10 E9:=nX E9 (by rw[anX];exact(aD (fun _=>(show oO 10 7=a6 (cA (cA (cB (cA (cB (cB (cB (cB (E9)))))))),cB (cA (cB (cA (cB (cB (cB (cB (E9))))))))) by kernel_rfl)) aN)) (by rw[amO];exact aN)
theorem amT:dL MO 40 agO:=zL [Kz] (aD (fun L h=>by rw[show(MO).lp 40 (bM Kz)=a6 (ku NV Eh) by kernel_rfl]at h;cases h;exact nV ajL aaO) aN)
theorem alY:eP MO:=eB (aD Qd (aD an3 (aD OV (aD OW (aD OX (aD Y9 (aD ala aN))))))) [8,12,10,40] (aD ⟨f8,aps,by kernel_rfl,by kernel_rfl,aqx⟩ (aD ⟨f12,agN,by kernel_rfl,by kernel_rfl,amS⟩ (aD ⟨f10,E9,by kernel_rfl,by kernel_rfl,amR⟩ (aD ⟨f40,agO,by kernel_rfl,by kernel_rfl,amT⟩ aN)))) (hx:=(aD Y6 (aD Y7 (aD Y8 (aD OY (aD Zb aN))))))
end
section
open Bool renaming not_true → ax
open List renaming mem_cons_of_mem → ak, mem_cons_self → aA, drop_eq_getElem_cons → aF, getElem_mem → aG, length_cons → aH, length_map → aI, foldl_cons → aP
open Nat renaming le_refl → ae, le_trans → az
open Go.RowKit
theorem NQ {l:List oW} (hl:l.length<=100000): ∀(N m:Nat),l.length-m<N->m<=l.length->
  (∃b,JE N l (m:Int)=some (.inr ((b,()),()))/\b=false)\/(JE N l (m:Int)=some (.inl ((),()))/\ ∀e∈l.drop m,e.1.length<=40/\e.2.1.length<=60)
 |0,m,h,_=>by omega
 |N+1,m,h,j=>by
  rw[JE,adE];by_cases e:m<l.length
  .have f:=NQ hl N (m+1) (by omega) (by omega);rw[aF e,bJ (eU (by rw[bz];omega)),bJ (dQ),bJ (dQ),show([],([],()))=dEn from rfl,aot e,bQ,show(m:Int)+1=((m+1:Nat):Int) by omega];by_cases h1:l[m].1.length<=40
   .rw[dE (jc (by rw[bz];omega))];by_cases h2:l[m].2.1.length<=60
    .rw[dE (jc (by rw[bz];omega))];rcases f with h|⟨g,i⟩
     .exact .inl h
     .refine .inr ⟨g,fun x d=> ?_⟩;rcases List.mem_cons.1 d with rfl|d
      .exact⟨h1,h2⟩
      .exact i x d
    .rw[bJ (eU (by rw[bz];omega))];exact .inl ⟨_,rfl,rfl⟩
   .rw[bJ (eU (by rw[bz];omega))];exact .inl ⟨_,rfl,rfl⟩
  .rw[List.drop_eq_nil_of_le (by omega),dE (jc (by rw[bz];omega))];exact .inr ⟨rfl,by simp⟩
theorem alH (l:List oW): ∃b,fn7 l=some (b,())/\(b=true->Lit 10 40 60 l):=by
 rw[fn7];by_cases h:l.length<=10
 .rw[dE (jc (by rw[bz];omega))];have g:=NQ (l:=l) (by omega) bD 0 (dC) (by omega);rw[List.drop_zero]at g;rcases g with ⟨b,d,f⟩|⟨d,f⟩
  .rw[show JE bD l 0=_ from d];exact⟨b,rfl,fun e=>by rw[f]at e;cases e⟩
  .rw[show JE bD l 0=_ from d];exact⟨true,rfl,fun _=>⟨h,f⟩⟩
 .rw[bJ (eU (by rw[bz];omega))];exact⟨false,rfl,fun e=>by cases e⟩
theorem Zg {a b:Nat} {l:List oW} (o:l.length<=100000) (p:a<=100000) (hb:b<=65536) (d:List oW) (f:List UInt8) (g:List oW): ∀(N m n:Nat) (T:List oW),l.length-m<N->m<=l.length->Tab n a b T->Lit (l.length-m) a b (l.drop m)->n+l.length<=9000+m->
  Cj N l (l.length:Int) (m:Int) d f g T 2=some (.inl ((),((d,f,g,()),(),()),((l.drop m).foldl (fun T e=>YG T e.1 e.2.1) T,(2,()),())))
 |0,m,n,T,h,_,_,_,_=>by omega
 |N+1,m,n,T,h,u,i,hl,y=>by
  rw[Cj,Lu];by_cases e:m<l.length
  .have hd:=aF e;have j:=hl.2 l[m] (by rw[hd];exact aA);have hT:T.length<10000:=by have:=i.2.1.1;omega
   obtain⟨c,q⟩:=asl (k:=l[m].1) (v:=l[m].2.1) i.1 hT (by omega) (by omega);rw[hd,bJ (eU),bJ (dQ),show([],([],()))=dEn from rfl,aot e,q,aY,bQ,show(m:Int)+1=((m+1:Nat):Int) by omega,aP];exact Zg o p hb d f g N (m+1) (n+1) _ (by omega) (by omega) (acZ i j.1 j.2) ⟨by simp,fun x s=>hl.2 x (by rw[hd];exact ak _ s)⟩ (by omega)
  .rw[List.drop_eq_nil_of_le (by omega),dE (jc)];rfl
theorem an5 (a b:Nat):Tab 0 a b []:=⟨List.Pairwise.nil,⟨ae _,fun e d=>by cases d⟩,fun e d=>by cases d⟩
theorem ajF {L:List Nd} {F:List Lf} (hF:agE L F) (f:List UInt8) (g:Int) (j l o:List UInt8) (p:Int) (q:List UInt8) (s:List Lf) (u:Int) (v:List Dlm) (x:Bool) (y:List Tok) (z:List oW) (A:Int): ∀(N i:Nat) (M:List (Int×Int)),L.length-i<N->i<=L.length->
  ∃D,xM N L (L.length:Int) (i:Int) f g j l o p q L M F s u v x y z A=some (.inl ((),((),(),(f,g,j,()),(l,o,p,q,()),(),()),((),(L,()),(),D,(F,()),s,(u,v,x,()),(),y,(),z,(A,()),())))
 |0,i,M,h,_=>by omega
 |N+1,i,M,h,S=>by
  have U:=hF.len;rw[xM,Ha];by_cases e:i<L.length
  .have E:gm L (i:Int)=true:=dQ;have B:L[i]∈L:=aG e;have G:bT L (0,(0,(0,(0,())))) (i:Int)=L[i]:=apW e;have d:=fun I=>ajF hF f g j l o p q s u v x y z A N (i+1) I (by omega) (by omega);simp only[E,G];rw[bJ (eU),aa,bQ,show(i:Int)+1=((i+1:Nat):Int) by omega];by_cases h7:L[i].1=7
   .obtain⟨J,K⟩:=hF.up _ B h7;rw[gB h7,aa,bJ (dQ J K)];by_cases h5:(bT L Wi L[i].2.2.2.1).1=5
    .obtain⟨O,k1⟩:=hF.at_ _ B ⟨h7,h5⟩;rw[show bT L (0,(0,(0,(0,())))) L[i].2.2.2.1=bT L Wi L[i].2.2.2.1 from rfl,gB h5,aa];by_cases h2:kw M L[i].2.2.2.1=2
     .rw[gB h2,aa];exact d M
     .rw[dV h2,ac,bJ (dQ O k1)];exact d _
    .rw[show bT L (0,(0,(0,(0,())))) L[i].2.2.2.1=bT L Wi L[i].2.2.2.1 from rfl,dV h5,ac];exact d M
   .rw[dV h7,ac];exact d M
  .rw[dE (jc)];exact⟨M,rfl⟩
theorem ajG {L:List Nd} {F:List Lf} (hF:agE L F) (f g:List UInt8) (j:Int) (l:List UInt8) (o p:Int) (q s:Bool) (u:Int) (v x y:Bool) (z A:List UInt8) (B D E:Bool) (G:List UInt8) (I:List Lf) (J:Int) (K:List Dlm) (O:Bool) (S:List Tok) (U:List oW) (V:Int): ∀(N i:Nat) (M:List (Int×Int)),L.length-i<N->i<=L.length->
  ∃X,nP N L (L.length:Int) (i:Int) f g j l o p q s u v x y z A B D E G L M F I J K O S U V=some (.inl ((),((),(),(f,g,j,l,o,p,q,s,u,v,x,y,z,A,B,D,E,G,()),(),()),((),(L,()),(),X,(F,()),I,(J,K,O,()),(),S,(),U,(V,()),())))
 |0,i,M,h,_=>by omega
 |N+1,i,M,h,hi=>by
  have ab:=hF.len;rw[nP,zy];by_cases e:i<L.length
  .have Y:gm L (i:Int)=true:=dQ;have W:L[i]∈L:=aG e;have Z:bT L (0,(0,(0,(0,())))) (i:Int)=L[i]:=apW e;have d:=fun M'=>ajG hF f g j l o p q s u v x y z A B D E G I J K O S U V N (i+1) M' (by omega) (by omega);simp only[Y,Z];rw[bJ (eU),aa,bQ,show(i:Int)+1=((i+1:Nat):Int) by omega];by_cases h7:L[i].1=7
   .obtain⟨u0,u1⟩:=hF.up _ W h7;rw[gB h7,aa,bJ (dQ u0 u1)];by_cases h5:(bT L Wi L[i].2.2.2.1).1=5
    .obtain⟨k0,k1⟩:=hF.at_ _ W ⟨h7,h5⟩;rw[show bT L (0,(0,(0,(0,())))) L[i].2.2.2.1=bT L Wi L[i].2.2.2.1 from rfl,gB h5,aa];by_cases h2:kw M L[i].2.2.2.1=2
     .rw[gB h2,aa];exact d M
     .rw[dV h2,ac,bJ (dQ k0 k1)];exact d _
    .rw[show bT L (0,(0,(0,(0,())))) L[i].2.2.2.1=bT L Wi L[i].2.2.2.1 from rfl,dV h5,ac];exact d M
   .rw[dV h7,ac];exact d M
  .rw[dE (jc)];exact⟨M,rfl⟩
theorem afs (d:List UInt8) (e:Int) (f g:List UInt8) (h:Int) (i:List UInt8) (j:List Int) (l:List oW) (o:Int) (N:Nat):
  xK (N+1) d e 0 0 f g h i j [] l o=some (.inl ((d,e,()),((f,g,h,i,()),(),()),(j,l,(o,()),()))):=by
 rw[xK,G9,show gY 0 0=false from rfl,ac]
theorem ajd (l:List oW) (s:List UInt8):fn4 l s=some (true,()):=by
 rw[fn4];obtain⟨b,E,G⟩:=alH l;rw[E,aY];cases b with
 |false=>rfl
 |true=>
  have g:=G rfl;have hl:=g.1;have hT:=anj g;simp only;rw[ax,ac];by_cases hs:s.length<=80
  .obtain⟨L,d,_,I,m,rfl,J⟩:=aq1 (s:=s) (by omega);have K:=QI (s:=s) (by omega);have W:(fP s (jV s).1).length<=80:=by
    have h:=(Ua (s:=s) (by omega)).2.2;unfold fP;rw[aI];exact az (List.length_filter_le _ _) (az h hs)
   rw[aH]at I;have i:=atv K J (by omega);have j:=Nz (ofT l) (fP s (jV s).1) ((1,0,((fP s (jV s).1).length:Int),-1,())::m) ((1,0,((fP s (jV s).1).length:Int),-1,())::m) ([],[]);obtain⟨u,v⟩:=ae0 (T:=ofT l) (s:=s) (by omega) (atn (by omega)) i;have p:=ao8 hT (by omega) (by omega) (agG) (Wp (by omega)) d i.fine u;obtain⟨H,x⟩: ∃H,H=Jy (ofT l) (fP s (jV s).1) ((1,0,((fP s (jV s).1).length:Int),-1,())::m):=⟨_,rfl⟩;rw[show(List.foldl (FZ (ofT l) (fP s (jV s).1) ((1,0,((fP s (jV s).1).length:Int),-1,())::m)) ([],[]) ((1,0,((fP s (jV s).1).length:Int),-1,())::m)).2=H from x.symm]at j;rw[<-x]at u v p;rw[aH]at j;simp only[List.length_nil]at j;have y:=apa hT (by omega) (by omega) (by omega) (by omega) 2 (p 2) v;obtain⟨o,z⟩: ∃o,o=QV (ofT l) s 0 H:=⟨_,rfl⟩;rw[<-z]at y;have f:=i.fine;obtain⟨F,M⟩: ∃F,F=fP s (jV s).1:=⟨_,rfl⟩;have q:=Wp (s:=s) (by omega);rw[<-M]at q d f;obtain⟨L,O⟩: ∃L,L=((1,0,(F.length:Int),-1,())::m:List Nd):=⟨_,rfl⟩;rw[<-O]at d f;have X:=f.len;have S:sub s 0 (bi s)=s:=by simp[sub,bz]
   have U:bI ([]:List Int) (bF s)=bF s:=rfl;have A:dZ ([]:List Tok) 64=true:=FT (by simp);obtain⟨N,B⟩: ∃N,bD=N+1:=⟨bD-1,by unfold bD;omega⟩;obtain⟨Y,V⟩:=ajF f s 0 s s o 0 s [] (jV s).2.1 (jV s).2.2.1 (jV s).2.2.2.1 [] (ofT l) 2 bD 0 [] (dC) (by omega);obtain⟨Z,D⟩:=ajG f s o 0 s 0 0 (!(bC 0 0)) false 0 (!(bC 0 0)) (!(bC 0 0)) false s s (!(iG s s)) (!(iG s s)) false s [] (jV s).2.1 (jV s).2.2.1 (jV s).2.2.2.1 [] (ofT l) 2 bD 0 [] (dC) (by omega);rw[dE (jc (by rw[bz];omega)),
    show Cj bD l (bi l) 0 l s l [] 2=_ from Zg (by omega) (a:=40) (b:=60) (by omega) (by omega) l s l bD 0 0 [] (dC) (by omega) (an5 _ _) ⟨by simp,by rw[List.drop_zero];exact g.2⟩ (by omega),aY,List.drop_zero]
   simp only[dB];rw[show l.foldl (fun T e=>YG T e.1 e.2.1) []=ofT l from rfl,y,aY];simp only;rw[agG,aY];simp only;rw[q,aY];simp only;rw[d,aY];simp only;rw[show xM bD L (bi L) 0 s 0 s s o 0 s L [] F [] (jV s).2.1 (jV s).2.2.1 (jV s).2.2.2.1 [] (ofT l) 2=_ from V,aY];simp only;refine Eq.trans (bJ (show(true&&dZ ([]:List Tok) 64)=true from by rw[A];rfl)) ?_;rw[B,show xK (N+1) s 0 (bi ([]:List Tok)) 0 s o 0 s [] [] (ofT l) 2=_ from afs s 0 s o 0 s [] (ofT l) 2 N,<-B,aY];simp only;rw[S,U,aoC,bJ (gZ (Int.le_refl _) (by rw[bz];omega) (Int.le_refl _)),bJ (xB (by omega)),dE (jc (by rw[bz,Hg];omega)),show bC 0 0=true from rfl,qQ,ax,ac,ac];rw[show bC 0 0=true from rfl,qQ,ax]at D;rw[agG,aY];simp only;rw[q,aY];simp only;rw[d,aY];simp only;rw[show nP bD L (bi L) 0 s o 0 s 0 0 false false 0 false false false s s false false false s L [] F [] (jV s).2.1 (jV s).2.2.1 (jV s).2.2.2.1 [] (ofT l) 2=_ from D,aY];simp only;refine Eq.trans (bJ (show(true&&dZ ([]:List Tok) 64)=true from by rw[A];rfl)) ?_;rw[ac,show bC (bi ([]:List Tok)) 0=true from rfl,ax,ac,p 2,aY];simp only;cases H with
   |nil=>
    rw[show gY 0 (bi ([]:List Tok))=false from rfl,ac,z,show QV (ofT l) s 0 []=s from rfl,qQ]
   |cons h r=>rw[bJ (eU (by rw[bz,aH];omega))]
  .rw[bJ (eU (by rw[bz];omega))]
end
end Go.Proofs.YtlhpdcadgbjhiaaGreatDoor
