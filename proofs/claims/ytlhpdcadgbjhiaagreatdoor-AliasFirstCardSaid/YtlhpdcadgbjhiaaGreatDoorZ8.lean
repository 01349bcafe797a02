/- Parts of the proof, joined and shortened by a program: the plain machine, the functions as it prints them, and the mathematics over them. -/
import Derived.Test.YtlhpdcadgbjhiaaGreatDoorZ4
import Derived.Test.YtlhpdcadgbjhiaaGreatDoorZ5
import Derived.Test.YtlhpdcadgbjhiaaGreatDoorZ7
set_option linter.unusedVariables false
set_option linter.unusedSimpArgs false
set_option maxRecDepth 100000
set_option maxHeartbeats 4000000
namespace Go.Proofs.YtlhpdcadgbjhiaaGreatDoor
section
open Option renaming some → a6, none → a7
open Bool renaming not_true → ax, not_false → az
open Nat renaming le_trans → aI
open Go.RowKit
theorem ayS {a b:List UInt8}:fP a b=true↔a=b:=by simp[fP]
theorem uu {a b:List UInt8} (h:a≠b):fP a b=false:=by simp[fP];exact h
theorem Wv {a b:List UInt8} (h:a=b):fP a b=true:=ayS.2 h
def uZ:List bZ:=[[33],[123],[125],[99,97,115,101],[100,111],[100,111,110,101],[101,108,105,102],[101,108,115,101],[101,115,97,99],[102,105],[102,111,114],[105,102],[105,110],[116,104,101,110],[117,110,116,105,108],[119,104,105,108,101]]
def aeq:bZ:=[32,33,32,123,32,125,32,99,97,115,101,32,100,111,32,100,111,110,101,32,101,108,105,102,32,101,108,115,101,32,101,115,97,99,32,102,105,32,102,111,114,32,105,102,32,105,110,32,116,104,101,110,32,117,110,116,105,108,32,119,104,105,108,101,32]
theorem ahl: ∀i:Fin 66,∀n:Fin 66,(sub aeq (i.val:Int) ((i.val:Int)+((n.val:Int)+2))).getD 0 0=32->
  (sub aeq (i.val:Int) ((i.val:Int)+((n.val:Int)+2))).getD (n.val+1) 0=32->
  (((sub aeq (i.val:Int) ((i.val:Int)+((n.val:Int)+2))).drop 1).take n.val).contains 32=false->n.val≠0->i.val+n.val+2<=65->
  uZ.contains (((sub aeq (i.val:Int) ((i.val:Int)+((n.val:Int)+2))).drop 1).take n.val)=true:=by decide+kernel
theorem ajS (x:bZ) (hx:x.length<=3000000): ∀(n k:Nat),k<=x.length->x.length-k<n->
  BQ n 32 x (k:Int)=a6 (.inl ((),()))/\(∀j,k<=j->j<x.length->bY x (j:Int)≠32)\/BQ n 32 x (k:Int)=a6 (.inr ((true,()),()))
 |0,k,d,e=>by omega
 |n+1,k,d,e=>by
  rw[BQ];unfold UT;by_cases hk:k<x.length
  .rw[cO (fO (by rw[bP];omega)),cO (eu)];by_cases hb:bY x (k:Int)=32
   .simp_all [gq]
   .rw[dN (dZ hb),dI];rcases ajS x hx n (k+1) (by omega) (by omega)with ⟨h,h'⟩|h
    all_goals grind
  .rw[dN (iE (by rw[bP];omega))]
   grind
theorem avj {x:List UInt8} (h: ∀j,0<=j->j<x.length->bY x ((j:Nat):Int)≠32):x.contains 32=false:=by
 rw[Bool.eq_false_iff];intro d;rw[List.contains_iff_mem]at d;obtain⟨j,e,f⟩:=List.mem_iff_getElem.1 d;refine h j (by omega) e ?_;simp_all [bY]
theorem afg (x:bZ) (hx:x.length<=3000000) (e:x.length≠0) (hb:x.contains 32=false) (f:uZ.contains x=false): ∀(n i:Nat),i<=66->66-i<n->
  TG n (bT (bT [32] x) [32]) (i:Int)=a6 (.inl ((),()))
 |0,i,g,j=>by omega
 |n+1,i,g,j=>by
  have hl:(bT (bT [32] x) [32]).length=x.length+2:=by simp[bT]
  rw[TG];unfold acx;by_cases hi:i+x.length+2<=65
  .rw[cO (mW (by grind [bP,dI]))];rw[cO (gu (by omega) (by grind [bP,dI]) (by rw[bP,bP,hl,dI];show _<=(65:Int);omega))];rw[dN (uu ?_)]
   .rw[dI];exact afg x hx e hb f n (i+1) (by omega) (by omega)
   .intro d;rw[bP,hl,dI]at d;change sub aeq _ _=_ at d;have:=ahl ⟨i,by omega⟩ ⟨x.length,by omega⟩;simp_all [bT]
  .rw[dN (Dl (by grind [bP,dI]))]
theorem abU (x:bZ) (hx:x.length<=3000000) (d:uZ.contains x=false):atj x=a6 (false,()):=by
 unfold atj;by_cases h0:x.length=0
 .simp_all [gq,bP]
 rw[dN (dZ (by rw[bP];omega))];unfold GN;rcases ajS x hx bQ 0 (by omega) (dX)with ⟨h,h'⟩|h
 .rw[show(0:Int)=((0:Nat):Int) from rfl,h];simp only[bI,avy,ac];rw[cO (show gV [32] x=true by unfold gV kZ;grind)];rw[cO (show gV (bT [32] x) [32]=true by unfold gV kZ bT;grind)];rw[afg x hx h0 (avj h') d bQ 0 (by omega) (dX)];rfl
 .rw[show(0:Int)=((0:Nat):Int) from rfl,h];rfl
theorem ae2: ∀k:Fin 17,ajv ((k.val:Int)+1)=a6 (MX.getD k.val [],())/\YY ((k.val:Int)+1)=a6 (MX.getD k.val [],()):=by
 intro k
 match k with
 |⟨0,_⟩=>exact⟨by kernel_rfl,by kernel_rfl⟩
 |⟨1,_⟩=>exact⟨by kernel_rfl,by kernel_rfl⟩
 |⟨2,_⟩=>exact⟨by kernel_rfl,by kernel_rfl⟩
 |⟨3,_⟩=>exact⟨by kernel_rfl,by kernel_rfl⟩
 |⟨4,_⟩=>exact⟨by kernel_rfl,by kernel_rfl⟩
 |⟨5,_⟩=>exact⟨by kernel_rfl,by kernel_rfl⟩
 |⟨6,_⟩=>exact⟨by kernel_rfl,by kernel_rfl⟩
 |⟨7,_⟩=>exact⟨by kernel_rfl,by kernel_rfl⟩
 |⟨8,_⟩=>exact⟨by kernel_rfl,by kernel_rfl⟩
 |⟨9,_⟩=>exact⟨by kernel_rfl,by kernel_rfl⟩
 |⟨10,_⟩=>exact⟨by kernel_rfl,by kernel_rfl⟩
 |⟨11,_⟩=>exact⟨by kernel_rfl,by kernel_rfl⟩
 |⟨12,_⟩=>exact⟨by kernel_rfl,by kernel_rfl⟩
 |⟨13,_⟩=>exact⟨by kernel_rfl,by kernel_rfl⟩
 |⟨14,_⟩=>exact⟨by kernel_rfl,by kernel_rfl⟩
 |⟨15,_⟩=>exact⟨by kernel_rfl,by kernel_rfl⟩
 |⟨16,_⟩=>exact⟨by kernel_rfl,by kernel_rfl⟩
 |⟨n+17,h⟩=>omega
theorem aCA {x:List UInt8} (d:MX.contains x=false) {k:Nat} (hk:k<17):MX.getD k []≠x:=by
 rintro rfl;rw[Bool.eq_false_iff]at d;apply d;rw[List.contains_iff_mem,List.getD_eq_getElem?_getD,List.getElem?_eq_getElem (show k<MX.length from hk)];simp
theorem XE (x:bZ) (d:MX.contains x=false): ∀(n k:Nat),k<=17->17-k<n->BN n x ((k:Int)+1)=a6 (.inl ((),()))
 |0,k,e,f=>by omega
 |n+1,k,e,f=>by
  rw[BN];unfold Lc;by_cases hk:k<17
  .rw[cO (mW),(ae2 ⟨k,hk⟩).1,bI,dN (uu (aCA d hk)),dI];exact XE x d n (k+1) (by omega) (by omega)
  .rw[dN (Dl)]
theorem ams (x:bZ) (d:MX.contains x=false) (a b c:Int): ∀(n k:Nat),k<=17->17-k<n->TF n ((k:Int)+1) a x b c=a6 (.inl ((),()))
 |0,k,e,f=>by omega
 |n+1,k,e,f=>by
  rw[TF];unfold acu;by_cases hk:k<17
  .rw[cO (mW),(ae2 ⟨k,hk⟩).2,bI,dN (uu (aCA d hk)),dI];exact ams x d a b c n (k+1) (by omega) (by omega)
  .rw[dN (Dl)]
theorem Zy {x:List UInt8} (h:uZ.contains x=true):x=[33]\/x=[123]\/x=[125]\/x=[99,97,115,101]\/x=[100,111]\/x=[100,111,110,101]\/x=[101,108,105,102]\/x=[101,108,115,101]\/x=[101,115,97,99]\/x=[102,105]\/x=[102,111,114]\/x=[105,102]\/x=[105,110]\/x=[116,104,101,110]\/x=[117,110,116,105,108]\/x=[119,104,105,108,101]:=by
 simp_all [uZ]
theorem aFz {x:List UInt8} (h:MX.contains x=true):x=[38,38]\/x=[124,124]\/x=[59,59]\/x=[60,60]\/x=[60,60,45]\/x=[62,62]\/x=[60,38]\/x=[62,38]\/x=[60,62]\/x=[62,124]\/x=[60]\/x=[62]\/x=[38]\/x=[59]\/x=[124]\/x=[40]\/x=[41]:=by
 simp_all [MX]
theorem aqh (x:bZ) (hx:x.length<=10000) (a b:Int): ∃c:UInt8,ajy x=a6 ((c.toNat:Int),())/\Ir (6,(x,(a,(b,()))))=a6 ([c],()):=by
 cases hw:uZ.contains x with
 |true=>
  rcases Zy hw with h|h|h|h|h|h|h|h|h|h|h|h|h|h|h|h
  .subst h;exact⟨33,by kernel_rfl,by kernel_rfl⟩
  .subst h;exact⟨123,by kernel_rfl,by kernel_rfl⟩
  .subst h;exact⟨125,by kernel_rfl,by kernel_rfl⟩
  .subst h;exact⟨99,by kernel_rfl,by kernel_rfl⟩
  .subst h;exact⟨100,by kernel_rfl,by kernel_rfl⟩
  .subst h;exact⟨103,by kernel_rfl,by kernel_rfl⟩
  .subst h;exact⟨101,by kernel_rfl,by kernel_rfl⟩
  .subst h;exact⟨108,by kernel_rfl,by kernel_rfl⟩
  .subst h;exact⟨122,by kernel_rfl,by kernel_rfl⟩
  .subst h;exact⟨102,by kernel_rfl,by kernel_rfl⟩
  .subst h;exact⟨114,by kernel_rfl,by kernel_rfl⟩
  .subst h;exact⟨105,by kernel_rfl,by kernel_rfl⟩
  .subst h;exact⟨107,by kernel_rfl,by kernel_rfl⟩
  .subst h;exact⟨116,by kernel_rfl,by kernel_rfl⟩
  .subst h;exact⟨119,by kernel_rfl,by kernel_rfl⟩
  .subst h;exact⟨119,by kernel_rfl,by kernel_rfl⟩
 |false=>
  refine⟨120, ?_, ?_⟩
  .have e: ∀l,uZ.contains l=true->fP x l=false:=fun l hl=>uu fun d=>by simp_all
   (unfold ajy;delta PN YM)
   simp only[e [33] rfl,e [123] rfl,e [125] rfl,e [99,97,115,101] rfl,e [100,111] rfl,e [100,111,110,101] rfl,e [101,108,105,102] rfl,e [101,108,115,101] rfl,e [101,115,97,99] rfl,e [102,105] rfl,e [102,111,114] rfl,e [105,102] rfl,e [105,110] rfl,e [116,104,101,110] rfl,e [117,110,116,105,108] rfl,e [119,104,105,108,101] rfl,ac];rfl
  .unfold Ir;simp only[show bV 6 2=false from rfl,show bV 6 5=false from rfl,show bV 6 4=false from rfl,show bV 6 6=true from rfl,ax,ac,abU x (aI hx (by omega)) hw,bI,az,aa]
theorem aoW (x:bZ) (hx:x.length<=10000) (a b:Int): ∃c:UInt8,ajx x=a6 ((c.toNat:Int),())/\Ir (4,(x,(a,(b,()))))=a6 ([c],())/\c≠120:=by
 cases hw:MX.contains x with
 |true=>
  rcases aFz hw with h|h|h|h|h|h|h|h|h|h|h|h|h|h|h|h|h
  .subst h;exact⟨97,by kernel_rfl,by kernel_rfl,by decide⟩
  .subst h;exact⟨111,by kernel_rfl,by kernel_rfl,by decide⟩
  .subst h;exact⟨121,by kernel_rfl,by kernel_rfl,by decide⟩
  .subst h;exact⟨60,by kernel_rfl,by kernel_rfl,by decide⟩
  .subst h;exact⟨60,by kernel_rfl,by kernel_rfl,by decide⟩
  .subst h;exact⟨60,by kernel_rfl,by kernel_rfl,by decide⟩
  .subst h;exact⟨60,by kernel_rfl,by kernel_rfl,by decide⟩
  .subst h;exact⟨60,by kernel_rfl,by kernel_rfl,by decide⟩
  .subst h;exact⟨60,by kernel_rfl,by kernel_rfl,by decide⟩
  .subst h;exact⟨60,by kernel_rfl,by kernel_rfl,by decide⟩
  .subst h;exact⟨60,by kernel_rfl,by kernel_rfl,by decide⟩
  .subst h;exact⟨60,by kernel_rfl,by kernel_rfl,by decide⟩
  .subst h;exact⟨38,by kernel_rfl,by kernel_rfl,by decide⟩
  .subst h;exact⟨59,by kernel_rfl,by kernel_rfl,by decide⟩
  .subst h;exact⟨124,by kernel_rfl,by kernel_rfl,by decide⟩
  .subst h;exact⟨40,by kernel_rfl,by kernel_rfl,by decide⟩
  .subst h;exact⟨41,by kernel_rfl,by kernel_rfl,by decide⟩
 |false=>
  refine⟨63, ?_, ?_,by decide⟩
  .unfold ajx;have:Oh x=a6 (0,()):=by
    unfold Oh;by_cases h0:x=[]
    .rw[cO (Wv h0)]
    .rw[dN (uu h0),show(1:Int)=((0:Nat):Int)+1 from rfl,XE x hw bQ 0 (by omega) (dX)];rfl
   rw[this];rfl
  .unfold Ir;simp only[show bV 4 2=false from rfl,show bV 4 5=false from rfl,show bV 4 4=true from rfl,ac,aa];rw[show(1:Int)=((0:Nat):Int)+1 from rfl,ams x hw 4 a b bQ 0 (by omega) (dX)];rfl
theorem aCH (k:Int) (x:bZ) (hx:x.length<=10000) (a b:Int): ∃c:UInt8,Sz (k,(x,(a,(b,()))))=a6 ((c.toNat:Int),())/\Ir (k,(x,(a,(b,()))))=a6 ([c],())/\(c=120->k=6):=by
 by_cases h2:k=2
 .subst h2;exact⟨110,rfl,rfl,fun h=>absurd h (by decide)⟩
 by_cases h5:k=5
 .subst h5;exact⟨35,rfl,rfl,fun h=>absurd h (by decide)⟩
 by_cases h4:k=4
 .subst h4;obtain⟨c,h,d,f⟩:=aoW x hx a b;refine⟨c, ?_,d,fun e=>absurd e f⟩;unfold Sz;simp only[show bV 4 2=false from rfl,show bV 4 4=true from rfl,ac,aa,h,bI]
 by_cases h6:k=6
 .subst h6;obtain⟨c,h,d⟩:=aqh x hx a b;refine⟨c, ?_,d,fun _=>rfl⟩;unfold Sz;simp only[show bV 6 2=false from rfl,show bV 6 4=false from rfl,show bV 6 5=false from rfl,show bV 6 6=true from rfl,ac,aa,h,bI]
 refine⟨63, ?_, ?_,fun h=>absurd h (by decide)⟩
 .unfold Sz;simp only[dZ h2,dZ h4,dZ h5,dZ h6,ac];rfl
 .unfold Ir;simp only[dZ h2,dZ h4,dZ h5,dZ h6,ac,az,aa]
abbrev Lf:=Int×List UInt8×Int×Int×Unit
def dLf:Lf:=(0,([],(0,(0,()))))
def sgn (f:Lf):UInt8:=match Ir f with
 |some ([c],_)=>c
 |_=>0
theorem aGf {f:Lf} (h:f.2.1.length<=10000):Sz f=a6 (((sgn f).toNat:Int),())/\Ir f=a6 ([sgn f],()):=by
 obtain⟨k,x,a,b,u⟩:=f;obtain⟨c,d,e,_⟩:=aCH k x h a b;simp_all [sgn]
theorem aKr {f:Lf} (h:f.2.1.length<=10000) (hx:sgn f=120):f.1=6:=by
 obtain⟨k,x,a,b,u⟩:=f;obtain⟨c,d,e,g⟩:=aCH k x h a b;simp_all [sgn]
end
section
open Option renaming some → a6, none → a7
open Bool renaming not_true → ax, and_true → ay, not_false → az, true_and → aK
open List renaming getElem_mem → aX
open Nat renaming le_refl → ae
open Go.RowKit
abbrev Nd:=Int×Int×Int×Int×Unit
def dNd:Nd:=(0,(0,(0,(0,()))))
structure OkF (F:List Lf):Prop where
 len:F.length<=10000
 txt: ∀f∈F,f.2.1.length<=10000
def ND (F:List Lf) (a:Nat):UInt8:=if h:a<F.length then sgn F[a]else 0
def gK (F:List Lf) (a:Nat) (o:bZ):Bool:=decide (a<F.length)&&o.contains (ND F a)
theorem ab4 {F:List Lf} {a:Nat} (h:a<F.length):ND F a=sgn F[a]:=by simp_all [ND]
theorem Gi {F:List Lf} {a:Nat} (h:F.length<=a:=by omega):ND F a=0:=by simp_all [ND,dif_neg]
theorem jT {F:List Lf} {a:Nat} {o:List UInt8} (h:gK F a o=true):a<F.length:=by
 simp_all [gK]
theorem Tv {F:List Lf} {a:Nat} (h:a<F.length):dJ F (0,([],(0,(0,())))) (a:Int)=F[a]:=by
 simp_all [dJ]
theorem aCb {d:Type} {l:List d} {k:Nat} (h:l.length*k<=140737488355328):dY l k=true:=by
 grind [dY,kZ]
variable {F:List Lf} (hF:OkF F)
include hF
theorem awy (a k:Nat) (l:List Nd) (u d:Int) (e:a+k<1000000000):xH F (a:Int) l u d (k:Int)=a6 ((F,((a:Int),(l,(u,(d,()))))),(((ND F (a+k)).toNat:Int),())):=by
 have:=hF.len;rw[xH,dI,show(a:Int)+(k:Int)=((a+k:Nat):Int) by omega];by_cases h:a+k<F.length
 .rw[dN (Dl (by rw[bP];omega)),cO (eu),Tv h,(aGf (hF.txt _ (aX h))).1,bI,ab4 h]
 .rw[cO (mW (by rw[bP];omega)),Gi];rfl
theorem KY (a:Nat) (l:List Nd) (u d:Int) (e:a<100000000):xH F (a:Int) l u d 0=a6 ((F,((a:Int),(l,(u,(d,()))))),(((ND F a).toNat:Int),())):=awy hF a 0 l u d (by omega)
theorem amu (a:Nat) (l:List Nd) (u d:Int) (e:a<100000000):xH F (a:Int) l u d 1=a6 ((F,((a:Int),(l,(u,(d,()))))),(((ND F (a+1)).toNat:Int),())):=awy hF a 1 l u d (by omega)
omit hF in
theorem azn (S:bZ) (c:UInt8):leI 0 (ibW S (c.toNat:Int))=S.contains c:=by
 have:ibW S (c.toNat:Int)=Lib.indexByte S c:=by unfold ibW;congr 1;simp
 rw[this,atB];by_cases h:(S.takeWhile (· !=c)).length<S.length
 .rw[am h,mW];have:=zD (· !=c) S h
  grind
 .rw[aq h,Dl];have e: ∀x∈S,x≠c:=fun x d=>by
   obtain⟨i,f,rfl⟩:=List.getElem_of_mem d
   grind [E5]
  grind
theorem ai3 (a:Nat) (l:List Nd) (u d:Int) (f:a<100000000) (o:bZ) (g:o.contains 0=false):WC F (a:Int) l u d o=a6 ((F,((a:Int),(l,(u,(d,()))))),(gK F a o,())):=by
 rw[WC,KY hF a l u d f,bI];simp only;unfold gK;by_cases h:ND F a=0
 .rw[h,show(!bV (((0:UInt8).toNat:Nat):Int) 0)=false from rfl,ac,g,Bool.and_false]
 .have i:a<F.length:=by
   grind [Gi]
  rw[dZ fun e=>h (UInt8.toNat_inj.1 (by simp_all))];simp only[az,aa];rw[adB,ajw,bI,bI];simp only[azn,decide_eq_true i,aK]
def tk (F:List Lf) (a:Nat) (o:bZ):Nat:=if gK F a o=true then a+1 else a
theorem nK (a:Nat) (l:List Nd) (u d:Int) (e:a<100000000) (o:bZ) (f:o.contains 0=false):uG F (a:Int) l u d o=a6 ((F,(((tk F a o:Nat):Int),(l,(u,(d,()))))),(gK F a o,())):=by
 rw[uG,ai3 hF a l u d e o f,bI];simp only;unfold tk;cases h:gK F a o with
 |false=>rfl
 |true=>
  simp only[ax,ac,if_true]
  grind [dI]
def lnF (F:List Lf):Nat->Nat->Nat
 |0,a=>a
 |n+1,a=>if gK F a [110]=true then lnF F n (a+1)else a
def ln (F:List Lf) (a:Nat):Nat:=lnF F (F.length+1) a
omit hF in
theorem aer: ∀(n m a:Nat),F.length<n+a->F.length<m+a->lnF F n a=lnF F m a
 |0,0,a,_,_=>rfl
 |0,m+1,a,h,_=>by
  rw[lnF,lnF,aq];intro d;have:=jT d;omega
 |n+1,0,a,_,h=>by
  rw[lnF,lnF,aq];intro d;have:=jT d;omega
 |n+1,m+1,a,e,f=>by
  rw[lnF,lnF];split
  .exact aer n m (a+1) (by omega) (by omega)
  .rfl
omit hF in
theorem JW (a:Nat):ln F a=if gK F a [110]=true then ln F (a+1)else a:=by
 grind [ln,lnF,aer]
omit hF in
theorem auA: ∀(n a:Nat),a<=lnF F n a
 |0,a=>ae _
 |n+1,a=>by
  rw[lnF];split
  .have:=auA n (a+1);omega
  omega
omit hF in
theorem OB (a:Nat):a<=ln F a:=auA _ _
omit hF in
theorem auB: ∀(n a:Nat),a<=F.length->lnF F n a<=F.length
 |0,a,h=>h
 |n+1,a,h=>by
  rw[lnF];split
  .rename_i d
   exact auB n (a+1) (jT d)
  .exact h
omit hF in
theorem TB {a:Nat} (h:a<=F.length):ln F a<=F.length:=auB _ _ h
theorem TA (l:List Nd) (u d:Int) (v:Bool): ∀(N a:Nat),F.length+1-a<N->a<=F.length->
  JX N v F (a:Int) u d l=a6 (.inl ((v,()),((),()),((F,((ln F a:Nat):Int),u,d,()),l,())))
 |0,a,h,_=>by omega
 |N+1,a,h,e=>by
  have:=hF.len;rw[JX,Qr,nK hF a l u d (by omega) [110] rfl,bI,JW];simp only;unfold tk;cases h':gK F a [110]with
  |false=>rfl
  |true=>
   simp only[aa,if_true];exact TA l u d v N (a+1) (by omega) (jT h')
theorem BI (a:Nat) (l:List Nd) (u d:Int) (e:a<=F.length):tH F (a:Int) l u d=a6 ((F,(((ln F a:Nat):Int),(l,(u,(d,()))))),(gK F a [110],())):=by
 have:=hF.len;rw[tH,nK hF a l u d (by omega) [110] rfl,bI];simp only;have hl:tk F a [110]<=F.length:=by
  unfold tk;split
  .rename_i h;exact jT h
  .exact e
 rw[TA hF l u d _ bQ (tk F a [110]) (dX) hl,bI];simp only[dW];have:ln F (tk F a [110])=ln F a:=by
  unfold tk;split
  .rename_i h;rw[JW a,am h]
  .rfl
 rw[this]
omit hF in
theorem aeM (l:List Nd) (k a u t:Int):iw (bT l [(k,(a,(0,(u,()))))]) (dD (bM l)) ((dK (bT l [(k,(a,(0,(u,()))))]) (0,(0,(0,(0,())))) (dD (bM l))).1,((dK (bT l [(k,(a,(0,(u,()))))]) (0,(0,(0,(0,())))) (dD (bM l))).2.1,(t,((dK (bT l [(k,(a,(0,(u,()))))]) (0,(0,(0,(0,())))) (dD (bM l))).2.2.2.1,()))))=l++[(k,a,t,u,())]:=by
 simp_all [dD,bP,iw,bT,dK]
omit hF in
theorem uN (l:List Nd) (x:Nd) (hl:l.length<1000000000):dY (bT l [x]) 32=true/\fV (bT l [x]) (bM l)=true/\mi (dD (bM l)) (bT l [x])=true:=
 ⟨aCb (by grind [bT]),eu (by rw[bP];omega) (by grind [bP,bT]),lT (by unfold bT;simp[dD,bP])⟩
omit hF in
theorem Zi (a:Nat) (l:List Nd) (u d k:Int) (i:a<100000000) (hl:l.length<1000000000):SI F (a:Int) l u d k=a6 ((F,(((a+1:Nat):Int),(l++[(k,(a:Int),((a+1:Nat):Int),u,())],(u,(d,()))))),()):=by
 obtain⟨e,f,g⟩:=uN l (k,((a:Int),(0,(u,())))) hl;rw[SI];simp only[fJ,ay,aa,e,f,g,aeM]
 grind [dI]
omit hF in
theorem Ac (a:Nat) (l:List Nd) (u d:Int) (hl:l.length<1000000000):zQ F (a:Int) l u d=a6 ((F,((a:Int),(l++[(18,(a:Int),(a:Int),u,())],(u,(d,()))))),()):=by
 obtain⟨e,f,g⟩:=uN l (18,((a:Int),(0,(u,())))) hl;rw[zQ];simp only[fJ,ay,aa,e,f,g,aeM]
def QU (F:List Lf) (a:Nat) (o:bZ):Nat:=tk F a o
def wnL (F:List Lf) (a:Nat) (o:bZ) (l:List Nd) (u:Int):List Nd:=if gK F a o=true then l else l++[(18,(a:Int),(a:Int),u,())]
theorem aHo (a:Nat) (l:List Nd) (u d:Int) (e:a<100000000) (hl:l.length<1000000000) (o:bZ) (f:o.contains 0=false):wJ F (a:Int) l u d o=a6 ((F,(((QU F a o:Nat):Int),(wnL F a o l u,(u,(d,()))))),()):=by
 rw[wJ,nK hF a l u d e o f,bI];unfold QU wnL tk;cases h:gK F a o with
 |true=>rfl
 |false=>
  simp_all [Ac,bI]
def isW (F:List Lf) (a:Nat):Bool:=if h:a<F.length then decide (F[a].1=6)else false
omit hF in
theorem atL {a:Nat} (h:isW F a=true):a<F.length:=by
 grind [isW]
omit hF in
theorem JR (a:Nat) (l:List Nd) (u d:Int):Oo F (a:Int) l u d=a6 ((F,((a:Int),(l,(u,(d,()))))),(isW F a,())):=by
 rw[Oo];unfold isW;by_cases h:a<F.length
 .simp_all [fO,bP,eu,Tv,gZ]
 simp_all [iE,bP,dif_neg]
def wdA (F:List Lf) (a:Nat):Nat:=if isW F a=true then a+1 else a
def wdL (F:List Lf) (a:Nat) (l:List Nd) (u:Int):List Nd:=if isW F a=true then l++[(7,(a:Int),((a+1:Nat):Int),u,())]else l++[(18,(a:Int),(a:Int),u,())]
omit hF in
theorem ayi (a:Nat) (l:List Nd) (u d:Int) (e:a<100000000) (hl:l.length<1000000000):Om F (a:Int) l u d=a6 ((F,(((wdA F a:Nat):Int),(wdL F a l u,(u,(d,()))))),()):=by
 rw[Om,JR a l u d,bI];unfold wdA wdL;cases h:isW F a with
 |true=>
  simp_all [Zi,bI]
 |false=>
  simp_all [Ac,bI]
def IV (F:List Lf) (a:Nat):Bool:=gK F a [60]||gK F a [35]&&decide (ND F (a+1)=60)
def LM (F:List Lf) (a:Nat) (d:Int):Bool:=decide (d<200)&&gK F a [123,40,105,119,114,99]
def ada (F:List Lf) (a:Nat) (d:Int):Bool:=gK F a [120]||(IV F a||LM F a d)
def xm (F:List Lf) (a:Nat) (d:Int):Bool:=gK F a [33]||ada F a d
omit hF in
theorem afw (a:Nat) (c:UInt8) (d:c≠0):bV ((ND F a).toNat:Int) (c.toNat:Int)=gK F a [c]:=by
 unfold gK;rw[gZ];by_cases h:a<F.length
 .rw[decide_eq_true h,aK,Bool.eq_iff_iff,decide_eq_true_eq];simp only[List.contains_cons,List.contains_nil,Bool.or_false,beq_iff_eq]
  grind [UInt8.toNat_inj]
 .rw[decide_eq_false h,Bool.false_and,Gi];refine decide_eq_false fun e=>d (UInt8.toNat_inj.1 ?_);omega
theorem EF (a:Nat) (l:List Nd) (u d:Int) (f:a<10000000):adC F (a:Int) l u d=a6 ((F,((a:Int),(l,(u,(d,()))))),(IV F a,())):=by
 rw[adC,KY hF a l u d (by omega),bI];simp only;rw[show bV ((ND F a).toNat:Int) 60=gK F a [60] from afw a 60 (by decide),show bV ((ND F a).toNat:Int) 35=gK F a [35] from afw a 35 (by decide)];unfold IV;cases gK F a [60]with
 |true=>rfl
 |false=>
  cases gK F a [35]with
  |false=>rfl
  |true=>
   simp only[aa,ac,Bool.false_or,aK];rw[amu hF a l u d (by omega),bI];simp only[gZ];congr 3;rw[decide_eq_decide];constructor
   .intro e;exact UInt8.toNat_inj.1 (by grind)
   simp_all
theorem DF (a:Nat) (l:List Nd) (u d:Int) (e:a<10000000):WG F (a:Int) l u d=a6 ((F,((a:Int),(l,(u,(d,()))))),(LM F a d,())):=by
 rw[WG];unfold LM;by_cases h:d<200
 .rw[cO (fO h),ai3 hF a l u d (by omega) _ rfl,bI,decide_eq_true h,aK]
 simp_all [iE,decide_eq_false]
theorem RG (a:Nat) (l:List Nd) (u d:Int) (e:a<10000000):adq F (a:Int) l u d=a6 ((F,((a:Int),(l,(u,(d,()))))),(ada F a d,())):=by
 rw[adq,KY hF a l u d (by omega),bI];simp only;rw[show bV ((ND F a).toNat:Int) 120=gK F a [120] from afw a 120 (by decide)];unfold ada;cases gK F a [120]with
 |true=>rfl
 |false=>
  simp only[ac,Bool.false_or];rw[EF hF a l u d e,bI];simp only;cases IV F a with
  |true=>rfl
  |false=>
   simp_all [DF,bI]
theorem CJ (a:Nat) (l:List Nd) (u d:Int) (e:a<10000000):Vw F (a:Int) l u d=a6 ((F,((a:Int),(l,(u,(d,()))))),(xm F a d,())):=by
 rw[Vw,KY hF a l u d (by omega),bI];simp only;rw[show bV ((ND F a).toNat:Int) 33=gK F a [33] from afw a 33 (by decide)];unfold xm;cases gK F a [33]with
 |true=>rfl
 |false=>
  simp_all [RG,bI]
end
section
open Option renaming some → a6, none → a7
open Bool renaming false_eq_true → ag, and_true → ay, true_and → aK
open List renaming drop_eq_getElem_cons → aA, drop_of_length_le → aO, drop_zero → aS
open Go.RowKit
theorem adX (c:UInt8) (o:bZ) (d:o.length<1000000): ∀(N k:Nat),o.length-k<N->k<=o.length->
  BQ N (c.toNat:Int) o (k:Int)=a6 (if(o.drop k).contains c=true then .inr ((true,()),())else .inl ((),()))
 |0,k,h,_=>by omega
 |N+1,k,h,hk=>by
  rw[BQ,UT];by_cases e:k<o.length
  .rw[cO (fO (by rw[bP];omega)),cO (eu),byte_at e,aA e];by_cases h1:o[k]=c
   .simp_all [gq]
   .rw[dN (dZ fun h=>h1 (UInt8.toNat_inj.1 (by omega))),dI,show(k:Int)+1=((k+1:Nat):Int) by omega,adX c o d N (k+1) (by omega) (by omega)]
    grind
  simp_all [iE,bP,aO]
theorem aLB (c:UInt8) (o:bZ) (d:o.length<1000000):GN (c.toNat:Int) o=a6 (o.contains c,()):=by
 have h:=adX c o d bQ 0 (dX) (by omega);rw[GN,show BQ bQ (c.toNat:Int) o 0=_ from h,bI,aS];cases o.contains c with
 |true=>rfl
 |false=>rfl
abbrev oG (F:List Lf):bZ:=F.map sgn
variable {F:List Lf} (hF:OkF F)
include hF
omit hF in
theorem awu {a:Nat} (h:a<F.length):bY (oG F) (a:Int)=((ND F a).toNat:Int):=by
 simp_all [byte_at,ab4]
omit hF in
theorem qo (a:Nat) (l:List Nd) (u d:Int) (o:bZ) (e:o.length<1000000):qg F (oG F) l (a:Int) u d o=a6 ((F,(oG F,(l,((a:Int),(u,(d,())))))),(gK F a o,())):=by
 rw[qg];unfold gK;by_cases h:a<F.length
 .rw[cO (fO (by simp_all [bP])),cO (eu (by omega) (by simp_all)),awu h,aLB _ o e,bI,decide_eq_true h,aK]
 simp_all [iE,bP,decide_eq_false]
theorem JV (l:List Nd) (u d:Int): ∀(N a:Nat) (v:Int),F.length+1-a<N->a<=F.length->0<=v->v<=a->
  ∃e:Int,TL N v F (oG F) (a:Int) u d l=a6 (.inl ((e,()),((),()),((F,oG F,((ln F a:Nat):Int),u,d,()),l,())))/\e=v+((ln F a:Nat):Int)-a
 |0,a,v,h,_,_,_=>by omega
 |N+1,a,v,h,f,g,i=>by
  have:=hF.len;rw[TL,acz,qo a l u d [110] (by simp),bI,JW];simp only;cases h':gK F a [110]with
  |false=>simp
  |true=>
   simp only[aa,if_true];rw[dI,dI,show(a:Int)+1=((a+1:Nat):Int) by omega];obtain⟨e,j,o⟩:=JV l u d N (a+1) (v+1) (by omega) (jT h') (by omega) (by omega)
   grind
omit hF in
theorem aJJ (a:Nat):gK F a [110]=decide (a<ln F a):=by
 rw[JW];cases h:gK F a [110]with
 |false=>simp
 |true=>
  have:=OB (F:=F) (a+1)
  grind
theorem BJ (a:Nat) (l:List Nd) (u d:Int) (e:a<=F.length):Bv F (oG F) l (a:Int) u d=a6 ((F,(oG F,(l,(((ln F a:Nat):Int),(u,(d,())))))),(((ln F a:Nat):Int)-a,())):=by
 have:=hF.len;rw[Bv];obtain⟨f,g,i⟩:=JV hF l u d bQ a 0 (dX) e (by omega) (by omega);simp_all [bI,dW]
def ql (k:Int):Bool:=decide (9<=k)&&decide (k<=14)||decide (k=16)
omit hF in
theorem akX {k:Int} (d:1<=k) (h2:k<=18):atl k=a6 (ql k,()):=by
 have: ∀n:Fin 19,n.val≠0->atl ((n.val:Nat):Int)=a6 (ql ((n.val:Nat):Int),()):=by decide+kernel
 have:=this ⟨k.toNat,by omega⟩ (by simp only;omega)
 grind
omit hF in
theorem AX (a:Nat) (l:List Nd) (u d:Int) {k:Int} (e:1<=k) (h2:k<=18) (hl:l.length<1000000000) (hd:0<=d) (i:d<1000000000):
  GM F (oG F) l (a:Int) u d k=a6 ((F,(oG F,(l++[(k,(a:Int),0,u,())],((a:Int),(((l.length:Nat):Int),((if ql k=true then d+1 else d),())))))),(u,())):=by
 have f:dY (bT l [(k,((a:Int),(0,(u,()))))]) 32=true:=aCb (by grind [bT]);have g:eU .i64 (bM (bT l [(k,((a:Int),(0,(u,()))))])) 1=((l.length:Nat):Int):=by
  grind [bT,bP,iW]
 rw[GM];simp only[fJ,ay,aa,f,akX e h2,bI,g];cases ql k with
 |true=>
  simp only[aa,if_true];rw[dI];rfl
 |false=>rfl
def agm (l:List Nd) (i:Nat) (t:Int):List Nd:=iw l i ((dK l dNd i).1,(dK l dNd i).2.1,t,(dK l dNd i).2.2.2.1,())
omit hF in
theorem aIE (l:List Nd) (i:Nat) (t:Int):(agm l i t).length=l.length:=ve
omit hF in
theorem RQ (a:Nat) (l:List Nd) (u d:Int) (i:Nat) (hi:i<l.length) {k:Int} (hk:(dK l dNd i).1=k) (f:1<=k) (h2:k<=18) (hd:0<=d) (p:d<1000000000):
  wK F (oG F) l (a:Int) ((i:Nat):Int) d u=a6 ((F,(oG F,(agm l i (a:Int),((a:Int),(u,((if ql k=true then d-1 else d),())))))),()):=by
 have g:dD ((i:Nat):Int)=i:=by simp[dD]
 have j: ∀x,fV (iw l i x) ((i:Nat):Int)=true:=fun x=>eu (by omega) (by rw[ve];omega);have o: ∀x,mi i (iw l i x)=true:=fun x=>lT (by rw[ve];exact hi);have iU: ∀x,dK (iw l i x) (0,(0,(0,(0,())))) i=x:=fun x=>F7 hi
 (rewrite [wK];delta L8;rw[cO (eu),g,cO (lT hi)])
 simp only[j,o,iU,aa];have e:(dK l (0,(0,(0,(0,())))) i).1=k:=hk;rw[e,akX f h2,bI];simp only;unfold agm;rw[show dNd=(0,(0,(0,(0,())))) from rfl,e];cases ql k with
 |true=>
  simp only[aa,if_true]
  grind [iW]
 |false=>rfl
omit hF in
theorem TZ (l:List Nd) (x:Nd):dK (l++[x]) dNd l.length=x:=by
 simp_all [dK]
omit hF in
theorem Wq (l:List Nd) (k a u t:Int):agm (l++[(k,a,0,u,())]) l.length t=l++[(k,a,t,u,())]:=by
 grind [agm,TZ,iw]
omit hF in
theorem MV (a:Nat) (l:List Nd) (u d:Int) (hl:l.length<1000000000) (hd:0<=d) (e:d<1000000000):
  uw F (oG F) l (a:Int) u d=a6 ((F,(oG F,(l++[(18,(a:Int),(a:Int),u,())],((a:Int),(u,(d,())))))),()):=by
 rw[uw,AX a l u d (by omega) (by omega) hl hd e,bI];simp only;rw[show ql 18=false from rfl,aq (by simp),RQ a _ u d l.length (by simp) (by rw[TZ]) (by omega) (by omega) hd e,bI];simp only[Wq,show ql 18=false from rfl,ag,if_false]
omit hF in
theorem ak0 (a:Nat) (l:List Nd) (u d:Int) {k:Int} (e:1<=k) (h2:k<=18) (g:ql k=false) (i:a<100000000) (hl:l.length<1000000000) (hd:0<=d) (f:d<1000000000):
  L6 F (oG F) l (a:Int) u d k=a6 ((F,(oG F,(l++[(k,(a:Int),((a+1:Nat):Int),u,())],(((a+1:Nat):Int),(u,(d,())))))),()):=by
 rw[L6,AX a l u d e h2 hl hd f,bI];simp only;rw[g,aq (by simp),dI,show(a:Int)+1=((a+1:Nat):Int) by omega,RQ (a+1) _ u d l.length (by simp) (by rw[TZ]) e h2 hd f,bI];simp_all [Wq]
omit hF in
theorem aHp (a:Nat) (l:List Nd) (u d:Int) (f:a<100000000) (hl:l.length<1000000000) (hd:0<=d) (g:d<1000000000) (o:bZ) (e:o.length<1000000):
  uy F (oG F) l (a:Int) u d o=a6 ((F,(oG F,(wnL F a o l u,(((QU F a o:Nat):Int),(u,(d,())))))),()):=by
 rw[uy,qo a l u d o e,bI];unfold QU wnL tk;cases h:gK F a o with
 |true=>
  simp only[aa,if_true]
  grind [dI]
 |false=>
  simp_all [MV,bI]
omit hF in
theorem aHu (a:Nat) (l:List Nd) (u d:Int) (e:a<100000000) (hl:l.length<1000000000) (hd:0<=d) (f:d<1000000000):
  Di F (oG F) l (a:Int) u d=a6 ((F,(oG F,(wdL F a l u,(((wdA F a:Nat):Int),(u,(d,())))))),()):=by
 rw[Di];unfold wdL wdA isW;by_cases h:a<F.length
 .rw[cO (fO (by rw[bP];omega)),cO (eu),Tv h];simp only[dif_pos h,decide_eq_true_eq];by_cases h6:F[a].1=6
  .rw[cO (gq h6),ak0 a l u d (by omega) (by omega) rfl e hl hd f,bI,am h6,am h6]
  simp_all [dZ,MV,bI]
 simp_all [iE,bP,MV,bI,dif_neg]
omit hF in
theorem GZ (a:Nat) (l:List Nd) (u d:Int) (f:a<10000000):WF F (oG F) l (a:Int) u d=a6 ((F,(oG F,(l,((a:Int),(u,(d,())))))),(IV F a,())):=by
 rw[WF,qo a l u d [60] (by simp),bI];unfold IV;simp only;cases gK F a [60]with
 |true=>rfl
 |false=>
  simp only[ac,Bool.false_or];rw[qo a l u d [35] (by simp),bI];simp only;cases gK F a [35]with
  |false=>rfl
  |true=>
   simp only[aa,aK];rw[dI,show(a:Int)+1=((a+1:Nat):Int) by omega];by_cases h:a+1<F.length
   .rw[cO (fO (by grind [bP])),cO (eu (by omega) (by grind)),awu h];simp only[gZ];congr 3;rw[decide_eq_decide];constructor
    .intro e;exact UInt8.toNat_inj.1 (by grind)
    simp_all
   .rw[dN (iE (by grind [bP])),Gi];rfl
omit hF in
theorem QW (a:Nat) (l:List Nd) (u d:Int):Sv F (oG F) l (a:Int) u d=a6 ((F,(oG F,(l,((a:Int),(u,(d,())))))),(LM F a d,())):=by
 rw[Sv,qo a l u d _ (by simp),bI]
 grind [LM,gY]
omit hF in
theorem amZ (a:Nat) (l:List Nd) (u d:Int) (e:a<10000000):atm F (oG F) l (a:Int) u d=a6 ((F,(oG F,(l,((a:Int),(u,(d,())))))),(ada F a d,())):=by
 rw[atm,qo a l u d [120] (by simp),bI];unfold ada;simp only;cases gK F a [120]with
 |true=>rfl
 |false=>
  simp only[ac,Bool.false_or];rw[GZ a l u d e,bI];simp only;cases IV F a with
  |true=>rfl
  |false=>
   simp_all [QW,bI]
omit hF in
theorem QY (a:Nat) (l:List Nd) (u d:Int) (e:a<10000000):YW F (oG F) l (a:Int) u d=a6 ((F,(oG F,(l,((a:Int),(u,(d,())))))),(xm F a d,())):=by
 rw[YW,qo a l u d [33] (by simp),bI];unfold xm;simp only;cases gK F a [33]with
 |true=>rfl
 |false=>
  simp_all [amZ,bI]
end
section
open Option renaming some → a6, none → a7
open List renaming append_assoc → ai, cons_append → aH
open Nat renaming le_refl → ae
open Go.RowKit
abbrev opn (k:Int) (a:Nat) (u:Int):Nd:=(k,((a:Int),(0,(u,()))))
abbrev PR (F:List Lf) (a:Nat) (l:List Nd) (u d:Int):List Lf×Int×List Nd×Int×Int×Unit:=(F,((a:Int),(l,(u,(d,())))))
abbrev RR (F:List Lf) (a:Nat) (l:List Nd) (u d:Int):List Lf×List UInt8×List Nd×Int×Int×Int×Unit:=(F,(oG F,(l,((a:Int),(u,(d,()))))))
theorem xC (l m:List Nd) (k a u t:Int):iw (bT l [(k,(a,(0,(u,()))))]++m) (dD (bM l)) ((dK (bT l [(k,(a,(0,(u,()))))]++m) (0,(0,(0,(0,())))) (dD (bM l))).1,((dK (bT l [(k,(a,(0,(u,()))))]++m) (0,(0,(0,(0,())))) (dD (bM l))).2.1,(t,((dK (bT l [(k,(a,(0,(u,()))))]++m) (0,(0,(0,(0,())))) (dD (bM l))).2.2.2.1,()))))=l++(k,a,t,u,())::m:=by
 have d:dD (bM l)=l.length:=by simp[dD,bP]
 simp_all [dK,bT,iw]
theorem Ec (l m:List Nd) (x:Nd):fV (bT l [x]++m) (bM l)=true/\mi (dD (bM l)) (bT l [x]++m)=true:=
 ⟨eu (by rw[bP];omega) (by grind [bP,bT]),lT (by unfold bT;simp[dD,bP])⟩
theorem Jr (l m:List Nd) (k a u t:Int):agm ((l++[(k,a,0,u,())])++m) l.length t=l++(k,a,t,u,())::m:=by
 unfold agm;simp_all [dK,iw]
theorem Kv (l m:List Nd) (k a u:Int):(dK ((l++[(k,a,0,u,())])++m) dNd l.length).1=k:=by
 simp_all [dK]
def LfG (F:List Lf) (d:Int) (f:Nat):Prop:=d=6\/d=7-> ∃h:f<F.length,F[f].1=6
def RdG (F:List Lf) (f t:Nat) (m:List Nd):Prop:= ∃p,(p=f\/p=f+1/\gK F f [35]=true)/\gK F p [60]=true/\((t=p+2/\ ∃u,m=[(7,((p+1:Nat):Int),((p+2:Nat):Int),u,())])\/(t=p+1/\ ∃u,m=[(18,((p+1:Nat):Int),((p+1:Nat):Int),u,())]))
inductive Tr (F:List Lf):Nat->Nat->Int->Nat->List Nd->Prop
 |nil {a b:Nat} {u:Int} {k:Nat} (h:a<=b):Tr F a b u k []
 |leaf {a b f t:Nat} {u:Int} {k:Nat} {kd:Int} {m:List Nd} (h1:a<=f) (hk:kd=18/\t=f\/(kd=6\/kd=7\/kd=17)/\t=f+1) (hf:LfG F kd f) (h2:Tr F t b u (k+1) m):Tr F a b u k ((kd,(f:Int),(t:Int),u,())::m)
 |node {a b f t:Nat} {u:Int} {k:Nat} {kd:Int} {m n:List Nd} (h1:a<=f) (hk:2<=kd/\kd<=16/\kd≠6/\kd≠7) (h8:kd=8->RdG F f t m) (h:Tr F f t (k:Int) (k+1) m) (h2:Tr F t b u (k+1+m.length) n):Tr F a b u k ((kd,(f:Int),(t:Int),u,())::(m++n))
section
variable {F:List Lf}
theorem Tr.le {a b:Nat} {u:Int} {k:Nat} {m:List Nd} (h:Tr F a b u k m):a<=b:=by
 induction h with
 |nil h=>exact h
 |leaf h1 hk _ _ d=>omega
 |node h1 _ _ _ _ ih1 e=>omega
theorem Tr.wide {a b:Nat} {u:Int} {k:Nat} {m:List Nd} (h:Tr F a b u k m): ∀{e f:Nat},e<=a->b<=f->Tr F e f u k m:=by
 induction h with
 |nil h=>exact fun g o=>.nil (by omega)
 |leaf g hk hf _ i=>exact fun j d=>.leaf (by omega) hk hf (i (ae _) d)
 |node g hk h8 h _ _ l=>exact fun j d=>.node (by omega) hk h8 h (l (ae _) d)
theorem Tr.app {a b:Nat} {u:Int} {k:Nat} {m:List Nd} (h:Tr F a b u k m): ∀{c e j:Nat} {n:List Nd},Tr F c e u j n->b<=c->j=k+m.length->Tr F a e u k (m++n):=by
 induction h with
 |nil h=>exact fun d q g=>by subst g;exact d.wide (by omega) (ae _)
 |leaf d hk hf _ l=>exact fun g i o=>.leaf d hk hf (l g i (by grind))
 | @node a b f t u k kd m n' d hk h8 h _ _ p=>
  intro c e j n g i o;rw[aH,ai];exact .node d hk h8 h (p g i (by grind))
theorem Tr.ap {a b c e:Nat} {u:Int} {k j:Nat} {m n:List Nd} (h:Tr F a b u k m) (h2:Tr F c e u j n) (d:b<=c:=by omega) (f:j=k+m.length:=by first|omega|grind):Tr F a e u k (m++n):=h.app h2 d f
theorem Tr.apA {a b c e:Nat} {u:Int} {k:Nat} {m n:List Nd} (h:Tr F a b u k m) (h2: ∀j,Tr F c e u j n) (d:b<=c:=by omega):Tr F a e u k (m++n):=h.app (h2 _) d rfl
theorem Tr.one {a b f t:Nat} {u:Int} {k j:Nat} {d:Int} {m:List Nd} (h:Tr F f t (j:Int) (j+1) m) (e:a<=f) (h2:t<=b) (hk:2<=d/\d<=16/\d≠6/\d≠7) (g:j=k) (i:d=8->RdG F f t m:=by intro h;exfalso;omega):Tr F a b u k ((d,(f:Int),(t:Int),u,())::m):=by
 subst g;have:=Tr.node (n:=[]) (u:=u) e hk i h (.nil h2);simp_all
theorem Tr.mis {a b f:Nat} {u:Int} {k:Nat} (d:a<=f) (h2:f<=b):Tr F a b u k [(18,(f:Int),(f:Int),u,())]:=.leaf d (.inl ⟨rfl,rfl⟩) (fun h=>by exfalso;omega) (.nil h2)
theorem Tr.lf {a b f:Nat} {u:Int} {k:Nat} {d:Int} (e:a<=f) (h2:f+1<=b) (hk:d=6\/d=7\/d=17) (hf:LfG F d f):Tr F a b u k [(d,(f:Int),((f+1:Nat):Int),u,())]:=.leaf e (.inr ⟨hk,rfl⟩) hf (.nil h2)
end
structure Pre (F:List Lf) (a:Nat) (l:List Nd) (d:Int) (K:Nat):Prop where
 len:a<=F.length
 nod:l.length<=16*a+K
 d0:0<=d
 d1:d<=200
structure All (F:List Lf) (n:Nat):Prop where
 list: ∀(a:Nat) (l:List Nd) (u d:Int) (r r':Nat),16*(F.length-a)+12<n->n<=r->n<=r'->Pre F a l d 110->xm F a d=true->
  ∃(a':Nat) (m:List Nd),(ik r).q71 F (a:Int) (bT l [opn 2 a u]) (bM l) d=a6 (PR F a' (bT l [opn 2 a u]++m) (bM l) d,())/\
   (jB r').q52 F (oG F) l (a:Int) u d=a6 (RR F a' (l++(2,(a:Int),(a':Int),u,())::m) u d,())/\a<a'/\a'<=F.length/\m.length+1<=16*(a'-a)/\Tr F a a' (bM l) (l.length+1) m
 andor: ∀(a:Nat) (l:List Nd) (u d:Int) (r r':Nat),16*(F.length-a)+11<n->n<=r->n<=r'->Pre F a l d 111->xm F a d=true->
  ∃(a':Nat) (m:List Nd),(ik r).q105 F (a:Int) (bT l [opn 3 a u]) (bM l) d=a6 (PR F a' (bT l [opn 3 a u]++m) (bM l) d,())/\
   (jB r').q88 F (oG F) l (a:Int) u d=a6 (RR F a' (l++(3,(a:Int),(a':Int),u,())::m) u d,())/\a<a'/\a'<=F.length/\m.length+2<=16*(a'-a)/\Tr F a a' (bM l) (l.length+1) m
 pipe: ∀(a:Nat) (l:List Nd) (u d:Int) (r r':Nat),16*(F.length-a)+10<n->n<=r->n<=r'->Pre F a l d 112->xm F a d=true->
  ∃(a':Nat) (m:List Nd),(ik r).q148 F (a:Int) l u d=a6 (PR F a' (l++m) u d,())/\
   (jB r').q121 F (oG F) l (a:Int) u d=a6 (RR F a' (l++m) u d,())/\a<a'/\a'<=F.length/\m.length+2<=16*(a'-a)/\Tr F a a' u l.length m
 nopipe: ∀(a:Nat) (l:List Nd) (u d:Int) (r:Nat),10<n->n<=r->Pre F a l d 130->xm F a d=false->
  (ik r).q148 F (a:Int) l u d=a6 (PR F a (l++[(18,(a:Int),(a:Int),u,())]) u d,())
 command: ∀(a:Nat) (l:List Nd) (u d:Int) (r r':Nat),16*(F.length-a)+9<n->n<=r->n<=r'->Pre F a l d 113->
  ∃(a':Nat) (m:List Nd),(ik r).q177 F (a:Int) l u d=a6 (PR F a' (l++m) u d,())/\
   (jB r').q155 F (oG F) l (a:Int) u d=a6 (RR F a' (l++m) u d,())/\a<=a'/\a'<=F.length/\(m.length<=16*(a'-a)+1/\Tr F a a' u l.length m)/\(ada F a d=true->a<a'/\m.length+3<=16*(a'-a))
 compound: ∀(a:Nat) (l:List Nd) (u d:Int) (r r':Nat),16*(F.length-a)+8<n->n<=r->n<=r'->Pre F a l d 113->LM F a d=true->
  ∃(a':Nat) (m:List Nd),(ik r).q219 F (a:Int) l u d=a6 (PR F a' (l++m) u d,())/\
   (jB r').q186 F (oG F) l (a:Int) u d=a6 (RR F a' (l++m) u d,())/\a<a'/\a'<=F.length/\m.length+3<=16*(a'-a)/\Tr F a a' u l.length m
 body: ∀(a:Nat) (l:List Nd) (u d:Int) (r r':Nat),16*(F.length-a)+13<n->n<=r->n<=r'->Pre F a l d 110->
  ∃(a':Nat) (m:List Nd),(ik r).q268 F (a:Int) l u d=a6 (PR F a' (l++m) u d,())/\
   (jB r').q230 F (oG F) l (a:Int) u d=a6 (RR F a' (l++m) u d,())/\a<=a'/\a'<=F.length/\m.length<=16*(a'-a)+1/\Tr F a a' u l.length m
variable {F:List Lf} (hF:OkF F)
include hF
theorem aHx {n:Nat} (h:All F n) (a:Nat) (l:List Nd) (u d:Int) (r f:Nat) (y:16*(F.length-a)+13<n+1) (hr:n+1<=r) (z:n+1<=f) (hp:Pre F a l d 110):
  ∃(e:Nat) (m:List Nd),(ik r).q268 F (a:Int) l u d=a6 (PR F e (l++m) u d,())/\
   (jB f).q230 F (oG F) l (a:Int) u d=a6 (RR F e (l++m) u d,())/\a<=e/\e<=F.length/\m.length<=16*(e-a)+1/\Tr F a e u l.length m:=by
 obtain⟨i,A,p,s⟩:=hp;have B:=hF.len;obtain⟨q,rfl⟩: ∃q,r=q+1:=⟨r-1,by omega⟩;obtain⟨g,rfl⟩: ∃g,f=g+1:=⟨f-1,by omega⟩;have j:=OB (F:=F) a;have o:=TB (F:=F) i;show ∃(e:Nat) (m:List Nd),as5 (ik q) F (a:Int) l u d=_/\as4 (jB g) F (oG F) l (a:Int) u d=_/\_;rw[as5,as4,BI hF a l u d i,BJ hF a l u d i,bI,bI];simp only;rw[CJ hF (ln F a) l u d (by omega),QY (ln F a) l u d (by omega),bI,bI];simp only;cases hb:xm F (ln F a) d with
 |true=>
  obtain⟨D,E,G⟩:=uN l (opn 2 (ln F a) u) (by omega);obtain⟨e,m,I,J,K,v,x⟩:=h.list (ln F a) l u d q g (by omega) (by omega) (by omega) ⟨o,by omega,p,s⟩ hb;obtain⟨L,M⟩:=Ec l m (opn 2 (ln F a) u);refine⟨e,(2,((ln F a:Nat):Int),(e:Int),u,())::m, ?_, ?_,by omega,v,by grind,x.2.one j (ae _) (by omega) rfl⟩
  .simp_all [fJ,bI,xC]
  simp_all [bI]
 |false=>
  refine⟨ln F a,[(18,((ln F a:Nat):Int),((ln F a:Nat):Int),u,())], ?_, ?_,j,o,by simp,.mis j (ae _)⟩
  .simp only[ac]
   grind [Ac,bI]
  .simp only[ac]
   grind [MV,bI]
end
section
open Bool renaming false_eq_true → ag
open List renaming append_assoc → ai, length_append → aj, length_singleton → bC
open Nat renaming le_refl → ae
open Go.RowKit
variable {F:List Lf} (hF:OkF F)
include hF
omit hF in
theorem EZ {a:Nat} {o:List UInt8} (h:gK F a o=true):tk F a o=a+1:=by unfold tk;rw[am h]
omit hF in
theorem EY {a:Nat} {o:List UInt8} (h:gK F a o=false):tk F a o=a:=by unfold tk;rw[aq (by rw[h];simp)]
theorem Ic {n:Nat} (h:All F n) {q q':Nat} (f:n<=q) (g:n<=q') (u d v:Int) (hd:0<=d/\d<=200): ∀(N a:Nat) (L:List Nd),F.length-a<N->a<=F.length->16*(F.length-a)+10<n->L.length<=16*a+112->
  ∃(e:Nat) (m:List Nd),BK (ik q) N F (a:Int) u d L=some (.inl ((),((),()),((F,(e:Int),u,d,()),L++m,())))/\
   TJ (jB q') N v F (oG F) (a:Int) u d L=some (.inl ((v,()),((),()),((F,oG F,(e:Int),u,d,()),L++m,())))/\a<=e/\e<=F.length/\m.length<=16*(e-a)/\Tr F a e u L.length m
 |0,a,L,x,_,_,_=>by omega
 |N+1,a,L,x,y,I,J=>by
  have K:=hF.len;rw[BK,La,TJ,acy,nK hF a L u d (by omega) [97,111] rfl,qo a L u d [97,111] (by simp),bI,bI];simp only;cases hb:gK F a [97,111]with
  |false=>
   rw[EY hb];exact⟨a,[],by simp,by simp,ae _,y,by simp,.nil (ae _)⟩
  |true=>
   have M:=jT hb;have O:=OB (F:=F) (a+1);have i:=TB (F:=F) (a:=a+1) (by omega);rw[EZ hb];simp only[aa];rw[dI,show(a:Int)+1=((a+1:Nat):Int) by omega,BI hF (a+1) L u d (by omega),BJ hF (a+1) L u d (by omega),bI,bI];simp only;rw[QY (ln F (a+1)) L u d (by omega),bI];simp only;cases hp:xm F (ln F (a+1)) d with
   |true=>
    obtain⟨z,s,A,B,S,D,E⟩:=h.pipe (ln F (a+1)) L u d q q' (by omega) f g ⟨i,by omega,hd.1,hd.2⟩ hp;rw[A,bI];simp only[aa];rw[B,bI];simp only;obtain⟨e,m,j,l,G,o,p⟩:=Ic h f g u d v hd N z (L++s) (by omega) D (by omega) (by rw[aj];omega);exact⟨e,s++m,by rw[j,ai],by rw[l,ai],by omega,o,by rw[aj];omega,(E.2.wide (by omega) (ae _)).app p.2 (ae _) (aj ..)⟩
   |false=>
    rw[h.nopipe (ln F (a+1)) L u d q (by omega) f ⟨i,by omega,hd.1,hd.2⟩ hp,bI];simp only[ac];rw[MV (ln F (a+1)) L u d (by omega) hd.1 (by omega),bI];simp only;obtain⟨e,m,j,l,G,o,p⟩:=Ic h f g u d v hd N (ln F (a+1)) (L++[(18,((ln F (a+1):Nat):Int),((ln F (a+1):Nat):Int),u,())]) (by omega) i (by omega) (by rw[aj,bC];omega);exact⟨e,[(18,((ln F (a+1):Nat):Int),((ln F (a+1):Nat):Int),u,())]++m,by rw[j,ai],by rw[l,ai],by omega,o,by rw[aj,bC];omega,(Tr.mis (by omega) (ae _)).app p.2 (ae _) (aj ..)⟩
theorem aDx {n:Nat} (h:All F n) (a:Nat) (l:List Nd) (u d:Int) (r g:Nat) (J:16*(F.length-a)+11<n+1) (hr:n+1<=r) (K:n+1<=g) (hp:Pre F a l d 111) (hb:xm F a d=true):
  ∃(e:Nat) (m:List Nd),(ik r).q105 F (a:Int) (bT l [opn 3 a u]) (bM l) d=some (PR F e (bT l [opn 3 a u]++m) (bM l) d,())/\
   (jB g).q88 F (oG F) l (a:Int) u d=some (RR F e (l++(3,(a:Int),(e:Int),u,())::m) u d,())/\a<e/\e<=F.length/\m.length+2<=16*(e-a)/\Tr F a e (bM l) (l.length+1) m:=by
 obtain⟨x,L,i,o⟩:=hp;have M:=hF.len;obtain⟨q,rfl⟩: ∃q,r=q+1:=⟨r-1,by omega⟩;obtain⟨f,rfl⟩: ∃f,g=f+1:=⟨g-1,by omega⟩;show ∃(e:Nat) (m:List Nd),adn (ik q) F (a:Int) _ _ d=_/\aD9 (jB f) F (oG F) l (a:Int) u d=_/\_;have j:(bT l [opn 3 a u]).length=l.length+1:=by unfold bT;simp
 obtain⟨y,p,z,s,N,A,B⟩:=h.pipe a (bT l [opn 3 a u]) (bM l) d q f (by omega) (by omega) (by omega) ⟨x,by rw[j];omega,i,o⟩ hb;obtain⟨e,m,D,v,O,E,G⟩:=Ic hF h (q:=q) (q':=f) (by omega) (by omega) (bM l) d u ⟨i,o⟩ bQ y (bT l [opn 3 a u]++p) (dX) A (by omega) (by rw[aj,j];omega);have I:bT l [opn 3 a u]=l++[(3,(a:Int),0,u,())]:=rfl;refine⟨e,p++m, ?_, ?_,by omega,E,by rw[aj];omega,(j▸B.2).app G.2 (ae _) (by rw[aj,j])⟩
 .rw[adn,z,bI];simp only;rw[D,bI];simp only[dW,ai]
 .rw[aD9,AX a l u d (by omega) (by omega) (by omega) i (by omega),bI];simp only[show ql 3=false from rfl,ag,if_false];rw[I]at s v;rw[show((l.length:Nat):Int)=bM l from rfl,s,bI];simp only;rw[v,bI];simp only[dW];rw[ai (l++_),show bM l=((l.length:Nat):Int) from rfl,RQ e _ u d l.length (by simp only[aj,bC];omega) (Kv l _ 3 _ _) (by omega) (by omega) i (by omega),bI];simp only[Jr,show ql 3=false from rfl,ag,if_false]
end
section
open Option renaming some → a6, none → a7
open Bool renaming false_eq_true → ag, not_true → ax, and_true → ay, not_false → az
open List renaming append_assoc → ai, length_append → aj
open Nat renaming le_refl → ae
open Go.RowKit
variable {F:List Lf} (hF:OkF F)
include hF
theorem Xp {n:Nat} (h:All F n) {q q':Nat} (i:n<=q) (j:n<=q') (u d v f g:Int) (hd:0<=d/\d<=200): ∀(N a:Nat) (L:List Nd),F.length-a<N->a<=F.length->16*(F.length-a)+9<n+16->L.length<=16*a+114->
  ∃(e:Nat) (m:List Nd),nH (ik q) N f g F (a:Int) u d L=a6 (.inl ((),((f,g,()),(),(),()),((),(F,(e:Int),u,d,()),L++m,())))/\
   BL (jB q') N v F (oG F) (a:Int) u d L=a6 (.inl ((v,()),((),()),((F,oG F,(e:Int),u,d,()),L++m,())))/\a<=e/\e<=F.length/\m.length<=16*(e-a)/\Tr F a e u L.length m
 |0,a,L,o,_,_,_=>by omega
 |N+1,a,L,o,p,G,I=>by
  have J:=hF.len;rw[nH,uh,BL,Qy,nK hF a L u d (by omega) [124] rfl,qo a L u d [124] (by simp),bI,bI];simp only;cases hb:gK F a [124]with
  |false=>
   rw[EY hb];exact⟨a,[],by simp,by simp,ae _,p,by simp,.nil (ae _)⟩
  |true=>
   have K:=jT hb;have M:=OB (F:=F) (a+1);have s:=TB (F:=F) (a:=a+1) (by omega);rw[EZ hb];simp only[aa];rw[dI,show(a:Int)+1=((a+1:Nat):Int) by omega,BI hF (a+1) L u d (by omega),BJ hF (a+1) L u d (by omega),bI,bI];simp only;obtain⟨x,l,y,z,O,A,B,_⟩:=h.command (ln F (a+1)) L u d q q' (by omega) i j ⟨s,by omega,hd.1,hd.2⟩;rw[y,z,bI,bI];simp only;obtain⟨e,m,S,U,V,D,E⟩:=Xp h i j u d v f g hd N x (L++l) (by omega) A (by omega) (by grind);exact⟨e,l++m,by simp_all,by simp_all,by omega,D,by grind,(B.2.wide (by omega) (ae _)).app E.2 (ae _) (aj ..)⟩
theorem aCz {n:Nat} (a:Nat) (l:List Nd) (u d:Int) (r:Nat) (hr:n+1<=r) (hp:Pre F a l d 130) (hb:xm F a d=false):
  (ik r).q148 F (a:Int) l u d=a6 (PR F a (l++[(18,(a:Int),(a:Int),u,())]) u d,()):=by
 obtain⟨e,f,g,i⟩:=hp;have j:=hF.len;obtain⟨q,rfl⟩: ∃q,r=q+1:=⟨r-1,by omega⟩;show RZ (ik q) F (a:Int) l u d=_;rw[RZ,CJ hF a l u d (by omega),bI,hb];simp only[az,aa]
 grind [Ac,bI]
theorem aHF {n:Nat} (h:All F n) (a:Nat) (l:List Nd) (u d:Int) (r p:Nat) (V:16*(F.length-a)+10<n+1) (hr:n+1<=r) (W:n+1<=p) (hp:Pre F a l d 112) (hb:xm F a d=true):
  ∃(e:Nat) (m:List Nd),(ik r).q148 F (a:Int) l u d=a6 (PR F e (l++m) u d,())/\
   (jB p).q121 F (oG F) l (a:Int) u d=a6 (RR F e (l++m) u d,())/\a<e/\e<=F.length/\m.length+2<=16*(e-a)/\Tr F a e u l.length m:=by
 obtain⟨X,Y,s,x⟩:=hp;have Z:=hF.len;obtain⟨q,rfl⟩: ∃q,r=q+1:=⟨r-1,by omega⟩;obtain⟨f,rfl⟩: ∃f,p=f+1:=⟨p-1,by omega⟩;have y:(bT l [opn 4 a u]).length=l.length+1:=by unfold bT;simp
 have D:bT l [opn 4 a u]=l++[(4,(a:Int),0,u,())]:=rfl;obtain⟨E,_,_⟩:=uN l (opn 4 a u) (by omega);have z:tk F a [33]<=F.length/\a<=tk F a [33]:=by
  unfold tk;split
  .rename_i G;exact⟨jT G,by omega⟩
  omega
 obtain⟨v,i,I,o,e3,J,K,e6⟩:=h.command (tk F a [33]) (bT l [opn 4 a u]) (bM l) d q f (by omega) (by omega) (by omega) ⟨z.1,by rw[y];omega,s,x⟩;have ab:a<v/\i.length+1+2<=16*(v-a):=by
  cases h33:gK F a [33]with
  |true=>grind [EZ]
  |false=>
   simp_all [EY,xm]
 obtain⟨e,m,L,A,f3,M,N⟩:=Xp hF h (q:=q) (q':=f) (by omega) (by omega) (bM l) d u (bM l) u ⟨s,x⟩ bQ v (bT l [opn 4 a u]++i) (dX) J (by omega) (by grind);obtain⟨O,S⟩:=Ec l (i++m) (opn 4 a u);refine⟨e,(4,(a:Int),(e:Int),u,())::(i++m), ?_, ?_,by omega,M,by grind,Tr.one (((y▸K.2).wide z.2 (ae _)).app N.2 (ae _) (by grind)) (ae _) (ae _) (by omega) rfl⟩
 .show RZ (ik q) F (a:Int) l u d=_;rw[RZ,CJ hF a l u d (by omega),bI,hb];simp only[ax,ac,fJ,ay,aa,E];rw[nK hF a _ _ d (by omega) [33] rfl,bI];simp only;rw[I,bI];simp only;rw[L,bI];simp only[dW,ai,O,S,aa,xC]
 .show as1 (jB f) F (oG F) l (a:Int) u d=_;rw[as1,AX a l u d (by omega) (by omega) (by omega) s (by omega),bI];simp only[show ql 4=false from rfl,ag,if_false];rw[qo a _ _ d [33] (by simp),bI];simp only;rw[D]at o A;have B:bJ (BL (jB f) bQ u F (oG F) (v:Int) (bM l) d (l++[(4,(a:Int),0,u,())]++i)) (fun U=>dW U (fun g=>
    bJ (wK g.2.2.1.1 g.2.2.1.2.1 g.2.2.2.1 g.2.2.1.2.2.1 g.2.2.1.2.2.2.1 g.2.2.1.2.2.2.2.1 g.1.1) fun j=>
     a6 ((j.1.1,(j.1.2.1,(j.1.2.2.1,(j.1.2.2.2.1,(j.1.2.2.2.2.1,(j.1.2.2.2.2.2.1,())))))),())) (fun b4=>a7))=a6 (RR F e (l++(4,(a:Int),(e:Int),u,())::(i++m)) u d,()):=by
   rw[A,bI];simp only[dW];rw[ai (l++_),show bM l=((l.length:Nat):Int) from rfl,RQ e _ u d l.length (by simp) (Kv l _ 4 _ _) (by omega) (by omega) s (by omega),bI];simp only[Jr,show ql 4=false from rfl,ag,if_false]
  cases h33:gK F a [33]with
  |true=>
   rw[EZ h33]at o;simp only[aa];rw[dI,show(a:Int)+1=((a+1:Nat):Int) by omega,show((l.length:Nat):Int)=bM l from rfl,o,bI];exact B
  |false=>
   rw[EY h33]at o;simp only[ac];rw[show((l.length:Nat):Int)=bM l from rfl,o,bI];exact B
theorem WX {n:Nat} (h:All F n) {q q':Nat} (D:n<=q) (E:n<=q') (u d v:Int) (hd:0<=d/\d<=200): ∀(N a:Nat) (L:List Nd),F.length-a<N->a<=F.length->16*(F.length-a)+11<n->L.length<=16*a+111->xm F a d=true->
  ∃(f e:Nat) (m g:List Nd),yM (ik q) N F (a:Int) u d L=a6 (.inl ((),((),()),((F,(f:Int),u,d,()),L++m,())))/\
   (jB q').q88 F (oG F) L (a:Int) u d=a6 (RR F e (L++g) u d,())/\
   yL (jB q') N v F (oG F) (e:Int) u d (L++g)=a6 (.inl ((v,()),((),()),((F,oG F,(f:Int),u,d,()),L++m,())))/\a<f/\f<=F.length/\m.length+1<=16*(f-a)/\Tr F a f u L.length m
 |0,a,L,G,_,_,_,_=>by omega
 |N+1,a,L,G,I,J,hL,M=>by
  have af:=hF.len;obtain⟨e,g,O,s,S,x,U⟩:=h.andor a L u d q q' J D E ⟨I,by omega,hd.1,hd.2⟩ M;obtain⟨V,_,_⟩:=uN L (opn 3 a u) (by omega);obtain⟨W,X⟩:=Ec L g (opn 3 a u);have hP: ∀K:Option _,yM (ik q) (N+1) F (a:Int) u d L=K->yM (ik q) (N+1) F (a:Int) u d L=K:=fun _ h=>h;rw[yM,UV];simp only[fJ,ay,aa,V];rw[O,bI];simp only[W,X,aa,xC];rw[nK hF e _ u d (by omega) [59,38] rfl,bI];simp only;have Y:(L++(3,(a:Int),(e:Int),u,())::g).length=L.length+1+g.length:=by grind
  have stop: ∀b:Nat,e<=b->b<=F.length->((3,(a:Int),(e:Int),u,())::g).length+1<=16*(b-a)/\Tr F a b u L.length ((3,(a:Int),(e:Int),u,())::g):=fun b y z=>⟨by grind,U.2.one (ae _) y (by omega) rfl⟩;have next: ∀b:Nat,e<=b->b<=F.length->xm F b d=true->e<b-> ∃(f:Nat) (m:List Nd) (l:Nat) (o:List Nd),
    yM (ik q) N F (b:Int) u d (L++(3,(a:Int),(e:Int),u,())::g)=a6 (.inl ((),((),()),((F,(f:Int),u,d,()),L++m,())))/\
    (jB q').q88 F (oG F) (L++(3,(a:Int),(e:Int),u,())::g) (b:Int) u d=a6 (RR F l ((L++(3,(a:Int),(e:Int),u,())::g)++o) u d,())/\
    yL (jB q') N v F (oG F) (l:Int) u d ((L++(3,(a:Int),(e:Int),u,())::g)++o)=a6 (.inl ((v,()),((),()),((F,oG F,(f:Int),u,d,()),L++m,())))/\a<f/\f<=F.length/\m.length+1<=16*(f-a)/\Tr F a f u L.length m:=fun b y z i A=>by
   obtain⟨f,l,m,o,f1,Z,f3,f4,f5,f6⟩:=WX h D E u d v hd N b (L++(3,(a:Int),(e:Int),u,())::g) (by omega) z (by omega) (by rw[Y];omega) i;exact⟨f,((3,(a:Int),(e:Int),u,())::g)++m,l,o,by simp_all,Z,by simp_all,by omega,f5,by grind,(stop b y z).2.app f6.2 (ae _) (aj ..)⟩
  cases hs:gK F e [59,38]with
  |true=>
   have A:=jT hs;have ab:=OB (F:=F) (e+1);have j:=TB (F:=F) (a:=e+1) (by omega);rw[EZ hs];simp only[aa];rw[BI hF (e+1) _ u d (by omega),bI];simp only;rw[CJ hF _ _ u d (by omega),bI];simp only;cases i:xm F (ln F (e+1)) d with
   |false=>
    refine⟨ln F (e+1),e,_,_,rfl,s, ?_,by omega,j,stop _ (by omega) j⟩;rw[yL,NG,qo e _ u d [59,38] (by simp),bI,hs];simp only[aa];rw[dI,show(e:Int)+1=((e+1:Nat):Int) by omega,BJ hF (e+1) _ u d (by omega),bI]
    grind [QY,bI]
   |true=>
    obtain⟨f,m,l,o,g1,g2,g3,g4,g5,g6⟩:=next _ (by omega) j i (by omega)
    refine⟨f,e,m,_,g1,s, ?_,g4,g5,g6⟩;rw[yL,NG,qo e _ u d [59,38] (by simp),bI,hs];simp only[aa];rw[dI,show(e:Int)+1=((e+1:Nat):Int) by omega,BJ hF (e+1) _ u d (by omega),bI];simp only;rw[QY _ _ u d (by omega),bI,i];simp_all [bI]
  |false=>
   have ab:=OB (F:=F) e;have j:=TB (F:=F) x;have B:yL (jB q') (N+1) v F (oG F) (e:Int) u d (L++(3,(a:Int),(e:Int),u,())::g)=
     (bif bV (((ln F e:Nat):Int)-e) 0 then(a6 (.inl ((v,()),((),()),((F,oG F,((ln F e:Nat):Int),u,d,()),L++(3,(a:Int),(e:Int),u,())::g,()))):Option (aa7.den⊕abN.den))
     else bif !xm F (ln F e) d then a6 (.inl ((v,()),((),()),((F,oG F,((ln F e:Nat):Int),u,d,()),L++(3,(a:Int),(e:Int),u,())::g,())))
      else bJ ((jB q').q88 F (oG F) (L++(3,(a:Int),(e:Int),u,())::g) ((ln F e:Nat):Int) u d) fun p=>yL (jB q') N v p.1.1 p.1.2.1 p.1.2.2.2.1 p.1.2.2.2.2.1 p.1.2.2.2.2.2.1 p.1.2.2.1):=by
    rw[yL,NG,qo e _ u d [59,38] (by simp),bI,hs];simp only[ac];rw[BJ hF e _ u d x,bI];simp only;cases bV (((ln F e:Nat):Int)-e) 0 with
    |true=>rfl
    |false=>
     simp only[ac]
     grind [QY,bI]
   rw[EY hs];simp only[ac];rw[BI hF e _ u d x,bI];simp only;cases hln:gK F e [110]with
   |false=>
    have ad:ln F e=e:=by rw[JW,hln];rfl
    rw[ad]at B ⊢;refine⟨e,e,_,_,rfl,s, ?_,S,x,stop _ (ae _) x⟩;simp_all [gq]
   |true=>
    have A:e<ln F e:=by simp_all [aJJ]
    simp only[ax,ac];rw[dN (dZ)]at B;rw[CJ hF _ _ u d (by omega),bI];simp only;cases i:xm F (ln F e) d with
    |false=>
     refine⟨ln F e,e,_,_,rfl,s, ?_,by omega,j,stop _ (by omega) j⟩;rw[B,i];rfl
    |true=>
     obtain⟨f,m,l,o,g1,g2,g3,g4,g5,g6⟩:=next _ (by omega) j i A
     refine⟨f,e,m,_,g1,s, ?_,g4,g5,g6⟩;simp_all [bI]
theorem aHD {n:Nat} (h:All F n) (a:Nat) (l:List Nd) (u d:Int) (r g:Nat) (D:16*(F.length-a)+12<n+1) (hr:n+1<=r) (E:n+1<=g) (hp:Pre F a l d 110) (hb:xm F a d=true):
  ∃(e:Nat) (m:List Nd),(ik r).q71 F (a:Int) (bT l [opn 2 a u]) (bM l) d=a6 (PR F e (bT l [opn 2 a u]++m) (bM l) d,())/\
   (jB g).q52 F (oG F) l (a:Int) u d=a6 (RR F e (l++(2,(a:Int),(e:Int),u,())::m) u d,())/\a<e/\e<=F.length/\m.length+1<=16*(e-a)/\Tr F a e (bM l) (l.length+1) m:=by
 obtain⟨v,G,i,x⟩:=hp;have I:=hF.len;obtain⟨q,rfl⟩: ∃q,r=q+1:=⟨r-1,by omega⟩;obtain⟨f,rfl⟩: ∃f,g=f+1:=⟨g-1,by omega⟩;have j:(bT l [opn 2 a u]).length=l.length+1:=by unfold bT;simp
 have y:bT l [opn 2 a u]=l++[(2,(a:Int),0,u,())]:=rfl;obtain⟨e,J,m,K,z,o,p,A,B,s⟩:=WX hF h (q:=q) (q':=f) (by omega) (by omega) (bM l) d u ⟨i,x⟩ bQ a (bT l [opn 2 a u]) (dX) v (by omega) (by rw[j];omega) hb;refine⟨e,m, ?_, ?_,A,B,s.1,j▸s.2⟩
 .show as6 (ik q) F (a:Int) _ _ d=_;rw[as6,z,bI];rfl
 .show aD8 (jB f) F (oG F) l (a:Int) u d=_;rw[aD8,AX a l u d (by omega) (by omega) (by omega) i (by omega),bI];simp only[show ql 2=false from rfl,ag,if_false];rw[y]at o p;rw[show((l.length:Nat):Int)=bM l from rfl,o,bI];simp only;rw[p,bI];simp only[dW];rw[show bM l=((l.length:Nat):Int) from rfl,RQ e _ u d l.length (by simp) (Kv l _ 2 _ _) (by omega) (by omega) i (by omega),bI];simp only[Jr,show ql 2=false from rfl,ag,if_false]
end
section
open Bool renaming and_eq_true → af, not_true → ax, not_false → az
open Nat renaming lt_of_lt_of_le → aZ
open Go.RowKit
theorem aeK {s:List UInt8} (d:s.length<1000000):ag5 s 0=some (((nl s:Nat):Int),()):=by
 have:=aqv (aZ d (by omega)) (a:=0) (Nat.zero_le _);simpa using this
theorem ad7 {s:List UInt8} (d:s.length<1000000):agZ s=some (decide (nl s≠0/\nl s=s.length),()):=by
 rw[agZ];by_cases h0:s=[]
 .subst h0;rfl
 have f:0<s.length:=List.length_pos_iff.2 h0;rw[uu h0];simp only[az,aa];rw[aeK d,bI];congr 2;by_cases h:nl s=s.length
 .rw[gq (by rw[bP];omega),decide_eq_true ⟨by omega,h⟩]
 .rw[dZ (by rw[bP];omega),decide_eq_false (fun e=>h e.2)]
def asg (s:bZ):Bool:=decide (nl s≠0/\nl s<s.length)&&decide (s.getD (nl s) 0=61)
theorem acZ {s:List UInt8} (f:s.length<1000000): ∃x y,ajO s=some (x,(y,(asg s,()))):=by
 have g:nl s<=s.length:=by unfold nl;split;omega;exact LD WU s
 rw[ajO,aeK f,bI];simp only;by_cases h0:nl s=0
 .exact⟨[],[],by rw[cO (gq),asg,decide_eq_false (fun h=>h.1 h0)];rfl⟩
 rw[dN (dZ)];by_cases h1:nl s=s.length
 .exact⟨[],[],by rw[cO (gq (by rw[bP];omega)),asg,decide_eq_false (fun h=>by omega)];rfl⟩
 have d:nl s<s.length:=by omega
 rw[dN (dZ (by rw[bP];omega)),cO (eu),byte_at d];have e:s.getD (nl s) 0=s[nl s]:=by rw[List.getD_eq_getElem?_getD,List.getElem?_eq_getElem d];rfl
 by_cases h3:s[nl s]=61
 .rw[h3,show bV ((61:UInt8).toNat:Int) 61=true from rfl];simp only[ax,ac];rw[dI,cO (gu (by omega) (by omega) (by rw[bP];omega)),cO (gu (by omega) (by rw[bP];omega) (by omega))];exact⟨_,_,by rw[asg,decide_eq_true ⟨h0,d⟩,e,decide_eq_true h3];rfl⟩
 .rw[dZ (fun h=>h3 (UInt8.toNat_inj.1 (by have:((61:UInt8).toNat:Int)=61:=rfl;omega)))];exact⟨[],[],by rw[asg,e,decide_eq_false h3,Bool.and_false];rfl⟩
theorem aGk (s:bZ) (i:Nat):sub s 0 (i:Int)=s.take i:=by simp[sub]
theorem avh {s:List UInt8} {i:Nat} (hi:i<s.length) (o:s[i]=61):(nl (s.take i)≠0/\nl (s.take i)=(s.take i).length)↔(nl s≠0/\nl s=i):=by
 have q:WU (61:UInt8)=false:=by decide
 have u:isL (61:UInt8)=false:=by decide
 have v:(s.take i).length=i:=by simp;omega
 have g: ∀p:UInt8->Bool,p 61=false->(((s.take i).takeWhile p).length=i↔(s.takeWhile p).length=i)/\((((s.take i).takeWhile p).length=0)↔((s.takeWhile p).length=0)):=by
  intro p x;have y:(s.takeWhile p).length<=i:=by
   by_cases c:(s.takeWhile p).length<=i
   .exact c
   .have:=E5 p s i hi (by omega);rw[o,x]at this;cases this
  have e:((s.take i).takeWhile p).length=(s.takeWhile p).length:=by
   refine aLh p _ _ (by omega) (fun j z h=> ?_) fun h=> ?_
   .rw[List.getElem_take];exact E5 p s j (by omega) h
   .rw[List.getElem_take];exact zD p s (by omega)
  rw[e];exact⟨Iff.rfl,Iff.rfl⟩
 have f:=g WU q;have l:=g isL u;unfold nl GV runN;rw[v];by_cases h:(s.takeWhile isL).length=0
 .rw[am h,am (l.2.2 h)]
 .rw[aq h,aq (fun d=>h (l.2.1 d))];constructor
  .rintro ⟨a,b⟩;exact⟨fun d=>a (f.2.2 d),f.1.1 b⟩
  .rintro ⟨a,b⟩;exact⟨fun d=>a (f.2.1 d),f.1.2 b⟩
theorem xy {s:List UInt8} (g:s.length<1000000): ∀(N k:Nat),s.length-k<N->1<=k->k<=s.length->(asg s=true->k<=nl s)->
  ∃r,BP N s (k:Int)=some r/\(asg s=true-> ∃n:Nat,r=.inr (((n:Int),()),())/\0<n/\n=nl s)/\(asg s=false->r=.inl ((),()))
 |0,k,h,_,_,_=>by omega
 |N+1,k,h,q,hk,f=>by
  rw[BP,QK];by_cases h1:k<s.length
  .have p:dw .i64 (k:Int) 1=((k+1:Nat):Int):=by rw[dI];rfl
   rw[cO (fO (by rw[bP];omega)),cO (eu),byte_at h1,p];have i:s.getD k 0=s[k]:=by rw[List.getD_eq_getElem?_getD,List.getElem?_eq_getElem h1];rfl
   by_cases h2:s[k]=61
   .rw[h2,show bV ((61:UInt8).toNat:Int) 61=true from rfl];simp only[aa];rw[cO (gu (by omega) (by omega) (by rw[bP];omega)),aGk,SY (by simp;omega),bI];simp only;have j:=avh h1 h2;by_cases h3:nl s≠0/\nl s=k
    .rw[decide_eq_true (j.2 h3)];refine⟨_,rfl,fun _=>⟨k,rfl,by omega,h3.2.symm⟩,fun l=> ?_⟩;have:asg s=true:=by rw[asg,decide_eq_true ⟨h3.1,by omega⟩,h3.2,i,decide_eq_true h2];rfl
     rw[this]at l;cases l
    .rw[decide_eq_false (fun d=>h3 (j.1 d))];refine xy g N (k+1) (by omega) (by omega) (by omega) fun d=> ?_;have o:=f d;unfold asg at d;simp only[af,decide_eq_true_eq]at d;omega
   .rw[dZ (fun h=>h2 (UInt8.toNat_inj.1 (by have:((61:UInt8).toNat:Int)=61:=rfl;omega)))];refine xy g N (k+1) (by omega) (by omega) (by omega) fun d=> ?_;have o:=f d;unfold asg at d;simp only[af,decide_eq_true_eq]at d;by_cases e:k=nl s
    .subst e;rw[i]at d;exact absurd d.2 h2
    .omega
  .rw[dN (iE (by rw[bP];omega))];refine⟨_,rfl,fun d=> ?_,fun _=>rfl⟩;have o:=f d;unfold asg at d;simp only[af,decide_eq_true_eq]at d;omega
theorem aHv {s:List UInt8} (d:s.length<1000000):WJ s=some (if asg s=true then(nl s:Int)else 0,()):=by
 rw[WJ];by_cases h0:s=[]
 .subst h0;rfl
 have l:0<s.length:=List.length_pos_iff.2 h0;obtain⟨r,f,g,i⟩:=xy d bQ 1 (dX) (by omega) (by omega) (fun h=>by
  unfold asg at h;simp only[af,decide_eq_true_eq]at h;omega)
 rw[show BP bQ s 1=_ from f];cases ha:asg s with
 |true=>
  obtain⟨n,e,o,j⟩:=g ha;subst e j;rfl
 |false=>
  have e:=i ha;subst e;rfl
theorem aga {s:List UInt8} (d:s.length<1000000): ∃n:Int,WJ s=some (n,())/\gY 0 n=asg s/\bV n 0= !asg s:=by
 rw[WJ];by_cases h0:s=[]
 .subst h0;exact⟨0,rfl,rfl,rfl⟩
 have j:0<s.length:=List.length_pos_iff.2 h0;obtain⟨r,f,g,i⟩:=xy d bQ 1 (dX) (by omega) (by omega) (fun h=>by
  unfold asg at h;simp only[af,decide_eq_true_eq]at h;omega)
 rw[show BP bQ s 1=_ from f];cases ha:asg s with
 |true=>
  obtain⟨n,e,l,_⟩:=g ha;subst e;exact⟨n,rfl,fO,dZ⟩
 |false=>
  have e:=i ha;subst e;exact⟨0,rfl,rfl,rfl⟩
theorem V8 {s:List UInt8} (d:s.length<1000000):ajM s=some (asg s,()):=by
 obtain⟨x,y,h⟩:=acZ d;rw[ajM,h,bI]
end
section
open Bool renaming false_eq_true → ag, not_true → ax, and_true → ay, not_false → az, true_and → aK
open List renaming append_assoc → ai, length_append → aj, getElem_mem → aX
open Nat renaming le_refl → ae
open Go.RowKit
variable {F:List Lf} (hF:OkF F)
include hF
omit hF in
theorem aeZ {a:Nat} {c:UInt8} (h:gK F a [c]=true):ND F a=c:=by
 simp_all [gK]
omit hF in
theorem afx {a:Nat} {c:UInt8} (d:c≠0) (h:ND F a=c):gK F a [c]=true:=by
 grind [Gi,gK]
def wdN (F:List Lf) (a:Nat) (u:Int):Nd:=if isW F a=true then(7,(a:Int),((a+1:Nat):Int),u,())else(18,(a:Int),(a:Int),u,())
omit hF in
theorem ayg (a:Nat) (l:List Nd) (u:Int):wdL F a l u=l++[wdN F a u]:=by grind [wdL,wdN]
omit hF in
theorem aHq (a:Nat):a<=wdA F a/\(a<=F.length->wdA F a<=F.length):=by
 unfold wdA;split
 .grind [atL]
 omega
omit hF in
theorem aHs {a b c:Nat} {u:Int} {k:Nat} (d:a<=c) (h2:wdA F c<=b):Tr F a b u k [wdN F c u]:=by
 unfold wdA at h2;unfold wdN;split at h2
 .rename_i h;rw[am h];exact .lf d h2 (by omega) (fun _=>by simpa [isW] using h)
 .rename_i h;rw[aq h];exact .mis d h2
theorem afc (a:Nat) (l:List Nd) (u d:Int) (G:a<=F.length) (hl:l.length<100000000) (hd:0<=d) (I:d<1000000) (h:IV F a=true):
  ∃(g:Nat) (m:List Nd),Dj F (a:Int) l u d=some (PR F g (l++m) u d,(true,()))/\adF F (oG F) l (a:Int) u d=some (RR F g (l++m) u d,())/\a<g/\g<=F.length/\m.length=2/\Tr F a g u l.length m:=by
 have J:=hF.len;obtain⟨q,_,_⟩:=uN l (opn 8 a u) (by omega);have s:(bT l [opn 8 a u]).length=l.length+1:=by unfold bT;simp
 obtain⟨b,v,x,y,i,j⟩: ∃b:Nat,a<b/\b<=F.length/\tk F (tk F a [35]) [60]=b/\(if gK F a [35]=true then a+2 else a+1)=b/\((b=a+1\/b=a+2/\gK F a [35]=true)/\gK F (b-1) [60]=true):=by
  cases h35:gK F a [35]with
  |true=>
   have K:=aeZ h35;unfold IV at h;have z:gK F a [60]=false:=by
    simp_all [gK]
   rw[z,h35,Bool.false_or,aK,decide_eq_true_eq]at h;have o:=afx (by decide) h;exact⟨a+2,by omega,jT o,by grind [EZ],by simp,.inr ⟨rfl,rfl⟩,o⟩
  |false=>
   unfold IV at h;rw[h35,Bool.false_and,Bool.or_false]at h;exact⟨a+1,by omega,jT h,by rw[EY h35,EZ h],by simp,.inl rfl,h⟩
 have L:tk F a [35]<=F.length:=by
  grind [tk]
 obtain⟨M,A⟩:=aHq (F:=F) b;obtain⟨B,D⟩:=Ec l [wdN F b (bM l)] (opn 8 a u);have N:bT l [opn 8 a u]=l++[(8,(a:Int),0,u,())]:=rfl;refine⟨wdA F b,[(8,(a:Int),((wdA F b:Nat):Int),u,()),wdN F b (bM l)], ?_, ?_,by omega,A x,rfl,Tr.one (aHs (Nat.le_of_lt v) (ae _)) (ae _) (ae _) (by omega) rfl (fun _=>by
  obtain⟨p,rfl⟩: ∃p,b=p+1:=⟨b-1,by omega⟩;refine⟨p,(by
   rcases j.1 with h|⟨h,E⟩
   .exact .inl (by omega)
   .exact .inr ⟨by omega,E⟩),j.2, ?_⟩
  unfold wdN wdA;split
  .exact .inl ⟨rfl,_,rfl⟩
  .exact .inr ⟨rfl,_,rfl⟩)⟩
 .rw[Dj,EF hF a l u d (by omega),bI,h];simp only[ax,ac,fJ,ay,aa,q];rw[nK hF a _ _ d (by omega) [35] rfl,bI];simp only;rw[nK hF _ _ _ d (by omega) [60] rfl,bI,y];simp only;rw[ayi b _ _ d (by omega) (by rw[s];omega),bI];simp only[ayg,B,D,aa,xC]
 .rw[adF,AX a l u d (by omega) (by omega) (by omega) hd (by omega),bI];simp only[show ql 8=false from rfl,ag,if_false];rw[qo a _ _ d [35] (by simp),bI];simp only;have O:bJ (Di F (oG F) (l++[(8,(a:Int),0,u,())]) (b:Int) ((l.length:Nat):Int) d) (fun e=>bJ (wK e.1.1 e.1.2.1 e.1.2.2.1 e.1.2.2.2.1 e.1.2.2.2.2.1 e.1.2.2.2.2.2.1 u) fun f=>
    some ((f.1.1,(f.1.2.1,(f.1.2.2.1,(f.1.2.2.2.1,(f.1.2.2.2.2.1,(f.1.2.2.2.2.2.1,())))))),()))=some (RR F (wdA F b) (l++[(8,(a:Int),((wdA F b:Nat):Int),u,()),wdN F b (bM l)]) u d,()):=by
   rw[aHu b _ _ d (by omega) (by grind) hd (by omega),bI];simp only[ayg];rw[RQ (wdA F b) _ u d l.length (by simp) (Kv l _ 8 _ _) (by omega) (by omega) hd (by omega),bI];simp only[Jr,show ql 8=false from rfl,ag,if_false];rfl
  cases h35:gK F a [35]with
  |true=>
   rw[h35,am rfl]at i;simp only[aa]
   grind [dI]
  |false=>
   rw[h35,aq (by simp)]at i;simp only[ac]
   grind [dI]
theorem EE (a:Nat) (l:List Nd) (u d:Int) (e:a<=F.length) (h:IV F a=false):Dj F (a:Int) l u d=some (PR F a l u d,(false,())):=by
 have f:=hF.len;rw[Dj,EF hF a l u d (by omega),bI,h];rfl
theorem Pm {q':jq} (u d v:Int) (hd:0<=d/\d<=201): ∀(N a:Nat) (L:List Nd) (i:Bool) (w:Int),F.length-a<N->a<=F.length->L.length<=16*a+1000->0<=w->w<=a->(i=true↔w≠0)->
  ∃(f:Nat) (m:List Nd),rM N i F (a:Int) u d L=some (.inl ((),((),()),((F,(f:Int),u,d,()),L++m,())))/\
   zX q' N v w F (oG F) (a:Int) u d L=some (.inl ((v,()),((),()),((F,oG F,(f:Int),u,d,()),L++m,())))/\a<=f/\f<=F.length/\(m.length<=2*(f-a)/\Tr F a f u L.length m)/\((IV F a||isW F a)=true->a<f)
 |0,a,L,i,w,J,_,_,_,_,_=>by omega
 |N+1,a,L,i,w,J,l,hL,z,af,A=>by
  have ah:=hF.len;rw[rM,Gt,zX,Ld,GZ a L u d (by omega),bI];simp only;cases hr:IV F a with
  |true=>
   obtain⟨K,B,M,O,e3,S,U⟩:=afc hF a L u d l (by omega) hd.1 (by omega) hr;rw[M,bI];simp only[aa];rw[O,bI];simp only;obtain⟨f,m,V,o,W,p,q,_⟩:=Pm u d v hd N K (L++B) i w (by omega) S (by grind) z (by omega) A;exact⟨f,B++m,by simp_all,by rw[o,ai],by omega,p,⟨by grind,U.2.app q.2 (ae _) (aj ..)⟩,fun _=>by omega⟩
  |false=>
   rw[EE hF a L u d l hr,bI];simp only[ac];rw[JR a L u d,bI];simp only;cases hi:isW F a with
   |false=>
    refine⟨a,[],by simp, ?_,ae _,l,⟨by simp,.nil (ae _)⟩,fun h=>by simp at h⟩;by_cases h:a<F.length
    .have x:F[a].1≠6:=by
      simp_all [isW]
     simp_all [eu,Tv,dZ]
    simp_all [iE,bP]
   |true=>
    have h:=atL hi;have x:F[a].1=6:=by
     simp_all [isW]
    have X:fV F (a:Int)=true:=eu;have hg:=hF.txt _ (aX h);obtain⟨y,Y,Z,y3⟩:=aga (s:=F[a].2.1) (by omega);simp only[ax,ac];rw[cO (fO (by rw[bP];omega)),X];simp only[aa,Tv h,gq x];rw[V8 (by omega),bI,Y,bI];simp only[Z];have go: ∀(k:Int) (j:Bool) (g:Int),k=6\/k=7->0<=g->g<=((a+1:Nat):Int)->(j=true↔g≠0)-> ∃(f:Nat) (m:List Nd),
      rM N j F ((a+1:Nat):Int) u d (L++[(k,(a:Int),((a+1:Nat):Int),u,())])=some (.inl ((),((),()),((F,(f:Int),u,d,()),L++m,())))/\
      zX q' N v g F (oG F) ((a+1:Nat):Int) u d (L++[(k,(a:Int),((a+1:Nat):Int),u,())])=some (.inl ((v,()),((),()),((F,oG F,(f:Int),u,d,()),L++m,())))/\a<=f/\f<=F.length/\(m.length<=2*(f-a)/\Tr F a f u L.length m)/\((false||true)=true->a<f):=fun k j g hk h1 h2 h3=>by
     obtain⟨f,m,V,o,W,p,q,_⟩:=Pm u d v hd N (a+1) (L++[(k,(a:Int),((a+1:Nat):Int),u,())]) j g (by omega) (by omega) (by grind) h1 h2 h3;exact⟨f,[(k,(a:Int),((a+1:Nat):Int),u,())]++m,by simp_all,by rw[o,ai],by omega,p,⟨by grind,(Tr.lf (ae _) (ae _) (by omega) (fun _=>⟨h,x⟩)).app q.2 (ae _) (aj ..)⟩,fun _=>by omega⟩
    have D:dw .i64 w 1=w+1:=dI;have E: ∀g,g=w+1->(true=true↔g≠0):=fun g e=>⟨fun _=>by omega,fun _=>rfl⟩;have l6:=Zi (F:=F) a L u d 6 (by omega) (by omega);have G:=Zi (F:=F) a L u d 7 (by omega) (by omega);have o6:=ak0 (F:=F) a L u d (k:=6) (by omega) (by omega) rfl (by omega) (by omega) hd.1 (by omega);have I:=ak0 (F:=F) a L u d (k:=7) (by omega) (by omega) rfl (by omega) (by omega) hd.1 (by omega);by_cases hw:w=0
    .have ab:i=false:=by
      simp_all
     subst ab;rw[gq hw];simp only[az,aa];cases asg F[a].2.1 with
     |true=>
      simp only[aa];rw[l6,o6,bI,bI];exact go 6 false w (.inl rfl) z (by omega) ⟨fun h=>(by cases h),fun h=>absurd hw h⟩
     |false=>
      simp only[ac];rw[G,I,bI,bI];simp only[D];exact go 7 true (w+1) (.inr rfl) (by omega) (by omega) (E _ rfl)
    .have ad:i=true:=A.2 hw;subst ad;rw[dZ hw];simp only[ax,ac];rw[G,I,bI,bI];simp only[D];exact go 7 true (w+1) (.inr rfl) (by omega) (by omega) (E _ rfl)
end
section
open Bool renaming and_eq_true → af, true_and → aK
open List renaming append_assoc → ai, getElem_mem → aX
open Nat renaming le_refl → ae
open Go.RowKit
variable {F:List Lf} (hF:OkF F)
include hF
def fnB (F:List Lf) (a:Nat) (d:Int):Bool:=gK F a [120]&&(decide (ND F (a+1)=40)&&(decide (d<200)&&(if h:a<F.length then decide (nl F[a].2.1≠0/\nl F[a].2.1=F[a].2.1.length)else false)))
omit hF in
theorem aGe (a:Nat) (c:UInt8):bV ((ND F a).toNat:Int) (c.toNat:Int)=decide (ND F a=c):=by
 rw[gZ,decide_eq_decide]
 grind [UInt8.toNat_inj]
theorem ag7 (a:Nat) (l:List Nd) (u d:Int) (e:a<=F.length):ajC F (a:Int) l u d=some (PR F a l u d,(fnB F a d,())):=by
 have f:=hF.len;rw[ajC,KY hF a l u d (by omega),bI];simp only;rw[show bV ((ND F a).toNat:Int) 120=gK F a [120] from afw a 120 (by decide)];unfold fnB;cases hx:gK F a [120]with
 |false=>rfl
 |true=>
  have h:=jT hx;simp only[aa,aK];rw[amu hF a l u d (by omega),bI];simp only;rw[show bV ((ND F (a+1)).toNat:Int) 40=decide (ND F (a+1)=40) from aGe (a+1) 40];cases decide (ND F (a+1)=40)with
  |false=>rfl
  |true=>
   simp only[aa,aK];by_cases hd:d<200
   .rw[cO (fO hd),cO (eu),Tv h,ad7 (by have:=hF.txt _ (aX h);omega),bI,dif_pos h,decide_eq_true hd,aK]
   simp_all [iE,decide_eq_false]
omit hF in
theorem aLj (a:Nat) (o:bZ):a<=QU F a o/\(a<=F.length->QU F a o<=F.length):=by
 unfold QU tk;split
 .grind [jT]
 omega
def wnM (F:List Lf) (a:Nat) (o:bZ) (u:Int):List Nd:=if gK F a o=true then []else [(18,(a:Int),(a:Int),u,())]
omit hF in
theorem ayh (a:Nat) (o:bZ) (l:List Nd) (u:Int):wnL F a o l u=l++wnM F a o u:=by
 grind [wnL,wnM]
omit hF in
theorem aHt {a b c:Nat} {o:List UInt8} {u:Int} {k:Nat} (d:a<=c) (h2:c<=b):Tr F a b u k (wnM F c o u):=by
 unfold wnM;split
 .exact .nil (by omega)
 .exact .mis d h2
omit hF in
theorem aBD (a:Nat) (o:bZ) (u:Int):(wnM F a o u).length<=1:=by grind [wnM]
theorem aHy {n:Nat} (h:All F n) (z:All F (n-1)) (a:Nat) (l:List Nd) (u d:Int) (q q':Nat) (Y:16*(F.length-a)+9<n+1) (Z:n<=q) (ab:n<=q') (hp:Pre F a l d 113) (hb:fnB F a d=true):
  ∃(e:Nat) (m:List Nd),(ik q).q222 F (a:Int) (bT l [opn 16 a u]) (bM l) (d+1)=some (PR F e (bT l [opn 16 a u]++m) (bM l) (d+1),())/\
   (bJ (GM F (oG F) l (a:Int) u d 16) fun j=>
    bJ (L6 j.1.1 j.1.2.1 j.1.2.2.1 j.1.2.2.2.1 j.1.2.2.2.2.1 j.1.2.2.2.2.2.1 7) fun o=>
     bJ (uy o.1.1 o.1.2.1 o.1.2.2.1 (dw .i64 o.1.2.2.2.1 1) o.1.2.2.2.2.1 o.1.2.2.2.2.2.1 [41]) fun p=>
      bJ (Bv p.1.1 p.1.2.1 p.1.2.2.1 p.1.2.2.2.1 p.1.2.2.2.2.1 p.1.2.2.2.2.2.1) fun s=>
       bJ (Sv s.1.1 s.1.2.1 s.1.2.2.1 s.1.2.2.2.1 s.1.2.2.2.2.1 s.1.2.2.2.2.2.1) fun g=>
        bif g.2.1 then
         bJ ((jB q').q186 g.1.1 g.1.2.1 g.1.2.2.1 g.1.2.2.2.1 g.1.2.2.2.2.1 g.1.2.2.2.2.2.1) fun i=>
          bJ (wK i.1.1 i.1.2.1 i.1.2.2.1 i.1.2.2.2.1 i.1.2.2.2.2.1 i.1.2.2.2.2.2.1 j.2.1) fun f=>
           some ((f.1.1,(f.1.2.1,(f.1.2.2.1,(f.1.2.2.2.1,(f.1.2.2.2.2.1,(f.1.2.2.2.2.2.1,())))))),())
        else
        bJ (uw g.1.1 g.1.2.1 g.1.2.2.1 g.1.2.2.2.1 g.1.2.2.2.2.1 g.1.2.2.2.2.2.1) fun i=>
         bJ (wK i.1.1 i.1.2.1 i.1.2.2.1 i.1.2.2.2.1 i.1.2.2.2.2.1 i.1.2.2.2.2.2.1 j.2.1) fun f=>
          some ((f.1.1,(f.1.2.1,(f.1.2.2.1,(f.1.2.2.2.1,(f.1.2.2.2.2.1,(f.1.2.2.2.2.2.1,())))))),()))=some (RR F e (l++(16,(a:Int),(e:Int),u,())::m) u d,())/\a<e/\e<=F.length/\m.length+4<=16*(e-a)/\Tr F a e (bM l) (l.length+1) m:=by
 obtain⟨p1,p2,M,p4⟩:=hp;have ad:=hF.len;unfold fnB at hb;simp only[af,decide_eq_true_eq]at hb;obtain⟨B,N,b3,_⟩:=hb;have x:=jT B;have D:isW F a=true:=by
  unfold isW;rw[dif_pos x];have z:=aeZ B;rw[ab4 x]at z;exact decide_eq_true (aKr (hF.txt _ (aX x)) z)
 have E:=afx (F:=F) (a:=a+1) (c:=40) (by decide) N;have ag:=jT E;obtain⟨y,rfl⟩: ∃y,q=y+1:=⟨q-1,by omega⟩;have O:bT l [opn 16 a u]=l++[(16,(a:Int),0,u,())]:=rfl;have S:(bT l [opn 16 a u]).length=l.length+1:=by unfold bT;simp
 have G:=aLj (F:=F) (a+2) [41];have A:=G.2 (by omega);have ah:=aBD (F:=F) (a+2) [41] (bM l);have U:=OB (F:=F) (QU F (a+2) [41]);have I:=TB (F:=F) A;have J: ∀(e:Nat) (m:List Nd),bJ (wK F (oG F) ((l++[(16,(a:Int),0,u,())])++m) (e:Int) ((l.length:Nat):Int) (d+1) u) (fun f=>some ((f.1.1,(f.1.2.1,(f.1.2.2.1,(f.1.2.2.2.1,(f.1.2.2.2.2.1,(f.1.2.2.2.2.2.1,())))))),()))=some (RR F e (l++(16,(a:Int),(e:Int),u,())::m) u d,()):=fun e m=>by
  rw[RQ e _ u (d+1) l.length (by simp) (Kv l _ 16 _ _) (by omega) (by omega) (by omega) (by omega),bI];simp only[Jr,show ql 16=true from rfl,if_true,show d+1-1=d by omega]
 have V: ∃(e:Nat) (m:List Nd),(bif LM F (ln F (QU F (a+2) [41])) (d+1)then
    (ik y).q219 F ((ln F (QU F (a+2) [41]):Nat):Int) ((bT l [opn 16 a u]++[(7,(a:Int),((a+1:Nat):Int),bM l,())])++wnM F (a+2) [41] (bM l)) (bM l) (d+1)
   else zQ F ((ln F (QU F (a+2) [41]):Nat):Int) ((bT l [opn 16 a u]++[(7,(a:Int),((a+1:Nat):Int),bM l,())])++wnM F (a+2) [41] (bM l)) (bM l) (d+1))=some (PR F e (((bT l [opn 16 a u]++[(7,(a:Int),((a+1:Nat):Int),bM l,())])++wnM F (a+2) [41] (bM l))++m) (bM l) (d+1),())/\
   (bif LM F (ln F (QU F (a+2) [41])) (d+1)then
    (jB q').q186 F (oG F) ((bT l [opn 16 a u]++[(7,(a:Int),((a+1:Nat):Int),bM l,())])++wnM F (a+2) [41] (bM l)) ((ln F (QU F (a+2) [41]):Nat):Int) (bM l) (d+1)
   else uw F (oG F) ((bT l [opn 16 a u]++[(7,(a:Int),((a+1:Nat):Int),bM l,())])++wnM F (a+2) [41] (bM l)) ((ln F (QU F (a+2) [41]):Nat):Int) (bM l) (d+1))=some (RR F e (((bT l [opn 16 a u]++[(7,(a:Int),((a+1:Nat):Int),bM l,())])++wnM F (a+2) [41] (bM l))++m) (bM l) (d+1),())/\ln F (QU F (a+2) [41])<=e/\e<=F.length/\m.length<=16*(e-ln F (QU F (a+2) [41]))+1/\Tr F (ln F (QU F (a+2) [41])) e (bM l) ((bT l [opn 16 a u]++[(7,(a:Int),((a+1:Nat):Int),bM l,())])++wnM F (a+2) [41] (bM l)).length m:=by
  have aj:((bT l [opn 16 a u]++[(7,(a:Int),((a+1:Nat):Int),bM l,())])++wnM F (a+2) [41] (bM l)).length<=l.length+3:=by
   simp_all
  cases hc:LM F (ln F (QU F (a+2) [41])) (d+1)with
  |true=>
   obtain⟨e,m,W,v,X,K,L⟩:=z.compound (ln F (QU F (a+2) [41])) ((bT l [opn 16 a u]++[(7,(a:Int),((a+1:Nat):Int),bM l,())])++wnM F (a+2) [41] (bM l)) (bM l) (d+1) y q' (by omega) (by omega) (by omega) ⟨I,by omega,by omega,by omega⟩ hc
   grind
  |false=>
   refine⟨ln F (QU F (a+2) [41]),[(18,((ln F (QU F (a+2) [41]):Nat):Int),((ln F (QU F (a+2) [41]):Nat):Int),bM l,())], ?_, ?_,ae _,I,by simp,.mis (ae _) (ae _)⟩
   .rw[ac,Ac _ ((bT l [opn 16 a u]++[(7,(a:Int),((a+1:Nat):Int),bM l,())])++wnM F (a+2) [41] (bM l)) _ _ (by omega)]
   .rw[ac,MV _ ((bT l [opn 16 a u]++[(7,(a:Int),((a+1:Nat):Int),bM l,())])++wnM F (a+2) [41] (bM l)) _ _ (by omega) (by omega) (by omega)]
 obtain⟨e,m,W,v,X,K,L⟩:=V;refine⟨e,[(7,(a:Int),((a+1:Nat):Int),bM l,())]++wnM F (a+2) [41] (bM l)++m, ?_, ?_,by omega,K,by grind,((Tr.lf (ae a) (ae _) (by omega) (fun _=>⟨x,by simpa [isW,x] using D⟩)).app (aHt (a:=a+1) (by omega) G.1) (ae _) rfl).app L.2 U (by grind)⟩
 .show as3 (ik y) F (a:Int) _ _ _=_;rw[as3,ayi a _ _ _ (by omega) (by rw[S];omega),bI];simp only[wdL,wdA,D,if_true];rw[nK hF (a+1) _ _ _ (by omega) [40] rfl,EZ E,bI];simp only;rw[show a+1+1=a+2 from rfl,aHo hF (a+2) _ _ _ (by omega) (by grind) [41] rfl,bI];simp only[ayh];rw[BI hF _ _ _ _ A,bI];simp only;rw[DF hF _ _ _ _ (by omega),bI];simp only;cases hc:LM F (ln F (QU F (a+2) [41])) (d+1)with
  |true=>
   simp_all [bI]
  |false=>
   simp_all [bI]
 .rw[AX a l u d (by omega) (by omega) (by omega) M (by omega),bI];simp only[show ql 16=true from rfl,if_true];rw[ak0 a _ _ _ (k:=7) (by omega) (by omega) rfl (by omega) (by grind) (by omega) (by omega),bI];simp only;rw[dI,show((a+1:Nat):Int)+1=((a+2:Nat):Int) by omega,aHp (a+2) _ _ _ (by omega) (by grind) (by omega) (by omega) [41] (by simp),bI];simp only[ayh];rw[BJ hF _ _ _ _ A,bI];simp only;rw[QW,bI];simp only;rw[O]at v;rw[show((l.length:Nat):Int)=bM l from rfl];cases hc:LM F (ln F (QU F (a+2) [41])) (d+1)with
  |true=>
   rw[hc,aa]at v;rw[aa,v,bI];simp only;rw[ai,ai,show bM l=((l.length:Nat):Int) from rfl,J];rfl
  |false=>
   rw[hc,ac]at v;rw[ac,v,bI];simp only;rw[ai,ai,show bM l=((l.length:Nat):Int) from rfl,J];rfl
end
end Go.Proofs.YtlhpdcadgbjhiaaGreatDoor
