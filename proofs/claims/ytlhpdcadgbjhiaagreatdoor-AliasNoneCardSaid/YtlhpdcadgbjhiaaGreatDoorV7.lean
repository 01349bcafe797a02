/- Parts of the proof, joined and shortened by a program: the plain machine, the functions as it prints them, and the mathematics over them. -/
import Derived.Test.YtlhpdcadgbjhiaaGreatDoorV3
import Derived.Test.YtlhpdcadgbjhiaaGreatDoorV4
import Derived.Test.YtlhpdcadgbjhiaaGreatDoorV6
set_option linter.unusedVariables false
set_option linter.unusedSimpArgs false
set_option maxRecDepth 100000
set_option maxHeartbeats 4000000
namespace Go.Proofs.YtlhpdcadgbjhiaaGreatDoor
section
open Option renaming some → a6, none → a7
open Bool renaming not_true → ax, not_false → aB
open Nat renaming le_trans → az
open Go.RowKit
theorem al4 {a b:List UInt8}:iG a b=true↔a=b:=by simp[iG]
theorem Jn {a b:List UInt8} (h:a≠b):iG a b=false:=by simp[iG];exact h
theorem aol {a b:List UInt8} (h:a=b):iG a b=true:=al4.2 h
def aa6:List bH:=[[33],[123],[125],[99,97,115,101],[100,111],[100,111,110,101],[101,108,105,102],[101,108,115,101],[101,115,97,99],[102,105],[102,111,114],[105,102],[105,110],[116,104,101,110],[117,110,116,105,108],[119,104,105,108,101]]
def XY:bH:=[32,33,32,123,32,125,32,99,97,115,101,32,100,111,32,100,111,110,101,32,101,108,105,102,32,101,108,115,101,32,101,115,97,99,32,102,105,32,102,111,114,32,105,102,32,105,110,32,116,104,101,110,32,117,110,116,105,108,32,119,104,105,108,101,32]
theorem aav: ∀i:Fin 66,∀n:Fin 66,(sub XY (i.val:Int) ((i.val:Int)+((n.val:Int)+2))).getD 0 0=32->
  (sub XY (i.val:Int) ((i.val:Int)+((n.val:Int)+2))).getD (n.val+1) 0=32->
  (((sub XY (i.val:Int) ((i.val:Int)+((n.val:Int)+2))).drop 1).take n.val).contains 32=false->n.val≠0->i.val+n.val+2<=65->
  aa6.contains (((sub XY (i.val:Int) ((i.val:Int)+((n.val:Int)+2))).drop 1).take n.val)=true:=by decide+kernel
theorem ace (x:bH) (hx:x.length<=3000000): ∀(n k:Nat),k<=x.length->x.length-k<n->
  AA n 32 x (k:Int)=a6 (.inl ((),()))/\(∀j,k<=j->j<x.length->bU x (j:Int)≠32)\/AA n 32 x (k:Int)=a6 (.inr ((true,()),()))
 |0,k,d,e=>by omega
 |n+1,k,d,e=>by
  rw[AA];unfold abb;by_cases hk:k<x.length
  .rw[bJ (eU (by rw[bz];omega)),bJ (dQ)];by_cases hb:bU x (k:Int)=32
   .simp_all [gB]
   .rw[dE (dV hb),bQ];rcases ace x hx n (k+1) (by omega) (by omega)with ⟨h,h'⟩|h
    all_goals grind
  .rw[dE (iy (by rw[bz];omega))]
   grind
theorem ajE {x:List UInt8} (h: ∀j,0<=j->j<x.length->bU x ((j:Nat):Int)≠32):x.contains 32=false:=by
 rw[Bool.eq_false_iff];intro d;rw[List.contains_iff_mem]at d;obtain⟨j,e,f⟩:=List.mem_iff_getElem.1 d;refine h j (by omega) e ?_;simp_all [bU]
theorem YM (x:bH) (hx:x.length<=3000000) (e:x.length≠0) (hb:x.contains 32=false) (f:aa6.contains x=false): ∀(n i:Nat),i<=66->66-i<n->
  Uf n (bI (bI [32] x) [32]) (i:Int)=a6 (.inl ((),()))
 |0,i,g,h=>by omega
 |n+1,i,g,h=>by
  have hl:(bI (bI [32] x) [32]).length=x.length+2:=by simp[bI]
  rw[Uf];unfold akD;by_cases hi:i+x.length+2<=65
  .rw[bJ (qX (by grind [bz,bQ]))];rw[bJ (gZ (by omega) (by grind [bz,bQ]) (by rw[bz,bz,hl,bQ];show _<=(65:Int);omega))];rw[dE (Jn ?_)]
   .rw[bQ];exact YM x hx e hb f n (i+1) (by omega) (by omega)
   .intro d;rw[bz,hl,bQ]at d;change sub XY _ _=_ at d;have:=aav ⟨i,by omega⟩ ⟨x.length,by omega⟩;simp_all [bI]
  .rw[dE (Dw (by grind [bz,bQ]))]
theorem anY (x:bH) (hx:x.length<=3000000) (d:aa6.contains x=false):apT x=a6 (false,()):=by
 unfold apT;by_cases h0:x.length=0
 .simp_all [gB,bz]
 rw[dE (dV (by rw[bz];omega))];unfold Nl;rcases ace x hx bD 0 (by omega) (dC)with ⟨h,h'⟩|h
 .rw[show(0:Int)=((0:Nat):Int) from rfl,h];simp only[aY,ajO,ac];rw[bJ (show GV [32] x=true by unfold GV mW;grind)];rw[bJ (show GV (bI [32] x) [32]=true by unfold GV mW bI;grind)];rw[YM x hx h0 (ajE h') d bD 0 (by omega) (dC)];rfl
 .rw[show(0:Int)=((0:Nat):Int) from rfl,h];rfl
theorem Yy: ∀k:Fin 17,abQ ((k.val:Int)+1)=a6 (QY.getD k.val [],())/\asN ((k.val:Int)+1)=a6 (QY.getD k.val [],()):=by
 intro k
 match k with
 |⟨0,_⟩=>exact⟨by kernel_rfl,by kernel_rfl⟩
 |⟨1,_⟩=>exact⟨by kernel_rfl,by kernel_rfl⟩
 |⟨2,_⟩=>exact⟨by kernel_rfl,by kernel_rfl⟩
 |⟨3,_⟩=>exact⟨by kernel_rfl,by kernel_rfl⟩
 |⟨4,_⟩=>exact⟨by kernel_rfl,by kernel_rfl⟩
 |⟨5,_⟩=>exact⟨by kernel_rfl,by kernel_rfl⟩
 |⟨6,_⟩=>exact⟨by kernel_rfl,by kernel_rfl⟩
 |⟨7,_⟩=>exact⟨by kernel_rfl,by kernel_rfl⟩
 |⟨8,_⟩=>exact⟨by kernel_rfl,by kernel_rfl⟩
 |⟨9,_⟩=>exact⟨by kernel_rfl,by kernel_rfl⟩
 |⟨10,_⟩=>exact⟨by kernel_rfl,by kernel_rfl⟩
 |⟨11,_⟩=>exact⟨by kernel_rfl,by kernel_rfl⟩
 |⟨12,_⟩=>exact⟨by kernel_rfl,by kernel_rfl⟩
 |⟨13,_⟩=>exact⟨by kernel_rfl,by kernel_rfl⟩
 |⟨14,_⟩=>exact⟨by kernel_rfl,by kernel_rfl⟩
 |⟨15,_⟩=>exact⟨by kernel_rfl,by kernel_rfl⟩
 |⟨16,_⟩=>exact⟨by kernel_rfl,by kernel_rfl⟩
 |⟨n+17,h⟩=>omega
theorem aoD {x:List UInt8} (d:QY.contains x=false) {k:Nat} (hk:k<17):QY.getD k []≠x:=by
 rintro rfl;rw[Bool.eq_false_iff]at d;apply d;rw[List.contains_iff_mem,List.getD_eq_getElem?_getD,List.getElem?_eq_getElem (show k<QY.length from hk)];simp
theorem Rt (x:bH) (d:QY.contains x=false): ∀(n k:Nat),k<=17->17-k<n->yR n x ((k:Int)+1)=a6 (.inl ((),()))
 |0,k,e,f=>by omega
 |n+1,k,e,f=>by
  rw[yR];unfold G6;by_cases hk:k<17
  .rw[bJ (qX),(Yy ⟨k,hk⟩).1,aY,dE (Jn (aoD d hk)),bQ];exact Rt x d n (k+1) (by omega) (by omega)
  .rw[dE (Dw)]
theorem adz (x:bH) (d:QY.contains x=false) (a b c:Int): ∀(n k:Nat),k<=17->17-k<n->Ue n ((k:Int)+1) a x b c=a6 (.inl ((),()))
 |0,k,e,f=>by omega
 |n+1,k,e,f=>by
  rw[Ue];unfold akC;by_cases hk:k<17
  .rw[bJ (qX),(Yy ⟨k,hk⟩).2,aY,dE (Jn (aoD d hk)),bQ];exact adz x d a b c n (k+1) (by omega) (by omega)
  .rw[dE (Dw)]
theorem anh {x:List UInt8} (h:aa6.contains x=true):x=[33]\/x=[123]\/x=[125]\/x=[99,97,115,101]\/x=[100,111]\/x=[100,111,110,101]\/x=[101,108,105,102]\/x=[101,108,115,101]\/x=[101,115,97,99]\/x=[102,105]\/x=[102,111,114]\/x=[105,102]\/x=[105,110]\/x=[116,104,101,110]\/x=[117,110,116,105,108]\/x=[119,104,105,108,101]:=by
 simp_all [aa6]
theorem aqE {x:List UInt8} (h:QY.contains x=true):x=[38,38]\/x=[124,124]\/x=[59,59]\/x=[60,60]\/x=[60,60,45]\/x=[62,62]\/x=[60,38]\/x=[62,38]\/x=[60,62]\/x=[62,124]\/x=[60]\/x=[62]\/x=[38]\/x=[59]\/x=[124]\/x=[40]\/x=[41]:=by
 simp_all [QY]
theorem agx (x:bH) (hx:x.length<=10000) (a b:Int): ∃c:UInt8,abT x=a6 ((c.toNat:Int),())/\PD (6,(x,(a,(b,()))))=a6 ([c],()):=by
 cases hw:aa6.contains x with
 |true=>
  rcases anh hw with h|h|h|h|h|h|h|h|h|h|h|h|h|h|h|h
  .subst h;exact⟨33,by kernel_rfl,by kernel_rfl⟩
  .subst h;exact⟨123,by kernel_rfl,by kernel_rfl⟩
  .subst h;exact⟨125,by kernel_rfl,by kernel_rfl⟩
  .subst h;exact⟨99,by kernel_rfl,by kernel_rfl⟩
  .subst h;exact⟨100,by kernel_rfl,by kernel_rfl⟩
  .subst h;exact⟨103,by kernel_rfl,by kernel_rfl⟩
  .subst h;exact⟨101,by kernel_rfl,by kernel_rfl⟩
  .subst h;exact⟨108,by kernel_rfl,by kernel_rfl⟩
  .subst h;exact⟨122,by kernel_rfl,by kernel_rfl⟩
  .subst h;exact⟨102,by kernel_rfl,by kernel_rfl⟩
  .subst h;exact⟨114,by kernel_rfl,by kernel_rfl⟩
  .subst h;exact⟨105,by kernel_rfl,by kernel_rfl⟩
  .subst h;exact⟨107,by kernel_rfl,by kernel_rfl⟩
  .subst h;exact⟨116,by kernel_rfl,by kernel_rfl⟩
  .subst h;exact⟨119,by kernel_rfl,by kernel_rfl⟩
  .subst h;exact⟨119,by kernel_rfl,by kernel_rfl⟩
 |false=>
  refine⟨120, ?_, ?_⟩
  .have e: ∀l,aa6.contains l=true->iG x l=false:=fun l hl=>Jn fun d=>by simp_all
   (unfold abT;delta KC Tu)
   simp only[e [33] rfl,e [123] rfl,e [125] rfl,e [99,97,115,101] rfl,e [100,111] rfl,e [100,111,110,101] rfl,e [101,108,105,102] rfl,e [101,108,115,101] rfl,e [101,115,97,99] rfl,e [102,105] rfl,e [102,111,114] rfl,e [105,102] rfl,e [105,110] rfl,e [116,104,101,110] rfl,e [117,110,116,105,108] rfl,e [119,104,105,108,101] rfl,ac];rfl
  .unfold PD;simp only[show bC 6 2=false from rfl,show bC 6 5=false from rfl,show bC 6 4=false from rfl,show bC 6 6=true from rfl,ax,ac,anY x (az hx (by omega)) hw,aY,aB,aa]
theorem afx (x:bH) (hx:x.length<=10000) (a b:Int): ∃c:UInt8,abS x=a6 ((c.toNat:Int),())/\PD (4,(x,(a,(b,()))))=a6 ([c],())/\c≠120:=by
 cases hw:QY.contains x with
 |true=>
  rcases aqE hw with h|h|h|h|h|h|h|h|h|h|h|h|h|h|h|h|h
  .subst h;exact⟨97,by kernel_rfl,by kernel_rfl,by decide⟩
  .subst h;exact⟨111,by kernel_rfl,by kernel_rfl,by decide⟩
  .subst h;exact⟨121,by kernel_rfl,by kernel_rfl,by decide⟩
  .subst h;exact⟨60,by kernel_rfl,by kernel_rfl,by decide⟩
  .subst h;exact⟨60,by kernel_rfl,by kernel_rfl,by decide⟩
  .subst h;exact⟨60,by kernel_rfl,by kernel_rfl,by decide⟩
  .subst h;exact⟨60,by kernel_rfl,by kernel_rfl,by decide⟩
  .subst h;exact⟨60,by kernel_rfl,by kernel_rfl,by decide⟩
  .subst h;exact⟨60,by kernel_rfl,by kernel_rfl,by decide⟩
  .subst h;exact⟨60,by kernel_rfl,by kernel_rfl,by decide⟩
  .subst h;exact⟨60,by kernel_rfl,by kernel_rfl,by decide⟩
  .subst h;exact⟨60,by kernel_rfl,by kernel_rfl,by decide⟩
  .subst h;exact⟨38,by kernel_rfl,by kernel_rfl,by decide⟩
  .subst h;exact⟨59,by kernel_rfl,by kernel_rfl,by decide⟩
  .subst h;exact⟨124,by kernel_rfl,by kernel_rfl,by decide⟩
  .subst h;exact⟨40,by kernel_rfl,by kernel_rfl,by decide⟩
  .subst h;exact⟨41,by kernel_rfl,by kernel_rfl,by decide⟩
 |false=>
  refine⟨63, ?_, ?_,by decide⟩
  .unfold abS;have:Jp x=a6 (0,()):=by
    unfold Jp;by_cases h0:x=[]
    .rw[bJ (aol h0)]
    .rw[dE (Jn h0),show(1:Int)=((0:Nat):Int)+1 from rfl,Rt x hw bD 0 (by omega) (dC)];rfl
   rw[this];rfl
  .unfold PD;simp only[show bC 4 2=false from rfl,show bC 4 5=false from rfl,show bC 4 4=true from rfl,ac,aa];rw[show(1:Int)=((0:Nat):Int)+1 from rfl,adz x hw 4 a b bD 0 (by omega) (dC)];rfl
theorem aoK (k:Int) (x:bH) (hx:x.length<=10000) (a b:Int): ∃c:UInt8,Nb (k,(x,(a,(b,()))))=a6 ((c.toNat:Int),())/\PD (k,(x,(a,(b,()))))=a6 ([c],())/\(c=120->k=6):=by
 by_cases h2:k=2
 .subst h2;exact⟨110,rfl,rfl,fun h=>absurd h (by decide)⟩
 by_cases h5:k=5
 .subst h5;exact⟨35,rfl,rfl,fun h=>absurd h (by decide)⟩
 by_cases h4:k=4
 .subst h4;obtain⟨c,h,d,f⟩:=afx x hx a b;refine⟨c, ?_,d,fun e=>absurd e f⟩;unfold Nb;simp only[show bC 4 2=false from rfl,show bC 4 4=true from rfl,ac,aa,h,aY]
 by_cases h6:k=6
 .subst h6;obtain⟨c,h,d⟩:=agx x hx a b;refine⟨c, ?_,d,fun _=>rfl⟩;unfold Nb;simp only[show bC 6 2=false from rfl,show bC 6 4=false from rfl,show bC 6 5=false from rfl,show bC 6 6=true from rfl,ac,aa,h,aY]
 refine⟨63, ?_, ?_,fun h=>absurd h (by decide)⟩
 .unfold Nb;simp only[dV h2,dV h4,dV h5,dV h6,ac];rfl
 .unfold PD;simp only[dV h2,dV h4,dV h5,dV h6,ac,aB,aa]
abbrev Lf:=Int×List UInt8×Int×Int×Unit
def dLf:Lf:=(0,([],(0,(0,()))))
def sgn (f:Lf):UInt8:=match PD f with
 |some ([c],_)=>c
 |_=>0
theorem akv {f:Lf} (h:f.2.1.length<=10000):Nb f=a6 (((sgn f).toNat:Int),())/\PD f=a6 ([sgn f],()):=by
 obtain⟨k,x,a,b,u⟩:=f;obtain⟨c,d,e,_⟩:=aoK k x h a b;simp_all [sgn]
theorem aoJ {f:Lf} (h:f.2.1.length<=10000) (hx:sgn f=120):f.1=6:=by
 obtain⟨k,x,a,b,u⟩:=f;obtain⟨c,d,e,g⟩:=aoK k x h a b;simp_all [sgn]
end
section
open Option renaming some → a6, none → a7
open Bool renaming not_true → ax, and_true → ay, not_false → aB, true_and → aK
open List renaming getElem_mem → aG
open Nat renaming le_refl → ae
open Go.RowKit
abbrev Nd:=Int×Int×Int×Int×Unit
def Wi:Nd:=(0,(0,(0,(0,()))))
structure Wh (F:List Lf):Prop where
 len:F.length<=10000
 txt: ∀f∈F,f.2.1.length<=10000
def zN (F:List Lf) (a:Nat):UInt8:=if h:a<F.length then sgn F[a]else 0
def dR (F:List Lf) (a:Nat) (o:bH):Bool:=decide (a<F.length)&&o.contains (zN F a)
theorem VF {F:List Lf} {a:Nat} (h:a<F.length):zN F a=sgn F[a]:=by simp_all [zN]
theorem G5 {F:List Lf} {a:Nat} (h:F.length<=a:=by omega):zN F a=0:=by simp_all [zN,dif_neg]
theorem fJ {F:List Lf} {a:Nat} {o:List UInt8} (h:dR F a o=true):a<F.length:=by
 simp_all [dR]
theorem xI {F:List Lf} {a:Nat} (h:a<F.length):bT F (0,([],(0,(0,())))) (a:Int)=F[a]:=by
 simp_all [bT]
theorem aoo {d:Type} {l:List d} {k:Nat} (h:l.length*k<=140737488355328):dZ l k=true:=by
 grind [dZ,mW]
variable {F:List Lf} (hF:Wh F)
include hF
theorem akw (a k:Nat) (l:List Nd) (u d:Int) (e:a+k<1000000000):uV F (a:Int) l u d (k:Int)=a6 ((F,((a:Int),(l,(u,(d,()))))),(((zN F (a+k)).toNat:Int),())):=by
 have:=hF.len;rw[uV,bQ,show(a:Int)+(k:Int)=((a+k:Nat):Int) by omega];by_cases h:a+k<F.length
 .rw[dE (Dw (by rw[bz];omega)),bJ (dQ),xI h,(akv (hF.txt _ (aG h))).1,aY,VF h]
 .rw[bJ (qX (by rw[bz];omega)),G5];rfl
theorem mg (a:Nat) (l:List Nd) (u d:Int) (e:a<100000000):uV F (a:Int) l u d 0=a6 ((F,((a:Int),(l,(u,(d,()))))),(((zN F a).toNat:Int),())):=akw hF a 0 l u d (by omega)
theorem adA (a:Nat) (l:List Nd) (u d:Int) (e:a<100000000):uV F (a:Int) l u d 1=a6 ((F,((a:Int),(l,(u,(d,()))))),(((zN F (a+1)).toNat:Int),())):=akw hF a 1 l u d (by omega)
omit hF in
theorem amo (S:bH) (c:UInt8):leI 0 (ibW S (c.toNat:Int))=S.contains c:=by
 have:ibW S (c.toNat:Int)=Lib.indexByte S c:=by unfold ibW;congr 1;simp
 rw[this,aiz];by_cases h:(S.takeWhile (· !=c)).length<S.length
 .rw[am h,qX];have:=zC (· !=c) S h
  grind
 .rw[aq h,Dw];have e: ∀x∈S,x≠c:=fun x d=>by
   obtain⟨i,f,rfl⟩:=List.getElem_of_mem d
   grind [Ho]
  grind
theorem SV (a:Nat) (l:List Nd) (u d:Int) (f:a<100000000) (o:bH) (g:o.contains 0=false):Qv F (a:Int) l u d o=a6 ((F,((a:Int),(l,(u,(d,()))))),(dR F a o,())):=by
 rw[Qv,mg hF a l u d f,aY];simp only;unfold dR;by_cases h:zN F a=0
 .rw[h,show(!bC (((0:UInt8).toNat:Nat):Int) 0)=false from rfl,ac,g,Bool.and_false]
 .have i:a<F.length:=by
   grind [G5]
  rw[dV fun e=>h (UInt8.toNat_inj.1 (by simp_all))];simp only[aB,aa];rw[Xg,abR,aY,aY];simp only[amo,decide_eq_true i,aK]
def tk (F:List Lf) (a:Nat) (o:bH):Nat:=if dR F a o=true then a+1 else a
theorem kW (a:Nat) (l:List Nd) (u d:Int) (e:a<100000000) (o:bH) (f:o.contains 0=false):oZ F (a:Int) l u d o=a6 ((F,(((tk F a o:Nat):Int),(l,(u,(d,()))))),(dR F a o,())):=by
 rw[oZ,SV hF a l u d e o f,aY];simp only;unfold tk;cases h:dR F a o with
 |false=>rfl
 |true=>
  simp only[ax,ac,if_true]
  grind [bQ]
def XZ (F:List Lf):Nat->Nat->Nat
 |0,a=>a
 |n+1,a=>if dR F a [110]=true then XZ F n (a+1)else a
def ln (F:List Lf) (a:Nat):Nat:=XZ F (F.length+1) a
omit hF in
theorem X0: ∀(n m a:Nat),F.length<n+a->F.length<m+a->XZ F n a=XZ F m a
 |0,0,a,_,_=>rfl
 |0,m+1,a,h,_=>by
  rw[XZ,XZ,aq];intro d;have:=fJ d;omega
 |n+1,0,a,_,h=>by
  rw[XZ,XZ,aq];intro d;have:=fJ d;omega
 |n+1,m+1,a,e,f=>by
  rw[XZ,XZ];split
  .exact X0 n m (a+1) (by omega) (by omega)
  .rfl
omit hF in
theorem Gg (a:Nat):ln F a=if dR F a [110]=true then ln F (a+1)else a:=by
 grind [ln,XZ,X0]
omit hF in
theorem aaw: ∀(n a:Nat),a<=XZ F n a
 |0,a=>ae _
 |n+1,a=>by
  rw[XZ];split
  .have:=aaw n (a+1);omega
  omega
omit hF in
theorem uw (a:Nat):a<=ln F a:=aaw _ _
omit hF in
theorem ajg: ∀(n a:Nat),a<=F.length->XZ F n a<=F.length
 |0,a,h=>h
 |n+1,a,h=>by
  rw[XZ];split
  .rename_i d
   exact ajg n (a+1) (fJ d)
  .exact h
omit hF in
theorem uZ {a:Nat} (h:a<=F.length):ln F a<=F.length:=ajg _ _ h
theorem NR (l:List Nd) (u d:Int) (v:Bool): ∀(N a:Nat),F.length+1-a<N->a<=F.length->
  Gi N v F (a:Int) u d l=a6 (.inl ((v,()),((),()),((F,((ln F a:Nat):Int),u,d,()),l,())))
 |0,a,h,_=>by omega
 |N+1,a,h,e=>by
  have:=hF.len;rw[Gi,KW,kW hF a l u d (by omega) [110] rfl,aY,Gg];simp only;unfold tk;cases h':dR F a [110]with
  |false=>rfl
  |true=>
   simp only[aa,if_true];exact NR l u d v N (a+1) (by omega) (fJ h')
theorem lG (a:Nat) (l:List Nd) (u d:Int) (e:a<=F.length):mQ F (a:Int) l u d=a6 ((F,(((ln F a:Nat):Int),(l,(u,(d,()))))),(dR F a [110],())):=by
 have:=hF.len;rw[mQ,kW hF a l u d (by omega) [110] rfl,aY];simp only;have hl:tk F a [110]<=F.length:=by
  unfold tk;split
  .rename_i h;exact fJ h
  .exact e
 rw[NR hF l u d _ bD (tk F a [110]) (dC) hl,aY];simp only[dB];have:ln F (tk F a [110])=ln F a:=by
  unfold tk;split
  .rename_i h;rw[Gg a,am h]
  .rfl
 rw[this]
omit hF in
theorem Yh (l:List Nd) (k a u t:Int):gp (bI l [(k,(a,(0,(u,()))))]) (bP (bi l)) ((cO (bI l [(k,(a,(0,(u,()))))]) (0,(0,(0,(0,())))) (bP (bi l))).1,((cO (bI l [(k,(a,(0,(u,()))))]) (0,(0,(0,(0,())))) (bP (bi l))).2.1,(t,((cO (bI l [(k,(a,(0,(u,()))))]) (0,(0,(0,(0,())))) (bP (bi l))).2.2.2.1,()))))=l++[(k,a,t,u,())]:=by
 simp_all [bP,bz,gp,bI,cO]
omit hF in
theorem jJ (l:List Nd) (x:Nd) (hl:l.length<1000000000):dZ (bI l [x]) 32=true/\gm (bI l [x]) (bi l)=true/\mV (bP (bi l)) (bI l [x])=true:=
 ⟨aoo (by grind [bI]),dQ (by rw[bz];omega) (by grind [bz,bI]),oJ (by unfold bI;simp[bP,bz])⟩
omit hF in
theorem Eg (a:Nat) (l:List Nd) (u d k:Int) (h:a<100000000) (hl:l.length<1000000000):Np F (a:Int) l u d k=a6 ((F,(((a+1:Nat):Int),(l++[(k,(a:Int),((a+1:Nat):Int),u,())],(u,(d,()))))),()):=by
 obtain⟨e,f,g⟩:=jJ l (k,((a:Int),(0,(u,())))) hl;rw[Np];simp only[fB,ay,aa,e,f,g,Yh]
 grind [bQ]
omit hF in
theorem kZ (a:Nat) (l:List Nd) (u d:Int) (hl:l.length<1000000000):uX F (a:Int) l u d=a6 ((F,((a:Int),(l++[(18,(a:Int),(a:Int),u,())],(u,(d,()))))),()):=by
 obtain⟨e,f,g⟩:=jJ l (18,((a:Int),(0,(u,())))) hl;rw[uX];simp only[fB,ay,aa,e,f,g,Yh]
def nJ (F:List Lf) (a:Nat) (o:bH):Nat:=tk F a o
def wnL (F:List Lf) (a:Nat) (o:bH) (l:List Nd) (u:Int):List Nd:=if dR F a o=true then l else l++[(18,(a:Int),(a:Int),u,())]
theorem wZ (a:Nat) (l:List Nd) (u d:Int) (e:a<100000000) (hl:l.length<1000000000) (o:bH) (f:o.contains 0=false):o9 F (a:Int) l u d o=a6 ((F,(((nJ F a o:Nat):Int),(wnL F a o l u,(u,(d,()))))),()):=by
 rw[o9,kW hF a l u d e o f,aY];unfold nJ wnL tk;cases h:dR F a o with
 |true=>rfl
 |false=>
  simp_all [kZ,aY]
def yI (F:List Lf) (a:Nat):Bool:=if h:a<F.length then decide (F[a].1=6)else false
omit hF in
theorem TR {a:Nat} (h:yI F a=true):a<F.length:=by
 grind [yI]
omit hF in
theorem xF (a:Nat) (l:List Nd) (u d:Int):Jt F (a:Int) l u d=a6 ((F,((a:Int),(l,(u,(d,()))))),(yI F a,())):=by
 rw[Jt];unfold yI;by_cases h:a<F.length
 .simp_all [eU,bz,dQ,xI,iD]
 simp_all [iy,bz,dif_neg]
def zH (F:List Lf) (a:Nat):Nat:=if yI F a=true then a+1 else a
def wdL (F:List Lf) (a:Nat) (l:List Nd) (u:Int):List Nd:=if yI F a=true then l++[(7,(a:Int),((a+1:Nat):Int),u,())]else l++[(18,(a:Int),(a:Int),u,())]
omit hF in
theorem Pj (a:Nat) (l:List Nd) (u d:Int) (e:a<100000000) (hl:l.length<1000000000):Js F (a:Int) l u d=a6 ((F,(((zH F a:Nat):Int),(wdL F a l u,(u,(d,()))))),()):=by
 rw[Js,xF a l u d,aY];unfold zH wdL;cases h:yI F a with
 |true=>
  simp_all [Eg,aY]
 |false=>
  simp_all [kZ,aY]
def zM (F:List Lf) (a:Nat):Bool:=dR F a [60]||dR F a [35]&&decide (zN F (a+1)=60)
def D9 (F:List Lf) (a:Nat) (d:Int):Bool:=decide (d<200)&&dR F a [123,40,105,119,114,99]
def Fg (F:List Lf) (a:Nat) (d:Int):Bool:=dR F a [120]||(zM F a||D9 F a d)
def nT (F:List Lf) (a:Nat) (d:Int):Bool:=dR F a [33]||Fg F a d
omit hF in
theorem Rq (a:Nat) (c:UInt8) (d:c≠0):bC ((zN F a).toNat:Int) (c.toNat:Int)=dR F a [c]:=by
 unfold dR;rw[iD];by_cases h:a<F.length
 .rw[decide_eq_true h,aK,Bool.eq_iff_iff,decide_eq_true_eq];simp only[List.contains_cons,List.contains_nil,Bool.or_false,beq_iff_eq]
  grind [UInt8.toNat_inj]
 .rw[decide_eq_false h,Bool.false_and,G5];refine decide_eq_false fun e=>d (UInt8.toNat_inj.1 ?_);omega
theorem Bj (a:Nat) (l:List Nd) (u d:Int) (f:a<10000000):Xh F (a:Int) l u d=a6 ((F,((a:Int),(l,(u,(d,()))))),(zM F a,())):=by
 rw[Xh,mg hF a l u d (by omega),aY];simp only;rw[show bC ((zN F a).toNat:Int) 60=dR F a [60] from Rq a 60 (by decide),show bC ((zN F a).toNat:Int) 35=dR F a [35] from Rq a 35 (by decide)];unfold zM;cases dR F a [60]with
 |true=>rfl
 |false=>
  cases dR F a [35]with
  |false=>rfl
  |true=>
   simp only[aa,ac,Bool.false_or,aK];rw[adA hF a l u d (by omega),aY];simp only[iD];congr 3;rw[decide_eq_decide];constructor
   .intro e;exact UInt8.toNat_inj.1 (by grind)
   simp_all
theorem zW (a:Nat) (l:List Nd) (u d:Int) (e:a<10000000):Qx F (a:Int) l u d=a6 ((F,((a:Int),(l,(u,(d,()))))),(D9 F a d,())):=by
 rw[Qx];unfold D9;by_cases h:d<200
 .rw[bJ (eU h),SV hF a l u d (by omega) _ rfl,aY,decide_eq_true h,aK]
 simp_all [iy,decide_eq_false]
theorem MK (a:Nat) (l:List Nd) (u d:Int) (e:a<10000000):WY F (a:Int) l u d=a6 ((F,((a:Int),(l,(u,(d,()))))),(Fg F a d,())):=by
 rw[WY,mg hF a l u d (by omega),aY];simp only;rw[show bC ((zN F a).toNat:Int) 120=dR F a [120] from Rq a 120 (by decide)];unfold Fg;cases dR F a [120]with
 |true=>rfl
 |false=>
  simp only[ac,Bool.false_or];rw[Bj hF a l u d e,aY];simp only;cases zM F a with
  |true=>rfl
  |false=>
   simp_all [zW,aY]
theorem zn (a:Nat) (l:List Nd) (u d:Int) (e:a<10000000):TE F (a:Int) l u d=a6 ((F,((a:Int),(l,(u,(d,()))))),(nT F a d,())):=by
 rw[TE,mg hF a l u d (by omega),aY];simp only;rw[show bC ((zN F a).toNat:Int) 33=dR F a [33] from Rq a 33 (by decide)];unfold nT;cases dR F a [33]with
 |true=>rfl
 |false=>
  simp_all [MK,aY]
end
section
open Option renaming some → a6, none → a7
open Bool renaming false_eq_true → ag, and_true → ay, true_and → aK
open List renaming drop_eq_getElem_cons → aF, drop_of_length_le → aU
open Go.RowKit
theorem Xy (c:UInt8) (o:bH) (d:o.length<1000000): ∀(N k:Nat),o.length-k<N->k<=o.length->
  AA N (c.toNat:Int) o (k:Int)=a6 (if(o.drop k).contains c=true then .inr ((true,()),())else .inl ((),()))
 |0,k,h,_=>by omega
 |N+1,k,h,hk=>by
  rw[AA,abb];by_cases e:k<o.length
  .rw[bJ (eU (by rw[bz];omega)),bJ (dQ),byte_at e,aF e];by_cases h1:o[k]=c
   .simp_all [gB]
   .rw[dE (dV fun h=>h1 (UInt8.toNat_inj.1 (by omega))),bQ,show(k:Int)+1=((k+1:Nat):Int) by omega,Xy c o d N (k+1) (by omega) (by omega)]
    grind
  simp_all [iy,bz,aU]
theorem auC (c:UInt8) (o:bH) (d:o.length<1000000):Nl (c.toNat:Int) o=a6 (o.contains c,()):=by
 have h:=Xy c o d bD 0 (dC) (by omega);rw[Nl,show AA bD (c.toNat:Int) o 0=_ from h,aY,List.drop_zero];cases o.contains c with
 |true=>rfl
 |false=>rfl
abbrev gV (F:List Lf):bH:=F.map sgn
variable {F:List Lf} (hF:Wh F)
include hF
omit hF in
theorem wX {a:Nat} (h:a<F.length):bU (gV F) (a:Int)=((zN F a).toNat:Int):=by
 simp_all [byte_at,VF]
omit hF in
theorem iE (a:Nat) (l:List Nd) (u d:Int) (o:bH) (e:o.length<1000000):lK F (gV F) l (a:Int) u d o=a6 ((F,(gV F,(l,((a:Int),(u,(d,())))))),(dR F a o,())):=by
 rw[lK];unfold dR;by_cases h:a<F.length
 .rw[bJ (eU (by simp_all [bz])),bJ (dQ (by omega) (by simp_all)),wX h,auC _ o e,aY,decide_eq_true h,aK]
 simp_all [iy,bz,decide_eq_false]
theorem Gf (l:List Nd) (u d:Int): ∀(N a:Nat) (v:Int),F.length+1-a<N->a<=F.length->0<=v->v<=a->
  ∃e:Int,Uh N v F (gV F) (a:Int) u d l=a6 (.inl ((e,()),((),()),((F,gV F,((ln F a:Nat):Int),u,d,()),l,())))/\e=v+((ln F a:Nat):Int)-a
 |0,a,v,h,_,_,_=>by omega
 |N+1,a,v,h,f,g,i=>by
  have:=hF.len;rw[Uh,akF,iE a l u d [110] (by simp),aY,Gg];simp only;cases h':dR F a [110]with
  |false=>simp
  |true=>
   simp only[aa,if_true];rw[bQ,bQ,show(a:Int)+1=((a+1:Nat):Int) by omega];obtain⟨e,j,o⟩:=Gf l u d N (a+1) (v+1) (by omega) (fJ h') (by omega) (by omega)
   grind
omit hF in
theorem atb (a:Nat):dR F a [110]=decide (a<ln F a):=by
 rw[Gg];cases h:dR F a [110]with
 |false=>simp
 |true=>
  have:=uw (F:=F) (a+1)
  grind
theorem kS (a:Nat) (l:List Nd) (u d:Int) (e:a<=F.length):qV F (gV F) l (a:Int) u d=a6 ((F,(gV F,(l,(((ln F a:Nat):Int),(u,(d,())))))),(((ln F a:Nat):Int)-a,())):=by
 have:=hF.len;rw[qV];obtain⟨f,g,h⟩:=Gf hF l u d bD a 0 (dC) e (by omega) (by omega);simp_all [aY,dB]
def iP (k:Int):Bool:=decide (9<=k)&&decide (k<=14)||decide (k=16)
omit hF in
theorem acM {k:Int} (d:1<=k) (h2:k<=18):amh k=a6 (iP k,()):=by
 have: ∀n:Fin 19,n.val≠0->amh ((n.val:Nat):Int)=a6 (iP ((n.val:Nat):Int),()):=by decide+kernel
 have:=this ⟨k.toNat,by omega⟩ (by simp only;omega)
 grind
omit hF in
theorem jW (a:Nat) (l:List Nd) (u d:Int) {k:Int} (e:1<=k) (h2:k<=18) (hl:l.length<1000000000) (hd:0<=d) (h:d<1000000000):
  Ag F (gV F) l (a:Int) u d k=a6 ((F,(gV F,(l++[(k,(a:Int),0,u,())],((a:Int),(((l.length:Nat):Int),((if iP k=true then d+1 else d),())))))),(u,())):=by
 have f:dZ (bI l [(k,((a:Int),(0,(u,()))))]) 32=true:=aoo (by grind [bI]);have g:eY .i64 (bi (bI l [(k,((a:Int),(0,(u,()))))])) 1=((l.length:Nat):Int):=by
  grind [bI,bz,iq]
 rw[Ag];simp only[fB,ay,aa,f,acM e h2,aY,g];cases iP k with
 |true=>
  simp only[aa,if_true];rw[bQ];rfl
 |false=>rfl
def WO (l:List Nd) (i:Nat) (t:Int):List Nd:=gp l i ((cO l Wi i).1,(cO l Wi i).2.1,t,(cO l Wi i).2.2.2.1,())
omit hF in
theorem ahi (l:List Nd) (i:Nat) (t:Int):(WO l i t).length=l.length:=sW
omit hF in
theorem rV (a:Nat) (l:List Nd) (u d:Int) (i:Nat) (hi:i<l.length) {k:Int} (hk:(cO l Wi i).1=k) (f:1<=k) (h2:k<=18) (hd:0<=d) (o:d<1000000000):
  nM F (gV F) l (a:Int) ((i:Nat):Int) d u=a6 ((F,(gV F,(WO l i (a:Int),((a:Int),(u,((if iP k=true then d-1 else d),())))))),()):=by
 have g:bP ((i:Nat):Int)=i:=by simp[bP]
 have h: ∀x,gm (gp l i x) ((i:Nat):Int)=true:=fun x=>dQ (by omega) (by rw[sW];omega);have j: ∀x,mV i (gp l i x)=true:=fun x=>oJ (by rw[sW];exact hi);have gX: ∀x,cO (gp l i x) (0,(0,(0,(0,())))) i=x:=fun x=>CE hi
 (rewrite [nM];delta Ia;rw[bJ (dQ),g,bJ (oJ hi)])
 simp only[h,j,gX,aa];have e:(cO l (0,(0,(0,(0,())))) i).1=k:=hk;rw[e,acM f h2,aY];simp only;unfold WO;rw[show Wi=(0,(0,(0,(0,())))) from rfl,e];cases iP k with
 |true=>
  simp only[aa,if_true]
  grind [iq]
 |false=>rfl
omit hF in
theorem Ob (l:List Nd) (x:Nd):cO (l++[x]) Wi l.length=x:=by
 simp_all [cO]
omit hF in
theorem Qr (l:List Nd) (k a u t:Int):WO (l++[(k,a,0,u,())]) l.length t=l++[(k,a,t,u,())]:=by
 grind [WO,Ob,gp]
omit hF in
theorem uA (a:Nat) (l:List Nd) (u d:Int) (hl:l.length<1000000000) (hd:0<=d) (e:d<1000000000):
  rW F (gV F) l (a:Int) u d=a6 ((F,(gV F,(l++[(18,(a:Int),(a:Int),u,())],((a:Int),(u,(d,())))))),()):=by
 rw[rW,jW a l u d (by omega) (by omega) hl hd e,aY];simp only;rw[show iP 18=false from rfl,aq (by simp),rV a _ u d l.length (by simp) (by rw[Ob]) (by omega) (by omega) hd e,aY];simp only[Qr,show iP 18=false from rfl,ag,if_false]
omit hF in
theorem JU (a:Nat) (l:List Nd) (u d:Int) {k:Int} (e:1<=k) (h2:k<=18) (g:iP k=false) (h:a<100000000) (hl:l.length<1000000000) (hd:0<=d) (f:d<1000000000):
  Kv F (gV F) l (a:Int) u d k=a6 ((F,(gV F,(l++[(k,(a:Int),((a+1:Nat):Int),u,())],(((a+1:Nat):Int),(u,(d,())))))),()):=by
 rw[Kv,jW a l u d e h2 hl hd f,aY];simp only;rw[g,aq (by simp),bQ,show(a:Int)+1=((a+1:Nat):Int) by omega,rV (a+1) _ u d l.length (by simp) (by rw[Ob]) e h2 hd f,aY];simp_all [Qr]
omit hF in
theorem xe (a:Nat) (l:List Nd) (u d:Int) (f:a<100000000) (hl:l.length<1000000000) (hd:0<=d) (g:d<1000000000) (o:bH) (e:o.length<1000000):
  lF F (gV F) l (a:Int) u d o=a6 ((F,(gV F,(wnL F a o l u,(((nJ F a o:Nat):Int),(u,(d,())))))),()):=by
 rw[lF,iE a l u d o e,aY];unfold nJ wnL tk;cases h:dR F a o with
 |true=>
  simp only[aa,if_true]
  grind [bQ]
 |false=>
  simp_all [uA,aY]
omit hF in
theorem We (a:Nat) (l:List Nd) (u d:Int) (e:a<100000000) (hl:l.length<1000000000) (hd:0<=d) (f:d<1000000000):
  uY F (gV F) l (a:Int) u d=a6 ((F,(gV F,(wdL F a l u,(((zH F a:Nat):Int),(u,(d,())))))),()):=by
 rw[uY];unfold wdL zH yI;by_cases h:a<F.length
 .rw[bJ (eU (by rw[bz];omega)),bJ (dQ),xI h];simp only[dif_pos h,decide_eq_true_eq];by_cases h6:F[a].1=6
  .rw[bJ (gB h6),JU a l u d (by omega) (by omega) rfl e hl hd f,aY,am h6,am h6]
  simp_all [dV,uA,aY]
 simp_all [iy,bz,uA,aY,dif_neg]
omit hF in
theorem ww (a:Nat) (l:List Nd) (u d:Int) (f:a<10000000):WZ F (gV F) l (a:Int) u d=a6 ((F,(gV F,(l,((a:Int),(u,(d,())))))),(zM F a,())):=by
 rw[WZ,iE a l u d [60] (by simp),aY];unfold zM;simp only;cases dR F a [60]with
 |true=>rfl
 |false=>
  simp only[ac,Bool.false_or];rw[iE a l u d [35] (by simp),aY];simp only;cases dR F a [35]with
  |false=>rfl
  |true=>
   simp only[aa,aK];rw[bQ,show(a:Int)+1=((a+1:Nat):Int) by omega];by_cases h:a+1<F.length
   .rw[bJ (eU (by grind [bz])),bJ (dQ (by omega) (by grind)),wX h];simp only[iD];congr 3;rw[decide_eq_decide];constructor
    .intro e;exact UInt8.toNat_inj.1 (by grind)
    simp_all
   .rw[dE (iy (by grind [bz])),G5];rfl
omit hF in
theorem ug (a:Nat) (l:List Nd) (u d:Int):Qw F (gV F) l (a:Int) u d=a6 ((F,(gV F,(l,((a:Int),(u,(d,())))))),(D9 F a d,())):=by
 rw[Qw,iE a l u d _ (by simp),aY]
 grind [D9,gY]
omit hF in
theorem Qe (a:Nat) (l:List Nd) (u d:Int) (e:a<10000000):ami F (gV F) l (a:Int) u d=a6 ((F,(gV F,(l,((a:Int),(u,(d,())))))),(Fg F a d,())):=by
 rw[ami,iE a l u d [120] (by simp),aY];unfold Fg;simp only;cases dR F a [120]with
 |true=>rfl
 |false=>
  simp only[ac,Bool.false_or];rw[ww a l u d e,aY];simp only;cases zM F a with
  |true=>rfl
  |false=>
   simp_all [ug,aY]
omit hF in
theorem DX (a:Nat) (l:List Nd) (u d:Int) (e:a<10000000):Nk F (gV F) l (a:Int) u d=a6 ((F,(gV F,(l,((a:Int),(u,(d,())))))),(nT F a d,())):=by
 rw[Nk,iE a l u d [33] (by simp),aY];unfold nT;simp only;cases dR F a [33]with
 |true=>rfl
 |false=>
  simp_all [Qe,aY]
end
section
open Option renaming some → a6, none → a7
open List renaming append_assoc → ai
open Nat renaming le_refl → ae
open Go.RowKit
abbrev opn (k:Int) (a:Nat) (u:Int):Nd:=(k,((a:Int),(0,(u,()))))
abbrev PR (F:List Lf) (a:Nat) (l:List Nd) (u d:Int):List Lf×Int×List Nd×Int×Int×Unit:=(F,((a:Int),(l,(u,(d,())))))
abbrev RR (F:List Lf) (a:Nat) (l:List Nd) (u d:Int):List Lf×List UInt8×List Nd×Int×Int×Int×Unit:=(F,(gV F,(l,((a:Int),(u,(d,()))))))
theorem jX (l m:List Nd) (k a u t:Int):gp (bI l [(k,(a,(0,(u,()))))]++m) (bP (bi l)) ((cO (bI l [(k,(a,(0,(u,()))))]++m) (0,(0,(0,(0,())))) (bP (bi l))).1,((cO (bI l [(k,(a,(0,(u,()))))]++m) (0,(0,(0,(0,())))) (bP (bi l))).2.1,(t,((cO (bI l [(k,(a,(0,(u,()))))]++m) (0,(0,(0,(0,())))) (bP (bi l))).2.2.2.1,()))))=l++(k,a,t,u,())::m:=by
 have d:bP (bi l)=l.length:=by simp[bP,bz]
 simp_all [cO,bI,gp]
theorem nS (l m:List Nd) (x:Nd):gm (bI l [x]++m) (bi l)=true/\mV (bP (bi l)) (bI l [x]++m)=true:=
 ⟨dQ (by rw[bz];omega) (by grind [bz,bI]),oJ (by unfold bI;simp[bP,bz])⟩
theorem lU (l m:List Nd) (k a u t:Int):WO ((l++[(k,a,0,u,())])++m) l.length t=l++(k,a,t,u,())::m:=by
 unfold WO;simp_all [cO,gp]
theorem lY (l m:List Nd) (k a u:Int):(cO ((l++[(k,a,0,u,())])++m) Wi l.length).1=k:=by
 simp_all [cO]
def LfG (F:List Lf) (d:Int) (f:Nat):Prop:=d=6\/d=7-> ∃h:f<F.length,F[f].1=6
def RdG (F:List Lf) (f t:Nat) (m:List Nd):Prop:= ∃p,(p=f\/p=f+1/\dR F f [35]=true)/\dR F p [60]=true/\((t=p+2/\ ∃u,m=[(7,((p+1:Nat):Int),((p+2:Nat):Int),u,())])\/(t=p+1/\ ∃u,m=[(18,((p+1:Nat):Int),((p+1:Nat):Int),u,())]))
inductive Tr (F:List Lf):Nat->Nat->Int->Nat->List Nd->Prop
 |nil {a b:Nat} {u:Int} {k:Nat} (h:a<=b):Tr F a b u k []
 |leaf {a b f t:Nat} {u:Int} {k:Nat} {kd:Int} {m:List Nd} (h1:a<=f) (hk:kd=18/\t=f\/(kd=6\/kd=7\/kd=17)/\t=f+1) (hf:LfG F kd f) (h2:Tr F t b u (k+1) m):Tr F a b u k ((kd,(f:Int),(t:Int),u,())::m)
 |node {a b f t:Nat} {u:Int} {k:Nat} {kd:Int} {m n:List Nd} (h1:a<=f) (hk:2<=kd/\kd<=16/\kd≠6/\kd≠7) (h8:kd=8->RdG F f t m) (h:Tr F f t (k:Int) (k+1) m) (h2:Tr F t b u (k+1+m.length) n):Tr F a b u k ((kd,(f:Int),(t:Int),u,())::(m++n))
section
variable {F:List Lf}
theorem Tr.le {a b:Nat} {u:Int} {k:Nat} {m:List Nd} (h:Tr F a b u k m):a<=b:=by
 induction h with
 |nil h=>exact h
 |leaf h1 hk _ _ d=>omega
 |node h1 _ _ _ _ ih1 e=>omega
theorem Tr.wide {a b:Nat} {u:Int} {k:Nat} {m:List Nd} (h:Tr F a b u k m): ∀{e f:Nat},e<=a->b<=f->Tr F e f u k m:=by
 induction h with
 |nil h=>exact fun g o=>.nil (by omega)
 |leaf g hk hf _ i=>exact fun j d=>.leaf (by omega) hk hf (i (ae _) d)
 |node g hk h8 h _ _ l=>exact fun j d=>.node (by omega) hk h8 h (l (ae _) d)
theorem Tr.app {a b:Nat} {u:Int} {k:Nat} {m:List Nd} (h:Tr F a b u k m): ∀{c e j:Nat} {n:List Nd},Tr F c e u j n->b<=c->j=k+m.length->Tr F a e u k (m++n):=by
 induction h with
 |nil h=>exact fun d q g=>by subst g;exact d.wide (by omega) (ae _)
 |leaf d hk hf _ l=>exact fun g i o=>.leaf d hk hf (l g i (by grind))
 | @node a b f t u k kd m n' d hk h8 h _ _ p=>
  intro c e j n g i o;rw[List.cons_append,ai];exact .node d hk h8 h (p g i (by grind))
theorem Tr.ap {a b c e:Nat} {u:Int} {k j:Nat} {m n:List Nd} (h:Tr F a b u k m) (h2:Tr F c e u j n) (d:b<=c:=by omega) (f:j=k+m.length:=by first|omega|grind):Tr F a e u k (m++n):=h.app h2 d f
theorem Tr.apA {a b c e:Nat} {u:Int} {k:Nat} {m n:List Nd} (h:Tr F a b u k m) (h2: ∀j,Tr F c e u j n) (d:b<=c:=by omega):Tr F a e u k (m++n):=h.app (h2 _) d rfl
theorem Tr.one {a b f t:Nat} {u:Int} {k j:Nat} {d:Int} {m:List Nd} (h:Tr F f t (j:Int) (j+1) m) (e:a<=f) (h2:t<=b) (hk:2<=d/\d<=16/\d≠6/\d≠7) (g:j=k) (i:d=8->RdG F f t m:=by intro h;exfalso;omega):Tr F a b u k ((d,(f:Int),(t:Int),u,())::m):=by
 subst g;have:=Tr.node (n:=[]) (u:=u) e hk i h (.nil h2);simp_all
theorem Tr.mis {a b f:Nat} {u:Int} {k:Nat} (d:a<=f) (h2:f<=b):Tr F a b u k [(18,(f:Int),(f:Int),u,())]:=.leaf d (.inl ⟨rfl,rfl⟩) (fun h=>by exfalso;omega) (.nil h2)
theorem Tr.lf {a b f:Nat} {u:Int} {k:Nat} {d:Int} (e:a<=f) (h2:f+1<=b) (hk:d=6\/d=7\/d=17) (hf:LfG F d f):Tr F a b u k [(d,(f:Int),((f+1:Nat):Int),u,())]:=.leaf e (.inr ⟨hk,rfl⟩) hf (.nil h2)
end
structure EU (F:List Lf) (a:Nat) (l:List Nd) (d:Int) (K:Nat):Prop where
 len:a<=F.length
 nod:l.length<=16*a+K
 d0:0<=d
 d1:d<=200
structure All (F:List Lf) (n:Nat):Prop where
 list: ∀(a:Nat) (l:List Nd) (u d:Int) (r r':Nat),16*(F.length-a)+12<n->n<=r->n<=r'->EU F a l d 110->nT F a d=true->
  ∃(a':Nat) (m:List Nd),(eQ r).q71 F (a:Int) (bI l [opn 2 a u]) (bi l) d=a6 (PR F a' (bI l [opn 2 a u]++m) (bi l) d,())/\
   (fO r').q52 F (gV F) l (a:Int) u d=a6 (RR F a' (l++(2,(a:Int),(a':Int),u,())::m) u d,())/\a<a'/\a'<=F.length/\m.length+1<=16*(a'-a)/\Tr F a a' (bi l) (l.length+1) m
 andor: ∀(a:Nat) (l:List Nd) (u d:Int) (r r':Nat),16*(F.length-a)+11<n->n<=r->n<=r'->EU F a l d 111->nT F a d=true->
  ∃(a':Nat) (m:List Nd),(eQ r).q105 F (a:Int) (bI l [opn 3 a u]) (bi l) d=a6 (PR F a' (bI l [opn 3 a u]++m) (bi l) d,())/\
   (fO r').q88 F (gV F) l (a:Int) u d=a6 (RR F a' (l++(3,(a:Int),(a':Int),u,())::m) u d,())/\a<a'/\a'<=F.length/\m.length+2<=16*(a'-a)/\Tr F a a' (bi l) (l.length+1) m
 pipe: ∀(a:Nat) (l:List Nd) (u d:Int) (r r':Nat),16*(F.length-a)+10<n->n<=r->n<=r'->EU F a l d 112->nT F a d=true->
  ∃(a':Nat) (m:List Nd),(eQ r).q148 F (a:Int) l u d=a6 (PR F a' (l++m) u d,())/\
   (fO r').q121 F (gV F) l (a:Int) u d=a6 (RR F a' (l++m) u d,())/\a<a'/\a'<=F.length/\m.length+2<=16*(a'-a)/\Tr F a a' u l.length m
 nopipe: ∀(a:Nat) (l:List Nd) (u d:Int) (r:Nat),10<n->n<=r->EU F a l d 130->nT F a d=false->
  (eQ r).q148 F (a:Int) l u d=a6 (PR F a (l++[(18,(a:Int),(a:Int),u,())]) u d,())
 command: ∀(a:Nat) (l:List Nd) (u d:Int) (r r':Nat),16*(F.length-a)+9<n->n<=r->n<=r'->EU F a l d 113->
  ∃(a':Nat) (m:List Nd),(eQ r).q177 F (a:Int) l u d=a6 (PR F a' (l++m) u d,())/\
   (fO r').q155 F (gV F) l (a:Int) u d=a6 (RR F a' (l++m) u d,())/\a<=a'/\a'<=F.length/\(m.length<=16*(a'-a)+1/\Tr F a a' u l.length m)/\(Fg F a d=true->a<a'/\m.length+3<=16*(a'-a))
 compound: ∀(a:Nat) (l:List Nd) (u d:Int) (r r':Nat),16*(F.length-a)+8<n->n<=r->n<=r'->EU F a l d 113->D9 F a d=true->
  ∃(a':Nat) (m:List Nd),(eQ r).q219 F (a:Int) l u d=a6 (PR F a' (l++m) u d,())/\
   (fO r').q186 F (gV F) l (a:Int) u d=a6 (RR F a' (l++m) u d,())/\a<a'/\a'<=F.length/\m.length+3<=16*(a'-a)/\Tr F a a' u l.length m
 body: ∀(a:Nat) (l:List Nd) (u d:Int) (r r':Nat),16*(F.length-a)+13<n->n<=r->n<=r'->EU F a l d 110->
  ∃(a':Nat) (m:List Nd),(eQ r).q268 F (a:Int) l u d=a6 (PR F a' (l++m) u d,())/\
   (fO r').q230 F (gV F) l (a:Int) u d=a6 (RR F a' (l++m) u d,())/\a<=a'/\a'<=F.length/\m.length<=16*(a'-a)+1/\Tr F a a' u l.length m
variable {F:List Lf} (hF:Wh F)
include hF
theorem ad9 {n:Nat} (h:All F n) (a:Nat) (l:List Nd) (u d:Int) (r f:Nat) (y:16*(F.length-a)+13<n+1) (hr:n+1<=r) (z:n+1<=f) (hp:EU F a l d 110):
  ∃(e:Nat) (m:List Nd),(eQ r).q268 F (a:Int) l u d=a6 (PR F e (l++m) u d,())/\
   (fO f).q230 F (gV F) l (a:Int) u d=a6 (RR F e (l++m) u d,())/\a<=e/\e<=F.length/\m.length<=16*(e-a)+1/\Tr F a e u l.length m:=by
 obtain⟨i,A,p,s⟩:=hp;have B:=hF.len;obtain⟨q,rfl⟩: ∃q,r=q+1:=⟨r-1,by omega⟩;obtain⟨g,rfl⟩: ∃g,f=g+1:=⟨f-1,by omega⟩;have j:=uw (F:=F) a;have o:=uZ (F:=F) i;show ∃(e:Nat) (m:List Nd),aib (eQ q) F (a:Int) l u d=_/\ah2 (fO g) F (gV F) l (a:Int) u d=_/\_;rw[aib,ah2,lG hF a l u d i,kS hF a l u d i,aY,aY];simp only;rw[zn hF (ln F a) l u d (by omega),DX (ln F a) l u d (by omega),aY,aY];simp only;cases hb:nT F (ln F a) d with
 |true=>
  obtain⟨D,E,G⟩:=jJ l (opn 2 (ln F a) u) (by omega);obtain⟨e,m,I,J,K,v,x⟩:=h.list (ln F a) l u d q g (by omega) (by omega) (by omega) ⟨o,by omega,p,s⟩ hb;obtain⟨L,M⟩:=nS l m (opn 2 (ln F a) u);refine⟨e,(2,((ln F a:Nat):Int),(e:Int),u,())::m, ?_, ?_,by omega,v,by grind,x.2.one j (ae _) (by omega) rfl⟩
  .simp_all [fB,aY,jX]
  simp_all [aY]
 |false=>
  refine⟨ln F a,[(18,((ln F a:Nat):Int),((ln F a:Nat):Int),u,())], ?_, ?_,j,o,by simp,.mis j (ae _)⟩
  .simp only[ac]
   grind [kZ,aY]
  .simp only[ac]
   grind [uA,aY]
end
section
open Bool renaming false_eq_true → ag
open List renaming append_assoc → ai, length_append → aj
open Nat renaming le_refl → ae
open Go.RowKit
variable {F:List Lf} (hF:Wh F)
include hF
omit hF in
theorem lw {a:Nat} {o:List UInt8} (h:dR F a o=true):tk F a o=a+1:=by unfold tk;rw[am h]
omit hF in
theorem uK {a:Nat} {o:List UInt8} (h:dR F a o=false):tk F a o=a:=by unfold tk;rw[aq (by rw[h];simp)]
theorem DZ {n:Nat} (h:All F n) {q q':Nat} (f:n<=q) (g:n<=q') (u d v:Int) (hd:0<=d/\d<=200): ∀(N a:Nat) (L:List Nd),F.length-a<N->a<=F.length->16*(F.length-a)+10<n->L.length<=16*a+112->
  ∃(e:Nat) (m:List Nd),Gh (eQ q) N F (a:Int) u d L=some (.inl ((),((),()),((F,(e:Int),u,d,()),L++m,())))/\
   Ug (fO q') N v F (gV F) (a:Int) u d L=some (.inl ((v,()),((),()),((F,gV F,(e:Int),u,d,()),L++m,())))/\a<=e/\e<=F.length/\m.length<=16*(e-a)/\Tr F a e u L.length m
 |0,a,L,x,_,_,_=>by omega
 |N+1,a,L,x,y,I,J=>by
  have K:=hF.len;rw[Gh,KU,Ug,akE,kW hF a L u d (by omega) [97,111] rfl,iE a L u d [97,111] (by simp),aY,aY];simp only;cases hb:dR F a [97,111]with
  |false=>
   rw[uK hb];exact⟨a,[],by simp,by simp,ae _,y,by simp,.nil (ae _)⟩
  |true=>
   have M:=fJ hb;have O:=uw (F:=F) (a+1);have i:=uZ (F:=F) (a:=a+1) (by omega);rw[lw hb];simp only[aa];rw[bQ,show(a:Int)+1=((a+1:Nat):Int) by omega,lG hF (a+1) L u d (by omega),kS hF (a+1) L u d (by omega),aY,aY];simp only;rw[DX (ln F (a+1)) L u d (by omega),aY];simp only;cases hp:nT F (ln F (a+1)) d with
   |true=>
    obtain⟨z,s,A,B,S,D,E⟩:=h.pipe (ln F (a+1)) L u d q q' (by omega) f g ⟨i,by omega,hd.1,hd.2⟩ hp;rw[A,aY];simp only[aa];rw[B,aY];simp only;obtain⟨e,m,j,l,G,o,p⟩:=DZ h f g u d v hd N z (L++s) (by omega) D (by omega) (by rw[aj];omega);exact⟨e,s++m,by rw[j,ai],by rw[l,ai],by omega,o,by rw[aj];omega,(E.2.wide (by omega) (ae _)).app p.2 (ae _) (aj ..)⟩
   |false=>
    rw[h.nopipe (ln F (a+1)) L u d q (by omega) f ⟨i,by omega,hd.1,hd.2⟩ hp,aY];simp only[ac];rw[uA (ln F (a+1)) L u d (by omega) hd.1 (by omega),aY];simp only;obtain⟨e,m,j,l,G,o,p⟩:=DZ h f g u d v hd N (ln F (a+1)) (L++[(18,((ln F (a+1):Nat):Int),((ln F (a+1):Nat):Int),u,())]) (by omega) i (by omega) (by rw[aj,List.length_singleton];omega);exact⟨e,[(18,((ln F (a+1):Nat):Int),((ln F (a+1):Nat):Int),u,())]++m,by rw[j,ai],by rw[l,ai],by omega,o,by rw[aj,List.length_singleton];omega,(Tr.mis (by omega) (ae _)).app p.2 (ae _) (aj ..)⟩
theorem Zu {n:Nat} (h:All F n) (a:Nat) (l:List Nd) (u d:Int) (r g:Nat) (J:16*(F.length-a)+11<n+1) (hr:n+1<=r) (K:n+1<=g) (hp:EU F a l d 111) (hb:nT F a d=true):
  ∃(e:Nat) (m:List Nd),(eQ r).q105 F (a:Int) (bI l [opn 3 a u]) (bi l) d=some (PR F e (bI l [opn 3 a u]++m) (bi l) d,())/\
   (fO g).q88 F (gV F) l (a:Int) u d=some (RR F e (l++(3,(a:Int),(e:Int),u,())::m) u d,())/\a<e/\e<=F.length/\m.length+2<=16*(e-a)/\Tr F a e (bi l) (l.length+1) m:=by
 obtain⟨x,L,i,o⟩:=hp;have M:=hF.len;obtain⟨q,rfl⟩: ∃q,r=q+1:=⟨r-1,by omega⟩;obtain⟨f,rfl⟩: ∃f,g=f+1:=⟨g-1,by omega⟩;show ∃(e:Nat) (m:List Nd),ahX (eQ q) F (a:Int) _ _ d=_/\apP (fO f) F (gV F) l (a:Int) u d=_/\_;have j:(bI l [opn 3 a u]).length=l.length+1:=by unfold bI;simp
 obtain⟨y,p,z,s,N,A,B⟩:=h.pipe a (bI l [opn 3 a u]) (bi l) d q f (by omega) (by omega) (by omega) ⟨x,by rw[j];omega,i,o⟩ hb;obtain⟨e,m,D,v,O,E,G⟩:=DZ hF h (q:=q) (q':=f) (by omega) (by omega) (bi l) d u ⟨i,o⟩ bD y (bI l [opn 3 a u]++p) (dC) A (by omega) (by rw[aj,j];omega);have I:bI l [opn 3 a u]=l++[(3,(a:Int),0,u,())]:=rfl;refine⟨e,p++m, ?_, ?_,by omega,E,by rw[aj];omega,(j▸B.2).app G.2 (ae _) (by rw[aj,j])⟩
 .rw[ahX,z,aY];simp only;rw[D,aY];simp only[dB,ai]
 .rw[apP,jW a l u d (by omega) (by omega) (by omega) i (by omega),aY];simp only[show iP 3=false from rfl,ag,if_false];rw[I]at s v;rw[show((l.length:Nat):Int)=bi l from rfl,s,aY];simp only;rw[v,aY];simp only[dB];rw[ai (l++_),show bi l=((l.length:Nat):Int) from rfl,rV e _ u d l.length (by simp only[aj,List.length_singleton];omega) (lY l _ 3 _ _) (by omega) (by omega) i (by omega),aY];simp only[lU,show iP 3=false from rfl,ag,if_false]
end
section
open Option renaming some → a6, none → a7
open Bool renaming false_eq_true → ag, not_true → ax, and_true → ay, not_false → aB
open List renaming append_assoc → ai, length_append → aj
open Nat renaming le_refl → ae
open Go.RowKit
variable {F:List Lf} (hF:Wh F)
include hF
theorem Q8 {n:Nat} (h:All F n) {q q':Nat} (i:n<=q) (j:n<=q') (u d v f g:Int) (hd:0<=d/\d<=200): ∀(N a:Nat) (L:List Nd),F.length-a<N->a<=F.length->16*(F.length-a)+9<n+16->L.length<=16*a+114->
  ∃(e:Nat) (m:List Nd),qY (eQ q) N f g F (a:Int) u d L=a6 (.inl ((),((f,g,()),(),(),()),((),(F,(e:Int),u,d,()),L++m,())))/\
   Cc (fO q') N v F (gV F) (a:Int) u d L=a6 (.inl ((v,()),((),()),((F,gV F,(e:Int),u,d,()),L++m,())))/\a<=e/\e<=F.length/\m.length<=16*(e-a)/\Tr F a e u L.length m
 |0,a,L,o,_,_,_=>by omega
 |N+1,a,L,o,p,G,I=>by
  have J:=hF.len;rw[qY,vY,Cc,adB,kW hF a L u d (by omega) [124] rfl,iE a L u d [124] (by simp),aY,aY];simp only;cases hb:dR F a [124]with
  |false=>
   rw[uK hb];exact⟨a,[],by simp,by simp,ae _,p,by simp,.nil (ae _)⟩
  |true=>
   have K:=fJ hb;have M:=uw (F:=F) (a+1);have s:=uZ (F:=F) (a:=a+1) (by omega);rw[lw hb];simp only[aa];rw[bQ,show(a:Int)+1=((a+1:Nat):Int) by omega,lG hF (a+1) L u d (by omega),kS hF (a+1) L u d (by omega),aY,aY];simp only;obtain⟨x,l,y,z,O,A,B,_⟩:=h.command (ln F (a+1)) L u d q q' (by omega) i j ⟨s,by omega,hd.1,hd.2⟩;rw[y,z,aY,aY];simp only;obtain⟨e,m,S,U,V,D,E⟩:=Q8 h i j u d v f g hd N x (L++l) (by omega) A (by omega) (by grind);exact⟨e,l++m,by simp_all,by simp_all,by omega,D,by grind,(B.2.wide (by omega) (ae _)).app E.2 (ae _) (aj ..)⟩
theorem Yi {n:Nat} (a:Nat) (l:List Nd) (u d:Int) (r:Nat) (hr:n+1<=r) (hp:EU F a l d 130) (hb:nT F a d=false):
  (eQ r).q148 F (a:Int) l u d=a6 (PR F a (l++[(18,(a:Int),(a:Int),u,())]) u d,()):=by
 obtain⟨e,f,g,h⟩:=hp;have i:=hF.len;obtain⟨q,rfl⟩: ∃q,r=q+1:=⟨r-1,by omega⟩;show WU (eQ q) F (a:Int) l u d=_;rw[WU,zn hF a l u d (by omega),aY,hb];simp only[aB,aa]
 grind [kZ,aY]
theorem afC {n:Nat} (h:All F n) (a:Nat) (l:List Nd) (u d:Int) (r p:Nat) (V:16*(F.length-a)+10<n+1) (hr:n+1<=r) (W:n+1<=p) (hp:EU F a l d 112) (hb:nT F a d=true):
  ∃(e:Nat) (m:List Nd),(eQ r).q148 F (a:Int) l u d=a6 (PR F e (l++m) u d,())/\
   (fO p).q121 F (gV F) l (a:Int) u d=a6 (RR F e (l++m) u d,())/\a<e/\e<=F.length/\m.length+2<=16*(e-a)/\Tr F a e u l.length m:=by
 obtain⟨X,Y,s,x⟩:=hp;have Z:=hF.len;obtain⟨q,rfl⟩: ∃q,r=q+1:=⟨r-1,by omega⟩;obtain⟨f,rfl⟩: ∃f,p=f+1:=⟨p-1,by omega⟩;have y:(bI l [opn 4 a u]).length=l.length+1:=by unfold bI;simp
 have D:bI l [opn 4 a u]=l++[(4,(a:Int),0,u,())]:=rfl;obtain⟨E,_,_⟩:=jJ l (opn 4 a u) (by omega);have z:tk F a [33]<=F.length/\a<=tk F a [33]:=by
  unfold tk;split
  .rename_i G;exact⟨fJ G,by omega⟩
  omega
 obtain⟨v,i,I,o,e3,J,K,e6⟩:=h.command (tk F a [33]) (bI l [opn 4 a u]) (bi l) d q f (by omega) (by omega) (by omega) ⟨z.1,by rw[y];omega,s,x⟩;have ab:a<v/\i.length+1+2<=16*(v-a):=by
  cases h33:dR F a [33]with
  |true=>grind [lw]
  |false=>
   simp_all [uK,nT]
 obtain⟨e,m,L,A,f3,M,N⟩:=Q8 hF h (q:=q) (q':=f) (by omega) (by omega) (bi l) d u (bi l) u ⟨s,x⟩ bD v (bI l [opn 4 a u]++i) (dC) J (by omega) (by grind);obtain⟨O,S⟩:=nS l (i++m) (opn 4 a u);refine⟨e,(4,(a:Int),(e:Int),u,())::(i++m), ?_, ?_,by omega,M,by grind,Tr.one (((y▸K.2).wide z.2 (ae _)).app N.2 (ae _) (by grind)) (ae _) (ae _) (by omega) rfl⟩
 .show WU (eQ q) F (a:Int) l u d=_;rw[WU,zn hF a l u d (by omega),aY,hb];simp only[ax,ac,fB,ay,aa,E];rw[kW hF a _ _ d (by omega) [33] rfl,aY];simp only;rw[I,aY];simp only;rw[L,aY];simp only[dB,ai,O,S,aa,jX]
 .show ahY (fO f) F (gV F) l (a:Int) u d=_;rw[ahY,jW a l u d (by omega) (by omega) (by omega) s (by omega),aY];simp only[show iP 4=false from rfl,ag,if_false];rw[iE a _ _ d [33] (by simp),aY];simp only;rw[D]at o A;have B:aZ (Cc (fO f) bD u F (gV F) (v:Int) (bi l) d (l++[(4,(a:Int),0,u,())]++i)) (fun U=>dB U (fun g=>
    aZ (nM g.2.2.1.1 g.2.2.1.2.1 g.2.2.2.1 g.2.2.1.2.2.1 g.2.2.1.2.2.2.1 g.2.2.1.2.2.2.2.1 g.1.1) fun j=>
     a6 ((j.1.1,(j.1.2.1,(j.1.2.2.1,(j.1.2.2.2.1,(j.1.2.2.2.2.1,(j.1.2.2.2.2.2.1,())))))),())) (fun b4=>a7))=a6 (RR F e (l++(4,(a:Int),(e:Int),u,())::(i++m)) u d,()):=by
   rw[A,aY];simp only[dB];rw[ai (l++_),show bi l=((l.length:Nat):Int) from rfl,rV e _ u d l.length (by simp) (lY l _ 4 _ _) (by omega) (by omega) s (by omega),aY];simp only[lU,show iP 4=false from rfl,ag,if_false]
  cases h33:dR F a [33]with
  |true=>
   rw[lw h33]at o;simp only[aa];rw[bQ,show(a:Int)+1=((a+1:Nat):Int) by omega,show((l.length:Nat):Int)=bi l from rfl,o,aY];exact B
  |false=>
   rw[uK h33]at o;simp only[ac];rw[show((l.length:Nat):Int)=bi l from rfl,o,aY];exact B
theorem QL {n:Nat} (h:All F n) {q q':Nat} (D:n<=q) (E:n<=q') (u d v:Int) (hd:0<=d/\d<=200): ∀(N a:Nat) (L:List Nd),F.length-a<N->a<=F.length->16*(F.length-a)+11<n->L.length<=16*a+111->nT F a d=true->
  ∃(f e:Nat) (m g:List Nd),AB (eQ q) N F (a:Int) u d L=a6 (.inl ((),((),()),((F,(f:Int),u,d,()),L++m,())))/\
   (fO q').q88 F (gV F) L (a:Int) u d=a6 (RR F e (L++g) u d,())/\
   yT (fO q') N v F (gV F) (e:Int) u d (L++g)=a6 (.inl ((v,()),((),()),((F,gV F,(f:Int),u,d,()),L++m,())))/\a<f/\f<=F.length/\m.length+1<=16*(f-a)/\Tr F a f u L.length m
 |0,a,L,G,_,_,_,_=>by omega
 |N+1,a,L,G,I,J,hL,M=>by
  have af:=hF.len;obtain⟨e,g,O,s,S,x,U⟩:=h.andor a L u d q q' J D E ⟨I,by omega,hd.1,hd.2⟩ M;obtain⟨V,_,_⟩:=jJ L (opn 3 a u) (by omega);obtain⟨W,X⟩:=nS L g (opn 3 a u);have hP: ∀K:Option _,AB (eQ q) (N+1) F (a:Int) u d L=K->AB (eQ q) (N+1) F (a:Int) u d L=K:=fun _ h=>h;rw[AB,VT];simp only[fB,ay,aa,V];rw[O,aY];simp only[W,X,aa,jX];rw[kW hF e _ u d (by omega) [59,38] rfl,aY];simp only;have Y:(L++(3,(a:Int),(e:Int),u,())::g).length=L.length+1+g.length:=by grind
  have stop: ∀b:Nat,e<=b->b<=F.length->((3,(a:Int),(e:Int),u,())::g).length+1<=16*(b-a)/\Tr F a b u L.length ((3,(a:Int),(e:Int),u,())::g):=fun b y z=>⟨by grind,U.2.one (ae _) y (by omega) rfl⟩;have next: ∀b:Nat,e<=b->b<=F.length->nT F b d=true->e<b-> ∃(f:Nat) (m:List Nd) (l:Nat) (o:List Nd),
    AB (eQ q) N F (b:Int) u d (L++(3,(a:Int),(e:Int),u,())::g)=a6 (.inl ((),((),()),((F,(f:Int),u,d,()),L++m,())))/\
    (fO q').q88 F (gV F) (L++(3,(a:Int),(e:Int),u,())::g) (b:Int) u d=a6 (RR F l ((L++(3,(a:Int),(e:Int),u,())::g)++o) u d,())/\
    yT (fO q') N v F (gV F) (l:Int) u d ((L++(3,(a:Int),(e:Int),u,())::g)++o)=a6 (.inl ((v,()),((),()),((F,gV F,(f:Int),u,d,()),L++m,())))/\a<f/\f<=F.length/\m.length+1<=16*(f-a)/\Tr F a f u L.length m:=fun b y z i A=>by
   obtain⟨f,l,m,o,f1,Z,f3,f4,f5,f6⟩:=QL h D E u d v hd N b (L++(3,(a:Int),(e:Int),u,())::g) (by omega) z (by omega) (by rw[Y];omega) i;exact⟨f,((3,(a:Int),(e:Int),u,())::g)++m,l,o,by simp_all,Z,by simp_all,by omega,f5,by grind,(stop b y z).2.app f6.2 (ae _) (aj ..)⟩
  cases hs:dR F e [59,38]with
  |true=>
   have A:=fJ hs;have ab:=uw (F:=F) (e+1);have j:=uZ (F:=F) (a:=e+1) (by omega);rw[lw hs];simp only[aa];rw[lG hF (e+1) _ u d (by omega),aY];simp only;rw[zn hF _ _ u d (by omega),aY];simp only;cases i:nT F (ln F (e+1)) d with
   |false=>
    refine⟨ln F (e+1),e,_,_,rfl,s, ?_,by omega,j,stop _ (by omega) j⟩;rw[yT,VR,iE e _ u d [59,38] (by simp),aY,hs];simp only[aa];rw[bQ,show(e:Int)+1=((e+1:Nat):Int) by omega,kS hF (e+1) _ u d (by omega),aY]
    grind [DX,aY]
   |true=>
    obtain⟨f,m,l,o,g1,g2,g3,g4,g5,g6⟩:=next _ (by omega) j i (by omega)
    refine⟨f,e,m,_,g1,s, ?_,g4,g5,g6⟩;rw[yT,VR,iE e _ u d [59,38] (by simp),aY,hs];simp only[aa];rw[bQ,show(e:Int)+1=((e+1:Nat):Int) by omega,kS hF (e+1) _ u d (by omega),aY];simp only;rw[DX _ _ u d (by omega),aY,i];simp_all [aY]
  |false=>
   have ab:=uw (F:=F) e;have j:=uZ (F:=F) x;have B:yT (fO q') (N+1) v F (gV F) (e:Int) u d (L++(3,(a:Int),(e:Int),u,())::g)=
     (bif bC (((ln F e:Nat):Int)-e) 0 then(a6 (.inl ((v,()),((),()),((F,gV F,((ln F e:Nat):Int),u,d,()),L++(3,(a:Int),(e:Int),u,())::g,()))):Option (ajS.den⊕ajY.den))
     else bif !nT F (ln F e) d then a6 (.inl ((v,()),((),()),((F,gV F,((ln F e:Nat):Int),u,d,()),L++(3,(a:Int),(e:Int),u,())::g,())))
      else aZ ((fO q').q88 F (gV F) (L++(3,(a:Int),(e:Int),u,())::g) ((ln F e:Nat):Int) u d) fun p=>yT (fO q') N v p.1.1 p.1.2.1 p.1.2.2.2.1 p.1.2.2.2.2.1 p.1.2.2.2.2.2.1 p.1.2.2.1):=by
    rw[yT,VR,iE e _ u d [59,38] (by simp),aY,hs];simp only[ac];rw[kS hF e _ u d x,aY];simp only;cases bC (((ln F e:Nat):Int)-e) 0 with
    |true=>rfl
    |false=>
     simp only[ac]
     grind [DX,aY]
   rw[uK hs];simp only[ac];rw[lG hF e _ u d x,aY];simp only;cases hln:dR F e [110]with
   |false=>
    have ad:ln F e=e:=by rw[Gg,hln];rfl
    rw[ad]at B ⊢;refine⟨e,e,_,_,rfl,s, ?_,S,x,stop _ (ae _) x⟩;simp_all [gB]
   |true=>
    have A:e<ln F e:=by simp_all [atb]
    simp only[ax,ac];rw[dE (dV)]at B;rw[zn hF _ _ u d (by omega),aY];simp only;cases i:nT F (ln F e) d with
    |false=>
     refine⟨ln F e,e,_,_,rfl,s, ?_,by omega,j,stop _ (by omega) j⟩;rw[B,i];rfl
    |true=>
     obtain⟨f,m,l,o,g1,g2,g3,g4,g5,g6⟩:=next _ (by omega) j i A
     refine⟨f,e,m,_,g1,s, ?_,g4,g5,g6⟩;simp_all [aY]
theorem aff {n:Nat} (h:All F n) (a:Nat) (l:List Nd) (u d:Int) (r g:Nat) (D:16*(F.length-a)+12<n+1) (hr:n+1<=r) (E:n+1<=g) (hp:EU F a l d 110) (hb:nT F a d=true):
  ∃(e:Nat) (m:List Nd),(eQ r).q71 F (a:Int) (bI l [opn 2 a u]) (bi l) d=a6 (PR F e (bI l [opn 2 a u]++m) (bi l) d,())/\
   (fO g).q52 F (gV F) l (a:Int) u d=a6 (RR F e (l++(2,(a:Int),(e:Int),u,())::m) u d,())/\a<e/\e<=F.length/\m.length+1<=16*(e-a)/\Tr F a e (bi l) (l.length+1) m:=by
 obtain⟨v,G,i,x⟩:=hp;have I:=hF.len;obtain⟨q,rfl⟩: ∃q,r=q+1:=⟨r-1,by omega⟩;obtain⟨f,rfl⟩: ∃f,g=f+1:=⟨g-1,by omega⟩;have j:(bI l [opn 2 a u]).length=l.length+1:=by unfold bI;simp
 have y:bI l [opn 2 a u]=l++[(2,(a:Int),0,u,())]:=rfl;obtain⟨e,J,m,K,z,o,p,A,B,s⟩:=QL hF h (q:=q) (q':=f) (by omega) (by omega) (bi l) d u ⟨i,x⟩ bD a (bI l [opn 2 a u]) (dC) v (by omega) (by rw[j];omega) hb;refine⟨e,m, ?_, ?_,A,B,s.1,j▸s.2⟩
 .show apO (eQ q) F (a:Int) _ _ d=_;rw[apO,z,aY];rfl
 .show apN (fO f) F (gV F) l (a:Int) u d=_;rw[apN,jW a l u d (by omega) (by omega) (by omega) i (by omega),aY];simp only[show iP 2=false from rfl,ag,if_false];rw[y]at o p;rw[show((l.length:Nat):Int)=bi l from rfl,o,aY];simp only;rw[p,aY];simp only[dB];rw[show bi l=((l.length:Nat):Int) from rfl,rV e _ u d l.length (by simp) (lY l _ 2 _ _) (by omega) (by omega) i (by omega),aY];simp only[lU,show iP 2=false from rfl,ag,if_false]
end
section
open Bool renaming and_eq_true → af, not_true → ax, not_false → aB
open Nat renaming lt_of_lt_of_le → aS
open Go.RowKit
theorem Yf {s:List UInt8} (d:s.length<1000000):aag s 0=some (((nl s:Nat):Int),()):=by
 have:=agI (aS d (by omega)) (a:=0) (Nat.zero_le _);simpa using this
theorem JB {s:List UInt8} (d:s.length<1000000):aac s=some (decide (nl s≠0/\nl s=s.length),()):=by
 rw[aac];by_cases h0:s=[]
 .subst h0;rfl
 have f:0<s.length:=List.length_pos_iff.2 h0;rw[Jn h0];simp only[aB,aa];rw[Yf d,aY];congr 2;by_cases h:nl s=s.length
 .rw[gB (by rw[bz];omega),decide_eq_true ⟨by omega,h⟩]
 .rw[dV (by rw[bz];omega),decide_eq_false (fun e=>h e.2)]
def iK (s:bH):Bool:=decide (nl s≠0/\nl s<s.length)&&decide (s.getD (nl s) 0=61)
theorem Wu {s:List UInt8} (f:s.length<1000000): ∃x y,ab7 s=some (x,(y,(iK s,()))):=by
 have g:nl s<=s.length:=by unfold nl;split;omega;exact Hq TN s
 rw[ab7,Yf f,aY];simp only;by_cases h0:nl s=0
 .exact⟨[],[],by rw[bJ (gB (by omega)),iK,decide_eq_false (fun h=>h.1 h0)];rfl⟩
 rw[dE (dV)];by_cases h1:nl s=s.length
 .exact⟨[],[],by rw[bJ (gB (by rw[bz];omega)),iK,decide_eq_false (fun h=>by omega)];rfl⟩
 have d:nl s<s.length:=by omega
 rw[dE (dV (by rw[bz];omega)),bJ (dQ),byte_at d];have e:s.getD (nl s) 0=s[nl s]:=by rw[List.getD_eq_getElem?_getD,List.getElem?_eq_getElem d];rfl
 by_cases h3:s[nl s]=61
 .rw[h3,show bC ((61:UInt8).toNat:Int) 61=true from rfl];simp only[ax,ac];rw[bQ,bJ (gZ (by omega) (by omega) (by rw[bz];omega)),bJ (gZ (by omega) (by rw[bz];omega) (by omega))];exact⟨_,_,by rw[iK,decide_eq_true ⟨h0,d⟩,e,decide_eq_true h3];rfl⟩
 .rw[dV (fun h=>h3 (UInt8.toNat_inj.1 (by have:((61:UInt8).toNat:Int)=61:=rfl;omega)))];exact⟨[],[],by rw[iK,e,decide_eq_false h3,Bool.and_false];rfl⟩
theorem arx (s:bH) (i:Nat):sub s 0 (i:Int)=s.take i:=by simp[sub]
theorem ajC {s:List UInt8} {i:Nat} (hi:i<s.length) (o:s[i]=61):(nl (s.take i)≠0/\nl (s.take i)=(s.take i).length)↔(nl s≠0/\nl s=i):=by
 have q:TN (61:UInt8)=false:=by decide
 have u:Zq (61:UInt8)=false:=by decide
 have v:(s.take i).length=i:=by simp;omega
 have g: ∀p:UInt8->Bool,p 61=false->(((s.take i).takeWhile p).length=i↔(s.takeWhile p).length=i)/\((((s.take i).takeWhile p).length=0)↔((s.takeWhile p).length=0)):=by
  intro p x;have y:(s.takeWhile p).length<=i:=by
   by_cases c:(s.takeWhile p).length<=i
   .exact c
   .have:=Ho p s i hi (by omega);rw[o,x]at this;cases this
  have e:((s.take i).takeWhile p).length=(s.takeWhile p).length:=by
   refine aup p _ _ (by omega) (fun j z h=> ?_) fun h=> ?_
   .rw[List.getElem_take];exact Ho p s j (by omega) h
   .rw[List.getElem_take];exact zC p s (by omega)
  rw[e];exact⟨Iff.rfl,Iff.rfl⟩
 have f:=g TN q;have l:=g Zq u;unfold nl EK runN;rw[v];by_cases h:(s.takeWhile Zq).length=0
 .rw[am h,am (l.2.2 h)]
 .rw[aq h,aq (fun d=>h (l.2.1 d))];constructor
  .rintro ⟨a,b⟩;exact⟨fun d=>a (f.2.2 d),f.1.1 b⟩
  .rintro ⟨a,b⟩;exact⟨fun d=>a (f.2.1 d),f.1.2 b⟩
theorem zS {s:List UInt8} (g:s.length<1000000): ∀(N k:Nat),s.length-k<N->1<=k->k<=s.length->(iK s=true->k<=nl s)->
  ∃r,Gp N s (k:Int)=some r/\(iK s=true-> ∃n:Nat,r=.inr (((n:Int),()),())/\0<n/\n=nl s)/\(iK s=false->r=.inl ((),()))
 |0,k,h,_,_,_=>by omega
 |N+1,k,h,q,hk,f=>by
  rw[Gp,adC];by_cases h1:k<s.length
  .have p:bV .i64 (k:Int) 1=((k+1:Nat):Int):=by rw[bQ];rfl
   rw[bJ (eU (by rw[bz];omega)),bJ (dQ),byte_at h1,p];have i:s.getD k 0=s[k]:=by rw[List.getD_eq_getElem?_getD,List.getElem?_eq_getElem h1];rfl
   by_cases h2:s[k]=61
   .rw[h2,show bC ((61:UInt8).toNat:Int) 61=true from rfl];simp only[aa];rw[bJ (gZ (by omega) (by omega) (by rw[bz];omega)),arx,yJ (by simp;omega),aY];simp only;have j:=ajC h1 h2;by_cases h3:nl s≠0/\nl s=k
    .rw[decide_eq_true (j.2 h3)];refine⟨_,rfl,fun _=>⟨k,rfl,by omega,h3.2.symm⟩,fun l=> ?_⟩;have:iK s=true:=by rw[iK,decide_eq_true ⟨h3.1,by omega⟩,h3.2,i,decide_eq_true h2];rfl
     rw[this]at l;cases l
    .rw[decide_eq_false (fun d=>h3 (j.1 d))];refine zS g N (k+1) (by omega) (by omega) (by omega) fun d=> ?_;have o:=f d;unfold iK at d;simp only[af,decide_eq_true_eq]at d;omega
   .rw[dV (fun h=>h2 (UInt8.toNat_inj.1 (by have:((61:UInt8).toNat:Int)=61:=rfl;omega)))];refine zS g N (k+1) (by omega) (by omega) (by omega) fun d=> ?_;have o:=f d;unfold iK at d;simp only[af,decide_eq_true_eq]at d;by_cases e:k=nl s
    .subst e;rw[i]at d;exact absurd d.2 h2
    .omega
  .rw[dE (iy (by rw[bz];omega))];refine⟨_,rfl,fun d=> ?_,fun _=>rfl⟩;have o:=f d;unfold iK at d;simp only[af,decide_eq_true_eq]at d;omega
theorem Zy {s:List UInt8} (d:s.length<1000000): ∃n:Int,aif s=some (n,())/\gY 0 n=iK s/\bC n 0= !iK s:=by
 rw[aif];by_cases h0:s=[]
 .subst h0;exact⟨0,rfl,rfl,rfl⟩
 have j:0<s.length:=List.length_pos_iff.2 h0;obtain⟨r,f,g,i⟩:=zS d bD 1 (dC) (by omega) (by omega) (fun h=>by
  unfold iK at h;simp only[af,decide_eq_true_eq]at h;omega)
 rw[show Gp bD s 1=_ from f];cases ha:iK s with
 |true=>
  obtain⟨n,e,l,_⟩:=g ha;subst e;exact⟨n,rfl,eU,dV⟩
 |false=>
  have e:=i ha;subst e;exact⟨0,rfl,rfl,rfl⟩
theorem ad5 {s:List UInt8} (d:s.length<1000000):ab6 s=some (iK s,()):=by
 obtain⟨x,y,h⟩:=Wu d;rw[ab6,h,aY]
end
section
open Bool renaming false_eq_true → ag, not_true → ax, and_true → ay, not_false → aB, true_and → aK
open List renaming append_assoc → ai, length_append → aj, getElem_mem → aG
open Nat renaming le_refl → ae
open Go.RowKit
variable {F:List Lf} (hF:Wh F)
include hF
omit hF in
theorem Oc {a:Nat} {c:UInt8} (h:dR F a [c]=true):zN F a=c:=by
 simp_all [dR]
omit hF in
theorem OO {a:Nat} {c:UInt8} (d:c≠0) (h:zN F a=c):dR F a [c]=true:=by
 grind [G5,dR]
def Jf (F:List Lf) (a:Nat) (u:Int):Nd:=if yI F a=true then(7,(a:Int),((a+1:Nat):Int),u,())else(18,(a:Int),(a:Int),u,())
omit hF in
theorem ER (a:Nat) (l:List Nd) (u:Int):wdL F a l u=l++[Jf F a u]:=by grind [wdL,Jf]
omit hF in
theorem ar6 (a:Nat):a<=zH F a/\(a<=F.length->zH F a<=F.length):=by
 unfold zH;split
 .grind [TR]
 omega
omit hF in
theorem Pi {a b c:Nat} {u:Int} {k:Nat} (d:a<=c) (h2:zH F c<=b):Tr F a b u k [Jf F c u]:=by
 unfold zH at h2;unfold Jf;split at h2
 .rename_i h;rw[am h];exact .lf d h2 (by omega) (fun _=>by simpa [yI] using h)
 .rename_i h;rw[aq h];exact .mis d h2
theorem J3 (a:Nat) (l:List Nd) (u d:Int) (G:a<=F.length) (hl:l.length<100000000) (hd:0<=d) (I:d<1000000) (h:zM F a=true):
  ∃(g:Nat) (m:List Nd),xC F (a:Int) l u d=some (PR F g (l++m) u d,(true,()))/\abU F (gV F) l (a:Int) u d=some (RR F g (l++m) u d,())/\a<g/\g<=F.length/\m.length=2/\Tr F a g u l.length m:=by
 have J:=hF.len;obtain⟨q,_,_⟩:=jJ l (opn 8 a u) (by omega);have s:(bI l [opn 8 a u]).length=l.length+1:=by unfold bI;simp
 obtain⟨b,v,x,y,i,j⟩: ∃b:Nat,a<b/\b<=F.length/\tk F (tk F a [35]) [60]=b/\(if dR F a [35]=true then a+2 else a+1)=b/\((b=a+1\/b=a+2/\dR F a [35]=true)/\dR F (b-1) [60]=true):=by
  cases h35:dR F a [35]with
  |true=>
   have K:=Oc h35;unfold zM at h;have z:dR F a [60]=false:=by
    simp_all [dR]
   rw[z,h35,Bool.false_or,aK,decide_eq_true_eq]at h;have o:=OO (by decide) h;exact⟨a+2,by omega,fJ o,by grind [lw],by simp,.inr ⟨rfl,rfl⟩,o⟩
  |false=>
   unfold zM at h;rw[h35,Bool.false_and,Bool.or_false]at h;exact⟨a+1,by omega,fJ h,by rw[uK h35,lw h],by simp,.inl rfl,h⟩
 have L:tk F a [35]<=F.length:=by
  grind [tk]
 obtain⟨M,A⟩:=ar6 (F:=F) b;obtain⟨B,D⟩:=nS l [Jf F b (bi l)] (opn 8 a u);have N:bI l [opn 8 a u]=l++[(8,(a:Int),0,u,())]:=rfl;refine⟨zH F b,[(8,(a:Int),((zH F b:Nat):Int),u,()),Jf F b (bi l)], ?_, ?_,by omega,A x,rfl,Tr.one (Pi (Nat.le_of_lt v) (ae _)) (ae _) (ae _) (by omega) rfl (fun _=>by
  obtain⟨p,rfl⟩: ∃p,b=p+1:=⟨b-1,by omega⟩;refine⟨p,(by
   rcases j.1 with h|⟨h,E⟩
   .exact .inl (by omega)
   .exact .inr ⟨by omega,E⟩),j.2, ?_⟩
  unfold Jf zH;split
  .exact .inl ⟨rfl,_,rfl⟩
  .exact .inr ⟨rfl,_,rfl⟩)⟩
 .rw[xC,Bj hF a l u d (by omega),aY,h];simp only[ax,ac,fB,ay,aa,q];rw[kW hF a _ _ d (by omega) [35] rfl,aY];simp only;rw[kW hF _ _ _ d (by omega) [60] rfl,aY,y];simp only;rw[Pj b _ _ d (by omega) (by rw[s];omega),aY];simp only[ER,B,D,aa,jX]
 .rw[abU,jW a l u d (by omega) (by omega) (by omega) hd (by omega),aY];simp only[show iP 8=false from rfl,ag,if_false];rw[iE a _ _ d [35] (by simp),aY];simp only;have O:aZ (uY F (gV F) (l++[(8,(a:Int),0,u,())]) (b:Int) ((l.length:Nat):Int) d) (fun e=>aZ (nM e.1.1 e.1.2.1 e.1.2.2.1 e.1.2.2.2.1 e.1.2.2.2.2.1 e.1.2.2.2.2.2.1 u) fun f=>
    some ((f.1.1,(f.1.2.1,(f.1.2.2.1,(f.1.2.2.2.1,(f.1.2.2.2.2.1,(f.1.2.2.2.2.2.1,())))))),()))=some (RR F (zH F b) (l++[(8,(a:Int),((zH F b:Nat):Int),u,()),Jf F b (bi l)]) u d,()):=by
   rw[We b _ _ d (by omega) (by grind) hd (by omega),aY];simp only[ER];rw[rV (zH F b) _ u d l.length (by simp) (lY l _ 8 _ _) (by omega) (by omega) hd (by omega),aY];simp only[lU,show iP 8=false from rfl,ag,if_false];rfl
  cases h35:dR F a [35]with
  |true=>
   rw[h35,am rfl]at i;simp only[aa]
   grind [bQ]
  |false=>
   rw[h35,aq (by simp)]at i;simp only[ac]
   grind [bQ]
theorem lQ (a:Nat) (l:List Nd) (u d:Int) (e:a<=F.length) (h:zM F a=false):xC F (a:Int) l u d=some (PR F a l u d,(false,())):=by
 have f:=hF.len;rw[xC,Bj hF a l u d (by omega),aY,h];rfl
theorem Bq {q':rM} (u d v:Int) (hd:0<=d/\d<=201): ∀(N a:Nat) (L:List Nd) (i:Bool) (w:Int),F.length-a<N->a<=F.length->L.length<=16*a+1000->0<=w->w<=a->(i=true↔w≠0)->
  ∃(f:Nat) (m:List Nd),Ce N i F (a:Int) u d L=some (.inl ((),((),()),((F,(f:Int),u,d,()),L++m,())))/\
   Au q' N v w F (gV F) (a:Int) u d L=some (.inl ((v,()),((),()),((F,gV F,(f:Int),u,d,()),L++m,())))/\a<=f/\f<=F.length/\(m.length<=2*(f-a)/\Tr F a f u L.length m)/\((zM F a||yI F a)=true->a<f)
 |0,a,L,i,w,J,_,_,_,_,_=>by omega
 |N+1,a,L,i,w,J,l,hL,z,af,A=>by
  have ah:=hF.len;rw[Ce,Lj,Au,YZ,ww a L u d (by omega),aY];simp only;cases hr:zM F a with
  |true=>
   obtain⟨K,B,M,O,e3,S,U⟩:=J3 hF a L u d l (by omega) hd.1 (by omega) hr;rw[M,aY];simp only[aa];rw[O,aY];simp only;obtain⟨f,m,V,o,W,p,q,_⟩:=Bq u d v hd N K (L++B) i w (by omega) S (by grind) z (by omega) A;exact⟨f,B++m,by simp_all,by rw[o,ai],by omega,p,⟨by grind,U.2.app q.2 (ae _) (aj ..)⟩,fun _=>by omega⟩
  |false=>
   rw[lQ hF a L u d l hr,aY];simp only[ac];rw[xF a L u d,aY];simp only;cases hi:yI F a with
   |false=>
    refine⟨a,[],by simp, ?_,ae _,l,⟨by simp,.nil (ae _)⟩,fun h=>by simp at h⟩;by_cases h:a<F.length
    .have x:F[a].1≠6:=by
      simp_all [yI]
     simp_all [dQ,xI,dV]
    simp_all [iy,bz]
   |true=>
    have h:=TR hi;have x:F[a].1=6:=by
     simp_all [yI]
    have X:gm F (a:Int)=true:=dQ;have hg:=hF.txt _ (aG h);obtain⟨y,Y,Z,y3⟩:=Zy (s:=F[a].2.1) (by omega);simp only[ax,ac];rw[bJ (eU (by rw[bz];omega)),X];simp only[aa,xI h,gB x];rw[ad5 (by omega),aY,Y,aY];simp only[Z];have go: ∀(k:Int) (j:Bool) (g:Int),k=6\/k=7->0<=g->g<=((a+1:Nat):Int)->(j=true↔g≠0)-> ∃(f:Nat) (m:List Nd),
      Ce N j F ((a+1:Nat):Int) u d (L++[(k,(a:Int),((a+1:Nat):Int),u,())])=some (.inl ((),((),()),((F,(f:Int),u,d,()),L++m,())))/\
      Au q' N v g F (gV F) ((a+1:Nat):Int) u d (L++[(k,(a:Int),((a+1:Nat):Int),u,())])=some (.inl ((v,()),((),()),((F,gV F,(f:Int),u,d,()),L++m,())))/\a<=f/\f<=F.length/\(m.length<=2*(f-a)/\Tr F a f u L.length m)/\((false||true)=true->a<f):=fun k j g hk h1 h2 h3=>by
     obtain⟨f,m,V,o,W,p,q,_⟩:=Bq u d v hd N (a+1) (L++[(k,(a:Int),((a+1:Nat):Int),u,())]) j g (by omega) (by omega) (by grind) h1 h2 h3;exact⟨f,[(k,(a:Int),((a+1:Nat):Int),u,())]++m,by simp_all,by rw[o,ai],by omega,p,⟨by grind,(Tr.lf (ae _) (ae _) (by omega) (fun _=>⟨h,x⟩)).app q.2 (ae _) (aj ..)⟩,fun _=>by omega⟩
    have D:bV .i64 w 1=w+1:=bQ;have E: ∀g,g=w+1->(true=true↔g≠0):=fun g e=>⟨fun _=>by omega,fun _=>rfl⟩;have l6:=Eg (F:=F) a L u d 6 (by omega) (by omega);have G:=Eg (F:=F) a L u d 7 (by omega) (by omega);have o6:=JU (F:=F) a L u d (k:=6) (by omega) (by omega) rfl (by omega) (by omega) hd.1 (by omega);have I:=JU (F:=F) a L u d (k:=7) (by omega) (by omega) rfl (by omega) (by omega) hd.1 (by omega);by_cases hw:w=0
    .have ab:i=false:=by
      simp_all
     subst ab;rw[gB hw];simp only[aB,aa];cases iK F[a].2.1 with
     |true=>
      simp only[aa];rw[l6,o6,aY,aY];exact go 6 false w (.inl rfl) z (by omega) ⟨fun h=>(by cases h),fun h=>absurd hw h⟩
     |false=>
      simp only[ac];rw[G,I,aY,aY];simp only[D];exact go 7 true (w+1) (.inr rfl) (by omega) (by omega) (E _ rfl)
    .have ad:i=true:=A.2 hw;subst ad;rw[dV hw];simp only[ax,ac];rw[G,I,aY,aY];simp only[D];exact go 7 true (w+1) (.inr rfl) (by omega) (by omega) (E _ rfl)
end
section
open Bool renaming and_eq_true → af, true_and → aK
open List renaming append_assoc → ai, getElem_mem → aG
open Nat renaming le_refl → ae
open Go.RowKit
variable {F:List Lf} (hF:Wh F)
include hF
def fnB (F:List Lf) (a:Nat) (d:Int):Bool:=dR F a [120]&&(decide (zN F (a+1)=40)&&(decide (d<200)&&(if h:a<F.length then decide (nl F[a].2.1≠0/\nl F[a].2.1=F[a].2.1.length)else false)))
omit hF in
theorem aa9 (a:Nat) (c:UInt8):bC ((zN F a).toNat:Int) (c.toNat:Int)=decide (zN F a=c):=by
 rw[iD,decide_eq_decide]
 grind [UInt8.toNat_inj]
theorem aai (a:Nat) (l:List Nd) (u d:Int) (e:a<=F.length):abX F (a:Int) l u d=some (PR F a l u d,(fnB F a d,())):=by
 have f:=hF.len;rw[abX,mg hF a l u d (by omega),aY];simp only;rw[show bC ((zN F a).toNat:Int) 120=dR F a [120] from Rq a 120 (by decide)];unfold fnB;cases hx:dR F a [120]with
 |false=>rfl
 |true=>
  have h:=fJ hx;simp only[aa,aK];rw[adA hF a l u d (by omega),aY];simp only;rw[show bC ((zN F (a+1)).toNat:Int) 40=decide (zN F (a+1)=40) from aa9 (a+1) 40];cases decide (zN F (a+1)=40)with
  |false=>rfl
  |true=>
   simp only[aa,aK];by_cases hd:d<200
   .rw[bJ (eU hd),bJ (dQ),xI h,JB (by have:=hF.txt _ (aG h);omega),aY,dif_pos h,decide_eq_true hd,aK]
   simp_all [iy,decide_eq_false]
omit hF in
theorem DT (a:Nat) (o:bH):a<=nJ F a o/\(a<=F.length->nJ F a o<=F.length):=by
 unfold nJ tk;split
 .grind [fJ]
 omega
def rJ (F:List Lf) (a:Nat) (o:bH) (u:Int):List Nd:=if dR F a o=true then []else [(18,(a:Int),(a:Int),u,())]
omit hF in
theorem kH (a:Nat) (o:bH) (l:List Nd) (u:Int):wnL F a o l u=l++rJ F a o u:=by
 grind [wnL,rJ]
omit hF in
theorem uN {a b c:Nat} {o:List UInt8} {u:Int} {k:Nat} (d:a<=c) (h2:c<=b):Tr F a b u k (rJ F c o u):=by
 unfold rJ;split
 .exact .nil (by omega)
 .exact .mis d h2
omit hF in
theorem qG (a:Nat) (o:bH) (u:Int):(rJ F a o u).length<=1:=by grind [rJ]
theorem aef {n:Nat} (h:All F n) (z:All F (n-1)) (a:Nat) (l:List Nd) (u d:Int) (q q':Nat) (Y:16*(F.length-a)+9<n+1) (Z:n<=q) (ab:n<=q') (hp:EU F a l d 113) (hb:fnB F a d=true):
  ∃(e:Nat) (m:List Nd),(eQ q).q222 F (a:Int) (bI l [opn 16 a u]) (bi l) (d+1)=some (PR F e (bI l [opn 16 a u]++m) (bi l) (d+1),())/\
   (aZ (Ag F (gV F) l (a:Int) u d 16) fun j=>
    aZ (Kv j.1.1 j.1.2.1 j.1.2.2.1 j.1.2.2.2.1 j.1.2.2.2.2.1 j.1.2.2.2.2.2.1 7) fun o=>
     aZ (lF o.1.1 o.1.2.1 o.1.2.2.1 (bV .i64 o.1.2.2.2.1 1) o.1.2.2.2.2.1 o.1.2.2.2.2.2.1 [41]) fun p=>
      aZ (qV p.1.1 p.1.2.1 p.1.2.2.1 p.1.2.2.2.1 p.1.2.2.2.2.1 p.1.2.2.2.2.2.1) fun s=>
       aZ (Qw s.1.1 s.1.2.1 s.1.2.2.1 s.1.2.2.2.1 s.1.2.2.2.2.1 s.1.2.2.2.2.2.1) fun g=>
        bif g.2.1 then
         aZ ((fO q').q186 g.1.1 g.1.2.1 g.1.2.2.1 g.1.2.2.2.1 g.1.2.2.2.2.1 g.1.2.2.2.2.2.1) fun i=>
          aZ (nM i.1.1 i.1.2.1 i.1.2.2.1 i.1.2.2.2.1 i.1.2.2.2.2.1 i.1.2.2.2.2.2.1 j.2.1) fun f=>
           some ((f.1.1,(f.1.2.1,(f.1.2.2.1,(f.1.2.2.2.1,(f.1.2.2.2.2.1,(f.1.2.2.2.2.2.1,())))))),())
        else
        aZ (rW g.1.1 g.1.2.1 g.1.2.2.1 g.1.2.2.2.1 g.1.2.2.2.2.1 g.1.2.2.2.2.2.1) fun i=>
         aZ (nM i.1.1 i.1.2.1 i.1.2.2.1 i.1.2.2.2.1 i.1.2.2.2.2.1 i.1.2.2.2.2.2.1 j.2.1) fun f=>
          some ((f.1.1,(f.1.2.1,(f.1.2.2.1,(f.1.2.2.2.1,(f.1.2.2.2.2.1,(f.1.2.2.2.2.2.1,())))))),()))=some (RR F e (l++(16,(a:Int),(e:Int),u,())::m) u d,())/\a<e/\e<=F.length/\m.length+4<=16*(e-a)/\Tr F a e (bi l) (l.length+1) m:=by
 obtain⟨p1,p2,M,p4⟩:=hp;have ad:=hF.len;unfold fnB at hb;simp only[af,decide_eq_true_eq]at hb;obtain⟨B,N,b3,_⟩:=hb;have x:=fJ B;have D:yI F a=true:=by
  unfold yI;rw[dif_pos x];have z:=Oc B;rw[VF x]at z;exact decide_eq_true (aoJ (hF.txt _ (aG x)) z)
 have E:=OO (F:=F) (a:=a+1) (c:=40) (by decide) N;have ag:=fJ E;obtain⟨y,rfl⟩: ∃y,q=y+1:=⟨q-1,by omega⟩;have O:bI l [opn 16 a u]=l++[(16,(a:Int),0,u,())]:=rfl;have S:(bI l [opn 16 a u]).length=l.length+1:=by unfold bI;simp
 have G:=DT (F:=F) (a+2) [41];have A:=G.2 (by omega);have ah:=qG (F:=F) (a+2) [41] (bi l);have U:=uw (F:=F) (nJ F (a+2) [41]);have I:=uZ (F:=F) A;have J: ∀(e:Nat) (m:List Nd),aZ (nM F (gV F) ((l++[(16,(a:Int),0,u,())])++m) (e:Int) ((l.length:Nat):Int) (d+1) u) (fun f=>some ((f.1.1,(f.1.2.1,(f.1.2.2.1,(f.1.2.2.2.1,(f.1.2.2.2.2.1,(f.1.2.2.2.2.2.1,())))))),()))=some (RR F e (l++(16,(a:Int),(e:Int),u,())::m) u d,()):=fun e m=>by
  rw[rV e _ u (d+1) l.length (by simp) (lY l _ 16 _ _) (by omega) (by omega) (by omega) (by omega),aY];simp only[lU,show iP 16=true from rfl,if_true,show d+1-1=d by omega]
 have V: ∃(e:Nat) (m:List Nd),(bif D9 F (ln F (nJ F (a+2) [41])) (d+1)then
    (eQ y).q219 F ((ln F (nJ F (a+2) [41]):Nat):Int) ((bI l [opn 16 a u]++[(7,(a:Int),((a+1:Nat):Int),bi l,())])++rJ F (a+2) [41] (bi l)) (bi l) (d+1)
   else uX F ((ln F (nJ F (a+2) [41]):Nat):Int) ((bI l [opn 16 a u]++[(7,(a:Int),((a+1:Nat):Int),bi l,())])++rJ F (a+2) [41] (bi l)) (bi l) (d+1))=some (PR F e (((bI l [opn 16 a u]++[(7,(a:Int),((a+1:Nat):Int),bi l,())])++rJ F (a+2) [41] (bi l))++m) (bi l) (d+1),())/\
   (bif D9 F (ln F (nJ F (a+2) [41])) (d+1)then
    (fO q').q186 F (gV F) ((bI l [opn 16 a u]++[(7,(a:Int),((a+1:Nat):Int),bi l,())])++rJ F (a+2) [41] (bi l)) ((ln F (nJ F (a+2) [41]):Nat):Int) (bi l) (d+1)
   else rW F (gV F) ((bI l [opn 16 a u]++[(7,(a:Int),((a+1:Nat):Int),bi l,())])++rJ F (a+2) [41] (bi l)) ((ln F (nJ F (a+2) [41]):Nat):Int) (bi l) (d+1))=some (RR F e (((bI l [opn 16 a u]++[(7,(a:Int),((a+1:Nat):Int),bi l,())])++rJ F (a+2) [41] (bi l))++m) (bi l) (d+1),())/\ln F (nJ F (a+2) [41])<=e/\e<=F.length/\m.length<=16*(e-ln F (nJ F (a+2) [41]))+1/\Tr F (ln F (nJ F (a+2) [41])) e (bi l) ((bI l [opn 16 a u]++[(7,(a:Int),((a+1:Nat):Int),bi l,())])++rJ F (a+2) [41] (bi l)).length m:=by
  have aj:((bI l [opn 16 a u]++[(7,(a:Int),((a+1:Nat):Int),bi l,())])++rJ F (a+2) [41] (bi l)).length<=l.length+3:=by
   simp_all
  cases hc:D9 F (ln F (nJ F (a+2) [41])) (d+1)with
  |true=>
   obtain⟨e,m,W,v,X,K,L⟩:=z.compound (ln F (nJ F (a+2) [41])) ((bI l [opn 16 a u]++[(7,(a:Int),((a+1:Nat):Int),bi l,())])++rJ F (a+2) [41] (bi l)) (bi l) (d+1) y q' (by omega) (by omega) (by omega) ⟨I,by omega,by omega,by omega⟩ hc
   grind
  |false=>
   refine⟨ln F (nJ F (a+2) [41]),[(18,((ln F (nJ F (a+2) [41]):Nat):Int),((ln F (nJ F (a+2) [41]):Nat):Int),bi l,())], ?_, ?_,ae _,I,by simp,.mis (ae _) (ae _)⟩
   .rw[ac,kZ _ ((bI l [opn 16 a u]++[(7,(a:Int),((a+1:Nat):Int),bi l,())])++rJ F (a+2) [41] (bi l)) _ _ (by omega)]
   .rw[ac,uA _ ((bI l [opn 16 a u]++[(7,(a:Int),((a+1:Nat):Int),bi l,())])++rJ F (a+2) [41] (bi l)) _ _ (by omega) (by omega) (by omega)]
 obtain⟨e,m,W,v,X,K,L⟩:=V;refine⟨e,[(7,(a:Int),((a+1:Nat):Int),bi l,())]++rJ F (a+2) [41] (bi l)++m, ?_, ?_,by omega,K,by grind,((Tr.lf (ae a) (ae _) (by omega) (fun _=>⟨x,by simpa [yI,x] using D⟩)).app (uN (a:=a+1) (by omega) G.1) (ae _) rfl).app L.2 U (by grind)⟩
 .show ah1 (eQ y) F (a:Int) _ _ _=_;rw[ah1,Pj a _ _ _ (by omega) (by rw[S];omega),aY];simp only[wdL,zH,D,if_true];rw[kW hF (a+1) _ _ _ (by omega) [40] rfl,lw E,aY];simp only;rw[show a+1+1=a+2 from rfl,wZ hF (a+2) _ _ _ (by omega) (by grind) [41] rfl,aY];simp only[kH];rw[lG hF _ _ _ _ A,aY];simp only;rw[zW hF _ _ _ _ (by omega),aY];simp only;cases hc:D9 F (ln F (nJ F (a+2) [41])) (d+1)with
  |true=>
   simp_all [aY]
  |false=>
   simp_all [aY]
 .rw[jW a l u d (by omega) (by omega) (by omega) M (by omega),aY];simp only[show iP 16=true from rfl,if_true];rw[JU a _ _ _ (k:=7) (by omega) (by omega) rfl (by omega) (by grind) (by omega) (by omega),aY];simp only;rw[bQ,show((a+1:Nat):Int)+1=((a+2:Nat):Int) by omega,xe (a+2) _ _ _ (by omega) (by grind) (by omega) (by omega) [41] (by simp),aY];simp only[kH];rw[kS hF _ _ _ _ A,aY];simp only;rw[ug,aY];simp only;rw[O]at v;rw[show((l.length:Nat):Int)=bi l from rfl];cases hc:D9 F (ln F (nJ F (a+2) [41])) (d+1)with
  |true=>
   rw[hc,aa]at v;rw[aa,v,aY];simp only;rw[ai,ai,show bi l=((l.length:Nat):Int) from rfl,J];rfl
  |false=>
   rw[hc,ac]at v;rw[ac,v,aY];simp only;rw[ai,ai,show bi l=((l.length:Nat):Int) from rfl,J];rfl
end
section
open Bool renaming and_eq_true → af, false_eq_true → ag, not_true → ax, and_true → ay, not_false → aB
open List renaming getElem_mem → aG
open Nat renaming le_refl → ae
open Go.RowKit
variable {F:List Lf} (hF:Wh F)
include hF
theorem afJ {q':rM} (a:Nat) (l:List Nd) (u d:Int) (hp:EU F a l d 113) (p:D9 F a d=false) (hb:Fg F a d=true):
  ∃(e:Nat) (m:List Nd),abY F (a:Int) (bI l [opn 5 a u]) (bi l) d=some (PR F e (bI l [opn 5 a u]++m) (bi l) d,())/\
   sJ q' F (gV F) (a:Int) u d l=some (.inl ((),((),()),((F,gV F,(e:Int),u,d,()),l++(5,(a:Int),(e:Int),u,())::m,())))/\a<e/\e<=F.length/\m.length+4<=16*(e-a)/\Tr F a e (bi l) (l.length+1) m:=by
 obtain⟨q,B,g,D⟩:=hp;have E:=hF.len;have i:(bI l [opn 5 a u]).length=l.length+1:=by unfold bI;simp
 have s:bI l [opn 5 a u]=l++[(5,(a:Int),0,u,())]:=rfl;have v:(zM F a||yI F a)=true:=by
  unfold Fg at hb;rw[p,Bool.or_false]at hb;cases hr:zM F a with
  |true=>rfl
  |false=>
   rw[hr,Bool.or_false]at hb;have f:=fJ hb;have j:=Oc hb;rw[VF f]at j;rw[Bool.false_or];unfold yI;rw[dif_pos f];exact decide_eq_true (aoJ (hF.txt _ (aG f)) j)
 obtain⟨e,m,x,o,G,y,z,A⟩:=Bq hF (q':=q') (bi l) d u ⟨g,by omega⟩ bD a (bI l [opn 5 a u]) false 0 (dC) q (by rw[i];omega) (by omega) (by omega) ⟨fun h=>(by cases h),fun h=>absurd rfl h⟩;have f:=A v;refine⟨e,m, ?_, ?_,f,y,by omega,i▸z.2⟩
 .rw[abY,x,aY];rfl
 .rw[sJ,G7,jW a l u d (by omega) (by omega) (by omega) g (by omega),aY];simp only[show iP 5=false from rfl,ag,if_false];rw[s]at o;rw[show((l.length:Nat):Int)=bi l from rfl,o,aY];simp only[dB];rw[show bi l=((l.length:Nat):Int) from rfl,rV e _ u d l.length (by simp) (lY l _ 5 _ _) (by omega) (by omega) g (by omega),aY];simp only[lU,show iP 5=false from rfl,ag,if_false]
theorem SX {n:Nat} (h:All F n) (G:All F (n-1)) (a:Nat) (l:List Nd) (u d:Int) (r s:Nat) (I:16*(F.length-a)+9<n+1) (hr:n+1<=r) (N:n+1<=s) (hp:EU F a l d 113):
  ∃(e:Nat) (m:List Nd),(eQ r).q177 F (a:Int) l u d=some (PR F e (l++m) u d,())/\
   (fO s).q155 F (gV F) l (a:Int) u d=some (RR F e (l++m) u d,())/\a<=e/\e<=F.length/\(m.length<=16*(e-a)+1/\Tr F a e u l.length m)/\(Fg F a d=true->a<e/\m.length+3<=16*(e-a)):=by
 have x:=hp;obtain⟨A,O,J,S⟩:=hp;have U:=hF.len;obtain⟨q,rfl⟩: ∃q,r=q+1:=⟨r-1,by omega⟩;obtain⟨f,rfl⟩: ∃f,s=f+1:=⟨s-1,by omega⟩;show ∃(e:Nat) (m:List Nd),ah0 (eQ q) F (a:Int) l u d=_/\ahZ (fO f) F (gV F) l (a:Int) u d=_/\_
 (rewrite [ah0,ahZ];delta BQ;rw[zW hF a l u d (by omega),Qe a l u d (by omega),aY,aY])
 simp only;cases hc:D9 F a d with
 |true=>
  have v:Fg F a d=true:=by grind [Fg]
  obtain⟨e,m,y,z,o,p,g⟩:=h.compound a l u d q f (by omega) (by omega) (by omega) x hc;refine⟨e,m, ?_, ?_,by omega,p,⟨by omega,g.2⟩,fun _=>⟨o,g.1⟩⟩
  .simp_all [aY]
  simp_all [ug,aY]
 |false=>
  simp only[ac];rw[aai hF a l u d A,aY];simp only;cases hf:fnB F a d with
  |true=>
   have v:Fg F a d=true:=by
    simp_all [fnB,Fg]
   obtain⟨e,m,y,z,o,p,g⟩:=aef hF h G a l u d q f I (by omega) (by omega) x hf;obtain⟨B,_,_⟩:=jJ l (opn 16 a u) (by omega);obtain⟨D,E⟩:=nS l m (opn 16 a u);refine⟨e,(16,(a:Int),(e:Int),u,())::m, ?_, ?_,by omega,p,⟨by grind,g.2.one (ae _) (ae _) (by omega) rfl⟩,fun _=>⟨o,by simp_all⟩⟩
   .simp only[fB,ay,aa,B];rw[bQ,y,aY];simp only[D,E,aa,jX]
    grind [iq]
   .unfold fnB at hf;simp only[af,decide_eq_true_eq]at hf;obtain⟨g1,g2,g3,g4⟩:=hf;have i:=fJ g1;have K:=fJ (OO (F:=F) (a:=a+1) (c:=40) (by decide) g2);rw[dif_pos i]at g4;rw[v];simp only[ax,ac];rw[ug a l u d,aY,hc];simp only[ac];rw[iE a l u d [120] (by simp),aY,g1];simp only[aa];rw[bQ,show(a:Int)+1=((a+1:Nat):Int) by omega,bJ (eU (by grind [bz])),bJ (dQ (by omega) (by grind)),wX K,
     show bC ((zN F (a+1)).toNat:Int) 40=decide (zN F (a+1)=40) from aa9 (a+1) 40,decide_eq_true g2,aa,bJ (eU g3),bJ (dQ),xI i,yJ (by have:=hF.txt _ (aG i);omega),aY,g4]
    assumption
  |false=>
   simp only[ac];rw[MK hF a l u d (by omega),aY];simp only;cases v:Fg F a d with
   |false=>
    simp only[aB,aa,ac];rw[kZ a l u d (by omega),uA a l u d (by omega) J (by omega),aY,aY];exact⟨a,[(18,(a:Int),(a:Int),u,())],rfl,rfl,ae _,A,⟨by simp,.mis (ae _) (ae _)⟩,fun h=>by cases h⟩
   |true=>
    obtain⟨e,m,y,z,o,p,g⟩:=afJ hF (q':=fO f) a l u d x hc v;obtain⟨B,_,_⟩:=jJ l (opn 5 a u) (by omega);obtain⟨D,E⟩:=nS l m (opn 5 a u);refine⟨e,(5,(a:Int),(e:Int),u,())::m, ?_, ?_,by omega,p,⟨by grind,g.2.one (ae _) (ae _) (by omega) rfl⟩,fun _=>⟨o,by simp_all⟩⟩
    .simp_all [fB,aY,jX]
    .simp only[ax,ac];rw[ug a l u d,aY,hc];simp only[ac];rw[iE a l u d [120] (by simp),aY];simp only;have L:aZ (sJ (fO f) F (gV F) (a:Int) u d l) (fun M=>dB M (fun j=>
       some ((j.2.2.1.1,(j.2.2.1.2.1,(j.2.2.2.1,(j.2.2.1.2.2.1,(j.2.2.1.2.2.2.1,(j.2.2.1.2.2.2.2.1,())))))),())) (fun V=>none))=some (RR F e (l++(5,(a:Int),(e:Int),u,())::m) u d,()):=by
      rw[z,aY];rfl
     cases hx:dR F a [120]with
     |false=>assumption
     |true=>
      have i:=fJ hx;simp only[aa];rw[bQ,show(a:Int)+1=((a+1:Nat):Int) by omega];by_cases hl2:a+1<F.length
      .rw[bJ (eU (by grind [bz])),bJ (dQ (by omega) (by grind)),wX hl2,show bC ((zN F (a+1)).toNat:Int) 40=decide (zN F (a+1)=40) from aa9 (a+1) 40];by_cases h40:zN F (a+1)=40
       .rw[decide_eq_true h40,aa];by_cases hd2:d<200
        .rw[bJ (eU hd2),bJ (dQ),xI i,yJ (by have:=hF.txt _ (aG i);omega),aY];have W:decide (nl F[a].2.1≠0/\nl F[a].2.1=F[a].2.1.length)=false:=by
          simp_all [fnB]
         grind
        simp_all [iy]
       simp_all
      .rw[dE (iy (by grind [bz]))];exact L
end
section
open Option renaming some → a6, none → a7
open List renaming append_assoc → ai
open Nat renaming le_refl → ae
open Go.RowKit
variable {F:List Lf} (hF:Wh F)
include hF
theorem EH {q':rM} (u d w:Int) (hd:0<=d/\d<=201) (P:Nat->Nat->List Nd->Option (Nat×List Nd)->Prop)
  (i: ∀N a L,zM F a=false->P (N+1) a L (a6 (a,L)))
  (j: ∀N a L f g x,zM F a=true->f<=F.length->xC F (a:Int) L u d=a6 (PR F f (L++g) u d,(true,()))->P N f (L++g) x->P (N+1) a L x):
  ∀(N a:Nat) (L:List Nd),F.length-a<N->a<=F.length->L.length<=16*a+1000->
  ∃(e:Nat) (m:List Nd),P N a L (a6 (e,L++m))/\iM q' N w F (gV F) (a:Int) u d L=a6 (.inl ((w,()),((),()),((F,gV F,(e:Int),u,d,()),L++m,())))/\a<=e/\e<=F.length/\m.length<=2*(e-a)/\Tr F a e u L.length m
 |0,a,L,l,_,_=>by omega
 |N+1,a,L,l,h,z=>by
  have A:=hF.len;rw[iM,Y1,ww a L u d (by omega),aY];simp only;cases hr:zM F a with
  |false=>exact⟨a,[],by simp_all,by simp,ae _,h,by simp,.nil (ae _)⟩
  |true=>
   obtain⟨f,g,B,o,D,p,q⟩:=J3 hF a L u d h (by omega) hd.1 (by omega) hr;simp only[aa];rw[o,aY];simp only;obtain⟨e,m,E,s,G,v,y⟩:=EH u d w hd P i j N f (L++g) (by omega) p (by grind);exact⟨e,g++m,by grind,by rw[s,ai],by omega,v,by grind,q.2.ap y.2⟩
theorem auS {q:gu} {q':rM} (u d w f g h i j l:Int) (hd:0<=d/\d<=201) (a:Nat) (L:List Nd) (o:a<=F.length) (s:L.length<=16*a+1000):
  ∃(e:Nat) (m:List Nd),lM q bD f g h i j l L F (a:Int) u d=a6 (.inl ((),((f,g,()),(h,i,()),(j,l,()),(),()),((),(),L++m,(F,(e:Int),u,d,()),())))/\
   iM q' bD w F (gV F) (a:Int) u d L=a6 (.inl ((w,()),((),()),((F,gV F,(e:Int),u,d,()),L++m,())))/\a<=e/\e<=F.length/\m.length<=2*(e-a)/\Tr F a e u L.length m:=by
 have B:=hF.len;obtain⟨e,m,D,E,G,I,J⟩:=EH hF (q':=q') u d w hd (fun N a L x=>a<=F.length-> ∀y,x=a6 y->lM q N f g h i j l L F (a:Int) u d=a6 (.inl ((),((f,g,()),(h,i,()),(j,l,()),(),()),((),(),y.2,(F,(y.1:Int),u,d,()),()))))
  (fun N a L hr o y p=>by
   cases p;rw[lM,rF,lQ hF a L u d o hr,aY];rfl)
  (fun N a L K M x hr v z A o y p=>by
   rw[lM,rF,z,aY];simp only[aa];exact A v y p) bD a L (dC) o s
 grind
theorem ark {q:gu} {q':rM} (u d w f g h i j l:Int) (hd:0<=d/\d<=201) (a:Nat) (L:List Nd) (o:a<=F.length) (s:L.length<=16*a+1000):
  ∃(e:Nat) (m:List Nd),jL q bD f g h i j l L F (a:Int) u d=a6 (.inl ((),((f,g,()),(h,i,()),(j,l,()),(),()),((),(),L++m,(F,(e:Int),u,d,()),())))/\
   iM q' bD w F (gV F) (a:Int) u d L=a6 (.inl ((w,()),((),()),((F,gV F,(e:Int),u,d,()),L++m,())))/\a<=e/\e<=F.length/\m.length<=2*(e-a)/\Tr F a e u L.length m:=by
 have B:=hF.len;obtain⟨e,m,D,E,G,I,J⟩:=EH hF (q':=q') u d w hd (fun N a L x=>a<=F.length-> ∀y,x=a6 y->jL q N f g h i j l L F (a:Int) u d=a6 (.inl ((),((f,g,()),(h,i,()),(j,l,()),(),()),((),(),y.2,(F,(y.1:Int),u,d,()),()))))
  (fun N a L hr o y p=>by
   cases p;rw[jL,mY,lQ hF a L u d o hr,aY];rfl)
  (fun N a L K M x hr v z A o y p=>by
   rw[jL,mY,z,aY];simp only[aa];exact A v y p) bD a L (dC) o s
 grind
theorem arl {q:gu} {q':rM} (u d w f g h i j l:Int) (hd:0<=d/\d<=201) (a:Nat) (L:List Nd) (o:a<=F.length) (s:L.length<=16*a+1000):
  ∃(e:Nat) (m:List Nd),jM q bD f g h i j l L F (a:Int) u d=a6 (.inl ((),((f,g,()),(h,i,()),(j,l,()),(),()),((),(),L++m,(F,(e:Int),u,d,()),())))/\
   iM q' bD w F (gV F) (a:Int) u d L=a6 (.inl ((w,()),((),()),((F,gV F,(e:Int),u,d,()),L++m,())))/\a<=e/\e<=F.length/\m.length<=2*(e-a)/\Tr F a e u L.length m:=by
 have B:=hF.len;obtain⟨e,m,D,E,G,I,J⟩:=EH hF (q':=q') u d w hd (fun N a L x=>a<=F.length-> ∀y,x=a6 y->jM q N f g h i j l L F (a:Int) u d=a6 (.inl ((),((f,g,()),(h,i,()),(j,l,()),(),()),((),(),y.2,(F,(y.1:Int),u,d,()),()))))
  (fun N a L hr o y p=>by
   cases p;rw[jM,mZ,lQ hF a L u d o hr,aY];rfl)
  (fun N a L K M x hr v z A o y p=>by
   rw[jM,mZ,z,aY];simp only[aa];exact A v y p) bD a L (dC) o s
 grind
theorem arn {q:gu} {q':rM} (u d w f g h i j l:Int) (hd:0<=d/\d<=201) (a:Nat) (L:List Nd) (o:a<=F.length) (s:L.length<=16*a+1000):
  ∃(e:Nat) (m:List Nd),jO q bD f g h i j l L F (a:Int) u d=a6 (.inl ((),((f,g,()),(h,i,()),(j,l,()),(),()),((),(),L++m,(F,(e:Int),u,d,()),())))/\
   iM q' bD w F (gV F) (a:Int) u d L=a6 (.inl ((w,()),((),()),((F,gV F,(e:Int),u,d,()),L++m,())))/\a<=e/\e<=F.length/\m.length<=2*(e-a)/\Tr F a e u L.length m:=by
 have B:=hF.len;obtain⟨e,m,D,E,G,I,J⟩:=EH hF (q':=q') u d w hd (fun N a L x=>a<=F.length-> ∀y,x=a6 y->jO q N f g h i j l L F (a:Int) u d=a6 (.inl ((),((f,g,()),(h,i,()),(j,l,()),(),()),((),(),y.2,(F,(y.1:Int),u,d,()),()))))
  (fun N a L hr o y p=>by
   cases p;rw[jO,ni,lQ hF a L u d o hr,aY];rfl)
  (fun N a L K M x hr v z A o y p=>by
   rw[jO,ni,z,aY];simp only[aa];exact A v y p) bD a L (dC) o s
 grind
theorem aro {q:gu} {q':rM} (u d w f g h i j l:Int) (hd:0<=d/\d<=201) (a:Nat) (L:List Nd) (o:a<=F.length) (s:L.length<=16*a+1000):
  ∃(e:Nat) (m:List Nd),jP q bD f g h i j l L F (a:Int) u d=a6 (.inl ((),((f,g,()),(h,i,()),(j,l,()),(),()),((),(),L++m,(F,(e:Int),u,d,()),())))/\
   iM q' bD w F (gV F) (a:Int) u d L=a6 (.inl ((w,()),((),()),((F,gV F,(e:Int),u,d,()),L++m,())))/\a<=e/\e<=F.length/\m.length<=2*(e-a)/\Tr F a e u L.length m:=by
 have B:=hF.len;obtain⟨e,m,D,E,G,I,J⟩:=EH hF (q':=q') u d w hd (fun N a L x=>a<=F.length-> ∀y,x=a6 y->jP q N f g h i j l L F (a:Int) u d=a6 (.inl ((),((f,g,()),(h,i,()),(j,l,()),(),()),((),(),y.2,(F,(y.1:Int),u,d,()),()))))
  (fun N a L hr o y p=>by
   cases p;rw[jP,ny,lQ hF a L u d o hr,aY];rfl)
  (fun N a L K M x hr v z A o y p=>by
   rw[jP,ny,z,aY];simp only[aa];exact A v y p) bD a L (dC) o s
 grind
theorem arp {q:gu} {q':rM} (u d w f g h i j l:Int) (hd:0<=d/\d<=201) (a:Nat) (L:List Nd) (o:a<=F.length) (s:L.length<=16*a+1000):
  ∃(e:Nat) (m:List Nd),jQ q bD f g h i j l L F (a:Int) u d=a6 (.inl ((),((f,g,()),(h,i,()),(j,l,()),(),()),((),(),L++m,(F,(e:Int),u,d,()),())))/\
   iM q' bD w F (gV F) (a:Int) u d L=a6 (.inl ((w,()),((),()),((F,gV F,(e:Int),u,d,()),L++m,())))/\a<=e/\e<=F.length/\m.length<=2*(e-a)/\Tr F a e u L.length m:=by
 have B:=hF.len;obtain⟨e,m,D,E,G,I,J⟩:=EH hF (q':=q') u d w hd (fun N a L x=>a<=F.length-> ∀y,x=a6 y->jQ q N f g h i j l L F (a:Int) u d=a6 (.inl ((),((f,g,()),(h,i,()),(j,l,()),(),()),((),(),y.2,(F,(y.1:Int),u,d,()),()))))
  (fun N a L hr o y p=>by
   cases p;rw[jQ,nz,lQ hF a L u d o hr,aY];rfl)
  (fun N a L K M x hr v z A o y p=>by
   rw[jQ,nz,z,aY];simp only[aa];exact A v y p) bD a L (dC) o s
 grind
end
section
open List renaming append_assoc → ai, length_append → aj
open Nat renaming le_refl → ae
open Go.RowKit
variable {F:List Lf} (hF:Wh F)
include hF
theorem BO {k:Nat} (h:All F k) (a:Nat) (l:List Nd) (u d:Int) (r g:Nat) (G:16*(F.length-a)+13<k) (hr:k+1<=r) (I:k+1<=g) (hp:EU F a l d 105):
  ∃(f:Nat) (m:List Nd),(eQ r).q269 F (a:Int) l u d=some (PR F f (l++m) u d,())/\
   (fO g).q231 F (gV F) l (a:Int) u d=some (RR F f (l++m) u d,())/\a<=f/\f<=F.length/\m.length<=16*(f-a)+3/\Tr F a f u l.length m:=by
 obtain⟨o,J,j,p⟩:=hp;have K:=hF.len;obtain⟨q,rfl⟩: ∃q,r=q+1:=⟨r-1,by omega⟩;obtain⟨i,rfl⟩: ∃i,g=i+1:=⟨g-1,by omega⟩;obtain⟨L,s⟩:=DT (F:=F) a [100];have v:=s o;have M:=qG (F:=F) a [100] u;obtain⟨e,x,y,z,N,A,B⟩:=h.body (nJ F a [100]) (l++rJ F a [100] u) u d q i (by omega) (by omega) (by omega) ⟨v,by rw[aj];omega,j,p⟩;obtain⟨O,D⟩:=DT (F:=F) e [103];have E:=D A;have S:=qG (F:=F) e [103] u;refine⟨nJ F e [103],rJ F a [100] u++x++rJ F e [103] u, ?_, ?_,by omega,E,by simp only[aj];omega,((uN (ae a) (ae a)).ap B.2).apA fun _=>uN (ae e) (by omega)⟩
 .show aic (eQ q) F (a:Int) l u d=_;rw[aic,wZ hF a l u d (by omega) (by omega) [100] rfl,aY];simp only[kH];rw[y,aY];simp only;rw[wZ hF e _ u d (by omega) (by simp only[aj];omega) [103] rfl,aY];simp only[kH,ai]
 .show ah3 (fO i) F (gV F) l (a:Int) u d=_;rw[ah3,xe a l u d (by omega) (by omega) j (by omega) [100] (by simp),aY];simp only[kH];rw[z,aY];simp only;rw[xe e _ u d (by omega) (by simp only[aj];omega) j (by omega) [103] (by simp),aY];simp only[kH,ai]
theorem VH {k:Nat} (h:All F k) (a:Nat) (l:List Nd) (u d:Int) (q q':Nat) (o:bH) (s:o.contains 0=false) (v:o.length<1000000) (L:16*(F.length-a)+13<k) (hr:k<=q) (M:k<=q') (hp:EU F a l d 105):
  ∃(f:Nat) (m:List Nd),(aZ ((eQ q).q268 F (a:Int) l u d) fun i=>aZ (o9 i.1.1 i.1.2.1 i.1.2.2.1 i.1.2.2.2.1 i.1.2.2.2.2.1 o) fun j=>
    some ((j.1.1,(j.1.2.1,(j.1.2.2.1,(j.1.2.2.2.1,(j.1.2.2.2.2.1,()))))),()))=some (PR F f (l++m) u d,())/\
   (∀{x:Type} (K:(List Lf×List UInt8×List Nd×Int×Int×Int×Unit)×Unit->Option x),(aZ ((fO q').q230 F (gV F) l (a:Int) u d) fun g=>aZ (lF g.1.1 g.1.2.1 g.1.2.2.1 g.1.2.2.2.1 g.1.2.2.2.2.1 g.1.2.2.2.2.2.1 o) K)=K (RR F f (l++m) u d,()))/\a<=f/\f<=F.length/\m.length<=16*(f-a)+2/\Tr F a f u l.length m:=by
 obtain⟨y,N,p,z⟩:=hp;have O:=hF.len;obtain⟨e,A,B,D,S,E,G⟩:=h.body a l u d q q' (by omega) (by omega) (by omega) ⟨y,by omega,p,z⟩;obtain⟨U,I⟩:=DT (F:=F) e o;have J:=I E;have V:=qG (F:=F) e o u;refine⟨nJ F e o,A++rJ F e o u, ?_,fun K=> ?_,by omega,J,by simp only[aj];omega,G.2.apA fun _=>uN (ae e) (by omega)⟩
 .rw[B,aY];simp only;rw[wZ hF e _ u d (by omega) (by simp only[aj];omega) o s,aY];simp only[kH,ai]
 .rw[D,aY];simp only;rw[xe e _ u d (by omega) (by simp only[aj];omega) p (by omega) o v,aY];simp only[kH,ai]
end
section
open Nat renaming le_refl → ae
open Go.RowKit
variable {F:List Lf} (hF:Wh F)
include hF
theorem Qq {k:Nat} (h:All F k) {q q':Nat} (g:k<=q) (i:k<=q') (u d v:Int) (hd:0<=d/\d<=200): ∀(N a:Nat) (L:List Nd),F.length-a<N->a<=F.length->16*(F.length-a)+2<k->L.length<=16*a+110->
  ∃(f:Nat) (m:List Nd),Gv (eQ q) N F (a:Int) u d L=some (.inl ((),((),()),((F,(f:Int),u,d,()),L++m,())))/\
   Aw (fO q') N v F (gV F) (a:Int) u d L=some (.inl ((v,()),((),()),((F,gV F,(f:Int),u,d,()),L++m,())))/\a<=f/\f<=F.length/\m.length<=16*(f-a)/\Tr F a f u L.length m
 |0,a,L,o,_,_,_=>by omega
 |N+1,a,L,o,p,G,I=>by
  have J:=hF.len;rw[Gv,Lp,Aw,Y0,kW hF a L u d (by omega) [101] rfl,iE a L u d [101] (by simp),aY,aY];simp only;cases hb:dR F a [101]with
  |false=>
   rw[uK hb];exact⟨a,[],by simp,by simp,ae _,p,by simp,.nil (ae _)⟩
  |true=>
   have K:=fJ hb;rw[lw hb];simp only[aa];rw[bQ,show(a:Int)+1=((a+1:Nat):Int) by omega];obtain⟨e,j,s,M,O,x,y⟩:=h.body (a+1) L u d q q' (by omega) g i ⟨by omega,by omega,hd.1,hd.2⟩;obtain⟨S,z⟩:=DT (F:=F) e [116];have A:=z x;have U:=qG (F:=F) e [116] u;obtain⟨B,l,V,W,X,D,E⟩:=h.body (nJ F e [116]) (L++j++rJ F e [116] u) u d q q' (by omega) g i ⟨A,by grind,hd.1,hd.2⟩;obtain⟨f,m,g1,g2,g3,g4,g5⟩:=Qq h g i u d v hd N B (L++j++rJ F e [116] u++l) (by omega) D (by omega) (by grind);refine⟨f,j++rJ F e [116] u++l++m, ?_, ?_,by omega,g4,by grind,(((y.2.wide (by omega) (ae _)).apA fun _=>uN (ae e) (ae e)).ap E.2).ap g5.2⟩
   .rw[s,aY];simp only;rw[wZ hF e _ u d (by omega) (by grind) [116] rfl,aY];simp_all [kH,aY]
   grind [aY,xe,kH]
theorem asW {k:Nat} (h:All F k) (a:Nat) (l:List Nd) (u d v:Int) (r q':Nat) (hm:16*(F.length-a)+13<k) (hr:k+1<=r) (G:k<=q') (hp:EU F a l d 105):
  ∃(j:Nat) (m:List Nd),(eQ r).q253 F (a:Int) l u d=some (PR F j (l++m) u d,())/\
   (∀{J:Type} (K:Int->(List Lf×List UInt8×List Nd×Int×Int×Int×Unit)×Unit->Option J),
    (aZ ((fO q').q230 F (gV F) l (a:Int) u d) fun A=>
       aZ (lF A.1.1 A.1.2.1 A.1.2.2.1 A.1.2.2.2.1 A.1.2.2.2.2.1 A.1.2.2.2.2.2.1 [116]) fun B=>
        aZ ((fO q').q230 B.1.1 B.1.2.1 B.1.2.2.1 B.1.2.2.2.1 B.1.2.2.2.2.1 B.1.2.2.2.2.2.1) fun g=>
         aZ (Aw (fO q') bD v g.1.1 g.1.2.1 g.1.2.2.2.1 g.1.2.2.2.2.1 g.1.2.2.2.2.2.1 g.1.2.2.1) fun o=>
          dB o (fun y=>
           aZ (lK y.2.2.1.1 y.2.2.1.2.1 y.2.2.2.1 y.2.2.1.2.2.1 y.2.2.1.2.2.2.1 y.2.2.1.2.2.2.2.1 [108]) fun e=>
            bif e.2.1 then
             aZ ((fO q').q230 e.1.1 e.1.2.1 e.1.2.2.1 (bV .i64 e.1.2.2.2.1 1) e.1.2.2.2.2.1 e.1.2.2.2.2.2.1) fun p=>
              aZ (lF p.1.1 p.1.2.1 p.1.2.2.1 p.1.2.2.2.1 p.1.2.2.2.2.1 p.1.2.2.2.2.2.1 [102]) (K y.1.1)
            else
            aZ (lF e.1.1 e.1.2.1 e.1.2.2.1 e.1.2.2.2.1 e.1.2.2.2.2.1 e.1.2.2.2.2.2.1 [102]) (K y.1.1)) (fun b7=>none))=K v (RR F j (l++m) u d,()))/\a<=j/\j<=F.length/\m.length<=16*(j-a)+5/\Tr F a j u l.length m:=by
 obtain⟨U,p2,D,I⟩:=hp;have ad:=hF.len;obtain⟨q,rfl⟩: ∃q,r=q+1:=⟨r-1,by omega⟩;obtain⟨i,s,V,W,e3,X,Y⟩:=h.body a l u d q q' (by omega) (by omega) G ⟨U,by omega,D,I⟩;obtain⟨w1,Z⟩:=DT (F:=F) i [116];have w3:=Z X;have w4:=qG (F:=F) i [116] u;obtain⟨a2,x,f1,f2,f3,f4,f5⟩:=h.body (nJ F i [116]) (l++s++rJ F i [116] u) u d q q' (by omega) (by omega) G ⟨w3,by grind,D,I⟩;obtain⟨f,z,g1,g2,g3,g4,g5⟩:=Qq hF h (q:=q) (q':=q') (by omega) G u d v ⟨D,I⟩ bD a2 (l++s++rJ F i [116] u++x) (dC) f4 (by omega) (by grind);have ab: ∃(j:Nat) (m:List Nd),(aZ (oZ F (f:Int) (l++s++rJ F i [116] u++x++z) u d [108]) fun g=>
       bif g.2.1 then
        aZ ((eQ q).q268 g.1.1 g.1.2.1 g.1.2.2.1 g.1.2.2.2.1 g.1.2.2.2.2.1) fun o=>
         aZ (o9 o.1.1 o.1.2.1 o.1.2.2.1 o.1.2.2.2.1 o.1.2.2.2.2.1 [102]) fun E=>
          some ((E.1.1,(E.1.2.1,(E.1.2.2.1,(E.1.2.2.2.1,(E.1.2.2.2.2.1,()))))),())
       else
       aZ (o9 g.1.1 g.1.2.1 g.1.2.2.1 g.1.2.2.2.1 g.1.2.2.2.2.1 [102]) fun o=>
        some ((o.1.1,(o.1.2.1,(o.1.2.2.1,(o.1.2.2.2.1,(o.1.2.2.2.2.1,()))))),()))=some (PR F j (l++s++rJ F i [116] u++x++z++m) u d,())/\
   (∀{J:Type} (K:(List Lf×List UInt8×List Nd×Int×Int×Int×Unit)×Unit->Option J),(aZ (lK F (gV F) (l++s++rJ F i [116] u++x++z) (f:Int) u d [108]) fun e=>
            bif e.2.1 then
             aZ ((fO q').q230 e.1.1 e.1.2.1 e.1.2.2.1 (bV .i64 e.1.2.2.2.1 1) e.1.2.2.2.2.1 e.1.2.2.2.2.2.1) fun p=>
              aZ (lF p.1.1 p.1.2.1 p.1.2.2.1 p.1.2.2.2.1 p.1.2.2.2.2.1 p.1.2.2.2.2.2.1 [102]) K
            else
            aZ (lF e.1.1 e.1.2.1 e.1.2.2.1 e.1.2.2.2.1 e.1.2.2.2.2.1 e.1.2.2.2.2.2.1 [102]) K)=K (RR F j (l++s++rJ F i [116] u++x++z++m) u d,()))/\f<=j/\j<=F.length/\m.length<=16*(j-f)+2/\Tr F f j u (l++s++rJ F i [116] u++x++z).length m:=by
  have hL:(l++s++rJ F i [116] u++x++z).length<=16*f+108:=by grind
  generalize l++s++rJ F i [116] u++x++z=L at hL;rw[kW hF f L u d (by omega) [108] rfl,aY];cases hb:dR F f [108]with
  |true=>
   have af:=fJ hb;obtain⟨b1,n1,s1,O,s3,M,N⟩:=VH hF h (f+1) L u d q q' [102] rfl (by simp) (by omega) (by omega) G ⟨by omega,by omega,D,I⟩;refine⟨b1,n1, ?_,fun K=> ?_,by omega,M,by omega,N.2.wide (by omega) (ae _)⟩
   .simp_all [lw]
   .rw[iE f L u d [108] (by simp),aY,hb];simp only[aa];rw[bQ,show(f:Int)+1=((f+1:Nat):Int) by omega];exact O K
  |false=>
   obtain⟨S,x2⟩:=DT (F:=F) f [102];have x3:=x2 g4;have x4:=qG (F:=F) f [102] u;refine⟨nJ F f [102],rJ F f [102] u, ?_,fun K=> ?_,S,x3,by omega,uN (ae f) S⟩
   .rw[uK hb];simp only[ac];rw[wZ hF f L u d (by omega) (by omega) [102] rfl,aY];simp only[kH]
   .rw[iE f L u d [108] (by simp),aY,hb];simp only[ac]
    grind [xe,aY,kH]
 obtain⟨j,m,s1,O,s3,M,N⟩:=ab;refine⟨j,s++rJ F i [116] u++x++z++m, ?_,fun K=> ?_,by omega,M,by grind,(((Y.2.apA fun _=>uN (ae i) (ae i)).ap f5.2).ap g5.2).ap N.2⟩
 .show ah8 (eQ q) F (a:Int) l u d=_;rw[ah8,V,aY];simp only;rw[wZ hF i _ u d (by omega) (by grind) [116] rfl,aY];simp_all [kH,aY,dB]
 .rw[W,aY];simp only;rw[xe i _ u d (by omega) (by grind) D (by omega) [116] (by simp),aY];simp_all [kH,aY,dB]
theorem alE {k:Nat} (h:All F k) (a:Nat) (l:List Nd) (u d:Int) (r q':Nat) (A:16*(F.length-a)+13<k) (hr:k+2<=r) (B:k+1<=q') (hp:EU F a l d 104):
  ∃(e:Nat) (m:List Nd),(eQ r).q254 F (a:Int) l u d=some (PR F e (l++m) u d,())/\
   (∀{o:Type} (K:(List Lf×List UInt8×List Nd×Int×Int×Int×Unit)×Unit->Option o),
    (aZ ((fO q').q230 F (gV F) l (a:Int) u d) fun f=>
       aZ ((fO q').q231 f.1.1 f.1.2.1 f.1.2.2.1 f.1.2.2.2.1 f.1.2.2.2.2.1 f.1.2.2.2.2.2.1) K)=K (RR F e (l++m) u d,()))/\a<=e/\e<=F.length/\m.length<=16*(e-a)+4/\Tr F a e u l.length m:=by
 obtain⟨p,D,g,i⟩:=hp;have E:=hF.len;obtain⟨q,rfl⟩: ∃q,r=q+1:=⟨r-1,by omega⟩;obtain⟨s,j,G,I,J,v,x⟩:=h.body a l u d q q' (by omega) (by omega) (by omega) ⟨p,by omega,g,i⟩;obtain⟨e,m,L,M,N,y,z⟩:=BO hF h s (l++j) u d q q' (by omega) (by omega) (by omega) ⟨v,by grind,g,i⟩;refine⟨e,j++m, ?_,fun K=> ?_,by omega,y,by grind,x.2.ap z.2⟩
 .simp_all [aom,eQ,aY]
 simp_all [aY]
end
section
open Option renaming some → a6, none → a7
open Bool renaming not_true → ax, not_false → aB
open List renaming append_assoc → ai, getElem_mem → aG
open Nat renaming le_refl → ae
open Go.RowKit
variable {F:List Lf} (hF:Wh F)
include hF
omit hF in
theorem aqb {a:Nat} (h:dR F a [110]=true):bC (((ln F a:Nat):Int)-(a:Int)) 0=false:=by
 have:a+1<=ln F a:=by
  simp_all [ln,XZ,aaw]
 exact dV
omit hF in
theorem atc {a:Nat} (h:dR F a [110]=false):bC (((ln F a:Nat):Int)-(a:Int)) 0=true:=by
 simp_all [ln,XZ,gB]
theorem Pm {q:gu} {q':rM} (u d:Int) (hd:0<=d/\d<=200): ∀(N a:Nat) (L:List Nd),F.length-a<N->a<=F.length->L.length<=16*a+200->
  ∃(e:Nat) (m:List Nd),Cf q N F (a:Int) u d L=a6 (.inl ((),((),()),((F,(e:Int),u,d,()),L++m,())))/\
   Gt q' N F (gV F) (a:Int) u d L=a6 (.inl ((),((),()),((F,gV F,(e:Int),u,d,()),L++m,())))/\a<=e/\e<=F.length/\m.length<=e-a/\Tr F a e u L.length m
 |0,a,L,h,_,_=>by omega
 |N+1,a,L,h,g,i=>by
  have j:=hF.len;rw[Cf,Lr,Gt,adD,xF a L u d,aY];simp only;by_cases hlt:a<F.length
  .rw[bJ (b:=gY (a:Int) (bi F)) (eU (by rw[bz];omega)),bJ (b:=gm F (a:Int)) (dQ),xI hlt];by_cases h6:F[a].1=6
   .have f:yI F a=true:=by simp_all [yI]
    rw[bJ (b:=bC F[a].1 6) (gB h6),f];simp only[aa];rw[Eg a L u d 7 (by omega) (by omega),JU a L u d (by omega) (by omega) rfl (by omega) (by omega) hd.1 (by omega),aY,aY];simp only;obtain⟨e,m,g1,g2,g3,g4,g5⟩:=Pm u d hd N (a+1) (L++[(7,(a:Int),((a+1:Nat):Int),u,())]) (by omega) (by omega) (by grind);exact⟨e,[(7,(a:Int),((a+1:Nat):Int),u,())]++m,by rw[g1,ai],by rw[g2,ai],by omega,g4,by grind,(Tr.lf (ae a) (ae _) (by omega) (fun _=>⟨hlt,h6⟩)).ap g5.2⟩
   .have f:yI F a=false:=by simp_all [yI]
    rw[dE (b:=bC F[a].1 6) (dV h6),f];exact⟨a,[],by simp,by simp,ae _,g,by simp,.nil (ae _)⟩
  .have f:yI F a=false:=by unfold yI;rw[dif_neg hlt]
   rw[dE (b:=gY (a:Int) (bi F)) (iy (by rw[bz];omega)),f];exact⟨a,[],by simp,by simp,ae _,g,by simp,.nil (ae _)⟩
theorem Xo {k:Nat} (h:All F k) (a:Nat) (l:List Nd) (u d:Int) (q q':Nat) (X:16*(F.length-a)+13<k) (hr:k+1<=q) (Y:k+1<=q') (hp:EU F a l d 102):
  ∃(s:Nat) (m:List Nd),(aZ (oZ F (a:Int) l u d [59]) fun j=>
    bif j.2.1 then
     aZ (mQ j.1.1 j.1.2.1 j.1.2.2.1 j.1.2.2.2.1 j.1.2.2.2.2.1) fun f=>
      aZ ((eQ q).q269 f.1.1 f.1.2.1 f.1.2.2.1 f.1.2.2.2.1 f.1.2.2.2.2.1) fun i=>
       a6 ((i.1.1,(i.1.2.1,(i.1.2.2.1,(i.1.2.2.2.1,(i.1.2.2.2.2.1,()))))),())
    else
    aZ (mQ j.1.1 j.1.2.1 j.1.2.2.1 j.1.2.2.2.1 j.1.2.2.2.2.1) fun f=>
     aZ (oZ f.1.1 f.1.2.1 f.1.2.2.1 f.1.2.2.2.1 f.1.2.2.2.2.1 [107]) fun i=>
      bif i.2.1 then
       aZ (Cf (eQ q) bD i.1.1 i.1.2.1 i.1.2.2.2.1 i.1.2.2.2.2.1 i.1.2.2.1) fun E=>
        dB E (fun K=>
         aZ (oZ K.2.2.1.1 K.2.2.1.2.1 K.2.2.2.1 K.2.2.1.2.2.1 K.2.2.1.2.2.2.1 [59]) fun g=>
          aZ (mQ g.1.1 g.1.2.1 g.1.2.2.1 g.1.2.2.2.1 g.1.2.2.2.2.1) fun e=>
           bif(!e.2.1)then
            bif(!g.2.1)then
             aZ (uX e.1.1 e.1.2.1 e.1.2.2.1 e.1.2.2.2.1 e.1.2.2.2.2.1) fun o=>
              aZ ((eQ q).q269 o.1.1 o.1.2.1 o.1.2.2.1 o.1.2.2.2.1 o.1.2.2.2.2.1) fun L=>
               a6 ((L.1.1,(L.1.2.1,(L.1.2.2.1,(L.1.2.2.2.1,(L.1.2.2.2.2.1,()))))),())
            else
            aZ ((eQ q).q269 e.1.1 e.1.2.1 e.1.2.2.1 e.1.2.2.2.1 e.1.2.2.2.2.1) fun o=>
             a6 ((o.1.1,(o.1.2.1,(o.1.2.2.1,(o.1.2.2.2.1,(o.1.2.2.2.2.1,()))))),())
           else
           aZ ((eQ q).q269 e.1.1 e.1.2.1 e.1.2.2.1 e.1.2.2.2.1 e.1.2.2.2.2.1) fun o=>
            a6 ((o.1.1,(o.1.2.1,(o.1.2.2.1,(o.1.2.2.2.1,(o.1.2.2.2.2.1,()))))),())) (fun Z=>
         a7)
      else
      aZ ((eQ q).q269 i.1.1 i.1.2.1 i.1.2.2.1 i.1.2.2.2.1 i.1.2.2.2.2.1) fun E=>
       a6 ((E.1.1,(E.1.2.1,(E.1.2.2.1,(E.1.2.2.2.1,(E.1.2.2.2.2.1,()))))),()))=a6 (PR F s (l++m) u d,())/\
   (aZ (lK F (gV F) l (a:Int) u d [59]) fun x=>
   bif x.2.1 then
    aZ (qV x.1.1 x.1.2.1 x.1.2.2.1 (bV .i64 x.1.2.2.2.1 1) x.1.2.2.2.2.1 x.1.2.2.2.2.2.1) fun j=>
     aZ ((fO q').q231 j.1.1 j.1.2.1 j.1.2.2.1 j.1.2.2.2.1 j.1.2.2.2.2.1 j.1.2.2.2.2.2.1) fun f=>
      a6 ((f.1.1,(f.1.2.1,(f.1.2.2.1,(f.1.2.2.2.1,(f.1.2.2.2.2.1,(f.1.2.2.2.2.2.1,())))))),())
   else
   aZ (qV x.1.1 x.1.2.1 x.1.2.2.1 x.1.2.2.2.1 x.1.2.2.2.2.1 x.1.2.2.2.2.2.1) fun j=>
    aZ (lK j.1.1 j.1.2.1 j.1.2.2.1 j.1.2.2.2.1 j.1.2.2.2.2.1 j.1.2.2.2.2.2.1 [107]) fun f=>
     bif f.2.1 then
      aZ (Gt (fO q') bD f.1.1 f.1.2.1 (bV .i64 f.1.2.2.2.1 1) f.1.2.2.2.2.1 f.1.2.2.2.2.2.1 f.1.2.2.1) fun i=>
       dB i (fun I=>
        aZ (lK I.2.2.1.1 I.2.2.1.2.1 I.2.2.2.1 I.2.2.1.2.2.1 I.2.2.1.2.2.2.1 I.2.2.1.2.2.2.2.1 [59]) fun y=>
         bif y.2.1 then
          aZ (qV y.1.1 y.1.2.1 y.1.2.2.1 (bV .i64 y.1.2.2.2.1 1) y.1.2.2.2.2.1 y.1.2.2.2.2.2.1) fun g=>
           aZ ((fO q').q231 g.1.1 g.1.2.1 g.1.2.2.1 g.1.2.2.2.1 g.1.2.2.2.2.1 g.1.2.2.2.2.2.1) fun e=>
            a6 ((e.1.1,(e.1.2.1,(e.1.2.2.1,(e.1.2.2.2.1,(e.1.2.2.2.2.1,(e.1.2.2.2.2.2.1,())))))),())
         else
         aZ (qV y.1.1 y.1.2.1 y.1.2.2.1 y.1.2.2.2.1 y.1.2.2.2.2.1 y.1.2.2.2.2.2.1) fun g=>
          bif(bC g.2.1 0)then
           aZ (rW g.1.1 g.1.2.1 g.1.2.2.1 g.1.2.2.2.1 g.1.2.2.2.2.1 g.1.2.2.2.2.2.1) fun e=>
            aZ ((fO q').q231 e.1.1 e.1.2.1 e.1.2.2.1 e.1.2.2.2.1 e.1.2.2.2.2.1 e.1.2.2.2.2.2.1) fun o=>
             a6 ((o.1.1,(o.1.2.1,(o.1.2.2.1,(o.1.2.2.2.1,(o.1.2.2.2.2.1,(o.1.2.2.2.2.2.1,())))))),())
          else
          aZ ((fO q').q231 g.1.1 g.1.2.1 g.1.2.2.1 g.1.2.2.2.1 g.1.2.2.2.2.1 g.1.2.2.2.2.2.1) fun e=>
           a6 ((e.1.1,(e.1.2.1,(e.1.2.2.1,(e.1.2.2.2.1,(e.1.2.2.2.2.1,(e.1.2.2.2.2.2.1,())))))),())) (fun b5=>
        a7)
     else
     aZ ((fO q').q231 f.1.1 f.1.2.1 f.1.2.2.1 f.1.2.2.2.1 f.1.2.2.2.2.1 f.1.2.2.2.2.2.1) fun i=>
      a6 ((i.1.1,(i.1.2.1,(i.1.2.2.1,(i.1.2.2.2.1,(i.1.2.2.2.2.1,(i.1.2.2.2.2.2.1,())))))),()))=a6 (RR F s (l++m) u d,())/\a<=s/\s<=F.length/\m.length<=16*(s-a)+4/\Tr F a s u l.length m:=by
 obtain⟨O,p2,G,J⟩:=hp;have ab:=hF.len;rw[kW hF a l u d (by omega) [59] rfl,iE a l u d [59] (by simp),aY,aY];simp only;cases hb:dR F a [59]with
 |true=>
  have U:=fJ hb;rw[lw hb];simp only[aa];have V:=uw (F:=F) (a+1);have S:=uZ (F:=F) (a:=a+1) (by omega);rw[bQ,show(a:Int)+1=((a+1:Nat):Int) by omega,lG hF (a+1) l u d (by omega),kS hF (a+1) l u d (by omega),aY,aY];simp only;obtain⟨s,m,z,A,M,B,D⟩:=BO hF h (ln F (a+1)) l u d q q' (by omega) (by omega) (by omega) ⟨S,by omega,G,J⟩;rw[z,A,aY,aY];exact⟨s,m,rfl,rfl,by omega,B,by omega,D.2.wide (by omega) (ae _)⟩
 |false=>
  rw[uK hb];simp only[ac];have V:=uw (F:=F) a;have S:=uZ (F:=F) O;rw[lG hF a l u d O,kS hF a l u d O,aY,aY];simp only;rw[kW hF (ln F a) l u d (by omega) [107] rfl,iE (ln F a) l u d [107] (by simp),aY,aY];simp only;cases hb2:dR F (ln F a) [107]with
  |false=>
   rw[uK hb2];simp only[ac];obtain⟨s,m,z,A,M,B,D⟩:=BO hF h (ln F a) l u d q q' (by omega) (by omega) (by omega) ⟨S,by omega,G,J⟩;rw[z,A,aY,aY];exact⟨s,m,rfl,rfl,by omega,B,by omega,D.2.wide (by omega) (ae _)⟩
  |true=>
   have U:=fJ hb2;rw[lw hb2];simp only[aa];obtain⟨p,v,g1,g2,g3,g4,g5⟩:=Pm hF (q:=eQ q) (q':=fO q') u d ⟨G,J⟩ bD (ln F a+1) l (dC) (by omega) (by omega);rw[bQ,show((ln F a:Nat):Int)+1=((ln F a+1:Nat):Int) by omega,g1,g2,aY,aY];simp only[dB];have hL:(l++v).length<=16*p+90:=by grind
   rw[kW hF p (l++v) u d (by omega) [59] rfl,iE p (l++v) u d [59] (by simp),aY,aY];simp only;cases hb3:dR F p [59]with
   |true=>
    have ad:=fJ hb3;rw[lw hb3];simp only[aa,ax,ac];have W:=uw (F:=F) (p+1);have N:=uZ (F:=F) (a:=p+1) (by omega);rw[bQ,show(p:Int)+1=((p+1:Nat):Int) by omega,lG hF (p+1) (l++v) u d (by omega),kS hF (p+1) (l++v) u d (by omega),aY,aY];simp only;obtain⟨s,m,z,A,M,B,D⟩:=BO hF h (ln F (p+1)) (l++v) u d q q' (by omega) (by omega) (by omega) ⟨N,by omega,G,J⟩;rw[z,A,aY,aY];refine⟨s,v++m, ?_,by simp,by omega,B,by grind,(g5.2.wide (by omega) (ae _)).ap D.2⟩;simp
   |false=>
    rw[uK hb3];simp only[aB,aa,ac];have W:=uw (F:=F) p;have N:=uZ (F:=F) g4;rw[lG hF p (l++v) u d g4,kS hF p (l++v) u d g4,aY,aY];simp only;cases hb4:dR F p [110]with
    |true=>
     rw[aqb hb4];simp only[ax,ac];obtain⟨s,m,z,A,M,B,D⟩:=BO hF h (ln F p) (l++v) u d q q' (by omega) (by omega) (by omega) ⟨N,by omega,G,J⟩;rw[z,A,aY,aY];exact⟨s,v++m,by simp,by simp,by omega,B,by grind,(g5.2.wide (by omega) (ae _)).ap D.2⟩
    |false=>
     rw[atc hb4];simp only[aB,aa];rw[kZ (ln F p) (l++v) u d (by omega),uA (ln F p) (l++v) u d (by omega) G (by omega),aY,aY];simp only;obtain⟨s,m,z,A,M,B,D⟩:=BO hF h (ln F p) (l++v++[(18,((ln F p:Nat):Int),((ln F p:Nat):Int),u,())]) u d q q' (by omega) (by omega) (by omega) ⟨N,by grind,G,J⟩;rw[z,A,aY,aY];exact⟨s,v++[(18,((ln F p:Nat):Int),((ln F p:Nat):Int),u,())]++m,by simp,by simp,by omega,B,by grind,((g5.2.wide (by omega) (ae _)).apA fun _=>Tr.mis (ae (ln F p)) (ae _)).ap D.2⟩
theorem alW {k:Nat} (h:All F k) (a:Nat) (l:List Nd) (u d:Int) (r j:Nat) (E:16*(F.length-a)+13<k) (hr:k+2<=r) (G:k+2<=j) (hp:EU F a l d 101):
  ∃(e:Nat) (m:List Nd),(eQ r).q255 F (a:Int) l u d=a6 (PR F e (l++m) u d,())/\
   (fO j).q232 F (gV F) l (a:Int) u d=a6 (RR F e (l++m) u d,())/\a<=e/\e<=F.length/\m.length<=16*(e-a)+5/\Tr F a e u l.length m:=by
 obtain⟨y,I,f,x⟩:=hp;have J:=hF.len;obtain⟨q,rfl⟩: ∃q,r=q+1:=⟨r-1,by omega⟩;obtain⟨g,rfl⟩: ∃g,j=g+1:=⟨j-1,by omega⟩;obtain⟨o,p,K,L,M,s,v⟩:=Xo hF h a (l++[(18,(a:Int),(a:Int),u,())]) u d q g (by omega) (by omega) (by omega) ⟨y,by simp_all,f,x⟩;show ∃(e:Nat) (m:List Nd),ah9 (eQ q) F (a:Int) l u d=_/\ah4 (fO g) F (gV F) l (a:Int) u d=_/\_
 (rewrite [ah9,ah4];delta KA FP FO;rw[xF a l u d,aY])
 simp only;by_cases hlt:a<F.length
 .rw[bJ (b:=gY (a:Int) (bi F)) (eU (by rw[bz];omega))];simp only[show gm F (a:Int)=true from dQ,aa];rw[xI hlt];by_cases h6:F[a].1=6
  .have i:yI F a=true:=by simp_all [yI]
   rw[bJ (b:=bC F[a].1 6) (gB h6),i];simp only[aa];rw[JB (by have:=hF.txt _ (aG hlt);omega),yJ (by have:=hF.txt _ (aG hlt);omega),aY,aY];simp only;cases decide (nl F[a].2.1≠0/\nl F[a].2.1=F[a].2.1.length)with
   |true=>
    simp only[aa];rw[Eg a l u d 7 (by omega) (by omega),JU a l u d (by omega) (by omega) rfl (by omega) (by omega) f (by omega),aY,aY];obtain⟨z,A,N,O,S,B,D⟩:=Xo hF h (a+1) (l++[(7,(a:Int),((a+1:Nat):Int),u,())]) u d q g (by omega) (by omega) (by omega) ⟨by omega,by grind,f,x⟩;exact⟨z,[(7,(a:Int),((a+1:Nat):Int),u,())]++A,by simp_all,by simp_all,by omega,B,by grind,(Tr.lf (ae a) (ae _) (by omega) (fun _=>⟨hlt,h6⟩)).ap D.2⟩
   |false=>
    simp only[ac];rw[kZ a l u d (by omega),uA a l u d (by omega) f (by omega),aY,aY];exact⟨o,[(18,(a:Int),(a:Int),u,())]++p,by simp_all,by simp_all,by omega,s,by simp_all,(Tr.mis (ae a) (ae a)).ap v.2⟩
  .have i:yI F a=false:=by simp_all [yI]
   rw[dE (b:=bC F[a].1 6) (dV h6),i];simp only[ac];rw[kZ a l u d (by omega),uA a l u d (by omega) f (by omega),aY,aY];exact⟨o,[(18,(a:Int),(a:Int),u,())]++p,by simp_all,by simp_all,by omega,s,by simp_all,(Tr.mis (ae a) (ae a)).ap v.2⟩
 .have i:yI F a=false:=by unfold yI;rw[dif_neg hlt]
  rw[dE (b:=gY (a:Int) (bi F)) (iy (by rw[bz];omega)),i];simp only[ac];rw[kZ a l u d (by omega),uA a l u d (by omega) f (by omega),aY,aY];exact⟨o,[(18,(a:Int),(a:Int),u,())]++p,by simp_all,by simp_all,by omega,s,by simp_all,(Tr.mis (ae a) (ae a)).ap v.2⟩
end
section
open Bool renaming false_eq_true → ag
open List renaming append_assoc → ai
open Nat renaming le_refl → ae
open Go.RowKit
variable {F:List Lf} (hF:Wh F)
include hF
omit hF in
theorem Je (a:Nat):a<=zH F a/\(a<=F.length->zH F a<=F.length)/\(yI F a=true->zH F a=a+1):=by
 unfold zH;cases h:yI F a with
 |true=>have:=TR h;grind
 |false=>simp
theorem Ws {q:gu} {q':rM} (u d v:Int) (hd:0<=d/\d<=200): ∀(N a:Nat) (L:List Nd),F.length-a<N->a<=F.length->L.length<=16*a+200->
  ∃(e:Nat) (m:List Nd),Gw q N F (a:Int) u d L=some (.inl ((),((),()),((F,(e:Int),u,d,()),L++m,())))/\
   uy q' N v F (gV F) (a:Int) u d L=some (.inl ((v,()),((),()),((F,gV F,(e:Int),u,d,()),L++m,())))/\a<=e/\e<=F.length/\m.length<=e-a/\Tr F a e u L.length m
 |0,a,L,f,_,_=>by omega
 |N+1,a,L,f,g,j=>by
  have l:=hF.len;rw[Gw,Lt,uy,Y2,kW hF a L u d (by omega) [124] rfl,iE a L u d [124] (by simp),aY,aY];simp only;cases hb:dR F a [124]with
  |false=>
   rw[uK hb];exact⟨a,[],by simp,by simp,ae _,g,by simp,.nil (ae _)⟩
  |true=>
   have o:=fJ hb;rw[lw hb];simp only[aa];rw[bQ,show(a:Int)+1=((a+1:Nat):Int) by omega];obtain⟨p,h,_⟩:=Je (F:=F) (a+1);have i:=h (by omega);rw[Pj (a+1) L u d (by omega) (by omega),We (a+1) L u d (by omega) (by omega) hd.1 (by omega),aY,aY];simp only[ER];obtain⟨e,m,g1,g2,g3,g4,g5⟩:=Ws u d v hd N (zH F (a+1)) (L++[Jf F (a+1) u]) (by omega) i (by grind);exact⟨e,[Jf F (a+1) u]++m,by rw[g1,ai],by rw[g2,ai],by omega,g4,by grind,(Pi (by omega) (ae _)).ap g5.2⟩
theorem amx {k:Nat} (h:All F k) (a:Nat) (L:List Nd) (u d:Int) (q q':Nat) (hm:16*(F.length-a)+13<k) (hr:k+1<=q) (N:k<=q') (hp:EU F a L d 104) (ab:dR F a [40]=true\/yI F a=true):
  ∃(g:Nat) (m:List Nd),(eQ q).q270 F (a:Int) (bI L [opn 15 a u]) (bi L) d=some (PR F g (bI L [opn 15 a u]++m) (bi L) d,())/\
   (∀{z:Type} (K:(List Lf×List UInt8×List Nd×Int×Int×Int×Unit)×Unit->Option z) (B:Option z),
    (aZ (Ag F (gV F) L (a:Int) u d 15) fun x=>
     aZ (lK x.1.1 x.1.2.1 x.1.2.2.1 x.1.2.2.2.1 x.1.2.2.2.2.1 x.1.2.2.2.2.2.1 [40]) fun v=>
      bif v.2.1 then
       aZ (uY v.1.1 v.1.2.1 v.1.2.2.1 (bV .i64 v.1.2.2.2.1 1) v.1.2.2.2.2.1 v.1.2.2.2.2.2.1) fun j=>
        aZ (uy (fO q') bD x.2.1 j.1.1 j.1.2.1 j.1.2.2.2.1 j.1.2.2.2.2.1 j.1.2.2.2.2.2.1 j.1.2.2.1) fun A=>
         dB A (fun i=>
          aZ (lF i.2.2.1.1 i.2.2.1.2.1 i.2.2.2.1 i.2.2.1.2.2.1 i.2.2.1.2.2.2.1 i.2.2.1.2.2.2.2.1 [41]) fun l=>
           aZ (qV l.1.1 l.1.2.1 l.1.2.2.1 l.1.2.2.2.1 l.1.2.2.2.2.1 l.1.2.2.2.2.2.1) fun o=>
            aZ (Nk o.1.1 o.1.2.1 o.1.2.2.1 o.1.2.2.2.1 o.1.2.2.2.2.1 o.1.2.2.2.2.2.1) fun f=>
             bif f.2.1 then
              aZ ((fO q').q52 f.1.1 f.1.2.1 f.1.2.2.1 f.1.2.2.2.1 f.1.2.2.2.2.1 f.1.2.2.2.2.2.1) fun p=>
               aZ (nM p.1.1 p.1.2.1 p.1.2.2.1 p.1.2.2.2.1 p.1.2.2.2.2.1 p.1.2.2.2.2.2.1 i.1.1) K
             else
             aZ (nM f.1.1 f.1.2.1 f.1.2.2.1 f.1.2.2.2.1 f.1.2.2.2.2.1 f.1.2.2.2.2.2.1 i.1.1) K) (fun G=>B)
      else
      aZ (uY v.1.1 v.1.2.1 v.1.2.2.1 v.1.2.2.2.1 v.1.2.2.2.2.1 v.1.2.2.2.2.2.1) fun j=>
       aZ (uy (fO q') bD x.2.1 j.1.1 j.1.2.1 j.1.2.2.2.1 j.1.2.2.2.2.1 j.1.2.2.2.2.2.1 j.1.2.2.1) fun A=>
        dB A (fun i=>
         aZ (lF i.2.2.1.1 i.2.2.1.2.1 i.2.2.2.1 i.2.2.1.2.2.1 i.2.2.1.2.2.2.1 i.2.2.1.2.2.2.2.1 [41]) fun l=>
          aZ (qV l.1.1 l.1.2.1 l.1.2.2.1 l.1.2.2.2.1 l.1.2.2.2.2.1 l.1.2.2.2.2.2.1) fun o=>
           aZ (Nk o.1.1 o.1.2.1 o.1.2.2.1 o.1.2.2.2.1 o.1.2.2.2.2.1 o.1.2.2.2.2.2.1) fun f=>
            bif f.2.1 then
             aZ ((fO q').q52 f.1.1 f.1.2.1 f.1.2.2.1 f.1.2.2.2.1 f.1.2.2.2.2.1 f.1.2.2.2.2.2.1) fun p=>
              aZ (nM p.1.1 p.1.2.1 p.1.2.2.1 p.1.2.2.2.1 p.1.2.2.2.2.1 p.1.2.2.2.2.2.1 i.1.1) K
            else
            aZ (nM f.1.1 f.1.2.1 f.1.2.2.1 f.1.2.2.2.1 f.1.2.2.2.2.1 f.1.2.2.2.2.2.1 i.1.1) K) (fun G=>B))=K (RR F g (L++(15,(a:Int),(g:Int),u,())::m) u d,()))/\a<g/\g<=F.length/\m.length+4<=16*(g-a)/\Tr F a g (bi L) (L.length+1) m:=by
 obtain⟨p1,p2,y,I⟩:=hp;have ad:=hF.len;obtain⟨q,rfl⟩: ∃O,q=O+1:=⟨q-1,by omega⟩;have J:(bI L [opn 15 a u]).length=L.length+1:=by unfold bI;simp
 have M:bI L [opn 15 a u]=L++[(15,(a:Int),0,u,())]:=rfl;have S:a<=tk F a [40]/\tk F a [40]<=F.length:=by
  unfold tk;split
  .rename_i D;have:=fJ D;omega
  .omega
 obtain⟨w1,U,w3⟩:=Je (F:=F) (tk F a [40]);have V:=U S.2;have af:a+1<=zH F (tk F a [40]):=by
  cases D:dR F a [40]with
  |true=>simp_all [lw]
  |false=>
   grind
 obtain⟨e,s,g1,g2,g3,g4,g5⟩:=Ws hF (q:=eQ q) (q':=fO q') (bi L) d u ⟨y,I⟩ bD (zH F (tk F a [40])) (bI L [opn 15 a u]++[Jf F (tk F a [40]) (bi L)]) (dC) V (by grind);obtain⟨x1,W⟩:=DT (F:=F) e [41];have E:=W g4;have x4:=qG (F:=F) e [41] (bi L);have ah:=uw (F:=F) (nJ F e [41]);have X:=uZ (F:=F) E;have hM:(bI L [opn 15 a u]++[Jf F (tk F a [40]) (bi L)]++s++rJ F e [41] (bi L)).length<=L.length+3+(e-zH F (tk F a [40])):=by
  grind
 have aj: ∀(g:Nat) (m:List Nd) {z:Type} (K:(List Lf×List UInt8×List Nd×Int×Int×Int×Unit)×Unit->Option z),aZ (nM F (gV F) (bI L [opn 15 a u]++m) (g:Int) (bi L) d u) K=K (RR F g (L++(15,(a:Int),(g:Int),u,())::m) u d,()):=fun g m z K=>by
  rw[M,show bi L=((L.length:Nat):Int) from rfl,rV g _ u d L.length (by simp) (lY L _ 15 _ _) (by omega) (by omega) y (by omega),aY];simp only[lU,show iP 15=false from rfl,ag,if_false]
 have Y: ∃(g:Nat) (m:List Nd),∃(ak:nT F (ln F (nJ F e [41])) d=true->(eQ q).q71 F ((ln F (nJ F e [41]):Nat):Int) (bI (bI L [opn 15 a u]++[Jf F (tk F a [40]) (bi L)]++s++rJ F e [41] (bi L)) [opn 2 (ln F (nJ F e [41])) (bi L)]) (bi (bI L [opn 15 a u]++[Jf F (tk F a [40]) (bi L)]++s++rJ F e [41] (bi L))) d=some (PR F g (bI (bI L [opn 15 a u]++[Jf F (tk F a [40]) (bi L)]++s++rJ F e [41] (bi L)) [opn 2 (ln F (nJ F e [41])) (bi L)]++m) (bi (bI L [opn 15 a u]++[Jf F (tk F a [40]) (bi L)]++s++rJ F e [41] (bi L))) d,())/\
   (fO q').q52 F (gV F) (bI L [opn 15 a u]++[Jf F (tk F a [40]) (bi L)]++s++rJ F e [41] (bi L)) ((ln F (nJ F e [41]):Nat):Int) (bi L) d=some (RR F g ((bI L [opn 15 a u]++[Jf F (tk F a [40]) (bi L)]++s++rJ F e [41] (bi L))++(2,((ln F (nJ F e [41]):Nat):Int),(g:Int),(bi L),())::m) (bi L) d,())),
   ln F (nJ F e [41])<=g/\g<=F.length/\(nT F (ln F (nJ F e [41])) d=true->m.length+1<=16*(g-ln F (nJ F e [41])))/\(nT F (ln F (nJ F e [41])) d=false->g=ln F (nJ F e [41]))/\(nT F (ln F (nJ F e [41])) d=true->Tr F (ln F (nJ F e [41])) g (bi (bI L [opn 15 a u]++[Jf F (tk F a [40]) (bi L)]++s++rJ F e [41] (bi L))) ((bI L [opn 15 a u]++[Jf F (tk F a [40]) (bi L)]++s++rJ F e [41] (bi L)).length+1) m):=by
  cases hb:nT F (ln F (nJ F e [41])) d with
  |true=>
   obtain⟨g,m,e1,e2,e3,e4,e5⟩:=h.list (ln F (nJ F e [41])) (bI L [opn 15 a u]++[Jf F (tk F a [40]) (bi L)]++s++rJ F e [41] (bi L)) (bi L) d q q' (by omega) (by omega) N ⟨X,by omega,y,I⟩ hb
   grind
  |false=>simp_all
 obtain⟨g,m,f1,f2,Z,f4,f5,f6⟩:=Y;refine⟨g,[Jf F (tk F a [40]) (bi L)]++s++rJ F e [41] (bi L)++(if nT F (ln F (nJ F e [41])) d=true then(2,((ln F (nJ F e [41]):Nat):Int),(g:Int),(bi L),())::m else []), ?_,fun K B=> ?_,by omega,Z, ?_⟩
 .show aid (eQ q) F (a:Int) _ _ d=_;rw[aid,kW hF a _ (bi L) d (by omega) [40] rfl,aY];simp only;rw[Pj (tk F a [40]) _ _ d (by omega) (by rw[J];omega),aY];simp only[ER];rw[g1,aY];simp only[dB];rw[wZ hF e _ (bi L) d (by omega) (by grind) [41] rfl,aY];simp only[kH];rw[lG hF (nJ F e [41]) _ (bi L) d E,aY];simp only;rw[zn hF (ln F (nJ F e [41])) _ (bi L) d (by omega),aY];simp only;cases hb:nT F (ln F (nJ F e [41])) d with
  |true=>
   have n1:=(jJ (bI L [opn 15 a u]++[Jf F (tk F a [40]) (bi L)]++s++rJ F e [41] (bi L)) (opn 2 (ln F (nJ F e [41])) (bi L)) (by omega)).1;obtain⟨c1,c2⟩:=nS (bI L [opn 15 a u]++[Jf F (tk F a [40]) (bi L)]++s++rJ F e [41] (bi L)) m (opn 2 (ln F (nJ F e [41])) (bi L));simp_all [fB,aY,jX]
  |false=>
   simp_all
 .rw[jW a L u d (by omega) (by omega) (by omega) y (by omega),aY];simp only[show iP 15=false from rfl,ag,if_false];rw[show((L.length:Nat):Int)=bi L from rfl,<-M,iE a _ (bi L) d [40] (by simp),aY];simp only;have al: ∀(b:Nat),b=tk F a [40]->(aZ (uY F (gV F) (bI L [opn 15 a u]) (b:Int) (bi L) d) fun j=>
        aZ (uy (fO q') bD u j.1.1 j.1.2.1 j.1.2.2.2.1 j.1.2.2.2.2.1 j.1.2.2.2.2.2.1 j.1.2.2.1) fun A=>
         dB A (fun i=>
          aZ (lF i.2.2.1.1 i.2.2.1.2.1 i.2.2.2.1 i.2.2.1.2.2.1 i.2.2.1.2.2.2.1 i.2.2.1.2.2.2.2.1 [41]) fun l=>
           aZ (qV l.1.1 l.1.2.1 l.1.2.2.1 l.1.2.2.2.1 l.1.2.2.2.2.1 l.1.2.2.2.2.2.1) fun o=>
            aZ (Nk o.1.1 o.1.2.1 o.1.2.2.1 o.1.2.2.2.1 o.1.2.2.2.2.1 o.1.2.2.2.2.2.1) fun f=>
             bif f.2.1 then
              aZ ((fO q').q52 f.1.1 f.1.2.1 f.1.2.2.1 f.1.2.2.2.1 f.1.2.2.2.2.1 f.1.2.2.2.2.2.1) fun p=>
               aZ (nM p.1.1 p.1.2.1 p.1.2.2.1 p.1.2.2.2.1 p.1.2.2.2.2.1 p.1.2.2.2.2.2.1 i.1.1) K
             else
             aZ (nM f.1.1 f.1.2.1 f.1.2.2.1 f.1.2.2.2.1 f.1.2.2.2.2.1 f.1.2.2.2.2.2.1 i.1.1) K) (fun G=>B))=K (RR F g (L++(15,(a:Int),(g:Int),u,())::([Jf F (tk F a [40]) (bi L)]++s++rJ F e [41] (bi L)++(if nT F (ln F (nJ F e [41])) d=true then(2,((ln F (nJ F e [41]):Nat):Int),(g:Int),(bi L),())::m else []))) u d,()):=by
   rintro b rfl;rw[We (tk F a [40]) _ _ d (by omega) (by rw[J];omega) y (by omega),aY];simp only[ER];rw[g2,aY];simp only[dB];rw[xe e _ (bi L) d (by omega) (by grind) y (by omega) [41] (by simp),aY];simp only[kH];rw[kS hF (nJ F e [41]) _ (bi L) d E,aY];simp only;rw[DX (ln F (nJ F e [41])) _ (bi L) d (by omega),aY];simp only;cases hb:nT F (ln F (nJ F e [41])) d with
   |true=>
    simp_all [aY]
   |false=>
    simp_all
  cases D:dR F a [40]with
  |true=>
   simp only[aa]
   grind [bQ,lw]
  |false=>
   simp_all [uK]
 .cases hb:nT F (ln F (nJ F e [41])) d with
  |true=>
   have:=f4 hb;rw[am rfl];exact⟨by grind,(((Pi (by omega) (ae _)).ap g5.2).apA fun _=>uN (ae e) (ae _)).ap (Tr.one (f6 hb) (ae _) (ae _) (by omega) rfl)⟩
  |false=>
   have:=f5 hb;rw[aq (by simp),List.append_nil];exact⟨by grind,((Pi (by omega) (ae _)).ap g5.2).apA fun _=>uN (ae e) (by omega)⟩
end
section
open Bool renaming not_true → ax, not_false → aB
open List renaming length_append → aj
open Nat renaming le_refl → ae
open Go.RowKit
variable {F:List Lf} (hF:Wh F)
include hF
theorem MI {k:Nat} (h:All F k) {q q':Nat} (z:k+1<=q) (A:k<=q') (u d:Int) (hd:0<=d/\d<=200): ∀(N o a:Nat) (L:List Nd),F.length-a<N->F.length-a+1<o->a<=F.length->16*(F.length-a)+13<k->L.length<=16*a+104->
  ∃(f:Nat) (m:List Nd),Ci (eQ q) N F (a:Int) u d L=some (.inl ((),((),()),((F,(f:Int),u,d,()),L++m,())))/\
   yS (fO q') o true F (gV F) (a:Int) u d L=some (.inl ((),((),()),((F,gV F,(f:Int),u,d,()),L++m,())))/\a<=f/\f<=F.length/\m.length<=16*(f-a)/\Tr F a f u L.length m
 |0,_,a,L,x,_,_,_,_=>by omega
 |N+1,0,a,L,_,x,_,_,_=>by omega
 |N+1,1,a,L,_,x,_,_,_=>by omega
 |N+1,o+2,a,L,x,V,B,W,G=>by
  have X:=hF.len
  (rewrite [Ci,Ls,yS,VP];delta tX;rw[SV hF a L u d (by omega) [40] rfl,iE a L u d [40] (by simp),aY,aa,aY])
  simp only;have Y:bC ((zN F a).toNat:Int) 122=dR F a [122]:=Rq a 122 (by decide);by_cases hgo:dR F a [40]=true\/(yI F a=true/\dR F a [122]=false)
  .obtain⟨e,l,Z,e2,e3,I,D⟩:=amx hF h a L u d q q' (by omega) z A ⟨B,G,hd.1,hd.2⟩ (hgo.imp id And.left);obtain⟨n1,_,_⟩:=jJ L (opn 15 a u) (by omega);obtain⟨c1,c2⟩:=nS L l (opn 15 a u);have ab:(L++(15,(a:Int),(e:Int),u,())::l).length<=16*e+104:=by grind
   have J: ∃(f:Nat) (m:List Nd),(aZ (oZ F (e:Int) (L++(15,(a:Int),(e:Int),u,())::l) u d [121]) fun j=>
      bif(!j.2.1)then
       some (.inl ((),((),()),((j.1.1,j.1.2.1,j.1.2.2.2.1,j.1.2.2.2.2.1,()),j.1.2.2.1,())))
      else
      aZ (mQ j.1.1 j.1.2.1 j.1.2.2.1 j.1.2.2.2.1 j.1.2.2.2.2.1) fun s=>
       Ci (eQ q) N s.1.1 s.1.2.1 s.1.2.2.2.1 s.1.2.2.2.2.1 s.1.2.2.1)=some (.inl ((),((),()),((F,(f:Int),u,d,()),L++m,())))/\
     (aZ (lK F (gV F) (L++(15,(a:Int),(e:Int),u,())::l) (e:Int) u d [121]) fun i=>
      bif i.2.1 then
       aZ (qV i.1.1 i.1.2.1 i.1.2.2.1 (bV .i64 i.1.2.2.2.1 1) i.1.2.2.2.2.1 i.1.2.2.2.2.2.1) fun p=>
        yS (fO q') (o+1) i.2.1 p.1.1 p.1.2.1 p.1.2.2.2.1 p.1.2.2.2.2.1 p.1.2.2.2.2.2.1 p.1.2.2.1
      else
      yS (fO q') (o+1) i.2.1 i.1.1 i.1.2.1 i.1.2.2.2.1 i.1.2.2.2.2.1 i.1.2.2.2.2.2.1 i.1.2.2.1)=some (.inl ((),((),()),((F,gV F,(f:Int),u,d,()),L++m,())))/\a<=f/\f<=F.length/\m.length<=16*(f-a)/\Tr F a f u L.length m:=by
    rw[kW hF e _ u d (by omega) [121] rfl,iE e _ u d [121] (by simp),aY,aY];simp only;cases hb:dR F e [121]with
    |false=>
     rw[uK hb];simp only[aB,aa,ac]
     (rewrite [yS,VP];delta tX;rw[ac])
     exact⟨e,(15,(a:Int),(e:Int),u,())::l,rfl,rfl,by omega,I,by grind,D.2.one (ae _) (ae _) (by omega) rfl⟩
    |true=>
     have v:=fJ hb;rw[lw hb];simp only[ax,aa,ac];have ad:=uw (F:=F) (e+1);have K:=uZ (F:=F) (a:=e+1) (by omega);rw[bQ,show(e:Int)+1=((e+1:Nat):Int) by omega,lG hF (e+1) _ u d (by omega),kS hF (e+1) _ u d (by omega),aY,aY];simp only;obtain⟨f,m,g1,g2,g3,g4,g5⟩:=MI h z A u d hd N (o+1) (ln F (e+1)) (L++(15,(a:Int),(e:Int),u,())::l) (by omega) (by omega) K (by omega) (by omega);exact⟨f,((15,(a:Int),(e:Int),u,())::l)++m,by simp_all,by simp_all,by omega,g4,by grind,(D.2.one (ae _) (ae _) (by omega) rfl).app g5.2 (by omega) (aj ..)⟩
   obtain⟨f,m,s1,s2,M,O,S⟩:=J;refine⟨f,m, ?_, ?_,M,O,S⟩
   .cases y:dR F a [40]with
    |true=>
     simp_all [fB,aY,jX]
    |false=>
     rcases hgo with g|⟨g1,g2⟩
     .simp_all
     .rw[xF a L u d,g1];simp only[ac,aa,aY];rw[mg hF a L u d (by omega),aY];simp_all [fB,aY,jX]
   .cases y:dR F a [40]with
    |true=>
     simp_all
    |false=>
     rcases hgo with g|⟨g1,g2⟩
     .simp_all
     .have v:=TR g1;have E:F[a].1=6:=by
       simp_all [yI]
      rw[ac,bJ (b:=gY (a:Int) (bi F)) (eU (by rw[bz];omega)),bJ (b:=gm F (a:Int)) (dQ),xI v,bJ (b:=bC F[a].1 6) (gB E),iE a L u d [122] (by simp),aY,g2];simp_all
  .have y:dR F a [40]=false:=by
    simp_all
   rw[y];simp only[ac];refine⟨a,[], ?_, ?_,ae _,B,by simp,.nil (ae _)⟩
   .rw[xF a L u d,aY];simp only;cases U:yI F a with
    |false=>simp
    |true=>
     have h2:dR F a [122]=true:=by
      simp_all
     simp only[aa]
     grind [mg,aY]
   .by_cases v:a<F.length
    .rw[bJ (b:=gY (a:Int) (bi F)) (eU (by rw[bz];omega)),bJ (b:=gm F (a:Int)) (dQ),xI v];by_cases E:F[a].1=6
     .have U:yI F a=true:=by simp_all [yI]
      simp_all [iE,aY]
     simp_all [dE,dV]
    simp_all [dE,iy,bz]
theorem ahc {k:Nat} (h:All F k) (a:Nat) (l:List Nd) (u d:Int) (r i:Nat) (G:16*(F.length-a)+13<k) (hr:k+2<=r) (I:k+1<=i) (hp:EU F a l d 100):
  ∃(e:Nat) (m:List Nd),(eQ r).q256 F (a:Int) l u d=some (PR F e (l++m) u d,())/\
   (fO i).q233 F (gV F) l (a:Int) u d=some (RR F e (l++m) u d,())/\a<=e/\e<=F.length/\m.length<=16*(e-a)+3/\Tr F a e u l.length m:=by
 obtain⟨s,J,j,v⟩:=hp;have K:=hF.len;obtain⟨q,rfl⟩: ∃q,r=q+1:=⟨r-1,by omega⟩;obtain⟨g,rfl⟩: ∃g,i=g+1:=⟨i-1,by omega⟩;obtain⟨L,x,M⟩:=Je (F:=F) a;have o:=x s;have N:=uw (F:=F) (zH F a);have y:=uZ (F:=F) o;obtain⟨O,z⟩:=DT (F:=F) (ln F (zH F a)) [107];have p:=z y;have S:=qG (F:=F) (ln F (zH F a)) [107] u;have U:=uw (F:=F) (nJ F (ln F (zH F a)) [107]);have A:=uZ (F:=F) p;obtain⟨f,B,g1,g2,g3,g4,g5⟩:=MI hF h (q:=q) (q':=g) (by omega) (by omega) u d ⟨j,v⟩ bD bD (ln F (nJ F (ln F (zH F a)) [107])) (l++[Jf F a u]++rJ F (ln F (zH F a)) [107] u) (dC) (dC) A (by omega) (by grind);obtain⟨V,D⟩:=DT (F:=F) f [122];have E:=D g4;have W:=qG (F:=F) f [122] u;refine⟨nJ F f [122],[Jf F a u]++rJ F (ln F (zH F a)) [107] u++B++rJ F f [122] u, ?_, ?_,by omega,E,by grind,(((Pi (ae a) (ae _)).apA fun _=>uN (ae (ln F (zH F a))) (ae _)).ap g5.2).apA fun _=>uN (ae f) (by omega)⟩
 .show aia (eQ q) F (a:Int) l u d=_;rw[aia,Pj a l u d (by omega) (by omega),aY];simp only[ER];rw[lG hF (zH F a) _ u d o,aY];simp only;rw[wZ hF (ln F (zH F a)) _ u d (by omega) (by grind) [107] rfl,aY];simp only[kH];rw[lG hF (nJ F (ln F (zH F a)) [107]) _ u d p,aY];simp only;rw[g1,aY];simp only[dB];rw[wZ hF f _ u d (by omega) (by grind) [122] rfl,aY];simp_all [kH]
 .show ah5 (fO g) F (gV F) l (a:Int) u d=_;rw[ah5,We a l u d (by omega) (by omega) j (by omega),aY];simp only[ER];rw[kS hF (zH F a) _ u d o,aY];simp only;rw[xe (ln F (zH F a)) _ u d (by omega) (by grind) j (by omega) [107] (by simp),aY];simp only[kH];rw[kS hF (nJ F (ln F (zH F a)) [107]) _ u d p,aY]
  grind [aY,dB,xe,kH]
end
section
open Option renaming some → a6, none → a7
open Bool renaming and_eq_true → af, and_true → ay
open List renaming append_assoc → ai
open Nat renaming le_refl → ae
open Go.RowKit
theorem ap6 (q':rM) (F:List Lf) (S:bH) (a u d:Int) (l:List Nd):ve q' bD 123 9 0 F S a u d l=a6 (.inl ((9,()),((),()),((F,S,a,u,d,()),l,()))):=by kernel_rfl
theorem amF (q':rM) (F:List Lf) (S:bH) (a u d:Int) (l:List Nd):ve q' bD 40 9 0 F S a u d l=a6 (.inl ((10,()),((),()),((F,S,a,u,d,()),l,()))):=by kernel_rfl
theorem amG (q':rM) (F:List Lf) (S:bH) (a u d:Int) (l:List Nd):ve q' bD 105 9 0 F S a u d l=a6 (.inl ((11,()),((),()),((F,S,a,u,d,()),l,()))):=by kernel_rfl
theorem amH (q':rM) (F:List Lf) (S:bH) (a u d:Int) (l:List Nd):ve q' bD 119 9 0 F S a u d l=a6 (.inl ((12,()),((),()),((F,S,a,u,d,()),l,()))):=by kernel_rfl
theorem amI (q':rM) (F:List Lf) (S:bH) (a u d:Int) (l:List Nd):ve q' bD 114 9 0 F S a u d l=a6 (.inl ((13,()),((),()),((F,S,a,u,d,()),l,()))):=by kernel_rfl
theorem amJ (q':rM) (F:List Lf) (S:bH) (a u d:Int) (l:List Nd):ve q' bD 99 9 0 F S a u d l=a6 (.inl ((14,()),((),()),((F,S,a,u,d,()),l,()))):=by kernel_rfl
variable {F:List Lf} (hF:Wh F)
include hF
theorem asw {n:Nat} (h2:All F (n-2)) (a:Nat) (l:List Nd) (u d:Int) (q q':Nat) (M:16*(F.length-a)+8<n+1) (N:n<=q) (O:n<=q') (hp:EU F a l d 113) (s:a<F.length) (hd:d<200) (i:zN F a=123):
  ∃(e:Nat) (m:List Nd),xA (eQ q) F (a:Int) l u d=a6 (PR F e (l++m) u d,())/\
   xy (fO q') F (gV F) l (a:Int) u d=a6 (RR F e (l++m) u d,())/\a<e/\e<=F.length/\m.length+3<=16*(e-a)/\Tr F a e u l.length m:=by
 obtain⟨S,U,v,V⟩:=hp;have W:=hF.len;obtain⟨f,rfl⟩: ∃f,q=f+1:=⟨q-1,by omega⟩;have j:(bI l [opn 9 a u]).length=l.length+1:=by unfold bI;simp
 have o:bI l [opn 9 a u]=l++[(9,(a:Int),0,u,())]:=rfl;obtain⟨x,_,_⟩:=jJ l (opn 9 a u) (by omega);obtain⟨y,g,z,A,X,B,D⟩:=VH hF h2 (a+1) (bI l [opn 9 a u]) (bi l) (d+1) f q' [125] rfl (by simp) (by omega) (by omega) (by omega) ⟨by omega,by rw[j];omega,by omega,by omega⟩;obtain⟨h,p,E,G,Y,I,J⟩:=arp hF (q:=eQ (f+1)) (q':=fO q') (bi l) (d+1) u (bi l) u 9 9 9 9 ⟨by omega,by omega⟩ y (bI l [opn 9 a u]++g) B (by grind);obtain⟨K,L⟩:=nS l (g++p) (opn 9 a u);refine⟨h,(9,(a:Int),(h:Int),u,())::(g++p), ?_, ?_,by omega,I,by grind,Tr.one (((j▸D.2).wide (by omega) (ae _)).ap J.2) (ae _) (ae _) (by omega) rfl⟩
 .rw[xA];simp only[fB,kY,ay,aa,aY];rw[mg hF a l u d (by omega),aY];simp only[i,show bC (((123:UInt8).toNat:Nat):Int) 40=false from by kernel_rfl,show bC (((123:UInt8).toNat:Nat):Int) 105=false from by kernel_rfl,show bC (((123:UInt8).toNat:Nat):Int) 119=false from by kernel_rfl,show bC (((123:UInt8).toNat:Nat):Int) 114=false from by kernel_rfl,show bC (((123:UInt8).toNat:Nat):Int) 99=false from by kernel_rfl,aa,ac,x];rw[bQ,bQ,show(a:Int)+1=((a+1:Nat):Int) by omega];show aZ (ah6 (eQ f) F ((a+1:Nat):Int) _ _ _) _=_;rw[ah6,z,aY];simp only;rw[E,aY];simp only[dB];rw[ai,iq];simp only[K,L,aa,jX,show d+1-1=d by omega]
 ·(rewrite [xy];delta lD;rw[bJ (b:=gm (gV F) (a:Int)) (dQ (by omega) (by simp_all)),wX s,i,show(((123:UInt8).toNat:Nat):Int)=123 from by kernel_rfl,ap6,aY])
  simp only[dB];rw[jW a l u d (by omega) (by omega) (by omega) v (by omega),aY];simp only[show iP 9=true from by kernel_rfl,if_true,show bC (9:Int) 9=true from by kernel_rfl,aa,ac];rw[show((l.length:Nat):Int)=bi l from rfl,<-o,bQ,show(a:Int)+1=((a+1:Nat):Int) by omega];refine(A _).trans ?_;simp only;rw[G,aY];simp only[dB];rw[ai,o,show bi l=((l.length:Nat):Int) from rfl,rV h _ u (d+1) l.length (by simp) (lY l _ 9 _ _) (by omega) (by omega) (by omega) (by omega),aY];simp only[lU,show iP 9=true from by kernel_rfl,if_true,show d+1-1=d by omega]
theorem apt {n:Nat} (h2:All F (n-2)) (a:Nat) (l:List Nd) (u d:Int) (q q':Nat) (M:16*(F.length-a)+8<n+1) (N:n<=q) (O:n<=q') (hp:EU F a l d 113) (s:a<F.length) (hd:d<200) (i:zN F a=40):
  ∃(e:Nat) (m:List Nd),xA (eQ q) F (a:Int) l u d=a6 (PR F e (l++m) u d,())/\
   xy (fO q') F (gV F) l (a:Int) u d=a6 (RR F e (l++m) u d,())/\a<e/\e<=F.length/\m.length+3<=16*(e-a)/\Tr F a e u l.length m:=by
 obtain⟨S,U,v,V⟩:=hp;have W:=hF.len;obtain⟨f,rfl⟩: ∃f,q=f+1:=⟨q-1,by omega⟩;have j:(bI l [opn 10 a u]).length=l.length+1:=by unfold bI;simp
 have o:bI l [opn 10 a u]=l++[(10,(a:Int),0,u,())]:=rfl;obtain⟨x,_,_⟩:=jJ l (opn 10 a u) (by omega);obtain⟨y,g,z,A,X,B,D⟩:=VH hF h2 (a+1) (bI l [opn 10 a u]) (bi l) (d+1) f q' [41] rfl (by simp) (by omega) (by omega) (by omega) ⟨by omega,by rw[j];omega,by omega,by omega⟩;obtain⟨h,p,E,G,Y,I,J⟩:=auS hF (q:=eQ (f+1)) (q':=fO q') (bi l) (d+1) u (bi l) u 10 10 10 10 ⟨by omega,by omega⟩ y (bI l [opn 10 a u]++g) B (by grind);obtain⟨K,L⟩:=nS l (g++p) (opn 10 a u);refine⟨h,(10,(a:Int),(h:Int),u,())::(g++p), ?_, ?_,by omega,I,by grind,Tr.one (((j▸D.2).wide (by omega) (ae _)).ap J.2) (ae _) (ae _) (by omega) rfl⟩
 .rw[xA];simp only[fB,kY,ay,aa,aY];rw[mg hF a l u d (by omega),aY];simp only[i,show bC (((40:UInt8).toNat:Nat):Int) 40=true from by kernel_rfl,aa,ac,x];rw[bQ,bQ,show(a:Int)+1=((a+1:Nat):Int) by omega];show aZ (ah7 (eQ f) F ((a+1:Nat):Int) _ _ _) _=_;rw[ah7,z,aY];simp only;rw[E,aY];simp only[dB];rw[ai,iq];simp only[K,L,aa,jX,show d+1-1=d by omega]
 ·(rewrite [xy];delta lD;rw[bJ (b:=gm (gV F) (a:Int)) (dQ (by omega) (by simp_all)),wX s,i,show(((40:UInt8).toNat:Nat):Int)=40 from by kernel_rfl,amF,aY])
  simp only[dB];rw[jW a l u d (by omega) (by omega) (by omega) v (by omega),aY];simp only[show iP 10=true from by kernel_rfl,if_true,show bC (10:Int) 9=false from by kernel_rfl,show bC (10:Int) 10=true from by kernel_rfl,aa,ac];rw[show((l.length:Nat):Int)=bi l from rfl,<-o,bQ,show(a:Int)+1=((a+1:Nat):Int) by omega];refine(A _).trans ?_;simp only;rw[G,aY];simp only[dB];rw[ai,o,show bi l=((l.length:Nat):Int) from rfl,rV h _ u (d+1) l.length (by simp) (lY l _ 10 _ _) (by omega) (by omega) (by omega) (by omega),aY];simp only[lU,show iP 10=true from by kernel_rfl,if_true,show d+1-1=d by omega]
theorem apu {n:Nat} (h2:All F (n-2)) (a:Nat) (l:List Nd) (u d:Int) (q q':Nat) (U:16*(F.length-a)+8<n+1) (V:n<=q) (W:n<=q') (hp:EU F a l d 113) (x:a<F.length) (hd:d<200) (o:zN F a=105):
  ∃(f:Nat) (m:List Nd),xA (eQ q) F (a:Int) l u d=a6 (PR F f (l++m) u d,())/\
   xy (fO q') F (gV F) l (a:Int) u d=a6 (RR F f (l++m) u d,())/\a<f/\f<=F.length/\m.length+3<=16*(f-a)/\Tr F a f u l.length m:=by
 obtain⟨X,Y,z,Z⟩:=hp;have ab:=hF.len;obtain⟨h,rfl⟩: ∃h,q=h+1:=⟨q-1,by omega⟩;have p:(bI l [opn 11 a u]).length=l.length+1:=by unfold bI;simp
 have s:bI l [opn 11 a u]=l++[(11,(a:Int),0,u,())]:=rfl;obtain⟨A,_,_⟩:=jJ l (opn 11 a u) (by omega);obtain⟨B,i,D,E,e3,G,I⟩:=asW hF h2 (a+1) (bI l [opn 11 a u]) (bi l) (d+1) u (h+1) q' (by omega) (by omega) (by omega) ⟨by omega,by rw[p];omega,by omega,by omega⟩;obtain⟨j,v,J,K,f3,L,M⟩:=ark hF (q:=eQ (h+1)) (q':=fO q') (bi l) (d+1) u (bi l) u 11 11 11 11 ⟨by omega,by omega⟩ B (bI l [opn 11 a u]++i) G (by grind);obtain⟨N,O⟩:=nS l (i++v) (opn 11 a u);refine⟨j,(11,(a:Int),(j:Int),u,())::(i++v), ?_, ?_,by omega,L,by grind,Tr.one (((p▸I.2).wide (by omega) (ae _)).ap M.2) (ae _) (ae _) (by omega) rfl⟩
 .rw[xA];simp only[fB,kY,ay,aa,aY];rw[mg hF a l u d (by omega),aY];simp only[o,show bC (((105:UInt8).toNat:Nat):Int) 40=false from by kernel_rfl,show bC (((105:UInt8).toNat:Nat):Int) 105=true from by kernel_rfl,aa,ac,A];rw[bQ,bQ,show(a:Int)+1=((a+1:Nat):Int) by omega];rw[D,aY];simp only;rw[J,aY];simp only[dB];rw[ai,iq];simp only[N,O,aa,jX,show d+1-1=d by omega]
 ·(rewrite [xy];delta lD;rw[bJ (b:=gm (gV F) (a:Int)) (dQ (by omega) (by simp_all)),wX x,o,show(((105:UInt8).toNat:Nat):Int)=105 from by kernel_rfl,amG,aY])
  simp only[dB];rw[jW a l u d (by omega) (by omega) (by omega) z (by omega),aY];simp only[show iP 11=true from by kernel_rfl,if_true,show bC (11:Int) 9=false from by kernel_rfl,show bC (11:Int) 10=false from by kernel_rfl,show bC (11:Int) 11=true from by kernel_rfl,aa,ac];rw[show((l.length:Nat):Int)=bi l from rfl,<-s,bQ,show(a:Int)+1=((a+1:Nat):Int) by omega];refine(E (fun w y=>aZ (iM (fO q') bD w y.1.1 y.1.2.1 y.1.2.2.2.1 y.1.2.2.2.2.1 y.1.2.2.2.2.2.1 y.1.2.2.1) fun S=>
   dB S (fun e=>
    aZ (nM e.2.2.1.1 e.2.2.1.2.1 e.2.2.2.1 e.2.2.1.2.2.1 e.2.2.1.2.2.2.1 e.2.2.1.2.2.2.2.1 e.1.1) fun g=>
     a6 ((g.1.1,(g.1.2.1,(g.1.2.2.1,(g.1.2.2.2.1,(g.1.2.2.2.2.1,(g.1.2.2.2.2.2.1,())))))),())) (fun b6=>a7))).trans ?_
  simp only;rw[K,aY];simp only[dB];rw[ai,s,show bi l=((l.length:Nat):Int) from rfl,rV j _ u (d+1) l.length (by simp) (lY l _ 11 _ _) (by omega) (by omega) (by omega) (by omega),aY];simp only[lU,show iP 11=true from by kernel_rfl,if_true,show d+1-1=d by omega]
theorem apv {n:Nat} (h2:All F (n-2)) (a:Nat) (l:List Nd) (u d:Int) (q q':Nat) (M:16*(F.length-a)+8<n+1) (N:n<=q) (O:n<=q') (hp:EU F a l d 113) (s:a<F.length) (hd:d<200) (i:zN F a=119):
  ∃(e:Nat) (m:List Nd),xA (eQ q) F (a:Int) l u d=a6 (PR F e (l++m) u d,())/\
   xy (fO q') F (gV F) l (a:Int) u d=a6 (RR F e (l++m) u d,())/\a<e/\e<=F.length/\m.length+3<=16*(e-a)/\Tr F a e u l.length m:=by
 obtain⟨S,U,v,V⟩:=hp;have W:=hF.len;obtain⟨f,rfl⟩: ∃f,q=f+1:=⟨q-1,by omega⟩;have j:(bI l [opn 12 a u]).length=l.length+1:=by unfold bI;simp
 have o:bI l [opn 12 a u]=l++[(12,(a:Int),0,u,())]:=rfl;obtain⟨x,_,_⟩:=jJ l (opn 12 a u) (by omega);obtain⟨y,g,z,A,X,B,D⟩:=alE hF h2 (a+1) (bI l [opn 12 a u]) (bi l) (d+1) (f+1) q' (by omega) (by omega) (by omega) ⟨by omega,by rw[j];omega,by omega,by omega⟩;obtain⟨h,p,E,G,Y,I,J⟩:=arl hF (q:=eQ (f+1)) (q':=fO q') (bi l) (d+1) u (bi l) u 12 12 12 12 ⟨by omega,by omega⟩ y (bI l [opn 12 a u]++g) B (by grind);obtain⟨K,L⟩:=nS l (g++p) (opn 12 a u);refine⟨h,(12,(a:Int),(h:Int),u,())::(g++p), ?_, ?_,by omega,I,by grind,Tr.one (((j▸D.2).wide (by omega) (ae _)).ap J.2) (ae _) (ae _) (by omega) rfl⟩
 .rw[xA];simp only[fB,kY,ay,aa,aY];rw[mg hF a l u d (by omega),aY];simp only[i,show bC (((119:UInt8).toNat:Nat):Int) 40=false from by kernel_rfl,show bC (((119:UInt8).toNat:Nat):Int) 105=false from by kernel_rfl,show bC (((119:UInt8).toNat:Nat):Int) 119=true from by kernel_rfl,aa,ac,x];rw[bQ,bQ,show(a:Int)+1=((a+1:Nat):Int) by omega];rw[z,aY];simp only;rw[E,aY];simp only[dB];rw[ai,iq];simp only[K,L,aa,jX,show d+1-1=d by omega]
 ·(rewrite [xy];delta lD;rw[bJ (b:=gm (gV F) (a:Int)) (dQ (by omega) (by simp_all)),wX s,i,show(((119:UInt8).toNat:Nat):Int)=119 from by kernel_rfl,amH,aY])
  simp only[dB];rw[jW a l u d (by omega) (by omega) (by omega) v (by omega),aY];simp only[show iP 12=true from by kernel_rfl,if_true,show bC (12:Int) 9=false from by kernel_rfl,show bC (12:Int) 10=false from by kernel_rfl,show bC (12:Int) 11=false from by kernel_rfl,show bC (12:Int) 12=true from by kernel_rfl,aa,ac];rw[show((l.length:Nat):Int)=bi l from rfl,<-o,bQ,show(a:Int)+1=((a+1:Nat):Int) by omega];refine(A _).trans ?_;simp only;rw[G,aY];simp only[dB];rw[ai,o,show bi l=((l.length:Nat):Int) from rfl,rV h _ u (d+1) l.length (by simp) (lY l _ 12 _ _) (by omega) (by omega) (by omega) (by omega),aY];simp only[lU,show iP 12=true from by kernel_rfl,if_true,show d+1-1=d by omega]
theorem apw {n:Nat} (h2:All F (n-2)) (a:Nat) (l:List Nd) (u d:Int) (q q':Nat) (M:16*(F.length-a)+8<n+1) (N:n<=q) (O:n<=q') (hp:EU F a l d 113) (s:a<F.length) (hd:d<200) (i:zN F a=114):
  ∃(e:Nat) (m:List Nd),xA (eQ q) F (a:Int) l u d=a6 (PR F e (l++m) u d,())/\
   xy (fO q') F (gV F) l (a:Int) u d=a6 (RR F e (l++m) u d,())/\a<e/\e<=F.length/\m.length+3<=16*(e-a)/\Tr F a e u l.length m:=by
 obtain⟨S,U,v,V⟩:=hp;have W:=hF.len;obtain⟨f,rfl⟩: ∃f,q=f+1:=⟨q-1,by omega⟩;have j:(bI l [opn 13 a u]).length=l.length+1:=by unfold bI;simp
 have o:bI l [opn 13 a u]=l++[(13,(a:Int),0,u,())]:=rfl;obtain⟨x,_,_⟩:=jJ l (opn 13 a u) (by omega);obtain⟨y,g,z,A,X,B,D⟩:=alW hF h2 (a+1) (bI l [opn 13 a u]) (bi l) (d+1) (f+1) q' (by omega) (by omega) (by omega) ⟨by omega,by rw[j];omega,by omega,by omega⟩;obtain⟨h,p,E,G,Y,I,J⟩:=arn hF (q:=eQ (f+1)) (q':=fO q') (bi l) (d+1) u (bi l) u 13 13 13 13 ⟨by omega,by omega⟩ y (bI l [opn 13 a u]++g) B (by grind);obtain⟨K,L⟩:=nS l (g++p) (opn 13 a u);refine⟨h,(13,(a:Int),(h:Int),u,())::(g++p), ?_, ?_,by omega,I,by grind,Tr.one (((j▸D.2).wide (by omega) (ae _)).ap J.2) (ae _) (ae _) (by omega) rfl⟩
 .rw[xA];simp only[fB,kY,ay,aa,aY];rw[mg hF a l u d (by omega),aY];simp only[i,show bC (((114:UInt8).toNat:Nat):Int) 40=false from by kernel_rfl,show bC (((114:UInt8).toNat:Nat):Int) 105=false from by kernel_rfl,show bC (((114:UInt8).toNat:Nat):Int) 119=false from by kernel_rfl,show bC (((114:UInt8).toNat:Nat):Int) 114=true from by kernel_rfl,aa,ac,x];rw[bQ,bQ,show(a:Int)+1=((a+1:Nat):Int) by omega];rw[z,aY];simp only;rw[E,aY];simp only[dB];rw[ai,iq];simp only[K,L,aa,jX,show d+1-1=d by omega]
 ·(rewrite [xy];delta lD;rw[bJ (b:=gm (gV F) (a:Int)) (dQ (by omega) (by simp_all)),wX s,i,show(((114:UInt8).toNat:Nat):Int)=114 from by kernel_rfl,amI,aY])
  simp only[dB];rw[jW a l u d (by omega) (by omega) (by omega) v (by omega),aY];simp only[show iP 13=true from by kernel_rfl,if_true,show bC (13:Int) 9=false from by kernel_rfl,show bC (13:Int) 10=false from by kernel_rfl,show bC (13:Int) 11=false from by kernel_rfl,show bC (13:Int) 12=false from by kernel_rfl,show bC (13:Int) 13=true from by kernel_rfl,aa,ac];rw[show((l.length:Nat):Int)=bi l from rfl,<-o,bQ,show(a:Int)+1=((a+1:Nat):Int) by omega];rw[A,aY];simp only;rw[G,aY];simp only[dB];rw[ai,o,show bi l=((l.length:Nat):Int) from rfl,rV h _ u (d+1) l.length (by simp) (lY l _ 13 _ _) (by omega) (by omega) (by omega) (by omega),aY];simp only[lU,show iP 13=true from by kernel_rfl,if_true,show d+1-1=d by omega]
theorem apx {n:Nat} (h2:All F (n-2)) (a:Nat) (l:List Nd) (u d:Int) (q q':Nat) (M:16*(F.length-a)+8<n+1) (N:n<=q) (O:n<=q') (hp:EU F a l d 113) (s:a<F.length) (hd:d<200) (i:zN F a=99):
  ∃(e:Nat) (m:List Nd),xA (eQ q) F (a:Int) l u d=a6 (PR F e (l++m) u d,())/\
   xy (fO q') F (gV F) l (a:Int) u d=a6 (RR F e (l++m) u d,())/\a<e/\e<=F.length/\m.length+3<=16*(e-a)/\Tr F a e u l.length m:=by
 obtain⟨S,U,v,V⟩:=hp;have W:=hF.len;obtain⟨f,rfl⟩: ∃f,q=f+1:=⟨q-1,by omega⟩;have j:(bI l [opn 14 a u]).length=l.length+1:=by unfold bI;simp
 have o:bI l [opn 14 a u]=l++[(14,(a:Int),0,u,())]:=rfl;obtain⟨x,_,_⟩:=jJ l (opn 14 a u) (by omega);obtain⟨y,g,z,A,X,B,D⟩:=ahc hF h2 (a+1) (bI l [opn 14 a u]) (bi l) (d+1) (f+1) q' (by omega) (by omega) (by omega) ⟨by omega,by rw[j];omega,by omega,by omega⟩;obtain⟨h,p,E,G,Y,I,J⟩:=aro hF (q:=eQ (f+1)) (q':=fO q') (bi l) (d+1) u (bi l) u 14 14 14 14 ⟨by omega,by omega⟩ y (bI l [opn 14 a u]++g) B (by grind);obtain⟨K,L⟩:=nS l (g++p) (opn 14 a u);refine⟨h,(14,(a:Int),(h:Int),u,())::(g++p), ?_, ?_,by omega,I,by grind,Tr.one (((j▸D.2).wide (by omega) (ae _)).ap J.2) (ae _) (ae _) (by omega) rfl⟩
 .rw[xA];simp only[fB,kY,ay,aa,aY];rw[mg hF a l u d (by omega),aY];simp only[i,show bC (((99:UInt8).toNat:Nat):Int) 40=false from by kernel_rfl,show bC (((99:UInt8).toNat:Nat):Int) 105=false from by kernel_rfl,show bC (((99:UInt8).toNat:Nat):Int) 119=false from by kernel_rfl,show bC (((99:UInt8).toNat:Nat):Int) 114=false from by kernel_rfl,show bC (((99:UInt8).toNat:Nat):Int) 99=true from by kernel_rfl,aa,ac,x];rw[bQ,bQ,show(a:Int)+1=((a+1:Nat):Int) by omega];rw[z,aY];simp only;rw[E,aY];simp only[dB];rw[ai,iq];simp only[K,L,aa,jX,show d+1-1=d by omega]
 ·(rewrite [xy];delta lD;rw[bJ (b:=gm (gV F) (a:Int)) (dQ (by omega) (by simp_all)),wX s,i,show(((99:UInt8).toNat:Nat):Int)=99 from by kernel_rfl,amJ,aY])
  simp only[dB];rw[jW a l u d (by omega) (by omega) (by omega) v (by omega),aY];simp only[show iP 14=true from by kernel_rfl,if_true,show bC (14:Int) 9=false from by kernel_rfl,show bC (14:Int) 10=false from by kernel_rfl,show bC (14:Int) 11=false from by kernel_rfl,show bC (14:Int) 12=false from by kernel_rfl,show bC (14:Int) 13=false from by kernel_rfl,show bC (14:Int) 14=true from by kernel_rfl,aa,ac];rw[show((l.length:Nat):Int)=bi l from rfl,<-o,bQ,show(a:Int)+1=((a+1:Nat):Int) by omega];rw[A,aY];simp only;rw[G,aY];simp only[dB];rw[ai,o,show bi l=((l.length:Nat):Int) from rfl,rV h _ u (d+1) l.length (by simp) (lY l _ 14 _ _) (by omega) (by omega) (by omega) (by omega),aY];simp only[lU,show iP 14=true from by kernel_rfl,if_true,show d+1-1=d by omega]
theorem Py {n:Nat} (h2:All F (n-2)) (a:Nat) (l:List Nd) (u d:Int) (r j:Nat) (g:16*(F.length-a)+8<n+1) (hr:n+1<=r) (s:n+1<=j) (hp:EU F a l d 113) (p:D9 F a d=true):
  ∃(h:Nat) (m:List Nd),(eQ r).q219 F (a:Int) l u d=a6 (PR F h (l++m) u d,())/\
   (fO j).q186 F (gV F) l (a:Int) u d=a6 (RR F h (l++m) u d,())/\a<h/\h<=F.length/\m.length+3<=16*(h-a)/\Tr F a h u l.length m:=by
 obtain⟨q,rfl⟩: ∃q,r=q+1:=⟨r-1,by omega⟩;obtain⟨f,rfl⟩: ∃f,j=f+1:=⟨j-1,by omega⟩;unfold D9 at p;simp only[af,decide_eq_true_eq]at p;obtain⟨hd,o⟩:=p;have i:=fJ o;unfold dR at o;simp only[af,decide_eq_true_eq,List.contains_eq_mem,List.mem_cons,List.not_mem_nil,or_false]at o;rcases o.2 with e|e|e|e|e|e
 .exact asw hF h2 a l u d q f g (by omega) (by omega) hp i hd e
 .exact apt hF h2 a l u d q f g (by omega) (by omega) hp i hd e
 .exact apu hF h2 a l u d q f g (by omega) (by omega) hp i hd e
 .exact apv hF h2 a l u d q f g (by omega) (by omega) hp i hd e
 .exact apw hF h2 a l u d q f g (by omega) (by omega) hp i hd e
 .exact apx hF h2 a l u d q f g (by omega) (by omega) hp i hd e
end
section
open Bool renaming false_eq_true → ag, not_true → ax, and_true → ay, not_false → aB
open List renaming length_append → aj, getElem_mem → aG, nil_append → aO
open Nat renaming le_refl → ae
open Go.RowKit
variable {F:List Lf} (hF:Wh F)
include hF
theorem apd (n:Nat):All F n:=by
 induction n using Nat.strongRecOn with
 |_ n o=>
  cases n with
  |zero=>exact⟨fun a l u d r e h=>by omega,fun a l u d r e h=>by omega,fun a l u d r e h=>by omega,fun a l u d r h=>by omega,fun a l u d r e h=>by omega,fun a l u d r e h=>by omega,fun a l u d r e h=>by omega⟩
  |succ n=>
   have h:=o n (by omega);have p:=o (n-1) (by omega);have q:=o (n-2) (by omega);exact⟨fun a l u d r e g hr i f j=>aff hF h a l u d r e g hr i f j,
    fun a l u d r e g hr i f j=>Zu hF h a l u d r e g hr i f j,
    fun a l u d r e g hr i f j=>afC hF h a l u d r e g hr i f j,
    fun a l u d r g hr f j=>Yi hF a l u d r hr f j,
    fun a l u d r e g hr i f=>SX hF h p a l u d r e g hr i f,
    fun a l u d r e g hr i f j=>Py hF q a l u d r e g hr i f j,
    fun a l u d r e g hr i f=>ad9 hF h a l u d r e g hr i f⟩
theorem OQ: ∀(N a:Nat),F.length-a<N->a<=F.length->
  NS N F ((gV F).take a) (a:Int)=some (.inl ((F,gV F,()),()))
 |0,a,h,_=>by omega
 |N+1,a,g,i=>by
  have j:=hF.len;rw[NS,akz];by_cases h:a<F.length
  .rw[bJ (b:=gY (a:Int) (bi F)) (eU (by rw[bz];omega)),bJ (b:=gm F (a:Int)) (dQ),xI h];have d:PD F[a]=some ([sgn F[a]],()):=(akv (hF.txt _ (aG h))).2;rw[d,aY];have e:GV ((gV F).take a) [sgn F[a]]=true:=by
    unfold GV mW
    grind
   simp only[e,aa];rw[bQ,show(a:Int)+1=((a+1:Nat):Int) by omega];have f:bI ((gV F).take a) [sgn F[a]]=(gV F).take (a+1):=by
    simp_all [bI,List.take_add_one]
   rw[f];exact OQ N (a+1) (by omega) (by omega)
  simp_all [dE,iy,bz,List.take_of_length_le]
theorem Hl (w:Int): ∀(N a:Nat) (L:List Nd) (b:Bool) (v:Int),F.length-a<N->a<=F.length->L.length<=16*a+1->bC v 2=b->
  ∃m,Io N b F (a:Int) 0 0 L=some (.inl ((),((),()),((F,((F.length:Nat):Int),0,0,()),L++m,())))/\
   Il N F w v L F (gV F) (a:Int) 0 0=some (.inl ((w,()),(L++m,(F,gV F,((F.length:Nat):Int),0,0,()),())))/\m.length<=16*(F.length-a)/\Tr F a F.length 0 L.length m
 |0,a,L,b,v,i,_,_,_=>by omega
 |N+1,a,L,b,v,i,j,u,f=>by
  have x:=hF.len;rw[Io,VQ,Il,akA];by_cases h:a<F.length
  .rw[bJ (b:=gY (a:Int) (bi F)) (eU (by rw[bz];omega)),bJ (b:=gY (a:Int) (bi F)) (eU (by rw[bz];omega)),kW hF a L 0 0 (by omega) [110] rfl,iE a L 0 0 [110] (by simp),aY,aY];simp only;have g: ∃m,Io N false F ((a+1:Nat):Int) 0 0 (L++[(17,(a:Int),((a+1:Nat):Int),0,())])=some (.inl ((),((),()),((F,((F.length:Nat):Int),0,0,()),L++m,())))/\
     Il N F w 17 (L++[(17,(a:Int),((a+1:Nat):Int),0,())]) F (gV F) ((a+1:Nat):Int) 0 0=some (.inl ((w,()),(L++m,(F,gV F,((F.length:Nat):Int),0,0,()),())))/\m.length<=16*(F.length-a)/\Tr F a F.length 0 L.length m:=by
    obtain⟨m,g1,g2,g3⟩:=Hl w N (a+1) (L++[(17,(a:Int),((a+1:Nat):Int),0,())]) false 17 (by omega) (by omega) (by grind) rfl;exact⟨[(17,(a:Int),((a+1:Nat):Int),0,())]++m,by simp_all,by simp_all,by grind,(Tr.lf (ae a) (ae _) (by omega) (fun h=>by exfalso;omega)).ap g3.2⟩
   cases hb:dR F a [110]with
   |true=>
    rw[lw hb,bQ,show(a:Int)+1=((a+1:Nat):Int) by omega];simp only[aa];obtain⟨m,g1,g2,g3⟩:=Hl w N (a+1) L b v (by omega) (by omega) (by omega) f;exact⟨m,g1,g2,by omega,g3.2.wide (by omega) (ae _)⟩
   |false=>
    rw[uK hb,f];simp only[ac];cases b with
    |true=>
     simp only[ax,ac];rw[Eg a L 0 0 17 (by omega) (by omega),JU a L 0 0 (by omega) (by omega) rfl (by omega) (by omega) (by omega) (by omega),aY,aY];exact g
    |false=>
     simp only[aB,aa];rw[zn hF a L 0 0 (by omega),DX a L 0 0 (by omega),aY,aY];simp only;cases hp:nT F a 0 with
     |true=>
      obtain⟨y,_,_⟩:=jJ L (opn 2 a 0) (by omega);obtain⟨d,e,l,o,z,p,q⟩:=(apd hF (16*F.length+13)).list a L 0 0 bD bD (by omega) (Nat.le_of_lt (dC)) (Nat.le_of_lt (dC)) ⟨j,by omega,by omega,by omega⟩ hp;obtain⟨A,B⟩:=nS L e (opn 2 a 0);have D:apS F (a:Int) (bI L [opn 2 a 0]) (bi L) 0=some (PR F d (bI L [opn 2 a 0]++e) (bi L) 0,()):=l;have E:asM F (gV F) L (a:Int) 0 0=some (RR F d (L++(2,(a:Int),(d:Int),0,())::e) 0 0,()):=o;obtain⟨m,g1,g2,g3⟩:=Hl w N d (L++(2,(a:Int),(d:Int),0,())::e) true 2 (by omega) p (by grind) rfl;refine⟨((2,(a:Int),(d:Int),0,())::e)++m, ?_, ?_,by grind,(q.2.one (ae _) (ae _) (by omega) rfl).app g3.2 (ae _) (aj ..)⟩
      .simp_all [fB,aY,jX]
      simp_all [aY]
     |false=>
      simp only[ac];rw[Eg a L 0 0 17 (by omega) (by omega),JU a L 0 0 (by omega) (by omega) rfl (by omega) (by omega) (by omega) (by omega),aY,aY];exact g
  .have s:a=F.length:=by omega
   rw[dE (b:=gY (a:Int) (bi F)) (iy (by rw[bz];omega)),dE (b:=gY (a:Int) (bi F)) (iy (by rw[bz];omega)),s];exact⟨[],by simp,by simp,by simp,.nil (ae _)⟩
theorem ajU: ∃l,Tv F=some (l,())/\apQ F=some (l,())/\l.length<=16*F.length+1/\ ∃m,l=(1,0,(F.length:Int),-1,())::m/\Tr F 0 F.length 0 1 m:=by
 have e:=hF.len;obtain⟨m,g1,g2,g3⟩:=Hl hF (-1) bD 0 [(1,0,0,-1,())] false 0 (dC) (by omega) (by simp) rfl;refine⟨WO ([(1,0,0,-1,())]++m) 0 ((F.length:Nat):Int), ?_, ?_,by simp_all [ahi],m,rfl,g3.2⟩
 .rw[Tv];have d:dZ [((1:Int),((0:Int),((0:Int),((-1:Int),()))))] 32=true:=by kernel_rfl
  simp only[fB,ay,aa,d];rw[apR,show((0:Int))=((0:Nat):Int) from rfl];simp only[Int.ofNat_zero]at g1 ⊢;rw[g1,aY];simp only[dB,aY];rw[bJ (dQ (by omega) (by simp)),bJ (oJ (by simp[bP]))];rfl
 .rw[apQ,show NS bD F [] 0=some (.inl ((F,gV F,()),())) from OQ hF bD 0 (dC) (by omega),aY];simp only[dB];rw[show Ag F (gV F) [] 0 (-1) 0 1=_ from jW 0 [] (-1) 0 (by omega) (by omega) (by simp) (by omega) (by omega),aY];simp only[show iP 1=false from by kernel_rfl,ag,if_false,aO,List.length_nil];rw[show Il bD F (-1) 0 [(1,((0:Nat):Int),0,-1,())] F (gV F) ((0:Nat):Int) ((0:Nat):Int) 0=_ from g2,aY];simp only[dB];rw[show nM F (gV F) _ ((F.length:Nat):Int) 0 0 (-1)=_ from rV F.length ([(1,0,0,-1,())]++m) (-1) 0 0 (by simp) (k:=1) rfl (by omega) (by omega) (by omega) (by omega),aY]
end
end Go.Proofs.YtlhpdcadgbjhiaaGreatDoor
