/- Parts of the proof, joined and shortened by a program: the plain machine, the functions as it prints them, and the mathematics over them. -/
import Derived.Test.YtjegbhogodknhaaGreatDoorZ4
import Derived.Test.YtjegbhogodknhaaGreatDoorZ5
import Derived.Test.YtjegbhogodknhaaGreatDoorZ7
set_option linter.unusedVariables false
set_option linter.unusedSimpArgs false
set_option maxRecDepth 100000
set_option maxHeartbeats 4000000
namespace Go.Proofs.YtjegbhogodknhaaGreatDoor
section
open Option renaming some → a6, none → a7
open Bool renaming not_true → au, not_false → aF
open Nat renaming le_trans → aK
open Go.RowKit
theorem awT {a b:List UInt8}:iG a b=true↔a=b:=by simp[iG]
theorem Xu {a b:List UInt8} (h:a≠b):iG a b=false:=by simp[iG];exact h
theorem aFU {a b:List UInt8} (h:a=b):iG a b=true:=awT.2 h
def ah1:List dC:=[[33],[123],[125],[99,97,115,101],[100,111],[100,111,110,101],[101,108,105,102],[101,108,115,101],[101,115,97,99],[102,105],[102,111,114],[105,102],[105,110],[116,104,101,110],[117,110,116,105,108],[119,104,105,108,101]]
def aeh:dC:=[32,33,32,123,32,125,32,99,97,115,101,32,100,111,32,100,111,110,101,32,101,108,105,102,32,101,108,115,101,32,101,115,97,99,32,102,105,32,102,111,114,32,105,102,32,105,110,32,116,104,101,110,32,117,110,116,105,108,32,119,104,105,108,101,32]
theorem agV: ∀i:Fin 66,∀n:Fin 66,(sub aeh (i.val:Int) ((i.val:Int)+((n.val:Int)+2))).getD 0 0=32->
  (sub aeh (i.val:Int) ((i.val:Int)+((n.val:Int)+2))).getD (n.val+1) 0=32->
  (((sub aeh (i.val:Int) ((i.val:Int)+((n.val:Int)+2))).drop 1).take n.val).contains 32=false->n.val≠0->i.val+n.val+2<=65->
  ah1.contains (((sub aeh (i.val:Int) ((i.val:Int)+((n.val:Int)+2))).drop 1).take n.val)=true:=by decide+kernel
theorem ajj (x:dC) (hx:x.length<=3000000): ∀(n k:Nat),k<=x.length->x.length-k<n->
  Em n 32 x (k:Int)=a6 (.inl ((),()))/\(∀j,k<=j->j<x.length->dm x (j:Int)≠32)\/Em n 32 x (k:Int)=a6 (.inr ((true,()),()))
 |0,k,d,e=>by omega
 |n+1,k,d,e=>by
  rw[Em];unfold VI;by_cases hk:k<x.length
  .rw[dn (fQ (by rw[cu];omega)),dn (fD)];by_cases hb:dm x (k:Int)=32
   .simp_all [gz]
   .rw[dY (fB hb),dD];rcases ajj x hx n (k+1) (by omega) (by omega)with ⟨h,h'⟩|h
    all_goals grind
  .rw[dY (iL (by rw[cu];omega))]
   grind
theorem atj {x:List UInt8} (h: ∀j,0<=j->j<x.length->dm x ((j:Nat):Int)≠32):x.contains 32=false:=by
 rw[Bool.eq_false_iff];intro d;rw[List.contains_iff_mem]at d;obtain⟨j,e,f⟩:=List.mem_iff_getElem.1 d;refine h j (by omega) e ?_;simp_all [dm]
theorem ae7 (x:dC) (hx:x.length<=3000000) (f:x.length≠0) (hb:x.contains 32=false) (g:ah1.contains x=false): ∀(n i:Nat),i<=66->66-i<n->
  UG n (bZ (bZ [32] x) [32]) (i:Int)=a6 (.inl ((),()))
 |0,i,j,l=>by omega
 |n+1,i,j,l=>by
  have d:(bZ (bZ [32] x) [32]).length=x.length+2:=by simp[bZ]
  rw[UG];unfold acv;by_cases hi:i+x.length+2<=65
  .rw[dn (ul (by grind [cu,dD]))];rw[dn (ig (by omega) (by grind [cu,dD]) (by rw[cu,cu,d,dD];show _<=(65:Int);omega))];rw[dY (Xu ?_)]
   .rw[dD];exact ae7 x hx f hb g n (i+1) (by omega) (by omega)
   .intro e;rw[cu,d,dD]at e;change sub aeh _ _=_ at e;have:=agV ⟨i,by omega⟩ ⟨x.length,by omega⟩;simp_all [bZ]
  .rw[dY (EY (by grind [cu,dD]))]
theorem ayX (x:dC) (hx:x.length<=3000000) (d:ah1.contains x=false):axa x=a6 (false,()):=by
 unfold axa;by_cases h0:x.length=0
 .simp_all [gz,cu]
 rw[dY (fB (by rw[cu];omega))];unfold Ob;rcases ajj x hx bY 0 (by omega) (di)with ⟨h,h'⟩|h
 .rw[show(0:Int)=((0:Nat):Int) from rfl,h];simp only[bT,atB,ac];rw[dn (show jf [32] x=true by unfold jf nC;grind)];rw[dn (show jf (bZ [32] x) [32]=true by unfold jf nC bZ;grind)];rw[ae7 x hx h0 (atj h') d bY 0 (by omega) (di)];rfl
 .rw[show(0:Int)=((0:Nat):Int) from rfl,h];rfl
theorem aeR: ∀k:Fin 17,aiZ ((k.val:Int)+1)=a6 (Md.getD k.val [],())/\ZA ((k.val:Int)+1)=a6 (Md.getD k.val [],()):=by
 intro k
 match k with
 |⟨0,_⟩=>exact⟨by kernel_rfl,by kernel_rfl⟩
 |⟨1,_⟩=>exact⟨by kernel_rfl,by kernel_rfl⟩
 |⟨2,_⟩=>exact⟨by kernel_rfl,by kernel_rfl⟩
 |⟨3,_⟩=>exact⟨by kernel_rfl,by kernel_rfl⟩
 |⟨4,_⟩=>exact⟨by kernel_rfl,by kernel_rfl⟩
 |⟨5,_⟩=>exact⟨by kernel_rfl,by kernel_rfl⟩
 |⟨6,_⟩=>exact⟨by kernel_rfl,by kernel_rfl⟩
 |⟨7,_⟩=>exact⟨by kernel_rfl,by kernel_rfl⟩
 |⟨8,_⟩=>exact⟨by kernel_rfl,by kernel_rfl⟩
 |⟨9,_⟩=>exact⟨by kernel_rfl,by kernel_rfl⟩
 |⟨10,_⟩=>exact⟨by kernel_rfl,by kernel_rfl⟩
 |⟨11,_⟩=>exact⟨by kernel_rfl,by kernel_rfl⟩
 |⟨12,_⟩=>exact⟨by kernel_rfl,by kernel_rfl⟩
 |⟨13,_⟩=>exact⟨by kernel_rfl,by kernel_rfl⟩
 |⟨14,_⟩=>exact⟨by kernel_rfl,by kernel_rfl⟩
 |⟨15,_⟩=>exact⟨by kernel_rfl,by kernel_rfl⟩
 |⟨16,_⟩=>exact⟨by kernel_rfl,by kernel_rfl⟩
 |⟨n+17,h⟩=>omega
theorem aAa {x:List UInt8} (d:Md.contains x=false) {k:Nat} (hk:k<17):Md.getD k []≠x:=by
 rintro rfl;rw[Bool.eq_false_iff]at d;apply d;rw[List.contains_iff_mem,List.getD_eq_getElem?_getD,List.getElem?_eq_getElem (show k<Md.length from hk)];simp
theorem Ym (x:dC) (d:Md.contains x=false): ∀(n k:Nat),k<=17->17-k<n->Eh n x ((k:Int)+1)=a6 (.inl ((),()))
 |0,k,e,f=>by omega
 |n+1,k,e,f=>by
  rw[Eh];unfold Nb;by_cases hk:k<17
  .rw[dn (ul),(aeR ⟨k,hk⟩).1,bT,dY (Xu (aAa d hk)),dD];exact Ym x d n (k+1) (by omega) (by omega)
  .rw[dY (EY)]
theorem alx (x:dC) (d:Md.contains x=false) (a b c:Int): ∀(n k:Nat),k<=17->17-k<n->UE n ((k:Int)+1) a x b c=a6 (.inl ((),()))
 |0,k,e,f=>by omega
 |n+1,k,e,f=>by
  rw[UE];unfold acn;by_cases hk:k<17
  .rw[dn (ul),(aeR ⟨k,hk⟩).2,bT,dY (Xu (aAa d hk)),dD];exact alx x d a b c n (k+1) (by omega) (by omega)
  .rw[dY (EY)]
theorem aye {x:List UInt8} (h:ah1.contains x=true):x=[33]\/x=[123]\/x=[125]\/x=[99,97,115,101]\/x=[100,111]\/x=[100,111,110,101]\/x=[101,108,105,102]\/x=[101,108,115,101]\/x=[101,115,97,99]\/x=[102,105]\/x=[102,111,114]\/x=[105,102]\/x=[105,110]\/x=[116,104,101,110]\/x=[117,110,116,105,108]\/x=[119,104,105,108,101]:=by
 simp_all [ah1]
theorem aC5 {x:List UInt8} (h:Md.contains x=true):x=[38,38]\/x=[124,124]\/x=[59,59]\/x=[60,60]\/x=[60,60,45]\/x=[62,62]\/x=[60,38]\/x=[62,38]\/x=[60,62]\/x=[62,124]\/x=[60]\/x=[62]\/x=[38]\/x=[59]\/x=[124]\/x=[40]\/x=[41]:=by
 simp_all [Md]
theorem aoL (x:dC) (hx:x.length<=10000) (a b:Int): ∃c:UInt8,ai2 x=a6 ((c.toNat:Int),())/\Uc (6,(x,(a,(b,()))))=a6 ([c],()):=by
 cases hw:ah1.contains x with
 |true=>
  rcases aye hw with h|h|h|h|h|h|h|h|h|h|h|h|h|h|h|h
  .subst h;exact⟨33,by kernel_rfl,by kernel_rfl⟩
  .subst h;exact⟨123,by kernel_rfl,by kernel_rfl⟩
  .subst h;exact⟨125,by kernel_rfl,by kernel_rfl⟩
  .subst h;exact⟨99,by kernel_rfl,by kernel_rfl⟩
  .subst h;exact⟨100,by kernel_rfl,by kernel_rfl⟩
  .subst h;exact⟨103,by kernel_rfl,by kernel_rfl⟩
  .subst h;exact⟨101,by kernel_rfl,by kernel_rfl⟩
  .subst h;exact⟨108,by kernel_rfl,by kernel_rfl⟩
  .subst h;exact⟨122,by kernel_rfl,by kernel_rfl⟩
  .subst h;exact⟨102,by kernel_rfl,by kernel_rfl⟩
  .subst h;exact⟨114,by kernel_rfl,by kernel_rfl⟩
  .subst h;exact⟨105,by kernel_rfl,by kernel_rfl⟩
  .subst h;exact⟨107,by kernel_rfl,by kernel_rfl⟩
  .subst h;exact⟨116,by kernel_rfl,by kernel_rfl⟩
  .subst h;exact⟨119,by kernel_rfl,by kernel_rfl⟩
  .subst h;exact⟨119,by kernel_rfl,by kernel_rfl⟩
 |false=>
  refine⟨120, ?_, ?_⟩
  .have e: ∀l,ah1.contains l=true->iG x l=false:=fun l d=>Xu fun f=>by simp_all
   (unfold ai2;delta QU Zt)
   simp only[e [33] rfl,e [123] rfl,e [125] rfl,e [99,97,115,101] rfl,e [100,111] rfl,e [100,111,110,101] rfl,e [101,108,105,102] rfl,e [101,108,115,101] rfl,e [101,115,97,99] rfl,e [102,105] rfl,e [102,111,114] rfl,e [105,102] rfl,e [105,110] rfl,e [116,104,101,110] rfl,e [117,110,116,105,108] rfl,e [119,104,105,108,101] rfl,ac];rfl
  .unfold Uc;simp only[show cZ 6 2=false from rfl,show cZ 6 5=false from rfl,show cZ 6 4=false from rfl,show cZ 6 6=true from rfl,au,ac,ayX x (aK hx (by omega)) hw,bT,aF,aa]
theorem anH (x:dC) (hx:x.length<=10000) (a b:Int): ∃c:UInt8,ai1 x=a6 ((c.toNat:Int),())/\Uc (4,(x,(a,(b,()))))=a6 ([c],())/\c≠120:=by
 cases hw:Md.contains x with
 |true=>
  rcases aC5 hw with h|h|h|h|h|h|h|h|h|h|h|h|h|h|h|h|h
  .subst h;exact⟨97,by kernel_rfl,by kernel_rfl,by decide⟩
  .subst h;exact⟨111,by kernel_rfl,by kernel_rfl,by decide⟩
  .subst h;exact⟨121,by kernel_rfl,by kernel_rfl,by decide⟩
  .subst h;exact⟨60,by kernel_rfl,by kernel_rfl,by decide⟩
  .subst h;exact⟨60,by kernel_rfl,by kernel_rfl,by decide⟩
  .subst h;exact⟨60,by kernel_rfl,by kernel_rfl,by decide⟩
  .subst h;exact⟨60,by kernel_rfl,by kernel_rfl,by decide⟩
  .subst h;exact⟨60,by kernel_rfl,by kernel_rfl,by decide⟩
  .subst h;exact⟨60,by kernel_rfl,by kernel_rfl,by decide⟩
  .subst h;exact⟨60,by kernel_rfl,by kernel_rfl,by decide⟩
  .subst h;exact⟨60,by kernel_rfl,by kernel_rfl,by decide⟩
  .subst h;exact⟨60,by kernel_rfl,by kernel_rfl,by decide⟩
  .subst h;exact⟨38,by kernel_rfl,by kernel_rfl,by decide⟩
  .subst h;exact⟨59,by kernel_rfl,by kernel_rfl,by decide⟩
  .subst h;exact⟨124,by kernel_rfl,by kernel_rfl,by decide⟩
  .subst h;exact⟨40,by kernel_rfl,by kernel_rfl,by decide⟩
  .subst h;exact⟨41,by kernel_rfl,by kernel_rfl,by decide⟩
 |false=>
  refine⟨63, ?_, ?_,by decide⟩
  .unfold ai1;have:PS x=a6 (0,()):=by
    unfold PS;by_cases h0:x=[]
    .rw[dn (aFU h0)]
    .rw[dY (Xu h0),show(1:Int)=((0:Nat):Int)+1 from rfl,Ym x hw bY 0 (by omega) (di)];rfl
   rw[this];rfl
  .unfold Uc;simp only[show cZ 4 2=false from rfl,show cZ 4 5=false from rfl,show cZ 4 4=true from rfl,ac,aa];rw[show(1:Int)=((0:Nat):Int)+1 from rfl,alx x hw 4 a b bY 0 (by omega) (di)];rfl
theorem aAh (k:Int) (x:dC) (hx:x.length<=10000) (a b:Int): ∃c:UInt8,FI (k,(x,(a,(b,()))))=a6 ((c.toNat:Int),())/\Uc (k,(x,(a,(b,()))))=a6 ([c],())/\(c=120->k=6):=by
 by_cases h2:k=2
 .subst h2;exact⟨110,rfl,rfl,fun h=>absurd h (by decide)⟩
 by_cases h5:k=5
 .subst h5;exact⟨35,rfl,rfl,fun h=>absurd h (by decide)⟩
 by_cases h4:k=4
 .subst h4;obtain⟨c,h,d,f⟩:=anH x hx a b;refine⟨c, ?_,d,fun e=>absurd e f⟩;unfold FI;simp only[show cZ 4 2=false from rfl,show cZ 4 4=true from rfl,ac,aa,h,bT]
 by_cases h6:k=6
 .subst h6;obtain⟨c,h,d⟩:=aoL x hx a b;refine⟨c, ?_,d,fun _=>rfl⟩;unfold FI;simp only[show cZ 6 2=false from rfl,show cZ 6 4=false from rfl,show cZ 6 5=false from rfl,show cZ 6 6=true from rfl,ac,aa,h,bT]
 refine⟨63, ?_, ?_,fun h=>absurd h (by decide)⟩
 .unfold FI;simp only[fB h2,fB h4,fB h5,fB h6,ac];rfl
 .unfold Uc;simp only[fB h2,fB h4,fB h5,fB h6,ac,aF,aa]
abbrev Lf:=Int×List UInt8×Int×Int×Unit
def dLf:Lf:=(0,([],(0,(0,()))))
def sgn (f:Lf):UInt8:=match Uc f with
 |some ([c],_)=>c
 |_=>0
theorem ab7 {f:Lf} (h:f.2.1.length<=10000):FI f=a6 (((sgn f).toNat:Int),())/\Uc f=a6 ([sgn f],()):=by
 obtain⟨k,x,a,b,u⟩:=f;obtain⟨c,d,e,_⟩:=aAh k x h a b;simp_all [sgn]
theorem alu {f:Lf} (h:f.2.1.length<=10000) (hx:sgn f=120):f.1=6:=by
 obtain⟨k,x,a,b,u⟩:=f;obtain⟨c,d,e,g⟩:=aAh k x h a b;simp_all [sgn]
end
section
open Option renaming some → a6, none → a7
open Bool renaming and_true → aj, not_true → au, not_false → aF, true_and → aS, false_or → bg
open List renaming getElem_mem → aI
open Nat renaming le_refl → af
open Go.RowKit
abbrev Nd:=Int×Int×Int×Int×Unit
def dNd:Nd:=(0,(0,(0,(0,()))))
structure yT (F:List Lf):Prop where
 len:F.length<=10000
 txt: ∀f∈F,f.2.1.length<=10000
def qo (F:List Lf) (a:Nat):UInt8:=if h:a<F.length then sgn F[a]else 0
def dW (F:List Lf) (a:Nat) (o:dC):Bool:=decide (a<F.length)&&o.contains (qo F a)
theorem BX {F:List Lf} {a:Nat} (h:a<F.length):qo F a=sgn F[a]:=by simp_all [qo]
theorem AQ {F:List Lf} {a:Nat} (h:F.length<=a:=by omega):qo F a=0:=by simp_all [qo,dif_neg]
theorem eQ {F:List Lf} {a:Nat} {o:List UInt8} (h:dW F a o=true):a<F.length:=by
 simp_all [dW]
theorem um {F:List Lf} {a:Nat} (h:a<F.length):gW F (0,([],(0,(0,())))) (a:Int)=F[a]:=by
 simp_all [gW]
theorem azJ {d:Type} {l:List d} {k:Nat} (h:l.length*k<=140737488355328):fG l k=true:=by
 grind [fG,nC]
variable {F:List Lf} (hF:yT F)
include hF
theorem auJ (a k:Nat) (l:List Nd) (u d:Int) (e:a+k<1000000000):Lj F (a:Int) l u d (k:Int)=a6 ((F,((a:Int),(l,(u,(d,()))))),(((qo F (a+k)).toNat:Int),())):=by
 have:=hF.len;rw[Lj,dD,show(a:Int)+(k:Int)=((a+k:Nat):Int) by omega];by_cases h:a+k<F.length
 .rw[dY (EY (by rw[cu];omega)),dn (fD),um h,(ab7 (hF.txt _ (aI h))).1,bT,BX h]
 .rw[dn (ul (by rw[cu];omega)),AQ];rfl
theorem lm (a:Nat) (l:List Nd) (u d:Int) (e:a<100000000):Lj F (a:Int) l u d 0=a6 ((F,((a:Int),(l,(u,(d,()))))),(((qo F a).toNat:Int),())):=auJ hF a 0 l u d (by omega)
theorem aly (a:Nat) (l:List Nd) (u d:Int) (e:a<100000000):Lj F (a:Int) l u d 1=a6 ((F,((a:Int),(l,(u,(d,()))))),(((qo F (a+1)).toNat:Int),())):=auJ hF a 1 l u d (by omega)
omit hF in
theorem axm (S:dC) (c:UInt8):leI 0 (ibW S (c.toNat:Int))=S.contains c:=by
 have:ibW S (c.toNat:Int)=Lib.indexByte S c:=by unfold ibW;congr 1;simp
 rw[this,arB];by_cases h:(S.takeWhile (· !=c)).length<S.length
 .rw[am h,ul];have:=Cc (· !=c) S h
  grind
 .rw[aq h,EY];have e: ∀x∈S,x≠c:=fun x d=>by
   obtain⟨i,f,rfl⟩:=List.getElem_of_mem d
   grind [GZ]
  grind
theorem Kz (a:Nat) (l:List Nd) (u d:Int) (f:a<100000000) (o:dC) (g:o.contains 0=false):am8 F (a:Int) l u d o=a6 ((F,((a:Int),(l,(u,(d,()))))),(dW F a o,())):=by
 rw[am8,lm hF a l u d f,bT];simp only;unfold dW;by_cases h:qo F a=0
 .rw[h,show(!cZ (((0:UInt8).toNat:Nat):Int) 0)=false from rfl,ac,g,Bool.and_false]
 .have i:a<F.length:=by
   grind [AQ]
  rw[fB fun e=>h (UInt8.toNat_inj.1 (by simp_all))];simp only[aF,aa];rw[adC,ai0,bT,bT];simp only[axm,decide_eq_true i,aS]
def tk (F:List Lf) (a:Nat) (o:dC):Nat:=if dW F a o=true then a+1 else a
theorem iF (a:Nat) (l:List Nd) (u d:Int) (e:a<100000000) (o:dC) (f:o.contains 0=false):qm F (a:Int) l u d o=a6 ((F,(((tk F a o:Nat):Int),(l,(u,(d,()))))),(dW F a o,())):=by
 rw[qm,Kz hF a l u d e o f,bT];simp only;unfold tk;cases h:dW F a o with
 |false=>rfl
 |true=>
  simp only[au,ac,if_true]
  grind [dD]
def lnF (F:List Lf):Nat->Nat->Nat
 |0,a=>a
 |n+1,a=>if dW F a [110]=true then lnF F n (a+1)else a
def ln (F:List Lf) (a:Nat):Nat:=lnF F (F.length+1) a
omit hF in
theorem aej: ∀(n m a:Nat),F.length<n+a->F.length<m+a->lnF F n a=lnF F m a
 |0,0,a,_,_=>rfl
 |0,m+1,a,h,_=>by
  rw[lnF,lnF,aq];intro d;have:=eQ d;omega
 |n+1,0,a,_,h=>by
  rw[lnF,lnF,aq];intro d;have:=eQ d;omega
 |n+1,m+1,a,e,f=>by
  rw[lnF,lnF];split
  .exact aej n m (a+1) (by omega) (by omega)
  .rfl
omit hF in
theorem mY (a:Nat):ln F a=if dW F a [110]=true then ln F (a+1)else a:=by
 grind [ln,lnF,aej]
omit hF in
theorem agW: ∀(n a:Nat),a<=lnF F n a
 |0,a=>af _
 |n+1,a=>by
  rw[lnF];split
  .have:=agW n (a+1);omega
  omega
omit hF in
theorem lV (a:Nat):a<=ln F a:=agW _ _
omit hF in
theorem asv: ∀(n a:Nat),a<=F.length->lnF F n a<=F.length
 |0,a,h=>h
 |n+1,a,h=>by
  rw[lnF];split
  .rename_i d
   exact asv n (a+1) (eQ d)
  .exact h
omit hF in
theorem kQ {a:Nat} (h:a<=F.length):ln F a<=F.length:=asv _ _ h
theorem UD (l:List Nd) (u d:Int) (v:Bool): ∀(N a:Nat),F.length+1-a<N->a<=F.length->
  UK N v F (a:Int) u d l=a6 (.inl ((v,()),((),()),((F,((ln F a:Nat):Int),u,d,()),l,())))
 |0,a,h,_=>by omega
 |N+1,a,h,e=>by
  have:=hF.len;rw[UK,acB,iF hF a l u d (by omega) [110] rfl,bT,mY];simp only;unfold tk;cases h':dW F a [110]with
  |false=>rfl
  |true=>
   simp only[aa,if_true];exact UD l u d v N (a+1) (by omega) (eQ h')
theorem iO (a:Nat) (l:List Nd) (u d:Int) (e:a<=F.length):rJ F (a:Int) l u d=a6 ((F,(((ln F a:Nat):Int),(l,(u,(d,()))))),(dW F a [110],())):=by
 have:=hF.len;rw[rJ,iF hF a l u d (by omega) [110] rfl,bT];simp only;have f:tk F a [110]<=F.length:=by
  unfold tk;split
  .rename_i h;exact eQ h
  .exact e
 rw[UD hF l u d _ bY (tk F a [110]) (di) f,bT];simp only[dX];have:ln F (tk F a [110])=ln F a:=by
  unfold tk;split
  .rename_i h;rw[mY a,am h]
  .rfl
 rw[this]
omit hF in
theorem aeD (l:List Nd) (k a u t:Int):jd (bZ l [(k,(a,(0,(u,()))))]) (dM (bV l)) ((dU (bZ l [(k,(a,(0,(u,()))))]) (0,(0,(0,(0,())))) (dM (bV l))).1,((dU (bZ l [(k,(a,(0,(u,()))))]) (0,(0,(0,(0,())))) (dM (bV l))).2.1,(t,((dU (bZ l [(k,(a,(0,(u,()))))]) (0,(0,(0,(0,())))) (dM (bV l))).2.2.2.1,()))))=l++[(k,a,t,u,())]:=by
 simp_all [dM,cu,jd,bZ,dU]
omit hF in
theorem iJ (l:List Nd) (x:Nd) (hl:l.length<1000000000):fG (bZ l [x]) 32=true/\iy (bZ l [x]) (bV l)=true/\qO (dM (bV l)) (bZ l [x])=true:=
 ⟨azJ (by grind [bZ]),fD (by rw[cu];omega) (by grind [cu,bZ]),rX (by unfold bZ;simp[dM,cu])⟩
omit hF in
theorem qG (a:Nat) (l:List Nd) (u d k:Int) (i:a<100000000) (hl:l.length<1000000000):QK F (a:Int) l u d k=a6 ((F,(((a+1:Nat):Int),(l++[(k,(a:Int),((a+1:Nat):Int),u,())],(u,(d,()))))),()):=by
 obtain⟨e,f,g⟩:=iJ l (k,((a:Int),(0,(u,())))) hl;rw[QK];simp only[eU,aj,aa,e,f,g,aeD]
 grind [dD]
omit hF in
theorem iQ (a:Nat) (l:List Nd) (u d:Int) (hl:l.length<1000000000):qc F (a:Int) l u d=a6 ((F,((a:Int),(l++[(18,(a:Int),(a:Int),u,())],(u,(d,()))))),()):=by
 obtain⟨e,f,g⟩:=iJ l (18,((a:Int),(0,(u,())))) hl;rw[qc];simp only[eU,aj,aa,e,f,g,aeD]
def nJ (F:List Lf) (a:Nat) (o:dC):Nat:=tk F a o
def wnL (F:List Lf) (a:Nat) (o:dC) (l:List Nd) (u:Int):List Nd:=if dW F a o=true then l else l++[(18,(a:Int),(a:Int),u,())]
theorem nI (a:Nat) (l:List Nd) (u d:Int) (e:a<100000000) (hl:l.length<1000000000) (o:dC) (f:o.contains 0=false):kJ F (a:Int) l u d o=a6 ((F,(((nJ F a o:Nat):Int),(wnL F a o l u,(u,(d,()))))),()):=by
 rw[kJ,iF hF a l u d e o f,bT];unfold nJ wnL tk;cases h:dW F a o with
 |true=>rfl
 |false=>
  simp_all [iQ,bT]
def qX (F:List Lf) (a:Nat):Bool:=if h:a<F.length then decide (F[a].1=6)else false
omit hF in
theorem Uk {a:Nat} (h:qX F a=true):a<F.length:=by
 grind [qX]
omit hF in
theorem ku (a:Nat) (l:List Nd) (u d:Int):Lh F (a:Int) l u d=a6 ((F,((a:Int),(l,(u,(d,()))))),(qX F a,())):=by
 rw[Lh];unfold qX;by_cases h:a<F.length
 .simp_all [fQ,cu,fD,um,iT]
 simp_all [iL,cu,dif_neg]
def uF (F:List Lf) (a:Nat):Nat:=if qX F a=true then a+1 else a
def wdL (F:List Lf) (a:Nat) (l:List Nd) (u:Int):List Nd:=if qX F a=true then l++[(7,(a:Int),((a+1:Nat):Int),u,())]else l++[(18,(a:Int),(a:Int),u,())]
omit hF in
theorem zT (a:Nat) (l:List Nd) (u d:Int) (e:a<100000000) (hl:l.length<1000000000):CX F (a:Int) l u d=a6 ((F,(((uF F a:Nat):Int),(wdL F a l u,(u,(d,()))))),()):=by
 rw[CX,ku a l u d,bT];unfold uF wdL;cases h:qX F a with
 |true=>
  simp_all [qG,bT]
 |false=>
  simp_all [iQ,bT]
def lT (F:List Lf) (a:Nat):Bool:=dW F a [60]||dW F a [35]&&decide (qo F (a+1)=60)
def oH (F:List Lf) (a:Nat) (d:Int):Bool:=decide (d<200)&&dW F a [123,40,105,119,114,99]
def uG (F:List Lf) (a:Nat) (d:Int):Bool:=dW F a [120]||(lT F a||oH F a d)
def ji (F:List Lf) (a:Nat) (d:Int):Bool:=dW F a [33]||uG F a d
omit hF in
theorem QC (a:Nat) (c:UInt8) (d:c≠0):cZ ((qo F a).toNat:Int) (c.toNat:Int)=dW F a [c]:=by
 unfold dW;rw[iT];by_cases h:a<F.length
 .rw[decide_eq_true h,aS,Bool.eq_iff_iff,decide_eq_true_eq];simp only[List.contains_cons,List.contains_nil,Bool.or_false,beq_iff_eq]
  grind [UInt8.toNat_inj]
 .rw[decide_eq_false h,Bool.false_and,AQ];refine decide_eq_false fun e=>d (UInt8.toNat_inj.1 ?_);omega
theorem AO (a:Nat) (l:List Nd) (u d:Int) (f:a<10000000):adD F (a:Int) l u d=a6 ((F,((a:Int),(l,(u,(d,()))))),(lT F a,())):=by
 rw[adD,lm hF a l u d (by omega),bT];simp only;rw[show cZ ((qo F a).toNat:Int) 60=dW F a [60] from QC a 60 (by decide),show cZ ((qo F a).toNat:Int) 35=dW F a [35] from QC a 35 (by decide)];unfold lT;cases dW F a [60]with
 |true=>rfl
 |false=>
  cases dW F a [35]with
  |false=>rfl
  |true=>
   simp only[aa,ac,bg,aS];rw[aly hF a l u d (by omega),bT];simp only[iT];congr 3;rw[decide_eq_decide];constructor
   .intro e;exact UInt8.toNat_inj.1 (by grind)
   simp_all
theorem nN (a:Nat) (l:List Nd) (u d:Int) (e:a<10000000):XA F (a:Int) l u d=a6 ((F,((a:Int),(l,(u,(d,()))))),(oH F a d,())):=by
 rw[XA];unfold oH;by_cases h:d<200
 .rw[dn (fQ h),Kz hF a l u d (by omega) _ rfl,bT,decide_eq_true h,aS]
 simp_all [iL,decide_eq_false]
theorem yX (a:Nat) (l:List Nd) (u d:Int) (e:a<10000000):arq F (a:Int) l u d=a6 ((F,((a:Int),(l,(u,(d,()))))),(uG F a d,())):=by
 rw[arq,lm hF a l u d (by omega),bT];simp only;rw[show cZ ((qo F a).toNat:Int) 120=dW F a [120] from QC a 120 (by decide)];unfold uG;cases dW F a [120]with
 |true=>rfl
 |false=>
  simp only[ac,bg];rw[AO hF a l u d e,bT];simp only;cases lT F a with
  |true=>rfl
  |false=>
   simp_all [nN,bT]
theorem jO (a:Nat) (l:List Nd) (u d:Int) (e:a<10000000):Ud F (a:Int) l u d=a6 ((F,((a:Int),(l,(u,(d,()))))),(ji F a d,())):=by
 rw[Ud,lm hF a l u d (by omega),bT];simp only;rw[show cZ ((qo F a).toNat:Int) 33=dW F a [33] from QC a 33 (by decide)];unfold ji;cases dW F a [33]with
 |true=>rfl
 |false=>
  simp_all [yX,bT]
end
section
open Option renaming some → a6, none → a7
open Bool renaming false_eq_true → ai, and_true → aj, true_and → aS, false_or → bg
open List renaming drop_eq_getElem_cons → aH, drop_of_length_le → aO
open Go.RowKit
theorem adU (c:UInt8) (o:dC) (d:o.length<1000000): ∀(N k:Nat),o.length-k<N->k<=o.length->
  Em N (c.toNat:Int) o (k:Int)=a6 (if(o.drop k).contains c=true then .inr ((true,()),())else .inl ((),()))
 |0,k,h,_=>by omega
 |N+1,k,h,hk=>by
  rw[Em,VI];by_cases e:k<o.length
  .rw[dn (fQ (by rw[cu];omega)),dn (fD),byte_at e,aH e];by_cases h1:o[k]=c
   .simp_all [gz]
   .rw[dY (fB fun h=>h1 (UInt8.toNat_inj.1 (by omega))),dD,show(k:Int)+1=((k+1:Nat):Int) by omega,adU c o d N (k+1) (by omega) (by omega)]
    grind
  simp_all [iL,cu,aO]
theorem aIe (c:UInt8) (o:dC) (d:o.length<1000000):Ob (c.toNat:Int) o=a6 (o.contains c,()):=by
 have h:=adU c o d bY 0 (di) (by omega);rw[Ob,show Em bY (c.toNat:Int) o 0=_ from h,bT,List.drop_zero];cases o.contains c with
 |true=>rfl
 |false=>rfl
abbrev jE (F:List Lf):dC:=F.map sgn
variable {F:List Lf} (hF:yT F)
include hF
omit hF in
theorem BZ {a:Nat} (h:a<F.length):dm (jE F) (a:Int)=((qo F a).toNat:Int):=by
 simp_all [byte_at,BX]
omit hF in
theorem kC (a:Nat) (l:List Nd) (u d:Int) (o:dC) (e:o.length<1000000):ql F (jE F) l (a:Int) u d o=a6 ((F,(jE F,(l,((a:Int),(u,(d,())))))),(dW F a o,())):=by
 rw[ql];unfold dW;by_cases h:a<F.length
 .rw[dn (fQ (by simp_all [cu])),dn (fD (by omega) (by simp_all)),BZ h,aIe _ o e,bT,decide_eq_true h,aS]
 simp_all [iL,cu,decide_eq_false]
theorem LD (l:List Nd) (u d:Int): ∀(N a:Nat) (v:Int),F.length+1-a<N->a<=F.length->0<=v->v<=a->
  ∃e:Int,UI N v F (jE F) (a:Int) u d l=a6 (.inl ((e,()),((),()),((F,jE F,((ln F a:Nat):Int),u,d,()),l,())))/\e=v+((ln F a:Nat):Int)-a
 |0,a,v,h,_,_,_=>by omega
 |N+1,a,v,h,f,g,i=>by
  have:=hF.len;rw[UI,acx,kC a l u d [110] (by simp),bT,mY];simp only;cases h':dW F a [110]with
  |false=>simp
  |true=>
   simp only[aa,if_true];rw[dD,dD,show(a:Int)+1=((a+1:Nat):Int) by omega];obtain⟨e,j,m⟩:=LD l u d N (a+1) (v+1) (by omega) (eQ h') (by omega) (by omega)
   grind
omit hF in
theorem az8 (a:Nat):dW F a [110]=decide (a<ln F a):=by
 rw[mY];cases h:dW F a [110]with
 |false=>simp
 |true=>
  have:=lV (F:=F) (a+1)
  grind
theorem pg (a:Nat) (l:List Nd) (u d:Int) (e:a<=F.length):uO F (jE F) l (a:Int) u d=a6 ((F,(jE F,(l,(((ln F a:Nat):Int),(u,(d,())))))),(((ln F a:Nat):Int)-a,())):=by
 have:=hF.len;rw[uO];obtain⟨f,g,i⟩:=LD hF l u d bY a 0 (di) e (by omega) (by omega);simp_all [bT,dX]
def kW (k:Int):Bool:=decide (9<=k)&&decide (k<=14)||decide (k=16)
omit hF in
theorem akg {k:Int} (d:1<=k) (h2:k<=18):arl k=a6 (kW k,()):=by
 have: ∀n:Fin 19,n.val≠0->arl ((n.val:Nat):Int)=a6 (kW ((n.val:Nat):Int),()):=by decide+kernel
 have:=this ⟨k.toNat,by omega⟩ (by simp only;omega)
 grind
omit hF in
theorem ou (a:Nat) (l:List Nd) (u d:Int) {k:Int} (e:1<=k) (h2:k<=18) (hl:l.length<1000000000) (hd:0<=d) (i:d<1000000000):
  Fa F (jE F) l (a:Int) u d k=a6 ((F,(jE F,(l++[(k,(a:Int),0,u,())],((a:Int),(((l.length:Nat):Int),((if kW k=true then d+1 else d),())))))),(u,())):=by
 have f:fG (bZ l [(k,((a:Int),(0,(u,()))))]) 32=true:=azJ (by grind [bZ]);have g:fO .i64 (bV (bZ l [(k,((a:Int),(0,(u,()))))])) 1=((l.length:Nat):Int):=by
  grind [bZ,cu,iH]
 rw[Fa];simp only[eU,aj,aa,f,akg e h2,bT,g];cases kW k with
 |true=>
  simp only[aa,if_true];rw[dD];rfl
 |false=>rfl
def adm (l:List Nd) (i:Nat) (t:Int):List Nd:=jd l i ((dU l dNd i).1,(dU l dNd i).2.1,t,(dU l dNd i).2.2.2.1,())
omit hF in
theorem apX (l:List Nd) (i:Nat) (t:Int):(adm l i t).length=l.length:=yx
omit hF in
theorem xu (a:Nat) (l:List Nd) (u d:Int) (i:Nat) (hi:i<l.length) {k:Int} (hk:(dU l dNd i).1=k) (f:1<=k) (h2:k<=18) (hd:0<=d) (p:d<1000000000):
  rW F (jE F) l (a:Int) ((i:Nat):Int) d u=a6 ((F,(jE F,(adm l i (a:Int),((a:Int),(u,((if kW k=true then d-1 else d),())))))),()):=by
 have g:dM ((i:Nat):Int)=i:=by simp[dM]
 have j: ∀x,iy (jd l i x) ((i:Nat):Int)=true:=fun x=>fD (by omega) (by rw[yx];omega);have m: ∀x,qO i (jd l i x)=true:=fun x=>rX (by rw[yx];exact hi);have jW: ∀x,dU (jd l i x) (0,(0,(0,(0,())))) i=x:=fun x=>Il hi
 (rewrite [rW];delta Oa;rw[dn (fD),g,dn (rX hi)])
 simp only[j,m,jW,aa];have e:(dU l (0,(0,(0,(0,())))) i).1=k:=hk;rw[e,akg f h2,bT];simp only;unfold adm;rw[show dNd=(0,(0,(0,(0,())))) from rfl,e];cases kW k with
 |true=>
  simp only[aa,if_true]
  grind [iH]
 |false=>rfl
omit hF in
theorem UX (l:List Nd) (x:Nd):dU (l++[x]) dNd l.length=x:=by
 simp_all [dU]
omit hF in
theorem Xt (l:List Nd) (k a u t:Int):adm (l++[(k,a,0,u,())]) l.length t=l++[(k,a,t,u,())]:=by
 grind [adm,UX,jd]
omit hF in
theorem zB (a:Nat) (l:List Nd) (u d:Int) (hl:l.length<1000000000) (hd:0<=d) (e:d<1000000000):
  FN F (jE F) l (a:Int) u d=a6 ((F,(jE F,(l++[(18,(a:Int),(a:Int),u,())],((a:Int),(u,(d,())))))),()):=by
 rw[FN,ou a l u d (by omega) (by omega) hl hd e,bT];simp only;rw[show kW 18=false from rfl,aq (by simp),xu a _ u d l.length (by simp) (by rw[UX]) (by omega) (by omega) hd e,bT];simp only[Xt,show kW 18=false from rfl,ai,if_false]
omit hF in
theorem Qj (a:Nat) (l:List Nd) (u d:Int) {k:Int} (e:1<=k) (h2:k<=18) (g:kW k=false) (i:a<100000000) (hl:l.length<1000000000) (hd:0<=d) (f:d<1000000000):
  N9 F (jE F) l (a:Int) u d k=a6 ((F,(jE F,(l++[(k,(a:Int),((a+1:Nat):Int),u,())],(((a+1:Nat):Int),(u,(d,())))))),()):=by
 rw[N9,ou a l u d e h2 hl hd f,bT];simp only;rw[g,aq (by simp),dD,show(a:Int)+1=((a+1:Nat):Int) by omega,xu (a+1) _ u d l.length (by simp) (by rw[UX]) e h2 hd f,bT];simp_all [Xt]
omit hF in
theorem Ce (a:Nat) (l:List Nd) (u d:Int) (f:a<100000000) (hl:l.length<1000000000) (hd:0<=d) (g:d<1000000000) (o:dC) (e:o.length<1000000):
  pI F (jE F) l (a:Int) u d o=a6 ((F,(jE F,(wnL F a o l u,(((nJ F a o:Nat):Int),(u,(d,())))))),()):=by
 rw[pI,kC a l u d o e,bT];unfold nJ wnL tk;cases h:dW F a o with
 |true=>
  simp only[aa,if_true]
  grind [dD]
 |false=>
  simp_all [zB,bT]
omit hF in
theorem acS (a:Nat) (l:List Nd) (u d:Int) (e:a<100000000) (hl:l.length<1000000000) (hd:0<=d) (f:d<1000000000):
  zk F (jE F) l (a:Int) u d=a6 ((F,(jE F,(wdL F a l u,(((uF F a:Nat):Int),(u,(d,())))))),()):=by
 rw[zk];unfold wdL uF qX;by_cases h:a<F.length
 .rw[dn (fQ (by rw[cu];omega)),dn (fD),um h];simp only[dif_pos h,decide_eq_true_eq];by_cases h6:F[a].1=6
  .rw[dn (gz h6),Qj a l u d (by omega) (by omega) rfl e hl hd f,bT,am h6,am h6]
  simp_all [fB,zB,bT]
 simp_all [iL,cu,zB,bT,dif_neg]
omit hF in
theorem Bf (a:Nat) (l:List Nd) (u d:Int) (f:a<10000000):am7 F (jE F) l (a:Int) u d=a6 ((F,(jE F,(l,((a:Int),(u,(d,())))))),(lT F a,())):=by
 rw[am7,kC a l u d [60] (by simp),bT];unfold lT;simp only;cases dW F a [60]with
 |true=>rfl
 |false=>
  simp only[ac,bg];rw[kC a l u d [35] (by simp),bT];simp only;cases dW F a [35]with
  |false=>rfl
  |true=>
   simp only[aa,aS];rw[dD,show(a:Int)+1=((a+1:Nat):Int) by omega];by_cases h:a+1<F.length
   .rw[dn (fQ (by grind [cu])),dn (fD (by omega) (by grind)),BZ h];simp only[iT];congr 3;rw[decide_eq_decide];constructor
    .intro e;exact UInt8.toNat_inj.1 (by grind)
    simp_all
   .rw[dY (iL (by grind [cu])),AQ];rfl
omit hF in
theorem yS (a:Nat) (l:List Nd) (u d:Int):agG F (jE F) l (a:Int) u d=a6 ((F,(jE F,(l,((a:Int),(u,(d,())))))),(oH F a d,())):=by
 rw[agG,kC a l u d _ (by simp),bT]
 grind [oH,iV]
omit hF in
theorem Xh (a:Nat) (l:List Nd) (u d:Int) (e:a<10000000):arn F (jE F) l (a:Int) u d=a6 ((F,(jE F,(l,((a:Int),(u,(d,())))))),(uG F a d,())):=by
 rw[arn,kC a l u d [120] (by simp),bT];unfold uG;simp only;cases dW F a [120]with
 |true=>rfl
 |false=>
  simp only[ac,bg];rw[Bf a l u d e,bT];simp only;cases lT F a with
  |true=>rfl
  |false=>
   simp_all [yS,bT]
omit hF in
theorem Jp (a:Nat) (l:List Nd) (u d:Int) (e:a<10000000):QJ F (jE F) l (a:Int) u d=a6 ((F,(jE F,(l,((a:Int),(u,(d,())))))),(ji F a d,())):=by
 rw[QJ,kC a l u d [33] (by simp),bT];unfold ji;simp only;cases dW F a [33]with
 |true=>rfl
 |false=>
  simp_all [Xh,bT]
end
section
open Option renaming some → a6, none → a7
open List renaming append_assoc → ag, cons_append → bz
open Nat renaming le_refl → af
open Go.RowKit
abbrev opn (k:Int) (a:Nat) (u:Int):Nd:=(k,((a:Int),(0,(u,()))))
abbrev PR (F:List Lf) (a:Nat) (l:List Nd) (u d:Int):List Lf×Int×List Nd×Int×Int×Unit:=(F,((a:Int),(l,(u,(d,())))))
abbrev RR (F:List Lf) (a:Nat) (l:List Nd) (u d:Int):List Lf×List UInt8×List Nd×Int×Int×Int×Unit:=(F,(jE F,(l,((a:Int),(u,(d,()))))))
theorem iI (l m:List Nd) (k a u t:Int):jd (bZ l [(k,(a,(0,(u,()))))]++m) (dM (bV l)) ((dU (bZ l [(k,(a,(0,(u,()))))]++m) (0,(0,(0,(0,())))) (dM (bV l))).1,((dU (bZ l [(k,(a,(0,(u,()))))]++m) (0,(0,(0,(0,())))) (dM (bV l))).2.1,(t,((dU (bZ l [(k,(a,(0,(u,()))))]++m) (0,(0,(0,(0,())))) (dM (bV l))).2.2.2.1,()))))=l++(k,a,t,u,())::m:=by
 have d:dM (bV l)=l.length:=by simp[dM,cu]
 simp_all [dU,bZ,jd]
theorem jC (l m:List Nd) (x:Nd):iy (bZ l [x]++m) (bV l)=true/\qO (dM (bV l)) (bZ l [x]++m)=true:=
 ⟨fD (by rw[cu];omega) (by grind [cu,bZ]),rX (by unfold bZ;simp[dM,cu])⟩
theorem qU (l m:List Nd) (k a u t:Int):adm ((l++[(k,a,0,u,())])++m) l.length t=l++(k,a,t,u,())::m:=by
 unfold adm;simp_all [dU,jd]
theorem qY (l m:List Nd) (k a u:Int):(dU ((l++[(k,a,0,u,())])++m) dNd l.length).1=k:=by
 simp_all [dU]
def LfG (F:List Lf) (d:Int) (f:Nat):Prop:=d=6\/d=7-> ∃h:f<F.length,F[f].1=6
def RdG (F:List Lf) (f t:Nat) (m:List Nd):Prop:= ∃p,(p=f\/p=f+1/\dW F f [35]=true)/\dW F p [60]=true/\((t=p+2/\ ∃u,m=[(7,((p+1:Nat):Int),((p+2:Nat):Int),u,())])\/(t=p+1/\ ∃u,m=[(18,((p+1:Nat):Int),((p+1:Nat):Int),u,())]))
inductive Tr (F:List Lf):Nat->Nat->Int->Nat->List Nd->Prop
 |nil {a b:Nat} {u:Int} {k:Nat} (h:a<=b):Tr F a b u k []
 |leaf {a b f t:Nat} {u:Int} {k:Nat} {kd:Int} {m:List Nd} (h1:a<=f) (hk:kd=18/\t=f\/(kd=6\/kd=7\/kd=17)/\t=f+1) (hf:LfG F kd f) (h2:Tr F t b u (k+1) m):Tr F a b u k ((kd,(f:Int),(t:Int),u,())::m)
 |node {a b f t:Nat} {u:Int} {k:Nat} {kd:Int} {m n:List Nd} (h1:a<=f) (hk:2<=kd/\kd<=16/\kd≠6/\kd≠7) (h8:kd=8->RdG F f t m) (h:Tr F f t (k:Int) (k+1) m) (h2:Tr F t b u (k+1+m.length) n):Tr F a b u k ((kd,(f:Int),(t:Int),u,())::(m++n))
section
variable {F:List Lf}
theorem Tr.le {a b:Nat} {u:Int} {k:Nat} {m:List Nd} (h:Tr F a b u k m):a<=b:=by
 induction h with
 |nil h=>exact h
 |leaf h1 hk _ _ d=>omega
 |node h1 _ _ _ _ ih1 e=>omega
theorem Tr.wide {a b:Nat} {u:Int} {k:Nat} {m:List Nd} (h:Tr F a b u k m): ∀{e f:Nat},e<=a->b<=f->Tr F e f u k m:=by
 induction h with
 |nil h=>exact fun g p=>.nil (by omega)
 |leaf g hk hf _ i=>exact fun j d=>.leaf (by omega) hk hf (i (af _) d)
 |node g hk h8 h _ _ l=>exact fun j d=>.node (by omega) hk h8 h (l (af _) d)
theorem Tr.app {a b:Nat} {u:Int} {k:Nat} {m:List Nd} (h:Tr F a b u k m): ∀{c e j:Nat} {n:List Nd},Tr F c e u j n->b<=c->j=k+m.length->Tr F a e u k (m++n):=by
 induction h with
 |nil h=>exact fun d v g=>by subst g;exact d.wide (by omega) (af _)
 |leaf d hk hf _ l=>exact fun g i p=>.leaf d hk hf (l g i (by grind))
 | @node a b f t u k kd m n' d hk h8 h _ _ q=>
  intro c e j n g i p;rw[bz,ag];exact .node d hk h8 h (q g i (by grind))
theorem Tr.ap {a b c e:Nat} {u:Int} {k j:Nat} {m n:List Nd} (h:Tr F a b u k m) (h2:Tr F c e u j n) (d:b<=c:=by omega) (f:j=k+m.length:=by first|omega|grind):Tr F a e u k (m++n):=h.app h2 d f
theorem Tr.apA {a b c e:Nat} {u:Int} {k:Nat} {m n:List Nd} (h:Tr F a b u k m) (h2: ∀j,Tr F c e u j n) (d:b<=c:=by omega):Tr F a e u k (m++n):=h.app (h2 _) d rfl
theorem Tr.one {a b f t:Nat} {u:Int} {k j:Nat} {d:Int} {m:List Nd} (h:Tr F f t (j:Int) (j+1) m) (e:a<=f) (h2:t<=b) (hk:2<=d/\d<=16/\d≠6/\d≠7) (g:j=k) (i:d=8->RdG F f t m:=by intro h;exfalso;omega):Tr F a b u k ((d,(f:Int),(t:Int),u,())::m):=by
 subst g;have:=Tr.node (n:=[]) (u:=u) e hk i h (.nil h2);simp_all
theorem Tr.mis {a b f:Nat} {u:Int} {k:Nat} (d:a<=f) (h2:f<=b):Tr F a b u k [(18,(f:Int),(f:Int),u,())]:=.leaf d (.inl ⟨rfl,rfl⟩) (fun h=>by exfalso;omega) (.nil h2)
theorem Tr.lf {a b f:Nat} {u:Int} {k:Nat} {d:Int} (e:a<=f) (h2:f+1<=b) (hk:d=6\/d=7\/d=17) (hf:LfG F d f):Tr F a b u k [(d,(f:Int),((f+1:Nat):Int),u,())]:=.leaf e (.inr ⟨hk,rfl⟩) hf (.nil h2)
end
structure jD (F:List Lf) (a:Nat) (l:List Nd) (d:Int) (K:Nat):Prop where
 len:a<=F.length
 nod:l.length<=16*a+K
 d0:0<=d
 d1:d<=200
structure All (F:List Lf) (n:Nat):Prop where
 list: ∀(a:Nat) (l:List Nd) (u d:Int) (r r':Nat),16*(F.length-a)+12<n->n<=r->n<=r'->jD F a l d 110->ji F a d=true->
  ∃(a':Nat) (m:List Nd),(dA r).q73 F (a:Int) (bZ l [opn 2 a u]) (bV l) d=a6 (PR F a' (bZ l [opn 2 a u]++m) (bV l) d,())/\
   (ik r').q32 F (jE F) l (a:Int) u d=a6 (RR F a' (l++(2,(a:Int),(a':Int),u,())::m) u d,())/\a<a'/\a'<=F.length/\m.length+1<=16*(a'-a)/\Tr F a a' (bV l) (l.length+1) m
 andor: ∀(a:Nat) (l:List Nd) (u d:Int) (r r':Nat),16*(F.length-a)+11<n->n<=r->n<=r'->jD F a l d 111->ji F a d=true->
  ∃(a':Nat) (m:List Nd),(dA r).q98 F (a:Int) (bZ l [opn 3 a u]) (bV l) d=a6 (PR F a' (bZ l [opn 3 a u]++m) (bV l) d,())/\
   (ik r').q60 F (jE F) l (a:Int) u d=a6 (RR F a' (l++(3,(a:Int),(a':Int),u,())::m) u d,())/\a<a'/\a'<=F.length/\m.length+2<=16*(a'-a)/\Tr F a a' (bV l) (l.length+1) m
 pipe: ∀(a:Nat) (l:List Nd) (u d:Int) (r r':Nat),16*(F.length-a)+10<n->n<=r->n<=r'->jD F a l d 112->ji F a d=true->
  ∃(a':Nat) (m:List Nd),(dA r).q139 F (a:Int) l u d=a6 (PR F a' (l++m) u d,())/\
   (ik r').q82 F (jE F) l (a:Int) u d=a6 (RR F a' (l++m) u d,())/\a<a'/\a'<=F.length/\m.length+2<=16*(a'-a)/\Tr F a a' u l.length m
 nopipe: ∀(a:Nat) (l:List Nd) (u d:Int) (r:Nat),10<n->n<=r->jD F a l d 130->ji F a d=false->
  (dA r).q139 F (a:Int) l u d=a6 (PR F a (l++[(18,(a:Int),(a:Int),u,())]) u d,())
 command: ∀(a:Nat) (l:List Nd) (u d:Int) (r r':Nat),16*(F.length-a)+9<n->n<=r->n<=r'->jD F a l d 113->
  ∃(a':Nat) (m:List Nd),(dA r).q174 F (a:Int) l u d=a6 (PR F a' (l++m) u d,())/\
   (ik r').q109 F (jE F) l (a:Int) u d=a6 (RR F a' (l++m) u d,())/\a<=a'/\a'<=F.length/\(m.length<=16*(a'-a)+1/\Tr F a a' u l.length m)/\(uG F a d=true->a<a'/\m.length+3<=16*(a'-a))
 compound: ∀(a:Nat) (l:List Nd) (u d:Int) (r r':Nat),16*(F.length-a)+8<n->n<=r->n<=r'->jD F a l d 113->oH F a d=true->
  ∃(a':Nat) (m:List Nd),(dA r).q212 F (a:Int) l u d=a6 (PR F a' (l++m) u d,())/\
   (ik r').q146 F (jE F) l (a:Int) u d=a6 (RR F a' (l++m) u d,())/\a<a'/\a'<=F.length/\m.length+3<=16*(a'-a)/\Tr F a a' u l.length m
 body: ∀(a:Nat) (l:List Nd) (u d:Int) (r r':Nat),16*(F.length-a)+13<n->n<=r->n<=r'->jD F a l d 110->
  ∃(a':Nat) (m:List Nd),(dA r).q255 F (a:Int) l u d=a6 (PR F a' (l++m) u d,())/\
   (ik r').q176 F (jE F) l (a:Int) u d=a6 (RR F a' (l++m) u d,())/\a<=a'/\a'<=F.length/\m.length<=16*(a'-a)+1/\Tr F a a' u l.length m
variable {F:List Lf} (hF:yT F)
include hF
theorem al8 {n:Nat} (h:All F n) (a:Nat) (l:List Nd) (u d:Int) (r f:Nat) (A:16*(F.length-a)+13<n+1) (B:n+1<=r) (D:n+1<=f) (hp:jD F a l d 110):
  ∃(e:Nat) (m:List Nd),(dA r).q255 F (a:Int) l u d=a6 (PR F e (l++m) u d,())/\
   (ik f).q176 F (jE F) l (a:Int) u d=a6 (RR F e (l++m) u d,())/\a<=e/\e<=F.length/\m.length<=16*(e-a)+1/\Tr F a e u l.length m:=by
 obtain⟨i,I,v,x⟩:=hp;have J:=hF.len;obtain⟨q,rfl⟩: ∃q,r=q+1:=⟨r-1,by omega⟩;obtain⟨g,rfl⟩: ∃g,f=g+1:=⟨f-1,by omega⟩;have j:=lV (F:=F) a;have p:=kQ (F:=F) i;show ∃(e:Nat) (m:List Nd),KW (dA q) F (a:Int) l u d=_/\aq5 (ik g) F (jE F) l (a:Int) u d=_/\_;rw[KW,aq5,iO hF a l u d i,pg hF a l u d i,bT,bT];simp only;rw[jO hF (ln F a) l u d (by omega),Jp (ln F a) l u d (by omega),bT,bT];simp only;cases hb:ji F (ln F a) d with
 |true=>
  obtain⟨n1,K,L⟩:=iJ l (opn 2 (ln F a) u) (by omega);obtain⟨e,m,M,N,O,y,z⟩:=h.list (ln F a) l u d q g (by omega) (by omega) (by omega) ⟨p,by omega,v,x⟩ hb;obtain⟨S,U⟩:=jC l m (opn 2 (ln F a) u);refine⟨e,(2,((ln F a:Nat):Int),(e:Int),u,())::m, ?_, ?_,by omega,y,by grind,z.2.one j (af _) (by omega) rfl⟩
  .simp_all [eU,bT,iI]
  simp_all [bT]
 |false=>
  refine⟨ln F a,[(18,((ln F a:Nat):Int),((ln F a:Nat):Int),u,())], ?_, ?_,j,p,by simp,.mis j (af _)⟩
  .simp only[ac]
   grind [iQ,bT]
  .simp only[ac]
   grind [zB,bT]
end
section
open Bool renaming false_eq_true → ai
open List renaming length_append → ae, append_assoc → ag, length_singleton → aA
open Nat renaming le_refl → af
open Go.RowKit
variable {F:List Lf} (hF:yT F)
include hF
omit hF in
theorem iR {a:Nat} {o:List UInt8} (h:dW F a o=true):tk F a o=a+1:=by unfold tk;rw[am h]
omit hF in
theorem jR {a:Nat} {o:List UInt8} (h:dW F a o=false):tk F a o=a:=by unfold tk;rw[aq (by rw[h];simp)]
theorem qp {n:Nat} (h:All F n) {q q':Nat} (f:n<=q) (g:n<=q') (u d v:Int) (hd:0<=d/\d<=200): ∀(N a:Nat) (L:List Nd),F.length-a<N->a<=F.length->16*(F.length-a)+10<n->L.length<=16*a+112->
  ∃(e:Nat) (m:List Nd),xk (dA q) N F (a:Int) u d L=some (.inl ((),((),()),((F,(e:Int),u,d,()),L++m,())))/\
   UH (ik q') N v F (jE F) (a:Int) u d L=some (.inl ((v,()),((),()),((F,jE F,(e:Int),u,d,()),L++m,())))/\a<=e/\e<=F.length/\m.length<=16*(e-a)/\Tr F a e u L.length m
 |0,a,L,z,_,_,_=>by omega
 |N+1,a,L,z,A,O,S=>by
  have U:=hF.len;rw[xk,JX,UH,acw,iF hF a L u d (by omega) [97,111] rfl,kC a L u d [97,111] (by simp),bT,bT];simp only;cases hb:dW F a [97,111]with
  |false=>
   rw[jR hb];exact⟨a,[],by simp,by simp,af _,A,by simp,.nil (af _)⟩
  |true=>
   have V:=eQ hb;have W:=lV (F:=F) (a+1);have i:=kQ (F:=F) (a:=a+1) (by omega);rw[iR hb];simp only[aa];rw[dD,show(a:Int)+1=((a+1:Nat):Int) by omega,iO hF (a+1) L u d (by omega),pg hF (a+1) L u d (by omega),bT,bT];simp only;rw[Jp (ln F (a+1)) L u d (by omega),bT];simp only;cases hp:ji F (ln F (a+1)) d with
   |true=>
    obtain⟨B,y,D,I,X,J,K⟩:=h.pipe (ln F (a+1)) L u d q q' (by omega) f g ⟨i,by omega,hd.1,hd.2⟩ hp;rw[D,bT];simp only[aa];rw[I,bT];simp only;obtain⟨e,m,j,l,M,p,x⟩:=qp h f g u d v hd N B (L++y) (by omega) J (by omega) (by rw[ae];omega);exact⟨e,y++m,by rw[j,ag],by rw[l,ag],by omega,p,by rw[ae];omega,(K.2.wide (by omega) (af _)).app x.2 (af _) (ae ..)⟩
   |false=>
    rw[h.nopipe (ln F (a+1)) L u d q (by omega) f ⟨i,by omega,hd.1,hd.2⟩ hp,bT];simp only[ac];rw[zB (ln F (a+1)) L u d (by omega) hd.1 (by omega),bT];simp only;obtain⟨e,m,j,l,M,p,x⟩:=qp h f g u d v hd N (ln F (a+1)) (L++[(18,((ln F (a+1):Nat):Int),((ln F (a+1):Nat):Int),u,())]) (by omega) i (by omega) (by rw[ae,aA];omega);exact⟨e,[(18,((ln F (a+1):Nat):Int),((ln F (a+1):Nat):Int),u,())]++m,by rw[j,ag],by rw[l,ag],by omega,p,by rw[ae,aA];omega,(Tr.mis (by omega) (af _)).app x.2 (af _) (ae ..)⟩
theorem afN {n:Nat} (h:All F n) (a:Nat) (l:List Nd) (u d:Int) (r g:Nat) (N:16*(F.length-a)+11<n+1) (O:n+1<=r) (S:n+1<=g) (hp:jD F a l d 111) (hb:ji F a d=true):
  ∃(e:Nat) (m:List Nd),(dA r).q98 F (a:Int) (bZ l [opn 3 a u]) (bV l) d=some (PR F e (bZ l [opn 3 a u]++m) (bV l) d,())/\
   (ik g).q60 F (jE F) l (a:Int) u d=some (RR F e (l++(3,(a:Int),(e:Int),u,())::m) u d,())/\a<e/\e<=F.length/\m.length+2<=16*(e-a)/\Tr F a e (bV l) (l.length+1) m:=by
 obtain⟨z,U,i,p⟩:=hp;have V:=hF.len;obtain⟨q,rfl⟩: ∃q,r=q+1:=⟨r-1,by omega⟩;obtain⟨f,rfl⟩: ∃f,g=f+1:=⟨g-1,by omega⟩;show ∃(e:Nat) (m:List Nd),ara (dA q) F (a:Int) _ _ d=_/\aBL (ik f) F (jE F) l (a:Int) u d=_/\_;have j:(bZ l [opn 3 a u]).length=l.length+1:=by unfold bZ;simp
 obtain⟨A,v,B,x,W,D,I⟩:=h.pipe a (bZ l [opn 3 a u]) (bV l) d q f (by omega) (by omega) (by omega) ⟨z,by rw[j];omega,i,p⟩ hb;obtain⟨e,m,J,y,X,K,L⟩:=qp hF h (q:=q) (q':=f) (by omega) (by omega) (bV l) d u ⟨i,p⟩ bY A (bZ l [opn 3 a u]++v) (di) D (by omega) (by rw[ae,j];omega);have M:bZ l [opn 3 a u]=l++[(3,(a:Int),0,u,())]:=rfl;refine⟨e,v++m, ?_, ?_,by omega,K,by rw[ae];omega,(j▸I.2).app L.2 (af _) (by rw[ae,j])⟩
 .rw[ara,B,bT];simp only;rw[J,bT];simp only[dX,ag]
 .rw[aBL,ou a l u d (by omega) (by omega) (by omega) i (by omega),bT];simp only[show kW 3=false from rfl,ai,if_false];rw[M]at x y;rw[show((l.length:Nat):Int)=bV l from rfl,x,bT];simp only;rw[y,bT];simp only[dX];rw[ag (l++_),show bV l=((l.length:Nat):Int) from rfl,xu e _ u d l.length (by simp only[ae,aA];omega) (qY l _ 3 _ _) (by omega) (by omega) i (by omega),bT];simp only[qU,show kW 3=false from rfl,ai,if_false]
end
section
open Option renaming some → a6, none → a7
open Bool renaming false_eq_true → ai, and_true → aj, not_true → au, not_false → aF
open List renaming length_append → ae, append_assoc → ag
open Nat renaming le_refl → af
open Go.RowKit
variable {F:List Lf} (hF:yT F)
include hF
theorem uY {n:Nat} (h:All F n) {q q':Nat} (i:n<=q) (j:n<=q') (u d v f g:Int) (hd:0<=d/\d<=200): ∀(N a:Nat) (L:List Nd),F.length-a<N->a<=F.length->16*(F.length-a)+9<n+16->L.length<=16*a+114->
  ∃(e:Nat) (m:List Nd),kM (dA q) N f g F (a:Int) u d L=a6 (.inl ((),((f,g,()),(),(),()),((),(F,(e:Int),u,d,()),L++m,())))/\
   JI (ik q') N v F (jE F) (a:Int) u d L=a6 (.inl ((v,()),((),()),((F,jE F,(e:Int),u,d,()),L++m,())))/\a<=e/\e<=F.length/\m.length<=16*(e-a)/\Tr F a e u L.length m
 |0,a,L,p,_,_,_=>by omega
 |N+1,a,L,p,x,M,O=>by
  have S:=hF.len;rw[kM,qM,JI,acA,iF hF a L u d (by omega) [124] rfl,kC a L u d [124] (by simp),bT,bT];simp only;cases hb:dW F a [124]with
  |false=>
   rw[jR hb];exact⟨a,[],by simp,by simp,af _,x,by simp,.nil (af _)⟩
  |true=>
   have U:=eQ hb;have V:=lV (F:=F) (a+1);have y:=kQ (F:=F) (a:=a+1) (by omega);rw[iR hb];simp only[aa];rw[dD,show(a:Int)+1=((a+1:Nat):Int) by omega,iO hF (a+1) L u d (by omega),pg hF (a+1) L u d (by omega),bT,bT];simp only;obtain⟨z,l,A,B,W,D,I,_⟩:=h.command (ln F (a+1)) L u d q q' (by omega) i j ⟨y,by omega,hd.1,hd.2⟩;rw[A,B,bT,bT];simp only;obtain⟨e,m,X,Y,Z,J,K⟩:=uY h i j u d v f g hd N z (L++l) (by omega) D (by omega) (by grind);exact⟨e,l++m,by simp_all,by simp_all,by omega,J,by grind,(I.2.wide (by omega) (af _)).app K.2 (af _) (ae ..)⟩
theorem aeE {n:Nat} (a:Nat) (l:List Nd) (u d:Int) (r:Nat) (e:n+1<=r) (hp:jD F a l d 130) (hb:ji F a d=false):
  (dA r).q139 F (a:Int) l u d=a6 (PR F a (l++[(18,(a:Int),(a:Int),u,())]) u d,()):=by
 obtain⟨f,g,i,j⟩:=hp;have m:=hF.len;obtain⟨q,rfl⟩: ∃q,r=q+1:=⟨r-1,by omega⟩;show TM (dA q) F (a:Int) l u d=_;rw[TM,jO hF a l u d (by omega),bT,hb];simp only[aF,aa]
 grind [iQ,bT]
theorem anM {n:Nat} (h:All F n) (a:Nat) (l:List Nd) (u d:Int) (r v:Nat) (Y:16*(F.length-a)+10<n+1) (Z:n+1<=r) (ab:n+1<=v) (hp:jD F a l d 112) (hb:ji F a d=true):
  ∃(e:Nat) (m:List Nd),(dA r).q139 F (a:Int) l u d=a6 (PR F e (l++m) u d,())/\
   (ik v).q82 F (jE F) l (a:Int) u d=a6 (RR F e (l++m) u d,())/\a<e/\e<=F.length/\m.length+2<=16*(e-a)/\Tr F a e u l.length m:=by
 obtain⟨p1,p2,x,z⟩:=hp;have ad:=hF.len;obtain⟨q,rfl⟩: ∃q,r=q+1:=⟨r-1,by omega⟩;obtain⟨f,rfl⟩: ∃f,v=f+1:=⟨v-1,by omega⟩;have A:(bZ l [opn 4 a u]).length=l.length+1:=by unfold bZ;simp
 have J:bZ l [opn 4 a u]=l++[(4,(a:Int),0,u,())]:=rfl;obtain⟨n1,_,_⟩:=iJ l (opn 4 a u) (by omega);have B:tk F a [33]<=F.length/\a<=tk F a [33]:=by
  unfold tk;split
  .rename_i K;exact⟨eQ K,by omega⟩
  omega
 obtain⟨y,i,L,p,e3,M,N,e6⟩:=h.command (tk F a [33]) (bZ l [opn 4 a u]) (bV l) d q f (by omega) (by omega) (by omega) ⟨B.1,by rw[A];omega,x,z⟩;have ah:a<y/\i.length+1+2<=16*(y-a):=by
  cases h33:dW F a [33]with
  |true=>grind [iR]
  |false=>
   simp_all [jR,ji]
 obtain⟨e,m,O,D,f3,S,U⟩:=uY hF h (q:=q) (q':=f) (by omega) (by omega) (bV l) d u (bV l) u ⟨x,z⟩ bY y (bZ l [opn 4 a u]++i) (di) M (by omega) (by grind);obtain⟨V,W⟩:=jC l (i++m) (opn 4 a u);refine⟨e,(4,(a:Int),(e:Int),u,())::(i++m), ?_, ?_,by omega,S,by grind,Tr.one (((A▸N.2).wide B.2 (af _)).app U.2 (af _) (by grind)) (af _) (af _) (by omega) rfl⟩
 .show TM (dA q) F (a:Int) l u d=_;rw[TM,jO hF a l u d (by omega),bT,hb];simp only[au,ac,eU,aj,aa,n1];rw[iF hF a _ _ d (by omega) [33] rfl,bT];simp only;rw[L,bT];simp only;rw[O,bT];simp only[dX,ag,V,W,aa,iI]
 .show aBM (ik f) F (jE F) l (a:Int) u d=_;rw[aBM,ou a l u d (by omega) (by omega) (by omega) x (by omega),bT];simp only[show kW 4=false from rfl,ai,if_false];rw[kC a _ _ d [33] (by simp),bT];simp only;rw[J]at p D;have I:bU (JI (ik f) bY u F (jE F) (y:Int) (bV l) d (l++[(4,(a:Int),0,u,())]++i)) (fun X=>dX X (fun g=>
    bU (rW g.2.2.1.1 g.2.2.1.2.1 g.2.2.2.1 g.2.2.1.2.2.1 g.2.2.1.2.2.2.1 g.2.2.1.2.2.2.2.1 g.1.1) fun j=>
     a6 ((j.1.1,(j.1.2.1,(j.1.2.2.1,(j.1.2.2.2.1,(j.1.2.2.2.2.1,(j.1.2.2.2.2.2.1,())))))),())) (fun b4=>a7))=a6 (RR F e (l++(4,(a:Int),(e:Int),u,())::(i++m)) u d,()):=by
   rw[D,bT];simp only[dX];rw[ag (l++_),show bV l=((l.length:Nat):Int) from rfl,xu e _ u d l.length (by simp) (qY l _ 4 _ _) (by omega) (by omega) x (by omega),bT];simp only[qU,show kW 4=false from rfl,ai,if_false]
  cases h33:dW F a [33]with
  |true=>
   rw[iR h33]at p;simp only[aa];rw[dD,show(a:Int)+1=((a+1:Nat):Int) by omega,show((l.length:Nat):Int)=bV l from rfl,p,bT];exact I
  |false=>
   rw[jR h33]at p;simp only[ac];rw[show((l.length:Nat):Int)=bV l from rfl,p,bT];exact I
theorem uT {n:Nat} (h:All F n) {q q':Nat} (J:n<=q) (M:n<=q') (u d v:Int) (hd:0<=d/\d<=200): ∀(N a:Nat) (L:List Nd),F.length-a<N->a<=F.length->16*(F.length-a)+11<n->L.length<=16*a+111->ji F a d=true->
  ∃(f e:Nat) (m g:List Nd),jX (dA q) N F (a:Int) u d L=a6 (.inl ((),((),()),((F,(f:Int),u,d,()),L++m,())))/\
   (ik q').q60 F (jE F) L (a:Int) u d=a6 (RR F e (L++g) u d,())/\
   Bj (ik q') N v F (jE F) (e:Int) u d (L++g)=a6 (.inl ((v,()),((),()),((F,jE F,(f:Int),u,d,()),L++m,())))/\a<f/\f<=F.length/\m.length+1<=16*(f-a)/\Tr F a f u L.length m
 |0,a,L,O,_,_,_,_=>by omega
 |N+1,a,L,O,S,U,hL,V=>by
  have ak:=hF.len;obtain⟨e,g,W,y,X,z,Y⟩:=h.andor a L u d q q' U J M ⟨S,by omega,hd.1,hd.2⟩ V;obtain⟨n1,_,_⟩:=iJ L (opn 3 a u) (by omega);obtain⟨Z,c2⟩:=jC L g (opn 3 a u);have hP: ∀K:Option _,jX (dA q) (N+1) F (a:Int) u d L=K->jX (dA q) (N+1) F (a:Int) u d L=K:=fun _ h=>h;rw[jX,JW];simp only[eU,aj,aa,n1];rw[W,bT];simp only[Z,c2,aa,iI];rw[iF hF e _ u d (by omega) [59,38] rfl,bT];simp only;have ab:(L++(3,(a:Int),(e:Int),u,())::g).length=L.length+1+g.length:=by grind
  have stop: ∀b:Nat,e<=b->b<=F.length->((3,(a:Int),(e:Int),u,())::g).length+1<=16*(b-a)/\Tr F a b u L.length ((3,(a:Int),(e:Int),u,())::g):=fun b A B=>⟨by grind,Y.2.one (af _) A (by omega) rfl⟩;have next: ∀b:Nat,e<=b->b<=F.length->ji F b d=true->e<b-> ∃(f:Nat) (m:List Nd) (l:Nat) (p:List Nd),
    jX (dA q) N F (b:Int) u d (L++(3,(a:Int),(e:Int),u,())::g)=a6 (.inl ((),((),()),((F,(f:Int),u,d,()),L++m,())))/\
    (ik q').q60 F (jE F) (L++(3,(a:Int),(e:Int),u,())::g) (b:Int) u d=a6 (RR F l ((L++(3,(a:Int),(e:Int),u,())::g)++p) u d,())/\
    Bj (ik q') N v F (jE F) (l:Int) u d ((L++(3,(a:Int),(e:Int),u,())::g)++p)=a6 (.inl ((v,()),((),()),((F,jE F,(f:Int),u,d,()),L++m,())))/\a<f/\f<=F.length/\m.length+1<=16*(f-a)/\Tr F a f u L.length m:=fun b A B i D=>by
   obtain⟨f,l,m,p,f1,f2,f3,f4,f5,f6⟩:=uT h J M u d v hd N b (L++(3,(a:Int),(e:Int),u,())::g) (by omega) B (by omega) (by rw[ab];omega) i;exact⟨f,((3,(a:Int),(e:Int),u,())::g)++m,l,p,by simp_all,f2,by simp_all,by omega,f5,by grind,(stop b A B).2.app f6.2 (af _) (ae ..)⟩
  cases hs:dW F e [59,38]with
  |true=>
   have D:=eQ hs;have ad:=lV (F:=F) (e+1);have j:=kQ (F:=F) (a:=e+1) (by omega);rw[iR hs];simp only[aa];rw[iO hF (e+1) _ u d (by omega),bT];simp only;rw[jO hF _ _ u d (by omega),bT];simp only;cases i:ji F (ln F (e+1)) d with
   |false=>
    refine⟨ln F (e+1),e,_,_,rfl,y, ?_,by omega,j,stop _ (by omega) j⟩;rw[Bj,O6,kC e _ u d [59,38] (by simp),bT,hs];simp only[aa];rw[dD,show(e:Int)+1=((e+1:Nat):Int) by omega,pg hF (e+1) _ u d (by omega),bT]
    grind [Jp,bT]
   |true=>
    obtain⟨f,m,l,p,g1,g2,g3,g4,g5,g6⟩:=next _ (by omega) j i (by omega)
    refine⟨f,e,m,_,g1,y, ?_,g4,g5,g6⟩;rw[Bj,O6,kC e _ u d [59,38] (by simp),bT,hs];simp only[aa];rw[dD,show(e:Int)+1=((e+1:Nat):Int) by omega,pg hF (e+1) _ u d (by omega),bT];simp only;rw[Jp _ _ u d (by omega),bT,i];simp_all [bT]
  |false=>
   have ad:=lV (F:=F) e;have j:=kQ (F:=F) z;have I:Bj (ik q') (N+1) v F (jE F) (e:Int) u d (L++(3,(a:Int),(e:Int),u,())::g)=
     (bif cZ (((ln F e:Nat):Int)-e) 0 then(a6 (.inl ((v,()),((),()),((F,jE F,((ln F e:Nat):Int),u,d,()),L++(3,(a:Int),(e:Int),u,())::g,()))):Option (abg.den⊕abP.den))
     else bif !ji F (ln F e) d then a6 (.inl ((v,()),((),()),((F,jE F,((ln F e:Nat):Int),u,d,()),L++(3,(a:Int),(e:Int),u,())::g,())))
      else bU ((ik q').q60 F (jE F) (L++(3,(a:Int),(e:Int),u,())::g) ((ln F e:Nat):Int) u d) fun x=>Bj (ik q') N v x.1.1 x.1.2.1 x.1.2.2.2.1 x.1.2.2.2.2.1 x.1.2.2.2.2.2.1 x.1.2.2.1):=by
    rw[Bj,O6,kC e _ u d [59,38] (by simp),bT,hs];simp only[ac];rw[pg hF e _ u d z,bT];simp only;cases cZ (((ln F e:Nat):Int)-e) 0 with
    |true=>rfl
    |false=>
     simp only[ac]
     grind [Jp,bT]
   rw[jR hs];simp only[ac];rw[iO hF e _ u d z,bT];simp only;cases hln:dW F e [110]with
   |false=>
    have ah:ln F e=e:=by rw[mY,hln];rfl
    rw[ah]at I ⊢;refine⟨e,e,_,_,rfl,y, ?_,X,z,stop _ (af _) z⟩;simp_all [gz]
   |true=>
    have D:e<ln F e:=by simp_all [az8]
    simp only[au,ac];rw[dY (fB)]at I;rw[jO hF _ _ u d (by omega),bT];simp only;cases i:ji F (ln F e) d with
    |false=>
     refine⟨ln F e,e,_,_,rfl,y, ?_,by omega,j,stop _ (by omega) j⟩;rw[I,i];rfl
    |true=>
     obtain⟨f,m,l,p,g1,g2,g3,g4,g5,g6⟩:=next _ (by omega) j i D
     refine⟨f,e,m,_,g1,y, ?_,g4,g5,g6⟩;simp_all [bT]
theorem anp {n:Nat} (h:All F n) (a:Nat) (l:List Nd) (u d:Int) (r g:Nat) (J:16*(F.length-a)+12<n+1) (K:n+1<=r) (L:n+1<=g) (hp:jD F a l d 110) (hb:ji F a d=true):
  ∃(e:Nat) (m:List Nd),(dA r).q73 F (a:Int) (bZ l [opn 2 a u]) (bV l) d=a6 (PR F e (bZ l [opn 2 a u]++m) (bV l) d,())/\
   (ik g).q32 F (jE F) l (a:Int) u d=a6 (RR F e (l++(2,(a:Int),(e:Int),u,())::m) u d,())/\a<e/\e<=F.length/\m.length+1<=16*(e-a)/\Tr F a e (bV l) (l.length+1) m:=by
 obtain⟨y,M,i,z⟩:=hp;have N:=hF.len;obtain⟨q,rfl⟩: ∃q,r=q+1:=⟨r-1,by omega⟩;obtain⟨f,rfl⟩: ∃f,g=f+1:=⟨g-1,by omega⟩;have j:(bZ l [opn 2 a u]).length=l.length+1:=by unfold bZ;simp
 have A:bZ l [opn 2 a u]=l++[(2,(a:Int),0,u,())]:=rfl;obtain⟨e,O,m,S,B,p,v,D,I,x⟩:=uT hF h (q:=q) (q':=f) (by omega) (by omega) (bV l) d u ⟨i,z⟩ bY a (bZ l [opn 2 a u]) (di) y (by omega) (by rw[j];omega) hb;refine⟨e,m, ?_, ?_,D,I,x.1,j▸x.2⟩
 .show Zm (dA q) F (a:Int) _ _ d=_;rw[Zm,B,bT];rfl
 .show aBK (ik f) F (jE F) l (a:Int) u d=_;rw[aBK,ou a l u d (by omega) (by omega) (by omega) i (by omega),bT];simp only[show kW 2=false from rfl,ai,if_false];rw[A]at p v;rw[show((l.length:Nat):Int)=bV l from rfl,p,bT];simp only;rw[v,bT];simp only[dX];rw[show bV l=((l.length:Nat):Int) from rfl,xu e _ u d l.length (by simp) (qY l _ 2 _ _) (by omega) (by omega) i (by omega),bT];simp only[qU,show kW 2=false from rfl,ai,if_false]
end
section
open Bool renaming and_eq_true → ah, not_true → au, not_false → aF
open Nat renaming lt_of_lt_of_le → bF
open Go.RowKit
theorem aeC {s:List UInt8} (d:s.length<1000000):Ub s 0=some (((nl s:Nat):Int),()):=by
 have:=aoV (bF d (by omega)) (a:=0) (Nat.zero_le _);simpa using this
theorem Ai {s:List UInt8} (d:s.length<1000000):XH s=some (decide (nl s≠0/\nl s=s.length),()):=by
 rw[XH];by_cases h0:s=[]
 .subst h0;rfl
 have f:0<s.length:=List.length_pos_iff.2 h0;rw[Xu h0];simp only[aF,aa];rw[aeC d,bT];congr 2;by_cases h:nl s=s.length
 .rw[gz (by rw[cu];omega),decide_eq_true ⟨by omega,h⟩]
 .rw[fB (by rw[cu];omega),decide_eq_false (fun e=>h e.2)]
def kH (s:dC):Bool:=decide (nl s≠0/\nl s<s.length)&&decide (s.getD (nl s) 0=61)
theorem acZ {s:List UInt8} (f:s.length<1000000): ∃x y,aje s=some (x,(y,(kH s,()))):=by
 have g:nl s<=s.length:=by unfold nl;split;omega;exact NC XN s
 rw[aje,aeC f,bT];simp only;by_cases h0:nl s=0
 .exact⟨[],[],by rw[dn (gz),kH,decide_eq_false (fun h=>h.1 h0)];rfl⟩
 rw[dY (fB)];by_cases h1:nl s=s.length
 .exact⟨[],[],by rw[dn (gz (by rw[cu];omega)),kH,decide_eq_false (fun h=>by omega)];rfl⟩
 have d:nl s<s.length:=by omega
 rw[dY (fB (by rw[cu];omega)),dn (fD),byte_at d];have e:s.getD (nl s) 0=s[nl s]:=by rw[List.getD_eq_getElem?_getD,List.getElem?_eq_getElem d];rfl
 by_cases h3:s[nl s]=61
 .rw[h3,show cZ ((61:UInt8).toNat:Int) 61=true from rfl];simp only[au,ac];rw[dD,dn (ig (by omega) (by omega) (by rw[cu];omega)),dn (ig (by omega) (by rw[cu];omega) (by omega))];exact⟨_,_,by rw[kH,decide_eq_true ⟨h0,d⟩,e,decide_eq_true h3];rfl⟩
 .rw[fB (fun h=>h3 (UInt8.toNat_inj.1 (by have:((61:UInt8).toNat:Int)=61:=rfl;omega)))];exact⟨[],[],by rw[kH,e,decide_eq_false h3,Bool.and_false];rfl⟩
theorem aDY (s:dC) (i:Nat):sub s 0 (i:Int)=s.take i:=by simp[sub]
theorem ath {s:List UInt8} {i:Nat} (hi:i<s.length) (m:s[i]=61):(nl (s.take i)≠0/\nl (s.take i)=(s.take i).length)↔(nl s≠0/\nl s=i):=by
 have q:XN (61:UInt8)=false:=by decide
 have u:isL (61:UInt8)=false:=by decide
 have len:(s.take i).length=i:=by simp;omega
 have g: ∀p:UInt8->Bool,p 61=false->(((s.take i).takeWhile p).length=i↔(s.takeWhile p).length=i)/\((((s.take i).takeWhile p).length=0)↔((s.takeWhile p).length=0)):=by
  intro p v;have x:(s.takeWhile p).length<=i:=by
   by_cases c:(s.takeWhile p).length<=i
   .exact c
   .have:=GZ p s i hi (by omega);rw[m,v]at this;cases this
  have e:((s.take i).takeWhile p).length=(s.takeWhile p).length:=by
   refine aHZ p _ _ (by omega) (fun j y h=> ?_) fun h=> ?_
   .rw[List.getElem_take];exact GZ p s j (by omega) h
   .rw[List.getElem_take];exact Cc p s (by omega)
  rw[e];exact⟨Iff.rfl,Iff.rfl⟩
 have f:=g XN q;have l:=g isL u;unfold nl IU runN;rw[len];by_cases h:(s.takeWhile isL).length=0
 .rw[am h,am (l.2.2 h)]
 .rw[aq h,aq (fun d=>h (l.2.1 d))];constructor
  .rintro ⟨a,b⟩;exact⟨fun d=>a (f.2.2 d),f.1.1 b⟩
  .rintro ⟨a,b⟩;exact⟨fun d=>a (f.2.1 d),f.1.2 b⟩
theorem zZ {s:List UInt8} (g:s.length<1000000): ∀(N k:Nat),s.length-k<N->1<=k->k<=s.length->(kH s=true->k<=nl s)->
  ∃r,Ei N s (k:Int)=some r/\(kH s=true-> ∃n:Nat,r=.inr (((n:Int),()),())/\0<n/\n=nl s)/\(kH s=false->r=.inl ((),()))
 |0,k,h,_,_,_=>by omega
 |N+1,k,h,q,hk,f=>by
  rw[Ei,RI];by_cases h1:k<s.length
  .have p:dJ .i64 (k:Int) 1=((k+1:Nat):Int):=by rw[dD];rfl
   rw[dn (fQ (by rw[cu];omega)),dn (fD),byte_at h1,p];have i:s.getD k 0=s[k]:=by rw[List.getD_eq_getElem?_getD,List.getElem?_eq_getElem h1];rfl
   by_cases h2:s[k]=61
   .rw[h2,show cZ ((61:UInt8).toNat:Int) 61=true from rfl];simp only[aa];rw[dn (ig (by omega) (by omega) (by rw[cu];omega)),aDY,zu (by simp;omega),bT];simp only;have j:=ath h1 h2;by_cases h3:nl s≠0/\nl s=k
    .rw[decide_eq_true (j.2 h3)];refine⟨_,rfl,fun _=>⟨k,rfl,by omega,h3.2.symm⟩,fun l=> ?_⟩;have:kH s=true:=by rw[kH,decide_eq_true ⟨h3.1,by omega⟩,h3.2,i,decide_eq_true h2];rfl
     rw[this]at l;cases l
    .rw[decide_eq_false (fun d=>h3 (j.1 d))];refine zZ g N (k+1) (by omega) (by omega) (by omega) fun d=> ?_;have m:=f d;unfold kH at d;simp only[ah,decide_eq_true_eq]at d;omega
   .rw[fB (fun h=>h2 (UInt8.toNat_inj.1 (by have:((61:UInt8).toNat:Int)=61:=rfl;omega)))];refine zZ g N (k+1) (by omega) (by omega) (by omega) fun d=> ?_;have m:=f d;unfold kH at d;simp only[ah,decide_eq_true_eq]at d;by_cases e:k=nl s
    .subst e;rw[i]at d;exact absurd d.2 h2
    .omega
  .rw[dY (iL (by rw[cu];omega))];refine⟨_,rfl,fun d=> ?_,fun _=>rfl⟩;have m:=f d;unfold kH at d;simp only[ah,decide_eq_true_eq]at d;omega
theorem aEY {s:List UInt8} (d:s.length<1000000):XC s=some (if kH s=true then(nl s:Int)else 0,()):=by
 rw[XC];by_cases h0:s=[]
 .subst h0;rfl
 have l:0<s.length:=List.length_pos_iff.2 h0;obtain⟨r,f,g,i⟩:=zZ d bY 1 (di) (by omega) (by omega) (fun h=>by
  unfold kH at h;simp only[ah,decide_eq_true_eq]at h;omega)
 rw[show Ei bY s 1=_ from f];cases ha:kH s with
 |true=>
  obtain⟨n,e,m,j⟩:=g ha;subst e j;rfl
 |false=>
  have e:=i ha;subst e;rfl
theorem afR {s:List UInt8} (d:s.length<1000000): ∃n:Int,XC s=some (n,())/\iV 0 n=kH s/\cZ n 0= !kH s:=by
 rw[XC];by_cases h0:s=[]
 .subst h0;exact⟨0,rfl,rfl,rfl⟩
 have j:0<s.length:=List.length_pos_iff.2 h0;obtain⟨r,f,g,i⟩:=zZ d bY 1 (di) (by omega) (by omega) (fun h=>by
  unfold kH at h;simp only[ah,decide_eq_true_eq]at h;omega)
 rw[show Ei bY s 1=_ from f];cases ha:kH s with
 |true=>
  obtain⟨n,e,l,_⟩:=g ha;subst e;exact⟨n,rfl,fQ,fB⟩
 |false=>
  have e:=i ha;subst e;exact⟨0,rfl,rfl,rfl⟩
theorem NI {s:List UInt8} (d:s.length<1000000:=by omega):ajd s=some (kH s,()):=by
 obtain⟨x,y,h⟩:=acZ d;rw[ajd,h,bT]
end
section
open Bool renaming false_eq_true → ai, and_true → aj, not_true → au, not_false → aF, true_and → aS, false_or → bg
open List renaming length_append → ae, append_assoc → ag, getElem_mem → aI
open Nat renaming le_refl → af
open Go.RowKit
variable {F:List Lf} (hF:yT F)
include hF
omit hF in
theorem rY {a:Nat} {c:UInt8} (h:dW F a [c]=true):qo F a=c:=by
 simp_all [dW]
omit hF in
theorem zI {a:Nat} {c:UInt8} (d:c≠0) (h:qo F a=c):dW F a [c]=true:=by
 grind [AQ,dW]
def Bd (F:List Lf) (a:Nat) (u:Int):Nd:=if qX F a=true then(7,(a:Int),((a+1:Nat):Int),u,())else(18,(a:Int),(a:Int),u,())
omit hF in
theorem xm (a:Nat) (l:List Nd) (u:Int):wdL F a l u=l++[Bd F a u]:=by grind [wdL,Bd]
omit hF in
theorem Wl (a:Nat):a<=uF F a/\(a<=F.length->uF F a<=F.length):=by
 unfold uF;split
 .grind [Uk]
 omega
omit hF in
theorem Wn {a b c:Nat} {u:Int} {k:Nat} (d:a<=c) (h2:uF F c<=b):Tr F a b u k [Bd F c u]:=by
 unfold uF at h2;unfold Bd;split at h2
 .rename_i h;rw[am h];exact .lf d h2 (by omega) (fun _=>by simpa [qX] using h)
 .rename_i h;rw[aq h];exact .mis d h2
theorem Qr (a:Nat) (l:List Nd) (u d:Int) (K:a<=F.length) (hl:l.length<100000000) (hd:0<=d) (L:d<1000000) (h:lT F a=true):
  ∃(g:Nat) (m:List Nd),ui F (a:Int) l u d=some (PR F g (l++m) u d,(true,()))/\adF F (jE F) l (a:Int) u d=some (RR F g (l++m) u d,())/\a<g/\g<=F.length/\m.length=2/\Tr F a g u l.length m:=by
 have M:=hF.len;obtain⟨n1,_,_⟩:=iJ l (opn 8 a u) (by omega);have v:(bZ l [opn 8 a u]).length=l.length+1:=by unfold bZ;simp
 obtain⟨b,x,y,z,i,j⟩: ∃b:Nat,a<b/\b<=F.length/\tk F (tk F a [35]) [60]=b/\(if dW F a [35]=true then a+2 else a+1)=b/\((b=a+1\/b=a+2/\dW F a [35]=true)/\dW F (b-1) [60]=true):=by
  cases h35:dW F a [35]with
  |true=>
   have N:=rY h35;unfold lT at h;have A:dW F a [60]=false:=by
    simp_all [dW]
   rw[A,h35,bg,aS,decide_eq_true_eq]at h;have q:=zI (by decide) h;exact⟨a+2,by omega,eQ q,by grind [iR],by simp,.inr ⟨rfl,rfl⟩,q⟩
  |false=>
   unfold lT at h;rw[h35,Bool.false_and,Bool.or_false]at h;exact⟨a+1,by omega,eQ h,by rw[jR h35,iR h],by simp,.inl rfl,h⟩
 have O:tk F a [35]<=F.length:=by
  grind [tk]
 obtain⟨S,B⟩:=Wl (F:=F) b;obtain⟨D,I⟩:=jC l [Bd F b (bV l)] (opn 8 a u);have U:bZ l [opn 8 a u]=l++[(8,(a:Int),0,u,())]:=rfl;refine⟨uF F b,[(8,(a:Int),((uF F b:Nat):Int),u,()),Bd F b (bV l)], ?_, ?_,by omega,B y,rfl,Tr.one (Wn (Nat.le_of_lt x) (af _)) (af _) (af _) (by omega) rfl (fun _=>by
  obtain⟨p,rfl⟩: ∃p,b=p+1:=⟨b-1,by omega⟩;refine⟨p,(by
   rcases j.1 with h|⟨h,J⟩
   .exact .inl (by omega)
   .exact .inr ⟨by omega,J⟩),j.2, ?_⟩
  unfold Bd uF;split
  .exact .inl ⟨rfl,_,rfl⟩
  .exact .inr ⟨rfl,_,rfl⟩)⟩
 .rw[ui,AO hF a l u d (by omega),bT,h];simp only[au,ac,eU,aj,aa,n1];rw[iF hF a _ _ d (by omega) [35] rfl,bT];simp only;rw[iF hF _ _ _ d (by omega) [60] rfl,bT,z];simp only;rw[zT b _ _ d (by omega) (by rw[v];omega),bT];simp only[xm,D,I,aa,iI]
 .rw[adF,ou a l u d (by omega) (by omega) (by omega) hd (by omega),bT];simp only[show kW 8=false from rfl,ai,if_false];rw[kC a _ _ d [35] (by simp),bT];simp only;have V:bU (zk F (jE F) (l++[(8,(a:Int),0,u,())]) (b:Int) ((l.length:Nat):Int) d) (fun e=>bU (rW e.1.1 e.1.2.1 e.1.2.2.1 e.1.2.2.2.1 e.1.2.2.2.2.1 e.1.2.2.2.2.2.1 u) fun f=>
    some ((f.1.1,(f.1.2.1,(f.1.2.2.1,(f.1.2.2.2.1,(f.1.2.2.2.2.1,(f.1.2.2.2.2.2.1,())))))),()))=some (RR F (uF F b) (l++[(8,(a:Int),((uF F b:Nat):Int),u,()),Bd F b (bV l)]) u d,()):=by
   rw[acS b _ _ d (by omega) (by grind) hd (by omega),bT];simp only[xm];rw[xu (uF F b) _ u d l.length (by simp) (qY l _ 8 _ _) (by omega) (by omega) hd (by omega),bT];simp only[qU,show kW 8=false from rfl,ai,if_false];rfl
  cases h35:dW F a [35]with
  |true=>
   rw[h35,am rfl]at i;simp only[aa]
   grind [dD]
  |false=>
   rw[h35,aq (by simp)]at i;simp only[ac]
   grind [dD]
theorem gp (a:Nat) (l:List Nd) (u d:Int) (e:a<=F.length) (h:lT F a=false):ui F (a:Int) l u d=some (PR F a l u d,(false,())):=by
 have f:=hF.len;rw[ui,AO hF a l u d (by omega),bT,h];rfl
theorem GI {q':jK} (u d v:Int) (hd:0<=d/\d<=201): ∀(N a:Nat) (L:List Nd) (i:Bool) (w:Int),F.length-a<N->a<=F.length->L.length<=16*a+1000->0<=w->w<=a->(i=true↔w≠0)->
  ∃(f:Nat) (m:List Nd),oD N i F (a:Int) u d L=some (.inl ((),((),()),((F,(f:Int),u,d,()),L++m,())))/\
   Df q' N v w F (jE F) (a:Int) u d L=some (.inl ((v,()),((),()),((F,jE F,(f:Int),u,d,()),L++m,())))/\a<=f/\f<=F.length/\(m.length<=2*(f-a)/\Tr F a f u L.length m)/\((lT F a||qX F a)=true->a<f)
 |0,a,L,i,w,O,_,_,_,_,_=>by omega
 |N+1,a,L,i,w,O,l,hL,A,ak,B=>by
  have al:=hF.len;rw[oD,EO,Df,Na,Bf a L u d (by omega),bT];simp only;cases hr:lT F a with
  |true=>
   obtain⟨S,D,U,V,e3,W,X⟩:=Qr hF a L u d l (by omega) hd.1 (by omega) hr;rw[U,bT];simp only[aa];rw[V,bT];simp only;obtain⟨f,m,Y,p,Z,q,x,_⟩:=GI u d v hd N S (L++D) i w (by omega) W (by grind) A (by omega) B;exact⟨f,D++m,by simp_all,by rw[p,ag],by omega,q,⟨by grind,X.2.app x.2 (af _) (ae ..)⟩,fun _=>by omega⟩
  |false=>
   rw[gp hF a L u d l hr,bT];simp only[ac];rw[ku a L u d,bT];simp only;cases hi:qX F a with
   |false=>
    refine⟨a,[],by simp, ?_,af _,l,⟨by simp,.nil (af _)⟩,fun h=>by simp at h⟩;by_cases h:a<F.length
    .have z:F[a].1≠6:=by
      simp_all [qX]
     simp_all [fD,um,fB]
    simp_all [iL,cu]
   |true=>
    have h:=Uk hi;have z:F[a].1=6:=by
     simp_all [qX]
    have ab:iy F (a:Int)=true:=fD;have hg:=hF.txt _ (aI h);obtain⟨y,y1,y2,y3⟩:=afR (s:=F[a].2.1) (by omega);simp only[au,ac];rw[dn (fQ (by rw[cu];omega)),ab];simp only[aa,um h,gz z];rw[NI,bT,y1,bT];simp only[y2];have go: ∀(k:Int) (j:Bool) (g:Int),k=6\/k=7->0<=g->g<=((a+1:Nat):Int)->(j=true↔g≠0)-> ∃(f:Nat) (m:List Nd),
      oD N j F ((a+1:Nat):Int) u d (L++[(k,(a:Int),((a+1:Nat):Int),u,())])=some (.inl ((),((),()),((F,(f:Int),u,d,()),L++m,())))/\
      Df q' N v g F (jE F) ((a+1:Nat):Int) u d (L++[(k,(a:Int),((a+1:Nat):Int),u,())])=some (.inl ((v,()),((),()),((F,jE F,(f:Int),u,d,()),L++m,())))/\a<=f/\f<=F.length/\(m.length<=2*(f-a)/\Tr F a f u L.length m)/\((false||true)=true->a<f):=fun k j g hk h1 h2 h3=>by
     obtain⟨f,m,Y,p,Z,q,x,_⟩:=GI u d v hd N (a+1) (L++[(k,(a:Int),((a+1:Nat):Int),u,())]) j g (by omega) (by omega) (by grind) h1 h2 h3;exact⟨f,[(k,(a:Int),((a+1:Nat):Int),u,())]++m,by simp_all,by rw[p,ag],by omega,q,⟨by grind,(Tr.lf (af _) (af _) (by omega) (fun _=>⟨h,z⟩)).app x.2 (af _) (ae ..)⟩,fun _=>by omega⟩
    have I:dJ .i64 w 1=w+1:=dD;have J: ∀g,g=w+1->(true=true↔g≠0):=fun g e=>⟨fun _=>by omega,fun _=>rfl⟩;have l6:=qG (F:=F) a L u d 6 (by omega) (by omega);have K:=qG (F:=F) a L u d 7 (by omega) (by omega);have o6:=Qj (F:=F) a L u d (k:=6) (by omega) (by omega) rfl (by omega) (by omega) hd.1 (by omega);have M:=Qj (F:=F) a L u d (k:=7) (by omega) (by omega) rfl (by omega) (by omega) hd.1 (by omega);by_cases hw:w=0
    .have ad:i=false:=by
      simp_all
     subst ad;rw[gz hw];simp only[aF,aa];cases kH F[a].2.1 with
     |true=>
      simp only[aa];rw[l6,o6,bT,bT];exact go 6 false w (.inl rfl) A (by omega) ⟨fun h=>(by cases h),fun h=>absurd hw h⟩
     |false=>
      simp only[ac];rw[K,M,bT,bT];simp only[I];exact go 7 true (w+1) (.inr rfl) (by omega) (by omega) (J _ rfl)
    .have ah:i=true:=B.2 hw;subst ah;rw[fB hw];simp only[au,ac];rw[K,M,bT,bT];simp only[I];exact go 7 true (w+1) (.inr rfl) (by omega) (by omega) (J _ rfl)
end
section
open Bool renaming and_eq_true → ah, true_and → aS
open List renaming append_assoc → ag, getElem_mem → aI
open Nat renaming le_refl → af
open Go.RowKit
variable {F:List Lf} (hF:yT F)
include hF
def QV (F:List Lf) (a:Nat) (d:Int):Bool:=dW F a [120]&&(decide (qo F (a+1)=40)&&(decide (d<200)&&(if h:a<F.length then decide (nl F[a].2.1≠0/\nl F[a].2.1=F[a].2.1.length)else false)))
omit hF in
theorem ah4 (a:Nat) (c:UInt8):cZ ((qo F a).toNat:Int) (c.toNat:Int)=decide (qo F a=c):=by
 rw[iT,decide_eq_decide]
 grind [UInt8.toNat_inj]
theorem zo (a:Nat) (l:List Nd) (u d:Int) (e:a<=F.length):ai6 F (a:Int) l u d=some (PR F a l u d,(QV F a d,())):=by
 have f:=hF.len;rw[ai6,lm hF a l u d (by omega),bT];simp only;rw[show cZ ((qo F a).toNat:Int) 120=dW F a [120] from QC a 120 (by decide)];unfold QV;cases hx:dW F a [120]with
 |false=>rfl
 |true=>
  have h:=eQ hx;simp only[aa,aS];rw[aly hF a l u d (by omega),bT];simp only;rw[show cZ ((qo F (a+1)).toNat:Int) 40=decide (qo F (a+1)=40) from ah4 (a+1) 40];cases decide (qo F (a+1)=40)with
  |false=>rfl
  |true=>
   simp only[aa,aS];by_cases hd:d<200
   .rw[dn (fQ hd),dn (fD),um h,Ai (by have:=hF.txt _ (aI h);omega),bT,dif_pos h,decide_eq_true hd,aS]
   simp_all [iL,decide_eq_false]
omit hF in
theorem xA (a:Nat) (o:dC):a<=nJ F a o/\(a<=F.length->nJ F a o<=F.length):=by
 unfold nJ tk;split
 .grind [eQ]
 omega
def ny (F:List Lf) (a:Nat) (o:dC) (u:Int):List Nd:=if dW F a o=true then []else [(18,(a:Int),(a:Int),u,())]
omit hF in
theorem jM (a:Nat) (o:dC) (l:List Nd) (u:Int):wnL F a o l u=l++ny F a o u:=by
 grind [wnL,ny]
omit hF in
theorem zS {a b c:Nat} {o:List UInt8} {u:Int} {k:Nat} (d:a<=c) (h2:c<=b):Tr F a b u k (ny F c o u):=by
 unfold ny;split
 .exact .nil (by omega)
 .exact .mis d h2
omit hF in
theorem nT (a:Nat) (o:dC) (u:Int):(ny F a o u).length<=1:=by grind [ny]
theorem amd {n:Nat} (h:All F n) (B:All F (n-1)) (a:Nat) (l:List Nd) (u d:Int) (q q':Nat) (hm:16*(F.length-a)+9<n+1) (hq:n<=q) (ab:n<=q') (hp:jD F a l d 113) (hb:QV F a d=true):
  ∃(e:Nat) (m:List Nd),(dA q).q215 F (a:Int) (bZ l [opn 16 a u]) (bV l) (d+1)=some (PR F e (bZ l [opn 16 a u]++m) (bV l) (d+1),())/\
   (bU (Fa F (jE F) l (a:Int) u d 16) fun j=>
    bU (N9 j.1.1 j.1.2.1 j.1.2.2.1 j.1.2.2.2.1 j.1.2.2.2.2.1 j.1.2.2.2.2.2.1 7) fun p=>
     bU (pI p.1.1 p.1.2.1 p.1.2.2.1 (dJ .i64 p.1.2.2.2.1 1) p.1.2.2.2.2.1 p.1.2.2.2.2.2.1 [41]) fun v=>
      bU (uO v.1.1 v.1.2.1 v.1.2.2.1 v.1.2.2.2.1 v.1.2.2.2.2.1 v.1.2.2.2.2.2.1) fun x=>
       bU (agG x.1.1 x.1.2.1 x.1.2.2.1 x.1.2.2.2.1 x.1.2.2.2.2.1 x.1.2.2.2.2.2.1) fun g=>
        bif g.2.1 then
         bU ((ik q').q146 g.1.1 g.1.2.1 g.1.2.2.1 g.1.2.2.2.1 g.1.2.2.2.2.1 g.1.2.2.2.2.2.1) fun i=>
          bU (rW i.1.1 i.1.2.1 i.1.2.2.1 i.1.2.2.2.1 i.1.2.2.2.2.1 i.1.2.2.2.2.2.1 j.2.1) fun f=>
           some ((f.1.1,(f.1.2.1,(f.1.2.2.1,(f.1.2.2.2.1,(f.1.2.2.2.2.1,(f.1.2.2.2.2.2.1,())))))),())
        else
        bU (FN g.1.1 g.1.2.1 g.1.2.2.1 g.1.2.2.2.1 g.1.2.2.2.2.1 g.1.2.2.2.2.2.1) fun i=>
         bU (rW i.1.1 i.1.2.1 i.1.2.2.1 i.1.2.2.2.1 i.1.2.2.2.2.1 i.1.2.2.2.2.2.1 j.2.1) fun f=>
          some ((f.1.1,(f.1.2.1,(f.1.2.2.1,(f.1.2.2.2.1,(f.1.2.2.2.2.1,(f.1.2.2.2.2.2.1,())))))),()))=some (RR F e (l++(16,(a:Int),(e:Int),u,())::m) u d,())/\a<e/\e<=F.length/\m.length+4<=16*(e-a)/\Tr F a e (bV l) (l.length+1) m:=by
 obtain⟨p1,p2,U,p4⟩:=hp;have ad:=hF.len;unfold QV at hb;simp only[ah,decide_eq_true_eq]at hb;obtain⟨I,V,b3,_⟩:=hb;have z:=eQ I;have J:qX F a=true:=by
  unfold qX;rw[dif_pos z];have B:=rY I;rw[BX z]at B;exact decide_eq_true (alu (hF.txt _ (aI z)) B)
 have K:=zI (F:=F) (a:=a+1) (c:=40) (by decide) V;have ae:=eQ K;obtain⟨A,rfl⟩: ∃A,q=A+1:=⟨q-1,by omega⟩;have W:bZ l [opn 16 a u]=l++[(16,(a:Int),0,u,())]:=rfl;have X:(bZ l [opn 16 a u]).length=l.length+1:=by unfold bZ;simp
 have L:=xA (F:=F) (a+2) [41];have D:=L.2 (by omega);have ai:=nT (F:=F) (a+2) [41] (bV l);have Y:=lV (F:=F) (nJ F (a+2) [41]);have M:=kQ (F:=F) D;have N: ∀(e:Nat) (m:List Nd),bU (rW F (jE F) ((l++[(16,(a:Int),0,u,())])++m) (e:Int) ((l.length:Nat):Int) (d+1) u) (fun f=>some ((f.1.1,(f.1.2.1,(f.1.2.2.1,(f.1.2.2.2.1,(f.1.2.2.2.2.1,(f.1.2.2.2.2.2.1,())))))),()))=some (RR F e (l++(16,(a:Int),(e:Int),u,())::m) u d,()):=fun e m=>by
  rw[xu e _ u (d+1) l.length (by simp) (qY l _ 16 _ _) (by omega) (by omega) (by omega) (by omega),bT];simp only[qU,show kW 16=true from rfl,if_true,show d+1-1=d by omega]
 have Z: ∃(e:Nat) (m:List Nd),(bif oH F (ln F (nJ F (a+2) [41])) (d+1)then
    (dA A).q212 F ((ln F (nJ F (a+2) [41]):Nat):Int) ((bZ l [opn 16 a u]++[(7,(a:Int),((a+1:Nat):Int),bV l,())])++ny F (a+2) [41] (bV l)) (bV l) (d+1)
   else qc F ((ln F (nJ F (a+2) [41]):Nat):Int) ((bZ l [opn 16 a u]++[(7,(a:Int),((a+1:Nat):Int),bV l,())])++ny F (a+2) [41] (bV l)) (bV l) (d+1))=some (PR F e (((bZ l [opn 16 a u]++[(7,(a:Int),((a+1:Nat):Int),bV l,())])++ny F (a+2) [41] (bV l))++m) (bV l) (d+1),())/\
   (bif oH F (ln F (nJ F (a+2) [41])) (d+1)then
    (ik q').q146 F (jE F) ((bZ l [opn 16 a u]++[(7,(a:Int),((a+1:Nat):Int),bV l,())])++ny F (a+2) [41] (bV l)) ((ln F (nJ F (a+2) [41]):Nat):Int) (bV l) (d+1)
   else FN F (jE F) ((bZ l [opn 16 a u]++[(7,(a:Int),((a+1:Nat):Int),bV l,())])++ny F (a+2) [41] (bV l)) ((ln F (nJ F (a+2) [41]):Nat):Int) (bV l) (d+1))=some (RR F e (((bZ l [opn 16 a u]++[(7,(a:Int),((a+1:Nat):Int),bV l,())])++ny F (a+2) [41] (bV l))++m) (bV l) (d+1),())/\ln F (nJ F (a+2) [41])<=e/\e<=F.length/\m.length<=16*(e-ln F (nJ F (a+2) [41]))+1/\Tr F (ln F (nJ F (a+2) [41])) e (bV l) ((bZ l [opn 16 a u]++[(7,(a:Int),((a+1:Nat):Int),bV l,())])++ny F (a+2) [41] (bV l)).length m:=by
  have aj:((bZ l [opn 16 a u]++[(7,(a:Int),((a+1:Nat):Int),bV l,())])++ny F (a+2) [41] (bV l)).length<=l.length+3:=by
   simp_all
  cases hc:oH F (ln F (nJ F (a+2) [41])) (d+1)with
  |true=>
   obtain⟨e,m,e1,y,e3,O,S⟩:=B.compound (ln F (nJ F (a+2) [41])) ((bZ l [opn 16 a u]++[(7,(a:Int),((a+1:Nat):Int),bV l,())])++ny F (a+2) [41] (bV l)) (bV l) (d+1) A q' (by omega) (by omega) (by omega) ⟨M,by omega,by omega,by omega⟩ hc
   grind
  |false=>
   refine⟨ln F (nJ F (a+2) [41]),[(18,((ln F (nJ F (a+2) [41]):Nat):Int),((ln F (nJ F (a+2) [41]):Nat):Int),bV l,())], ?_, ?_,af _,M,by simp,.mis (af _) (af _)⟩
   .rw[ac,iQ _ ((bZ l [opn 16 a u]++[(7,(a:Int),((a+1:Nat):Int),bV l,())])++ny F (a+2) [41] (bV l)) _ _ (by omega)]
   .rw[ac,zB _ ((bZ l [opn 16 a u]++[(7,(a:Int),((a+1:Nat):Int),bV l,())])++ny F (a+2) [41] (bV l)) _ _ (by omega) (by omega) (by omega)]
 obtain⟨e,m,e1,y,e3,O,S⟩:=Z;refine⟨e,[(7,(a:Int),((a+1:Nat):Int),bV l,())]++ny F (a+2) [41] (bV l)++m, ?_, ?_,by omega,O,by grind,((Tr.lf (af a) (af _) (by omega) (fun _=>⟨z,by simpa [qX,z] using J⟩)).app (zS (a:=a+1) (by omega) L.1) (af _) rfl).app S.2 Y (by grind)⟩
 .show ads (dA A) F (a:Int) _ _ _=_;rw[ads,zT a _ _ _ (by omega) (by rw[X];omega),bT];simp only[wdL,uF,J,if_true];rw[iF hF (a+1) _ _ _ (by omega) [40] rfl,iR K,bT];simp only;rw[show a+1+1=a+2 from rfl,nI hF (a+2) _ _ _ (by omega) (by grind) [41] rfl,bT];simp only[jM];rw[iO hF _ _ _ _ D,bT];simp only;rw[nN hF _ _ _ _ (by omega),bT];simp only;cases hc:oH F (ln F (nJ F (a+2) [41])) (d+1)with
  |true=>
   simp_all [bT]
  |false=>
   simp_all [bT]
 .rw[ou a l u d (by omega) (by omega) (by omega) U (by omega),bT];simp only[show kW 16=true from rfl,if_true];rw[Qj a _ _ _ (k:=7) (by omega) (by omega) rfl (by omega) (by grind) (by omega) (by omega),bT];simp only;rw[dD,show((a+1:Nat):Int)+1=((a+2:Nat):Int) by omega,Ce (a+2) _ _ _ (by omega) (by grind) (by omega) (by omega) [41] (by simp),bT];simp only[jM];rw[pg hF _ _ _ _ D,bT];simp only;rw[yS,bT];simp only;rw[W]at y;rw[show((l.length:Nat):Int)=bV l from rfl];cases hc:oH F (ln F (nJ F (a+2) [41])) (d+1)with
  |true=>
   rw[hc,aa]at y;rw[aa,y,bT];simp only;rw[ag,ag,show bV l=((l.length:Nat):Int) from rfl,N];rfl
  |false=>
   rw[hc,ac]at y;rw[ac,y,bT];simp only;rw[ag,ag,show bV l=((l.length:Nat):Int) from rfl,N];rfl
end
section
open Bool renaming and_eq_true → ah, false_eq_true → ai, and_true → aj, not_true → au, not_false → aF, false_or → bg
open List renaming getElem_mem → aI
open Nat renaming le_refl → af
open Go.RowKit
variable {F:List Lf} (hF:yT F)
include hF
theorem anT {q':jK} (a:Nat) (l:List Nd) (u d:Int) (hp:jD F a l d 113) (q:oH F a d=false) (hb:uG F a d=true):
  ∃(e:Nat) (m:List Nd),XE F (a:Int) (bZ l [opn 5 a u]) (bV l) d=some (PR F e (bZ l [opn 5 a u]++m) (bV l) d,())/\
   pq q' F (jE F) (a:Int) u d l=some (.inl ((),((),()),((F,jE F,(e:Int),u,d,()),l++(5,(a:Int),(e:Int),u,())::m,())))/\a<e/\e<=F.length/\m.length+4<=16*(e-a)/\Tr F a e (bV l) (l.length+1) m:=by
 obtain⟨v,I,g,J⟩:=hp;have K:=hF.len;have i:(bZ l [opn 5 a u]).length=l.length+1:=by unfold bZ;simp
 have x:bZ l [opn 5 a u]=l++[(5,(a:Int),0,u,())]:=rfl;have y:(lT F a||qX F a)=true:=by
  unfold uG at hb;rw[q,Bool.or_false]at hb;cases hr:lT F a with
  |true=>rfl
  |false=>
   rw[hr,Bool.or_false]at hb;have f:=eQ hb;have j:=rY hb;rw[BX f]at j;rw[bg];unfold qX;rw[dif_pos f];exact decide_eq_true (alu (hF.txt _ (aI f)) j)
 obtain⟨e,m,z,p,L,A,B,D⟩:=GI hF (q':=q') (bV l) d u ⟨g,by omega⟩ bY a (bZ l [opn 5 a u]) false 0 (di) v (by rw[i];omega) (by omega) (by omega) ⟨fun h=>(by cases h),fun h=>absurd rfl h⟩;have f:=D y;refine⟨e,m, ?_, ?_,f,A,by omega,i▸B.2⟩
 .rw[XE,z,bT];rfl
 .rw[pq,yz,ou a l u d (by omega) (by omega) (by omega) g (by omega),bT];simp only[show kW 5=false from rfl,ai,if_false];rw[x]at p;rw[show((l.length:Nat):Int)=bV l from rfl,p,bT];simp only[dX];rw[show bV l=((l.length:Nat):Int) from rfl,xu e _ u d l.length (by simp) (qY l _ 5 _ _) (by omega) (by omega) g (by omega),bT];simp only[qU,show kW 5=false from rfl,ai,if_false]
theorem Za {n:Nat} (h:All F n) (K:All F (n-1)) (a:Nat) (l:List Nd) (u d:Int) (r x:Nat) (L:16*(F.length-a)+9<n+1) (U:n+1<=r) (V:n+1<=x) (hp:jD F a l d 113):
  ∃(e:Nat) (m:List Nd),(dA r).q174 F (a:Int) l u d=some (PR F e (l++m) u d,())/\
   (ik x).q109 F (jE F) l (a:Int) u d=some (RR F e (l++m) u d,())/\a<=e/\e<=F.length/\(m.length<=16*(e-a)+1/\Tr F a e u l.length m)/\(uG F a d=true->a<e/\m.length+3<=16*(e-a)):=by
 have z:=hp;obtain⟨D,W,M,X⟩:=hp;have Y:=hF.len;obtain⟨q,rfl⟩: ∃q,r=q+1:=⟨r-1,by omega⟩;obtain⟨f,rfl⟩: ∃f,x=f+1:=⟨x-1,by omega⟩;show ∃(e:Nat) (m:List Nd),CV (dA q) F (a:Int) l u d=_/\aq4 (ik f) F (jE F) l (a:Int) u d=_/\_
 (rewrite [CV,aq4];delta Ho;rw[nN hF a l u d (by omega),Xh a l u d (by omega),bT,bT])
 simp only;cases hc:oH F a d with
 |true=>
  have y:uG F a d=true:=by grind [uG]
  obtain⟨e,m,A,B,p,v,g⟩:=h.compound a l u d q f (by omega) (by omega) (by omega) z hc;refine⟨e,m, ?_, ?_,by omega,v,⟨by omega,g.2⟩,fun _=>⟨p,g.1⟩⟩
  .simp_all [bT]
  simp_all [yS,bT]
 |false=>
  simp only[ac];rw[zo hF a l u d D,bT];simp only;cases hf:QV F a d with
  |true=>
   have y:uG F a d=true:=by
    simp_all [QV,uG]
   obtain⟨e,m,A,B,p,v,g⟩:=amd hF h K a l u d q f L (by omega) (by omega) z hf;obtain⟨n1,_,_⟩:=iJ l (opn 16 a u) (by omega);obtain⟨I,J⟩:=jC l m (opn 16 a u);refine⟨e,(16,(a:Int),(e:Int),u,())::m, ?_, ?_,by omega,v,⟨by grind,g.2.one (af _) (af _) (by omega) rfl⟩,fun _=>⟨p,by simp_all⟩⟩
   .simp only[eU,aj,aa,n1];rw[dD,A,bT];simp only[I,J,aa,iI]
    grind [iH]
   .unfold QV at hf;simp only[ah,decide_eq_true_eq]at hf;obtain⟨g1,g2,g3,g4⟩:=hf;have i:=eQ g1;have N:=eQ (zI (F:=F) (a:=a+1) (c:=40) (by decide) g2);rw[dif_pos i]at g4;rw[y];simp only[au,ac];rw[yS a l u d,bT,hc];simp only[ac];rw[kC a l u d [120] (by simp),bT,g1];simp only[aa];rw[dD,show(a:Int)+1=((a+1:Nat):Int) by omega,dn (fQ (by grind [cu])),dn (fD (by omega) (by grind)),BZ N,
     show cZ ((qo F (a+1)).toNat:Int) 40=decide (qo F (a+1)=40) from ah4 (a+1) 40,decide_eq_true g2,aa,dn (fQ g3),dn (fD),um i,zu (by have:=hF.txt _ (aI i);omega),bT,g4]
    assumption
  |false=>
   simp only[ac];rw[yX hF a l u d (by omega),bT];simp only;cases y:uG F a d with
   |false=>
    simp only[aF,aa,ac];rw[iQ a l u d (by omega),zB a l u d (by omega) M (by omega),bT,bT];exact⟨a,[(18,(a:Int),(a:Int),u,())],rfl,rfl,af _,D,⟨by simp,.mis (af _) (af _)⟩,fun h=>by cases h⟩
   |true=>
    obtain⟨e,m,A,B,p,v,g⟩:=anT hF (q':=ik f) a l u d z hc y;obtain⟨n1,_,_⟩:=iJ l (opn 5 a u) (by omega);obtain⟨I,J⟩:=jC l m (opn 5 a u);refine⟨e,(5,(a:Int),(e:Int),u,())::m, ?_, ?_,by omega,v,⟨by grind,g.2.one (af _) (af _) (by omega) rfl⟩,fun _=>⟨p,by simp_all⟩⟩
    .simp_all [eU,bT,iI]
    .simp only[au,ac];rw[yS a l u d,bT,hc];simp only[ac];rw[kC a l u d [120] (by simp),bT];simp only;have O:bU (pq (ik f) F (jE F) (a:Int) u d l) (fun S=>dX S (fun j=>
       some ((j.2.2.1.1,(j.2.2.1.2.1,(j.2.2.2.1,(j.2.2.1.2.2.1,(j.2.2.1.2.2.2.1,(j.2.2.1.2.2.2.2.1,())))))),())) (fun Z=>none))=some (RR F e (l++(5,(a:Int),(e:Int),u,())::m) u d,()):=by
      rw[B,bT];rfl
     cases hx:dW F a [120]with
     |false=>assumption
     |true=>
      have i:=eQ hx;simp only[aa];rw[dD,show(a:Int)+1=((a+1:Nat):Int) by omega];by_cases hl2:a+1<F.length
      .rw[dn (fQ (by grind [cu])),dn (fD (by omega) (by grind)),BZ hl2,show cZ ((qo F (a+1)).toNat:Int) 40=decide (qo F (a+1)=40) from ah4 (a+1) 40];by_cases h40:qo F (a+1)=40
       .rw[decide_eq_true h40,aa];by_cases hd2:d<200
        .rw[dn (fQ hd2),dn (fD),um i,zu (by have:=hF.txt _ (aI i);omega),bT];have ab:decide (nl F[a].2.1≠0/\nl F[a].2.1=F[a].2.1.length)=false:=by
          simp_all [QV]
         grind
        simp_all [iL]
       simp_all
      .rw[dY (iL (by grind [cu]))];exact O
end
section
open Option renaming some → a6, none → a7
open List renaming append_assoc → ag
open Nat renaming le_refl → af
open Go.RowKit
variable {F:List Lf} (hF:yT F)
include hF
theorem JQ {q':jK} (u d w:Int) (hd:0<=d/\d<=201) (P:Nat->Nat->List Nd->Option (Nat×List Nd)->Prop)
  (j: ∀N a L,lT F a=false->P (N+1) a L (a6 (a,L)))
  (l: ∀N a L f g x,lT F a=true->f<=F.length->ui F (a:Int) L u d=a6 (PR F f (L++g) u d,(true,()))->P N f (L++g) x->P (N+1) a L x):
  ∀(N a:Nat) (L:List Nd),F.length-a<N->a<=F.length->L.length<=16*a+1000->
  ∃(e:Nat) (m:List Nd),P N a L (a6 (e,L++m))/\kw q' N w F (jE F) (a:Int) u d L=a6 (.inl ((w,()),((),()),((F,jE F,(e:Int),u,d,()),L++m,())))/\a<=e/\e<=F.length/\m.length<=2*(e-a)/\Tr F a e u L.length m
 |0,a,L,p,_,_=>by omega
 |N+1,a,L,p,i,D=>by
  have I:=hF.len;rw[kw,Nh,Bf a L u d (by omega),bT];simp only;cases hr:lT F a with
  |false=>exact⟨a,[],by simp_all,by simp,af _,i,by simp,.nil (af _)⟩
  |true=>
   obtain⟨f,g,J,q,K,v,y⟩:=Qr hF a L u d i (by omega) hd.1 (by omega) hr;simp only[aa];rw[q,bT];simp only;obtain⟨e,m,M,z,O,A,B⟩:=JQ u d w hd P j l N f (L++g) (by omega) v (by grind);exact⟨e,g++m,by grind,by rw[z,ag],by omega,A,by grind,y.2.ap B.2⟩
theorem aIE {q:iK} {q':jK} (u d w f g i j l p:Int) (hd:0<=d/\d<=201) (a:Nat) (L:List Nd) (v:a<=F.length) (B:L.length<=16*a+1000):
  ∃(e:Nat) (m:List Nd),jI q bY f g i j l p L F (a:Int) u d=a6 (.inl ((),((f,g,()),(i,j,()),(l,p,()),(),()),((),(),L++m,(F,(e:Int),u,d,()),())))/\
   kw q' bY w F (jE F) (a:Int) u d L=a6 (.inl ((w,()),((),()),((F,jE F,(e:Int),u,d,()),L++m,())))/\a<=e/\e<=F.length/\m.length<=2*(e-a)/\Tr F a e u L.length m:=by
 have K:=hF.len;obtain⟨e,m,M,O,S,U,V⟩:=JQ hF (q':=q') u d w hd (fun N a L x=>a<=F.length-> ∀y,x=a6 y->jI q N f g i j l p L F (a:Int) u d=a6 (.inl ((),((f,g,()),(i,j,()),(l,p,()),(),()),((),(),y.2,(F,(y.1:Int),u,d,()),()))))
  (fun N a L A v y z=>by
   cases z;rw[jI,oQ,gp hF a L u d v A,bT];rfl)
  (fun N a L W X x A D I J v y z=>by
   rw[jI,oQ,I,bT];simp only[aa];exact J D y z) bY a L (di) v B
 grind
theorem aDO {q:iK} {q':jK} (u d w f g i j l p:Int) (hd:0<=d/\d<=201) (a:Nat) (L:List Nd) (v:a<=F.length) (B:L.length<=16*a+1000):
  ∃(e:Nat) (m:List Nd),iY q bY f g i j l p L F (a:Int) u d=a6 (.inl ((),((f,g,()),(i,j,()),(l,p,()),(),()),((),(),L++m,(F,(e:Int),u,d,()),())))/\
   kw q' bY w F (jE F) (a:Int) u d L=a6 (.inl ((w,()),((),()),((F,jE F,(e:Int),u,d,()),L++m,())))/\a<=e/\e<=F.length/\m.length<=2*(e-a)/\Tr F a e u L.length m:=by
 have K:=hF.len;obtain⟨e,m,M,O,S,U,V⟩:=JQ hF (q':=q') u d w hd (fun N a L x=>a<=F.length-> ∀y,x=a6 y->iY q N f g i j l p L F (a:Int) u d=a6 (.inl ((),((f,g,()),(i,j,()),(l,p,()),(),()),((),(),y.2,(F,(y.1:Int),u,d,()),()))))
  (fun N a L A v y z=>by
   cases z;rw[iY,l9,gp hF a L u d v A,bT];rfl)
  (fun N a L W X x A D I J v y z=>by
   rw[iY,l9,I,bT];simp only[aa];exact J D y z) bY a L (di) v B
 grind
theorem aDP {q:iK} {q':jK} (u d w f g i j l p:Int) (hd:0<=d/\d<=201) (a:Nat) (L:List Nd) (v:a<=F.length) (B:L.length<=16*a+1000):
  ∃(e:Nat) (m:List Nd),iZ q bY f g i j l p L F (a:Int) u d=a6 (.inl ((),((f,g,()),(i,j,()),(l,p,()),(),()),((),(),L++m,(F,(e:Int),u,d,()),())))/\
   kw q' bY w F (jE F) (a:Int) u d L=a6 (.inl ((w,()),((),()),((F,jE F,(e:Int),u,d,()),L++m,())))/\a<=e/\e<=F.length/\m.length<=2*(e-a)/\Tr F a e u L.length m:=by
 have K:=hF.len;obtain⟨e,m,M,O,S,U,V⟩:=JQ hF (q':=q') u d w hd (fun N a L x=>a<=F.length-> ∀y,x=a6 y->iZ q N f g i j l p L F (a:Int) u d=a6 (.inl ((),((f,g,()),(i,j,()),(l,p,()),(),()),((),(),y.2,(F,(y.1:Int),u,d,()),()))))
  (fun N a L A v y z=>by
   cases z;rw[iZ,mf,gp hF a L u d v A,bT];rfl)
  (fun N a L W X x A D I J v y z=>by
   rw[iZ,mf,I,bT];simp only[aa];exact J D y z) bY a L (di) v B
 grind
theorem aDQ {q:iK} {q':jK} (u d w f g i j l p:Int) (hd:0<=d/\d<=201) (a:Nat) (L:List Nd) (v:a<=F.length) (B:L.length<=16*a+1000):
  ∃(e:Nat) (m:List Nd),ja q bY f g i j l p L F (a:Int) u d=a6 (.inl ((),((f,g,()),(i,j,()),(l,p,()),(),()),((),(),L++m,(F,(e:Int),u,d,()),())))/\
   kw q' bY w F (jE F) (a:Int) u d L=a6 (.inl ((w,()),((),()),((F,jE F,(e:Int),u,d,()),L++m,())))/\a<=e/\e<=F.length/\m.length<=2*(e-a)/\Tr F a e u L.length m:=by
 have K:=hF.len;obtain⟨e,m,M,O,S,U,V⟩:=JQ hF (q':=q') u d w hd (fun N a L x=>a<=F.length-> ∀y,x=a6 y->ja q N f g i j l p L F (a:Int) u d=a6 (.inl ((),((f,g,()),(i,j,()),(l,p,()),(),()),((),(),y.2,(F,(y.1:Int),u,d,()),()))))
  (fun N a L A v y z=>by
   cases z;rw[ja,mg,gp hF a L u d v A,bT];rfl)
  (fun N a L W X x A D I J v y z=>by
   rw[ja,mg,I,bT];simp only[aa];exact J D y z) bY a L (di) v B
 grind
theorem aDR {q:iK} {q':jK} (u d w f g i j l p:Int) (hd:0<=d/\d<=201) (a:Nat) (L:List Nd) (v:a<=F.length) (B:L.length<=16*a+1000):
  ∃(e:Nat) (m:List Nd),jb q bY f g i j l p L F (a:Int) u d=a6 (.inl ((),((f,g,()),(i,j,()),(l,p,()),(),()),((),(),L++m,(F,(e:Int),u,d,()),())))/\
   kw q' bY w F (jE F) (a:Int) u d L=a6 (.inl ((w,()),((),()),((F,jE F,(e:Int),u,d,()),L++m,())))/\a<=e/\e<=F.length/\m.length<=2*(e-a)/\Tr F a e u L.length m:=by
 have K:=hF.len;obtain⟨e,m,M,O,S,U,V⟩:=JQ hF (q':=q') u d w hd (fun N a L x=>a<=F.length-> ∀y,x=a6 y->jb q N f g i j l p L F (a:Int) u d=a6 (.inl ((),((f,g,()),(i,j,()),(l,p,()),(),()),((),(),y.2,(F,(y.1:Int),u,d,()),()))))
  (fun N a L A v y z=>by
   cases z;rw[jb,mi,gp hF a L u d v A,bT];rfl)
  (fun N a L W X x A D I J v y z=>by
   rw[jb,mi,I,bT];simp only[aa];exact J D y z) bY a L (di) v B
 grind
theorem aDS {q:iK} {q':jK} (u d w f g i j l p:Int) (hd:0<=d/\d<=201) (a:Nat) (L:List Nd) (v:a<=F.length) (B:L.length<=16*a+1000):
  ∃(e:Nat) (m:List Nd),jc q bY f g i j l p L F (a:Int) u d=a6 (.inl ((),((f,g,()),(i,j,()),(l,p,()),(),()),((),(),L++m,(F,(e:Int),u,d,()),())))/\
   kw q' bY w F (jE F) (a:Int) u d L=a6 (.inl ((w,()),((),()),((F,jE F,(e:Int),u,d,()),L++m,())))/\a<=e/\e<=F.length/\m.length<=2*(e-a)/\Tr F a e u L.length m:=by
 have K:=hF.len;obtain⟨e,m,M,O,S,U,V⟩:=JQ hF (q':=q') u d w hd (fun N a L x=>a<=F.length-> ∀y,x=a6 y->jc q N f g i j l p L F (a:Int) u d=a6 (.inl ((),((f,g,()),(i,j,()),(l,p,()),(),()),((),(),y.2,(F,(y.1:Int),u,d,()),()))))
  (fun N a L A v y z=>by
   cases z;rw[jc,mr,gp hF a L u d v A,bT];rfl)
  (fun N a L W X x A D I J v y z=>by
   rw[jc,mr,I,bT];simp only[aa];exact J D y z) bY a L (di) v B
 grind
end
section
open List renaming length_append → ae, append_assoc → ag
open Nat renaming le_refl → af
open Go.RowKit
variable {F:List Lf} (hF:yT F)
include hF
theorem Hf {k:Nat} (h:All F k) (a:Nat) (l:List Nd) (u d:Int) (r g:Nat) (L:16*(F.length-a)+13<k) (M:k+1<=r) (N:k+1<=g) (hp:jD F a l d 105):
  ∃(f:Nat) (m:List Nd),(dA r).q256 F (a:Int) l u d=some (PR F f (l++m) u d,())/\
   (ik g).q177 F (jE F) l (a:Int) u d=some (RR F f (l++m) u d,())/\a<=f/\f<=F.length/\m.length<=16*(f-a)+3/\Tr F a f u l.length m:=by
 obtain⟨p,O,j,v⟩:=hp;have S:=hF.len;obtain⟨q,rfl⟩: ∃q,r=q+1:=⟨r-1,by omega⟩;obtain⟨i,rfl⟩: ∃i,g=i+1:=⟨g-1,by omega⟩;obtain⟨U,x⟩:=xA (F:=F) a [100];have y:=x p;have V:=nT (F:=F) a [100] u;obtain⟨e,z,A,B,W,D,I⟩:=h.body (nJ F a [100]) (l++ny F a [100] u) u d q i (by omega) (by omega) (by omega) ⟨y,by rw[ae];omega,j,v⟩;obtain⟨X,J⟩:=xA (F:=F) e [103];have K:=J D;have Y:=nT (F:=F) e [103] u;refine⟨nJ F e [103],ny F a [100] u++z++ny F e [103] u, ?_, ?_,by omega,K,by simp only[ae];omega,((zS (af a) (af a)).ap I.2).apA fun _=>zS (af e) (by omega)⟩
 .show FC (dA q) F (a:Int) l u d=_;rw[FC,nI hF a l u d (by omega) (by omega) [100] rfl,bT];simp only[jM];rw[A,bT];simp only;rw[nI hF e _ u d (by omega) (by simp only[ae];omega) [103] rfl,bT];simp only[jM,ag]
 .show aq6 (ik i) F (jE F) l (a:Int) u d=_;rw[aq6,Ce a l u d (by omega) (by omega) j (by omega) [100] (by simp),bT];simp only[jM];rw[B,bT];simp only;rw[Ce e _ u d (by omega) (by simp only[ae];omega) j (by omega) [103] (by simp),bT];simp only[jM,ag]
theorem aca {k:Nat} (h:All F k) (a:Nat) (l:List Nd) (u d:Int) (q q':Nat) (o:dC) (v:o.contains 0=false) (x:o.length<1000000) (O:16*(F.length-a)+13<k) (S:k<=q) (U:k<=q') (hp:jD F a l d 105):
  ∃(f:Nat) (m:List Nd),(bU ((dA q).q255 F (a:Int) l u d) fun i=>bU (kJ i.1.1 i.1.2.1 i.1.2.2.1 i.1.2.2.2.1 i.1.2.2.2.2.1 o) fun j=>
    some ((j.1.1,(j.1.2.1,(j.1.2.2.1,(j.1.2.2.2.1,(j.1.2.2.2.2.1,()))))),()))=some (PR F f (l++m) u d,())/\
   (∀{y:Type} (K:(List Lf×List UInt8×List Nd×Int×Int×Int×Unit)×Unit->Option y),(bU ((ik q').q176 F (jE F) l (a:Int) u d) fun g=>bU (pI g.1.1 g.1.2.1 g.1.2.2.1 g.1.2.2.2.1 g.1.2.2.2.2.1 g.1.2.2.2.2.2.1 o) K)=K (RR F f (l++m) u d,()))/\a<=f/\f<=F.length/\m.length<=16*(f-a)+2/\Tr F a f u l.length m:=by
 obtain⟨z,V,p,A⟩:=hp;have W:=hF.len;obtain⟨e,B,D,I,X,J,L⟩:=h.body a l u d q q' (by omega) (by omega) (by omega) ⟨z,by omega,p,A⟩;obtain⟨Y,M⟩:=xA (F:=F) e o;have N:=M J;have Z:=nT (F:=F) e o u;refine⟨nJ F e o,B++ny F e o u, ?_,fun K=> ?_,by omega,N,by simp only[ae];omega,L.2.apA fun _=>zS (af e) (by omega)⟩
 .rw[D,bT];simp only;rw[nI hF e _ u d (by omega) (by simp only[ae];omega) o v,bT];simp only[jM,ag]
 .rw[I,bT];simp only;rw[Ce e _ u d (by omega) (by simp only[ae];omega) p (by omega) o x,bT];simp only[jM,ag]
end
section
open Nat renaming le_refl → af
open Go.RowKit
variable {F:List Lf} (hF:yT F)
include hF
theorem Xr {k:Nat} (h:All F k) {q q':Nat} (g:k<=q) (i:k<=q') (u d v:Int) (hd:0<=d/\d<=200): ∀(N a:Nat) (L:List Nd),F.length-a<N->a<=F.length->16*(F.length-a)+2<k->L.length<=16*a+110->
  ∃(f:Nat) (m:List Nd),ut (dA q) N F (a:Int) u d L=some (.inl ((),((),()),((F,(f:Int),u,d,()),L++m,())))/\
   Dh (ik q') N v F (jE F) (a:Int) u d L=some (.inl ((v,()),((),()),((F,jE F,(f:Int),u,d,()),L++m,())))/\a<=f/\f<=F.length/\m.length<=16*(f-a)/\Tr F a f u L.length m
 |0,a,L,p,_,_,_=>by omega
 |N+1,a,L,p,x,M,O=>by
  have S:=hF.len;rw[ut,EQ,Dh,Nc,iF hF a L u d (by omega) [101] rfl,kC a L u d [101] (by simp),bT,bT];simp only;cases hb:dW F a [101]with
  |false=>
   rw[jR hb];exact⟨a,[],by simp,by simp,af _,x,by simp,.nil (af _)⟩
  |true=>
   have U:=eQ hb;rw[iR hb];simp only[aa];rw[dD,show(a:Int)+1=((a+1:Nat):Int) by omega];obtain⟨e,j,y,V,W,z,A⟩:=h.body (a+1) L u d q q' (by omega) g i ⟨by omega,by omega,hd.1,hd.2⟩;obtain⟨X,B⟩:=xA (F:=F) e [116];have D:=B z;have Y:=nT (F:=F) e [116] u;obtain⟨I,l,Z,f2,f3,J,K⟩:=h.body (nJ F e [116]) (L++j++ny F e [116] u) u d q q' (by omega) g i ⟨D,by grind,hd.1,hd.2⟩;obtain⟨f,m,g1,g2,g3,g4,g5⟩:=Xr h g i u d v hd N I (L++j++ny F e [116] u++l) (by omega) J (by omega) (by grind);refine⟨f,j++ny F e [116] u++l++m, ?_, ?_,by omega,g4,by grind,(((A.2.wide (by omega) (af _)).apA fun _=>zS (af e) (af e)).ap K.2).ap g5.2⟩
   .rw[y,bT];simp only;rw[nI hF e _ u d (by omega) (by grind) [116] rfl,bT];simp_all [jM,bT]
   grind [bT,Ce,jM]
theorem aGk {k:Nat} (h:All F k) (a:Nat) (l:List Nd) (u d v:Int) (r q':Nat) (hm:16*(F.length-a)+13<k) (hr:k+1<=r) (N:k<=q') (hp:jD F a l d 105):
  ∃(j:Nat) (m:List Nd),(dA r).q236 F (a:Int) l u d=some (PR F j (l++m) u d,())/\
   (∀{S:Type} (K:Int->(List Lf×List UInt8×List Nd×Int×Int×Int×Unit)×Unit->Option S),
    (bU ((ik q').q176 F (jE F) l (a:Int) u d) fun D=>
       bU (pI D.1.1 D.1.2.1 D.1.2.2.1 D.1.2.2.2.1 D.1.2.2.2.2.1 D.1.2.2.2.2.2.1 [116]) fun I=>
        bU ((ik q').q176 I.1.1 I.1.2.1 I.1.2.2.1 I.1.2.2.2.1 I.1.2.2.2.2.1 I.1.2.2.2.2.2.1) fun g=>
         bU (Dh (ik q') bY v g.1.1 g.1.2.1 g.1.2.2.2.1 g.1.2.2.2.2.1 g.1.2.2.2.2.2.1 g.1.2.2.1) fun p=>
          dX p (fun A=>
           bU (ql A.2.2.1.1 A.2.2.1.2.1 A.2.2.2.1 A.2.2.1.2.2.1 A.2.2.1.2.2.2.1 A.2.2.1.2.2.2.2.1 [108]) fun e=>
            bif e.2.1 then
             bU ((ik q').q176 e.1.1 e.1.2.1 e.1.2.2.1 (dJ .i64 e.1.2.2.2.1 1) e.1.2.2.2.2.1 e.1.2.2.2.2.2.1) fun x=>
              bU (pI x.1.1 x.1.2.1 x.1.2.2.1 x.1.2.2.2.1 x.1.2.2.2.2.1 x.1.2.2.2.2.2.1 [102]) (K A.1.1)
            else
            bU (pI e.1.1 e.1.2.1 e.1.2.2.1 e.1.2.2.2.1 e.1.2.2.2.2.1 e.1.2.2.2.2.2.1 [102]) (K A.1.1)) (fun b7=>none))=K v (RR F j (l++m) u d,()))/\a<=j/\j<=F.length/\m.length<=16*(j-a)+5/\Tr F a j u l.length m:=by
 obtain⟨Y,p2,J,O⟩:=hp;have ad:=hF.len;obtain⟨q,rfl⟩: ∃q,r=q+1:=⟨r-1,by omega⟩;obtain⟨i,y,Z,e2,e3,e4,e5⟩:=h.body a l u d q q' (by omega) (by omega) N ⟨Y,by omega,J,O⟩;obtain⟨w1,w2⟩:=xA (F:=F) i [116];have w3:=w2 e4;have w4:=nT (F:=F) i [116] u;obtain⟨a2,z,f1,f2,f3,f4,f5⟩:=h.body (nJ F i [116]) (l++y++ny F i [116] u) u d q q' (by omega) (by omega) N ⟨w3,by grind,J,O⟩;obtain⟨f,B,g1,g2,g3,g4,g5⟩:=Xr hF h (q:=q) (q':=q') (by omega) N u d v ⟨J,O⟩ bY a2 (l++y++ny F i [116] u++z) (di) f4 (by omega) (by grind);have ab: ∃(j:Nat) (m:List Nd),(bU (qm F (f:Int) (l++y++ny F i [116] u++z++B) u d [108]) fun g=>
       bif g.2.1 then
        bU ((dA q).q255 g.1.1 g.1.2.1 g.1.2.2.1 g.1.2.2.2.1 g.1.2.2.2.2.1) fun p=>
         bU (kJ p.1.1 p.1.2.1 p.1.2.2.1 p.1.2.2.2.1 p.1.2.2.2.2.1 [102]) fun M=>
          some ((M.1.1,(M.1.2.1,(M.1.2.2.1,(M.1.2.2.2.1,(M.1.2.2.2.2.1,()))))),())
       else
       bU (kJ g.1.1 g.1.2.1 g.1.2.2.1 g.1.2.2.2.1 g.1.2.2.2.2.1 [102]) fun p=>
        some ((p.1.1,(p.1.2.1,(p.1.2.2.1,(p.1.2.2.2.1,(p.1.2.2.2.2.1,()))))),()))=some (PR F j (l++y++ny F i [116] u++z++B++m) u d,())/\
   (∀{S:Type} (K:(List Lf×List UInt8×List Nd×Int×Int×Int×Unit)×Unit->Option S),(bU (ql F (jE F) (l++y++ny F i [116] u++z++B) (f:Int) u d [108]) fun e=>
            bif e.2.1 then
             bU ((ik q').q176 e.1.1 e.1.2.1 e.1.2.2.1 (dJ .i64 e.1.2.2.2.1 1) e.1.2.2.2.2.1 e.1.2.2.2.2.2.1) fun x=>
              bU (pI x.1.1 x.1.2.1 x.1.2.2.1 x.1.2.2.2.1 x.1.2.2.2.2.1 x.1.2.2.2.2.2.1 [102]) K
            else
            bU (pI e.1.1 e.1.2.1 e.1.2.2.1 e.1.2.2.2.1 e.1.2.2.2.2.1 e.1.2.2.2.2.2.1 [102]) K)=K (RR F j (l++y++ny F i [116] u++z++B++m) u d,()))/\f<=j/\j<=F.length/\m.length<=16*(j-f)+2/\Tr F f j u (l++y++ny F i [116] u++z++B).length m:=by
  have hL:(l++y++ny F i [116] u++z++B).length<=16*f+108:=by grind
  generalize l++y++ny F i [116] u++z++B=L at hL;rw[iF hF f L u d (by omega) [108] rfl,bT];cases hb:dW F f [108]with
  |true=>
   have ae:=eQ hb;obtain⟨b1,n1,s1,W,s3,U,V⟩:=aca hF h (f+1) L u d q q' [102] rfl (by simp) (by omega) (by omega) N ⟨by omega,by omega,J,O⟩;refine⟨b1,n1, ?_,fun K=> ?_,by omega,U,by omega,V.2.wide (by omega) (af _)⟩
   .simp_all [iR]
   .rw[kC f L u d [108] (by simp),bT,hb];simp only[aa];rw[dD,show(f:Int)+1=((f+1:Nat):Int) by omega];exact W K
  |false=>
   obtain⟨X,x2⟩:=xA (F:=F) f [102];have x3:=x2 g4;have x4:=nT (F:=F) f [102] u;refine⟨nJ F f [102],ny F f [102] u, ?_,fun K=> ?_,X,x3,by omega,zS (af f) X⟩
   .rw[jR hb];simp only[ac];rw[nI hF f L u d (by omega) (by omega) [102] rfl,bT];simp only[jM]
   .rw[kC f L u d [108] (by simp),bT,hb];simp only[ac]
    grind [Ce,bT,jM]
 obtain⟨j,m,s1,W,s3,U,V⟩:=ab;refine⟨j,y++ny F i [116] u++z++B++m, ?_,fun K=> ?_,by omega,U,by grind,(((e5.2.apA fun _=>zS (af i) (af i)).ap f5.2).ap g5.2).ap V.2⟩
 .show TN (dA q) F (a:Int) l u d=_;rw[TN,Z,bT];simp only;rw[nI hF i _ u d (by omega) (by grind) [116] rfl,bT];simp_all [jM,bT,dX]
 .rw[e2,bT];simp only;rw[Ce i _ u d (by omega) (by grind) J (by omega) [116] (by simp),bT];simp_all [jM,bT,dX]
theorem av6 {k:Nat} (h:All F k) (a:Nat) (l:List Nd) (u d:Int) (r q':Nat) (D:16*(F.length-a)+13<k) (I:k+2<=r) (J:k+1<=q') (hp:jD F a l d 104):
  ∃(e:Nat) (m:List Nd),(dA r).q237 F (a:Int) l u d=some (PR F e (l++m) u d,())/\
   (∀{p:Type} (K:(List Lf×List UInt8×List Nd×Int×Int×Int×Unit)×Unit->Option p),
    (bU ((ik q').q176 F (jE F) l (a:Int) u d) fun f=>
       bU ((ik q').q177 f.1.1 f.1.2.1 f.1.2.2.1 f.1.2.2.2.1 f.1.2.2.2.2.1 f.1.2.2.2.2.2.1) K)=K (RR F e (l++m) u d,()))/\a<=e/\e<=F.length/\m.length<=16*(e-a)+4/\Tr F a e u l.length m:=by
 obtain⟨v,L,g,i⟩:=hp;have M:=hF.len;obtain⟨q,rfl⟩: ∃q,r=q+1:=⟨r-1,by omega⟩;obtain⟨x,j,N,O,S,y,z⟩:=h.body a l u d q q' (by omega) (by omega) (by omega) ⟨v,by omega,g,i⟩;obtain⟨e,m,U,V,W,A,B⟩:=Hf hF h x (l++j) u d q q' (by omega) (by omega) (by omega) ⟨y,by grind,g,i⟩;refine⟨e,j++m, ?_,fun K=> ?_,by omega,A,by grind,z.2.ap B.2⟩
 .simp_all [PP,dA,bT]
 simp_all [bT]
end
section
open Option renaming some → a6, none → a7
open Bool renaming not_true → au, not_false → aF
open List renaming append_assoc → ag, getElem_mem → aI
open Nat renaming le_refl → af
open Go.RowKit
variable {F:List Lf} (hF:yT F)
include hF
omit hF in
theorem aB6 {a:Nat} (h:dW F a [110]=true):cZ (((ln F a:Nat):Int)-(a:Int)) 0=false:=by
 have:a+1<=ln F a:=by
  simp_all [ln,lnF,agW]
 exact fB
omit hF in
theorem aGs {a:Nat} (h:dW F a [110]=false):cZ (((ln F a:Nat):Int)-(a:Int)) 0=true:=by
 simp_all [ln,lnF,gz]
theorem Wu {q:iK} {q':jK} (u d:Int) (hd:0<=d/\d<=200): ∀(N a:Nat) (L:List Nd),F.length-a<N->a<=F.length->L.length<=16*a+200->
  ∃(e:Nat) (m:List Nd),sO q N F (a:Int) u d L=a6 (.inl ((),((),()),((F,(e:Int),u,d,()),L++m,())))/\
   Ig q' N F (jE F) (a:Int) u d L=a6 (.inl ((),((),()),((F,jE F,(e:Int),u,d,()),L++m,())))/\a<=e/\e<=F.length/\m.length<=e-a/\Tr F a e u L.length m
 |0,a,L,i,_,_=>by omega
 |N+1,a,L,i,g,j=>by
  have l:=hF.len;rw[sO,ER,Ig,RP,ku a L u d,bT];simp only;by_cases hlt:a<F.length
  .rw[dn (b:=iV (a:Int) (bV F)) (fQ (by rw[cu];omega)),dn (b:=iy F (a:Int)) (fD),um hlt];by_cases h6:F[a].1=6
   .have f:qX F a=true:=by simp_all [qX]
    rw[dn (b:=cZ F[a].1 6) (gz h6),f];simp only[aa];rw[qG a L u d 7 (by omega) (by omega),Qj a L u d (by omega) (by omega) rfl (by omega) (by omega) hd.1 (by omega),bT,bT];simp only;obtain⟨e,m,g1,g2,g3,g4,g5⟩:=Wu u d hd N (a+1) (L++[(7,(a:Int),((a+1:Nat):Int),u,())]) (by omega) (by omega) (by grind);exact⟨e,[(7,(a:Int),((a+1:Nat):Int),u,())]++m,by rw[g1,ag],by rw[g2,ag],by omega,g4,by grind,(Tr.lf (af a) (af _) (by omega) (fun _=>⟨hlt,h6⟩)).ap g5.2⟩
   .have f:qX F a=false:=by simp_all [qX]
    rw[dY (b:=cZ F[a].1 6) (fB h6),f];exact⟨a,[],by simp,by simp,af _,g,by simp,.nil (af _)⟩
  .have f:qX F a=false:=by unfold qX;rw[dif_neg hlt]
   rw[dY (b:=iV (a:Int) (bV F)) (iL (by rw[cu];omega)),f];exact⟨a,[],by simp,by simp,af _,g,by simp,.nil (af _)⟩
theorem adM {k:Nat} (h:All F k) (a:Nat) (l:List Nd) (u d:Int) (q q':Nat) (hm:16*(F.length-a)+13<k) (hr:k+1<=q) (ad:k+1<=q') (hp:jD F a l d 102):
  ∃(x:Nat) (m:List Nd),(bU (qm F (a:Int) l u d [59]) fun j=>
    bif j.2.1 then
     bU (rJ j.1.1 j.1.2.1 j.1.2.2.1 j.1.2.2.2.1 j.1.2.2.2.2.1) fun f=>
      bU ((dA q).q256 f.1.1 f.1.2.1 f.1.2.2.1 f.1.2.2.2.1 f.1.2.2.2.2.1) fun i=>
       a6 ((i.1.1,(i.1.2.1,(i.1.2.2.1,(i.1.2.2.2.1,(i.1.2.2.2.2.1,()))))),())
    else
    bU (rJ j.1.1 j.1.2.1 j.1.2.2.1 j.1.2.2.2.1 j.1.2.2.2.2.1) fun f=>
     bU (qm f.1.1 f.1.2.1 f.1.2.2.1 f.1.2.2.2.1 f.1.2.2.2.2.1 [107]) fun i=>
      bif i.2.1 then
       bU (sO (dA q) bY i.1.1 i.1.2.1 i.1.2.2.2.1 i.1.2.2.2.2.1 i.1.2.2.1) fun K=>
        dX K (fun O=>
         bU (qm O.2.2.1.1 O.2.2.1.2.1 O.2.2.2.1 O.2.2.1.2.2.1 O.2.2.1.2.2.2.1 [59]) fun g=>
          bU (rJ g.1.1 g.1.2.1 g.1.2.2.1 g.1.2.2.2.1 g.1.2.2.2.2.1) fun e=>
           bif(!e.2.1)then
            bif(!g.2.1)then
             bU (qc e.1.1 e.1.2.1 e.1.2.2.1 e.1.2.2.2.1 e.1.2.2.2.2.1) fun p=>
              bU ((dA q).q256 p.1.1 p.1.2.1 p.1.2.2.1 p.1.2.2.2.1 p.1.2.2.2.2.1) fun S=>
               a6 ((S.1.1,(S.1.2.1,(S.1.2.2.1,(S.1.2.2.2.1,(S.1.2.2.2.2.1,()))))),())
            else
            bU ((dA q).q256 e.1.1 e.1.2.1 e.1.2.2.1 e.1.2.2.2.1 e.1.2.2.2.2.1) fun p=>
             a6 ((p.1.1,(p.1.2.1,(p.1.2.2.1,(p.1.2.2.2.1,(p.1.2.2.2.2.1,()))))),())
           else
           bU ((dA q).q256 e.1.1 e.1.2.1 e.1.2.2.1 e.1.2.2.2.1 e.1.2.2.2.2.1) fun p=>
            a6 ((p.1.1,(p.1.2.1,(p.1.2.2.1,(p.1.2.2.2.1,(p.1.2.2.2.2.1,()))))),())) (fun b6=>
         a7)
      else
      bU ((dA q).q256 i.1.1 i.1.2.1 i.1.2.2.1 i.1.2.2.2.1 i.1.2.2.2.2.1) fun K=>
       a6 ((K.1.1,(K.1.2.1,(K.1.2.2.1,(K.1.2.2.2.1,(K.1.2.2.2.2.1,()))))),()))=a6 (PR F x (l++m) u d,())/\
   (bU (ql F (jE F) l (a:Int) u d [59]) fun z=>
   bif z.2.1 then
    bU (uO z.1.1 z.1.2.1 z.1.2.2.1 (dJ .i64 z.1.2.2.2.1 1) z.1.2.2.2.2.1 z.1.2.2.2.2.2.1) fun j=>
     bU ((ik q').q177 j.1.1 j.1.2.1 j.1.2.2.1 j.1.2.2.2.1 j.1.2.2.2.2.1 j.1.2.2.2.2.2.1) fun f=>
      a6 ((f.1.1,(f.1.2.1,(f.1.2.2.1,(f.1.2.2.2.1,(f.1.2.2.2.2.1,(f.1.2.2.2.2.2.1,())))))),())
   else
   bU (uO z.1.1 z.1.2.1 z.1.2.2.1 z.1.2.2.2.1 z.1.2.2.2.2.1 z.1.2.2.2.2.2.1) fun j=>
    bU (ql j.1.1 j.1.2.1 j.1.2.2.1 j.1.2.2.2.1 j.1.2.2.2.2.1 j.1.2.2.2.2.2.1 [107]) fun f=>
     bif f.2.1 then
      bU (Ig (ik q') bY f.1.1 f.1.2.1 (dJ .i64 f.1.2.2.2.1 1) f.1.2.2.2.2.1 f.1.2.2.2.2.2.1 f.1.2.2.1) fun i=>
       dX i (fun M=>
        bU (ql M.2.2.1.1 M.2.2.1.2.1 M.2.2.2.1 M.2.2.1.2.2.1 M.2.2.1.2.2.2.1 M.2.2.1.2.2.2.2.1 [59]) fun A=>
         bif A.2.1 then
          bU (uO A.1.1 A.1.2.1 A.1.2.2.1 (dJ .i64 A.1.2.2.2.1 1) A.1.2.2.2.2.1 A.1.2.2.2.2.2.1) fun g=>
           bU ((ik q').q177 g.1.1 g.1.2.1 g.1.2.2.1 g.1.2.2.2.1 g.1.2.2.2.2.1 g.1.2.2.2.2.2.1) fun e=>
            a6 ((e.1.1,(e.1.2.1,(e.1.2.2.1,(e.1.2.2.2.1,(e.1.2.2.2.2.1,(e.1.2.2.2.2.2.1,())))))),())
         else
         bU (uO A.1.1 A.1.2.1 A.1.2.2.1 A.1.2.2.2.1 A.1.2.2.2.2.1 A.1.2.2.2.2.2.1) fun g=>
          bif(cZ g.2.1 0)then
           bU (FN g.1.1 g.1.2.1 g.1.2.2.1 g.1.2.2.2.1 g.1.2.2.2.2.1 g.1.2.2.2.2.2.1) fun e=>
            bU ((ik q').q177 e.1.1 e.1.2.1 e.1.2.2.1 e.1.2.2.2.1 e.1.2.2.2.2.1 e.1.2.2.2.2.2.1) fun p=>
             a6 ((p.1.1,(p.1.2.1,(p.1.2.2.1,(p.1.2.2.2.1,(p.1.2.2.2.2.1,(p.1.2.2.2.2.2.1,())))))),())
          else
          bU ((ik q').q177 g.1.1 g.1.2.1 g.1.2.2.1 g.1.2.2.2.1 g.1.2.2.2.2.1 g.1.2.2.2.2.2.1) fun e=>
           a6 ((e.1.1,(e.1.2.1,(e.1.2.2.1,(e.1.2.2.2.1,(e.1.2.2.2.2.1,(e.1.2.2.2.2.2.1,())))))),())) (fun b5=>
        a7)
     else
     bU ((ik q').q177 f.1.1 f.1.2.1 f.1.2.2.1 f.1.2.2.2.1 f.1.2.2.2.2.1 f.1.2.2.2.2.2.1) fun i=>
      a6 ((i.1.1,(i.1.2.1,(i.1.2.2.1,(i.1.2.2.2.1,(i.1.2.2.2.2.1,(i.1.2.2.2.2.2.1,())))))),()))=a6 (RR F x (l++m) u d,())/\a<=x/\x<=F.length/\m.length<=16*(x-a)+4/\Tr F a x u l.length m:=by
 obtain⟨W,p2,L,N⟩:=hp;have ae:=hF.len;rw[iF hF a l u d (by omega) [59] rfl,kC a l u d [59] (by simp),bT,bT];simp only;cases hb:dW F a [59]with
 |true=>
  have Y:=eQ hb;rw[iR hb];simp only[aa];have Z:=lV (F:=F) (a+1);have X:=kQ (F:=F) (a:=a+1) (by omega);rw[dD,show(a:Int)+1=((a+1:Nat):Int) by omega,iO hF (a+1) l u d (by omega),pg hF (a+1) l u d (by omega),bT,bT];simp only;obtain⟨x,m,B,D,U,I,J⟩:=Hf hF h (ln F (a+1)) l u d q q' (by omega) (by omega) (by omega) ⟨X,by omega,L,N⟩;rw[B,D,bT,bT];exact⟨x,m,rfl,rfl,by omega,I,by omega,J.2.wide (by omega) (af _)⟩
 |false=>
  rw[jR hb];simp only[ac];have Z:=lV (F:=F) a;have X:=kQ (F:=F) W;rw[iO hF a l u d W,pg hF a l u d W,bT,bT];simp only;rw[iF hF (ln F a) l u d (by omega) [107] rfl,kC (ln F a) l u d [107] (by simp),bT,bT];simp only;cases hb2:dW F (ln F a) [107]with
  |false=>
   rw[jR hb2];simp only[ac];obtain⟨x,m,B,D,U,I,J⟩:=Hf hF h (ln F a) l u d q q' (by omega) (by omega) (by omega) ⟨X,by omega,L,N⟩;rw[B,D,bT,bT];exact⟨x,m,rfl,rfl,by omega,I,by omega,J.2.wide (by omega) (af _)⟩
  |true=>
   have Y:=eQ hb2;rw[iR hb2];simp only[aa];obtain⟨v,y,g1,g2,g3,g4,g5⟩:=Wu hF (q:=dA q) (q':=ik q') u d ⟨L,N⟩ bY (ln F a+1) l (di) (by omega) (by omega);rw[dD,show((ln F a:Nat):Int)+1=((ln F a+1:Nat):Int) by omega,g1,g2,bT,bT];simp only[dX];have hL:(l++y).length<=16*v+90:=by grind
   rw[iF hF v (l++y) u d (by omega) [59] rfl,kC v (l++y) u d [59] (by simp),bT,bT];simp only;cases hb3:dW F v [59]with
   |true=>
    have ah:=eQ hb3;rw[iR hb3];simp only[aa,au,ac];have ab:=lV (F:=F) (v+1);have V:=kQ (F:=F) (a:=v+1) (by omega);rw[dD,show(v:Int)+1=((v+1:Nat):Int) by omega,iO hF (v+1) (l++y) u d (by omega),pg hF (v+1) (l++y) u d (by omega),bT,bT];simp only;obtain⟨x,m,B,D,U,I,J⟩:=Hf hF h (ln F (v+1)) (l++y) u d q q' (by omega) (by omega) (by omega) ⟨V,by omega,L,N⟩;rw[B,D,bT,bT];refine⟨x,y++m, ?_,by simp,by omega,I,by grind,(g5.2.wide (by omega) (af _)).ap J.2⟩;simp
   |false=>
    rw[jR hb3];simp only[aF,aa,ac];have ab:=lV (F:=F) v;have V:=kQ (F:=F) g4;rw[iO hF v (l++y) u d g4,pg hF v (l++y) u d g4,bT,bT];simp only;cases hb4:dW F v [110]with
    |true=>
     rw[aB6 hb4];simp only[au,ac];obtain⟨x,m,B,D,U,I,J⟩:=Hf hF h (ln F v) (l++y) u d q q' (by omega) (by omega) (by omega) ⟨V,by omega,L,N⟩;rw[B,D,bT,bT];exact⟨x,y++m,by simp,by simp,by omega,I,by grind,(g5.2.wide (by omega) (af _)).ap J.2⟩
    |false=>
     rw[aGs hb4];simp only[aF,aa];rw[iQ (ln F v) (l++y) u d (by omega),zB (ln F v) (l++y) u d (by omega) L (by omega),bT,bT];simp only;obtain⟨x,m,B,D,U,I,J⟩:=Hf hF h (ln F v) (l++y++[(18,((ln F v:Nat):Int),((ln F v:Nat):Int),u,())]) u d q q' (by omega) (by omega) (by omega) ⟨V,by grind,L,N⟩;rw[B,D,bT,bT];exact⟨x,y++[(18,((ln F v:Nat):Int),((ln F v:Nat):Int),u,())]++m,by simp,by simp,by omega,I,by grind,((g5.2.wide (by omega) (af _)).apA fun _=>Tr.mis (af (ln F v)) (af _)).ap J.2⟩
theorem awO {k:Nat} (h:All F k) (a:Nat) (l:List Nd) (u d:Int) (r j:Nat) (K:16*(F.length-a)+13<k) (L:k+2<=r) (M:k+2<=j) (hp:jD F a l d 101):
  ∃(e:Nat) (m:List Nd),(dA r).q238 F (a:Int) l u d=a6 (PR F e (l++m) u d,())/\
   (ik j).q178 F (jE F) l (a:Int) u d=a6 (RR F e (l++m) u d,())/\a<=e/\e<=F.length/\m.length<=16*(e-a)+5/\Tr F a e u l.length m:=by
 obtain⟨A,N,f,z⟩:=hp;have O:=hF.len;obtain⟨q,rfl⟩: ∃q,r=q+1:=⟨r-1,by omega⟩;obtain⟨g,rfl⟩: ∃g,j=g+1:=⟨j-1,by omega⟩;obtain⟨p,v,S,U,V,x,y⟩:=adM hF h a (l++[(18,(a:Int),(a:Int),u,())]) u d q g (by omega) (by omega) (by omega) ⟨A,by simp_all,f,z⟩;show ∃(e:Nat) (m:List Nd),TP (dA q) F (a:Int) l u d=_/\aq7 (ik g) F (jE F) l (a:Int) u d=_/\_
 (rewrite [TP,aq7];delta QS KU KQ;rw[ku a l u d,bT])
 simp only;by_cases hlt:a<F.length
 .rw[dn (b:=iV (a:Int) (bV F)) (fQ (by rw[cu];omega))];simp only[show iy F (a:Int)=true from fD,aa];rw[um hlt];by_cases h6:F[a].1=6
  .have i:qX F a=true:=by simp_all [qX]
   rw[dn (b:=cZ F[a].1 6) (gz h6),i];simp only[aa];rw[Ai (by have:=hF.txt _ (aI hlt);omega),zu (by have:=hF.txt _ (aI hlt);omega),bT,bT];simp only;cases decide (nl F[a].2.1≠0/\nl F[a].2.1=F[a].2.1.length)with
   |true=>
    simp only[aa];rw[qG a l u d 7 (by omega) (by omega),Qj a l u d (by omega) (by omega) rfl (by omega) (by omega) f (by omega),bT,bT];obtain⟨B,D,W,X,Y,I,J⟩:=adM hF h (a+1) (l++[(7,(a:Int),((a+1:Nat):Int),u,())]) u d q g (by omega) (by omega) (by omega) ⟨by omega,by grind,f,z⟩;exact⟨B,[(7,(a:Int),((a+1:Nat):Int),u,())]++D,by simp_all,by simp_all,by omega,I,by grind,(Tr.lf (af a) (af _) (by omega) (fun _=>⟨hlt,h6⟩)).ap J.2⟩
   |false=>
    simp only[ac];rw[iQ a l u d (by omega),zB a l u d (by omega) f (by omega),bT,bT];exact⟨p,[(18,(a:Int),(a:Int),u,())]++v,by simp_all,by simp_all,by omega,x,by simp_all,(Tr.mis (af a) (af a)).ap y.2⟩
  .have i:qX F a=false:=by simp_all [qX]
   rw[dY (b:=cZ F[a].1 6) (fB h6),i];simp only[ac];rw[iQ a l u d (by omega),zB a l u d (by omega) f (by omega),bT,bT];exact⟨p,[(18,(a:Int),(a:Int),u,())]++v,by simp_all,by simp_all,by omega,x,by simp_all,(Tr.mis (af a) (af a)).ap y.2⟩
 .have i:qX F a=false:=by unfold qX;rw[dif_neg hlt]
  rw[dY (b:=iV (a:Int) (bV F)) (iL (by rw[cu];omega)),i];simp only[ac];rw[iQ a l u d (by omega),zB a l u d (by omega) f (by omega),bT,bT];exact⟨p,[(18,(a:Int),(a:Int),u,())]++v,by simp_all,by simp_all,by omega,x,by simp_all,(Tr.mis (af a) (af a)).ap y.2⟩
end
section
open Bool renaming false_eq_true → ai
open List renaming append_assoc → ag, append_nil → aG
open Nat renaming le_refl → af
open Go.RowKit
variable {F:List Lf} (hF:yT F)
include hF
omit hF in
theorem Py (a:Nat):a<=uF F a/\(a<=F.length->uF F a<=F.length)/\(qX F a=true->uF F a=a+1):=by
 unfold uF;cases h:qX F a with
 |true=>have:=Uk h;grind
 |false=>simp
theorem acW {q:iK} {q':jK} (u d v:Int) (hd:0<=d/\d<=200): ∀(N a:Nat) (L:List Nd),F.length-a<N->a<=F.length->L.length<=16*a+200->
  ∃(e:Nat) (m:List Nd),vM q N F (a:Int) u d L=some (.inl ((),((),()),((F,(e:Int),u,d,()),L++m,())))/\
   wR q' N v F (jE F) (a:Int) u d L=some (.inl ((v,()),((),()),((F,jE F,(e:Int),u,d,()),L++m,())))/\a<=e/\e<=F.length/\m.length<=e-a/\Tr F a e u L.length m
 |0,a,L,f,_,_=>by omega
 |N+1,a,L,f,g,l=>by
  have p:=hF.len;rw[vM,ES,wR,Nj,iF hF a L u d (by omega) [124] rfl,kC a L u d [124] (by simp),bT,bT];simp only;cases hb:dW F a [124]with
  |false=>
   rw[jR hb];exact⟨a,[],by simp,by simp,af _,g,by simp,.nil (af _)⟩
  |true=>
   have x:=eQ hb;rw[iR hb];simp only[aa];rw[dD,show(a:Int)+1=((a+1:Nat):Int) by omega];obtain⟨y,i,_⟩:=Py (F:=F) (a+1);have j:=i (by omega);rw[zT (a+1) L u d (by omega) (by omega),acS (a+1) L u d (by omega) (by omega) hd.1 (by omega),bT,bT];simp only[xm];obtain⟨e,m,g1,g2,g3,g4,g5⟩:=acW u d v hd N (uF F (a+1)) (L++[Bd F (a+1) u]) (by omega) j (by grind);exact⟨e,[Bd F (a+1) u]++m,by rw[g1,ag],by rw[g2,ag],by omega,g4,by grind,(Wn (by omega) (af _)).ap g5.2⟩
theorem ajp {k:Nat} (h:All F k) (a:Nat) (L:List Nd) (u d:Int) (q q':Nat) (hm:16*(F.length-a)+13<k) (hr:k+1<=q) (V:k<=q') (hp:jD F a L d 104) (ae:dW F a [40]=true\/qX F a=true):
  ∃(g:Nat) (m:List Nd),(dA q).q257 F (a:Int) (bZ L [opn 15 a u]) (bV L) d=some (PR F g (bZ L [opn 15 a u]++m) (bV L) d,())/\
   (∀{B:Type} (K:(List Lf×List UInt8×List Nd×Int×Int×Int×Unit)×Unit->Option B) (I:Option B),
    (bU (Fa F (jE F) L (a:Int) u d 15) fun z=>
     bU (ql z.1.1 z.1.2.1 z.1.2.2.1 z.1.2.2.2.1 z.1.2.2.2.2.1 z.1.2.2.2.2.2.1 [40]) fun y=>
      bif y.2.1 then
       bU (zk y.1.1 y.1.2.1 y.1.2.2.1 (dJ .i64 y.1.2.2.2.1 1) y.1.2.2.2.2.1 y.1.2.2.2.2.2.1) fun j=>
        bU (wR (ik q') bY z.2.1 j.1.1 j.1.2.1 j.1.2.2.2.1 j.1.2.2.2.2.1 j.1.2.2.2.2.2.1 j.1.2.2.1) fun D=>
         dX D (fun i=>
          bU (pI i.2.2.1.1 i.2.2.1.2.1 i.2.2.2.1 i.2.2.1.2.2.1 i.2.2.1.2.2.2.1 i.2.2.1.2.2.2.2.1 [41]) fun l=>
           bU (uO l.1.1 l.1.2.1 l.1.2.2.1 l.1.2.2.2.1 l.1.2.2.2.2.1 l.1.2.2.2.2.2.1) fun p=>
            bU (QJ p.1.1 p.1.2.1 p.1.2.2.1 p.1.2.2.2.1 p.1.2.2.2.2.1 p.1.2.2.2.2.2.1) fun f=>
             bif f.2.1 then
              bU ((ik q').q32 f.1.1 f.1.2.1 f.1.2.2.1 f.1.2.2.2.1 f.1.2.2.2.2.1 f.1.2.2.2.2.2.1) fun v=>
               bU (rW v.1.1 v.1.2.1 v.1.2.2.1 v.1.2.2.2.1 v.1.2.2.2.2.1 v.1.2.2.2.2.2.1 i.1.1) K
             else
             bU (rW f.1.1 f.1.2.1 f.1.2.2.1 f.1.2.2.2.1 f.1.2.2.2.2.1 f.1.2.2.2.2.2.1 i.1.1) K) (fun N=>I)
      else
      bU (zk y.1.1 y.1.2.1 y.1.2.2.1 y.1.2.2.2.1 y.1.2.2.2.2.1 y.1.2.2.2.2.2.1) fun j=>
       bU (wR (ik q') bY z.2.1 j.1.1 j.1.2.1 j.1.2.2.2.1 j.1.2.2.2.2.1 j.1.2.2.2.2.2.1 j.1.2.2.1) fun D=>
        dX D (fun i=>
         bU (pI i.2.2.1.1 i.2.2.1.2.1 i.2.2.2.1 i.2.2.1.2.2.1 i.2.2.1.2.2.2.1 i.2.2.1.2.2.2.2.1 [41]) fun l=>
          bU (uO l.1.1 l.1.2.1 l.1.2.2.1 l.1.2.2.2.1 l.1.2.2.2.2.1 l.1.2.2.2.2.2.1) fun p=>
           bU (QJ p.1.1 p.1.2.1 p.1.2.2.1 p.1.2.2.2.1 p.1.2.2.2.2.1 p.1.2.2.2.2.2.1) fun f=>
            bif f.2.1 then
             bU ((ik q').q32 f.1.1 f.1.2.1 f.1.2.2.1 f.1.2.2.2.1 f.1.2.2.2.2.1 f.1.2.2.2.2.2.1) fun v=>
              bU (rW v.1.1 v.1.2.1 v.1.2.2.1 v.1.2.2.2.1 v.1.2.2.2.2.1 v.1.2.2.2.2.2.1 i.1.1) K
            else
            bU (rW f.1.1 f.1.2.1 f.1.2.2.1 f.1.2.2.2.1 f.1.2.2.2.2.1 f.1.2.2.2.2.2.1 i.1.1) K) (fun N=>I))=K (RR F g (L++(15,(a:Int),(g:Int),u,())::m) u d,()))/\a<g/\g<=F.length/\m.length+4<=16*(g-a)/\Tr F a g (bV L) (L.length+1) m:=by
 obtain⟨p1,p2,A,O⟩:=hp;have ah:=hF.len;obtain⟨q,rfl⟩: ∃W,q=W+1:=⟨q-1,by omega⟩;have S:(bZ L [opn 15 a u]).length=L.length+1:=by unfold bZ;simp
 have U:bZ L [opn 15 a u]=L++[(15,(a:Int),0,u,())]:=rfl;have X:a<=tk F a [40]/\tk F a [40]<=F.length:=by
  unfold tk;split
  .rename_i J;have:=eQ J;omega
  .omega
 obtain⟨w1,Y,w3⟩:=Py (F:=F) (tk F a [40]);have Z:=Y X.2;have aj:a+1<=uF F (tk F a [40]):=by
  cases J:dW F a [40]with
  |true=>simp_all [iR]
  |false=>
   grind
 obtain⟨e,x,g1,g2,g3,g4,g5⟩:=acW hF (q:=dA q) (q':=ik q') (bV L) d u ⟨A,O⟩ bY (uF F (tk F a [40])) (bZ L [opn 15 a u]++[Bd F (tk F a [40]) (bV L)]) (di) Z (by grind);obtain⟨x1,x2⟩:=xA (F:=F) e [41];have M:=x2 g4;have x4:=nT (F:=F) e [41] (bV L);have ak:=lV (F:=F) (nJ F e [41]);have ab:=kQ (F:=F) M;have hM:(bZ L [opn 15 a u]++[Bd F (tk F a [40]) (bV L)]++x++ny F e [41] (bV L)).length<=L.length+3+(e-uF F (tk F a [40])):=by
  grind
 have al: ∀(g:Nat) (m:List Nd) {B:Type} (K:(List Lf×List UInt8×List Nd×Int×Int×Int×Unit)×Unit->Option B),bU (rW F (jE F) (bZ L [opn 15 a u]++m) (g:Int) (bV L) d u) K=K (RR F g (L++(15,(a:Int),(g:Int),u,())::m) u d,()):=fun g m B K=>by
  rw[U,show bV L=((L.length:Nat):Int) from rfl,xu g _ u d L.length (by simp) (qY L _ 15 _ _) (by omega) (by omega) A (by omega),bT];simp only[qU,show kW 15=false from rfl,ai,if_false]
 have ad: ∃(g:Nat) (m:List Nd),∃(an:ji F (ln F (nJ F e [41])) d=true->(dA q).q73 F ((ln F (nJ F e [41]):Nat):Int) (bZ (bZ L [opn 15 a u]++[Bd F (tk F a [40]) (bV L)]++x++ny F e [41] (bV L)) [opn 2 (ln F (nJ F e [41])) (bV L)]) (bV (bZ L [opn 15 a u]++[Bd F (tk F a [40]) (bV L)]++x++ny F e [41] (bV L))) d=some (PR F g (bZ (bZ L [opn 15 a u]++[Bd F (tk F a [40]) (bV L)]++x++ny F e [41] (bV L)) [opn 2 (ln F (nJ F e [41])) (bV L)]++m) (bV (bZ L [opn 15 a u]++[Bd F (tk F a [40]) (bV L)]++x++ny F e [41] (bV L))) d,())/\
   (ik q').q32 F (jE F) (bZ L [opn 15 a u]++[Bd F (tk F a [40]) (bV L)]++x++ny F e [41] (bV L)) ((ln F (nJ F e [41]):Nat):Int) (bV L) d=some (RR F g ((bZ L [opn 15 a u]++[Bd F (tk F a [40]) (bV L)]++x++ny F e [41] (bV L))++(2,((ln F (nJ F e [41]):Nat):Int),(g:Int),(bV L),())::m) (bV L) d,())),
   ln F (nJ F e [41])<=g/\g<=F.length/\(ji F (ln F (nJ F e [41])) d=true->m.length+1<=16*(g-ln F (nJ F e [41])))/\(ji F (ln F (nJ F e [41])) d=false->g=ln F (nJ F e [41]))/\(ji F (ln F (nJ F e [41])) d=true->Tr F (ln F (nJ F e [41])) g (bV (bZ L [opn 15 a u]++[Bd F (tk F a [40]) (bV L)]++x++ny F e [41] (bV L))) ((bZ L [opn 15 a u]++[Bd F (tk F a [40]) (bV L)]++x++ny F e [41] (bV L)).length+1) m):=by
  cases hb:ji F (ln F (nJ F e [41])) d with
  |true=>
   obtain⟨g,m,e1,e2,e3,e4,e5⟩:=h.list (ln F (nJ F e [41])) (bZ L [opn 15 a u]++[Bd F (tk F a [40]) (bV L)]++x++ny F e [41] (bV L)) (bV L) d q q' (by omega) (by omega) V ⟨ab,by omega,A,O⟩ hb
   grind
  |false=>simp_all
 obtain⟨g,m,f1,f2,f3,f4,f5,f6⟩:=ad;refine⟨g,[Bd F (tk F a [40]) (bV L)]++x++ny F e [41] (bV L)++(if ji F (ln F (nJ F e [41])) d=true then(2,((ln F (nJ F e [41]):Nat):Int),(g:Int),(bV L),())::m else []), ?_,fun K I=> ?_,by omega,f3, ?_⟩
 .show TQ (dA q) F (a:Int) _ _ d=_;rw[TQ,iF hF a _ (bV L) d (by omega) [40] rfl,bT];simp only;rw[zT (tk F a [40]) _ _ d (by omega) (by rw[S];omega),bT];simp only[xm];rw[g1,bT];simp only[dX];rw[nI hF e _ (bV L) d (by omega) (by grind) [41] rfl,bT];simp only[jM];rw[iO hF (nJ F e [41]) _ (bV L) d M,bT];simp only;rw[jO hF (ln F (nJ F e [41])) _ (bV L) d (by omega),bT];simp only;cases hb:ji F (ln F (nJ F e [41])) d with
  |true=>
   have n1:=(iJ (bZ L [opn 15 a u]++[Bd F (tk F a [40]) (bV L)]++x++ny F e [41] (bV L)) (opn 2 (ln F (nJ F e [41])) (bV L)) (by omega)).1;obtain⟨c1,c2⟩:=jC (bZ L [opn 15 a u]++[Bd F (tk F a [40]) (bV L)]++x++ny F e [41] (bV L)) m (opn 2 (ln F (nJ F e [41])) (bV L));simp_all [eU,bT,iI]
  |false=>
   simp_all
 .rw[ou a L u d (by omega) (by omega) (by omega) A (by omega),bT];simp only[show kW 15=false from rfl,ai,if_false];rw[show((L.length:Nat):Int)=bV L from rfl,<-U,kC a _ (bV L) d [40] (by simp),bT];simp only;have ao: ∀(b:Nat),b=tk F a [40]->(bU (zk F (jE F) (bZ L [opn 15 a u]) (b:Int) (bV L) d) fun j=>
        bU (wR (ik q') bY u j.1.1 j.1.2.1 j.1.2.2.2.1 j.1.2.2.2.2.1 j.1.2.2.2.2.2.1 j.1.2.2.1) fun D=>
         dX D (fun i=>
          bU (pI i.2.2.1.1 i.2.2.1.2.1 i.2.2.2.1 i.2.2.1.2.2.1 i.2.2.1.2.2.2.1 i.2.2.1.2.2.2.2.1 [41]) fun l=>
           bU (uO l.1.1 l.1.2.1 l.1.2.2.1 l.1.2.2.2.1 l.1.2.2.2.2.1 l.1.2.2.2.2.2.1) fun p=>
            bU (QJ p.1.1 p.1.2.1 p.1.2.2.1 p.1.2.2.2.1 p.1.2.2.2.2.1 p.1.2.2.2.2.2.1) fun f=>
             bif f.2.1 then
              bU ((ik q').q32 f.1.1 f.1.2.1 f.1.2.2.1 f.1.2.2.2.1 f.1.2.2.2.2.1 f.1.2.2.2.2.2.1) fun v=>
               bU (rW v.1.1 v.1.2.1 v.1.2.2.1 v.1.2.2.2.1 v.1.2.2.2.2.1 v.1.2.2.2.2.2.1 i.1.1) K
             else
             bU (rW f.1.1 f.1.2.1 f.1.2.2.1 f.1.2.2.2.1 f.1.2.2.2.2.1 f.1.2.2.2.2.2.1 i.1.1) K) (fun N=>I))=K (RR F g (L++(15,(a:Int),(g:Int),u,())::([Bd F (tk F a [40]) (bV L)]++x++ny F e [41] (bV L)++(if ji F (ln F (nJ F e [41])) d=true then(2,((ln F (nJ F e [41]):Nat):Int),(g:Int),(bV L),())::m else []))) u d,()):=by
   rintro b rfl;rw[acS (tk F a [40]) _ _ d (by omega) (by rw[S];omega) A (by omega),bT];simp only[xm];rw[g2,bT];simp only[dX];rw[Ce e _ (bV L) d (by omega) (by grind) A (by omega) [41] (by simp),bT];simp only[jM];rw[pg hF (nJ F e [41]) _ (bV L) d M,bT];simp only;rw[Jp (ln F (nJ F e [41])) _ (bV L) d (by omega),bT];simp only;cases hb:ji F (ln F (nJ F e [41])) d with
   |true=>
    simp_all [bT]
   |false=>
    simp_all
  cases J:dW F a [40]with
  |true=>
   simp only[aa]
   grind [dD,iR]
  |false=>
   simp_all [jR]
 .cases hb:ji F (ln F (nJ F e [41])) d with
  |true=>
   have:=f4 hb;rw[am rfl];exact⟨by grind,(((Wn (by omega) (af _)).ap g5.2).apA fun _=>zS (af e) (af _)).ap (Tr.one (f6 hb) (af _) (af _) (by omega) rfl)⟩
  |false=>
   have:=f5 hb;rw[aq (by simp),aG];exact⟨by grind,((Wn (by omega) (af _)).ap g5.2).apA fun _=>zS (af e) (by omega)⟩
end
section
open Bool renaming not_true → au, not_false → aF
open List renaming length_append → ae
open Nat renaming le_refl → af
open Go.RowKit
variable {F:List Lf} (hF:yT F)
include hF
theorem Td {k:Nat} (h:All F k) {q q':Nat} (B:k+1<=q) (D:k<=q') (u d:Int) (hd:0<=d/\d<=200): ∀(N p a:Nat) (L:List Nd),F.length-a<N->F.length-a+1<p->a<=F.length->16*(F.length-a)+13<k->L.length<=16*a+104->
  ∃(f:Nat) (m:List Nd),mZ (dA q) N F (a:Int) u d L=some (.inl ((),((),()),((F,(f:Int),u,d,()),L++m,())))/\
   Ar (ik q') p true F (jE F) (a:Int) u d L=some (.inl ((),((),()),((F,jE F,(f:Int),u,d,()),L++m,())))/\a<=f/\f<=F.length/\m.length<=16*(f-a)/\Tr F a f u L.length m
 |0,_,a,L,z,_,_,_,_=>by omega
 |N+1,0,a,L,_,z,_,_,_=>by omega
 |N+1,1,a,L,_,z,_,_,_=>by omega
 |N+1,p+2,a,L,z,Z,I,hn,M=>by
  have ab:=hF.len
  (rewrite [mZ,IA,Ar,Nk];delta vz;rw[Kz hF a L u d (by omega) [40] rfl,kC a L u d [40] (by simp),bT,aa,bT])
  simp only;have ad:cZ ((qo F a).toNat:Int) 122=dW F a [122]:=QC a 122 (by decide);by_cases hgo:dW F a [40]=true\/(qX F a=true/\dW F a [122]=false)
  .obtain⟨e,l,e1,e2,e3,O,J⟩:=ajp hF h a L u d q q' (by omega) B D ⟨I,M,hd.1,hd.2⟩ (hgo.imp id And.left);obtain⟨n1,_,_⟩:=iJ L (opn 15 a u) (by omega);obtain⟨c1,c2⟩:=jC L l (opn 15 a u);have ag:(L++(15,(a:Int),(e:Int),u,())::l).length<=16*e+104:=by grind
   have S: ∃(f:Nat) (m:List Nd),(bU (qm F (e:Int) (L++(15,(a:Int),(e:Int),u,())::l) u d [121]) fun j=>
      bif(!j.2.1)then
       some (.inl ((),((),()),((j.1.1,j.1.2.1,j.1.2.2.2.1,j.1.2.2.2.2.1,()),j.1.2.2.1,())))
      else
      bU (rJ j.1.1 j.1.2.1 j.1.2.2.1 j.1.2.2.2.1 j.1.2.2.2.2.1) fun x=>
       mZ (dA q) N x.1.1 x.1.2.1 x.1.2.2.2.1 x.1.2.2.2.2.1 x.1.2.2.1)=some (.inl ((),((),()),((F,(f:Int),u,d,()),L++m,())))/\
     (bU (ql F (jE F) (L++(15,(a:Int),(e:Int),u,())::l) (e:Int) u d [121]) fun i=>
      bif i.2.1 then
       bU (uO i.1.1 i.1.2.1 i.1.2.2.1 (dJ .i64 i.1.2.2.2.1 1) i.1.2.2.2.2.1 i.1.2.2.2.2.2.1) fun v=>
        Ar (ik q') (p+1) i.2.1 v.1.1 v.1.2.1 v.1.2.2.2.1 v.1.2.2.2.2.1 v.1.2.2.2.2.2.1 v.1.2.2.1
      else
      Ar (ik q') (p+1) i.2.1 i.1.1 i.1.2.1 i.1.2.2.2.1 i.1.2.2.2.2.1 i.1.2.2.2.2.2.1 i.1.2.2.1)=some (.inl ((),((),()),((F,jE F,(f:Int),u,d,()),L++m,())))/\a<=f/\f<=F.length/\m.length<=16*(f-a)/\Tr F a f u L.length m:=by
    rw[iF hF e _ u d (by omega) [121] rfl,kC e _ u d [121] (by simp),bT,bT];simp only;cases hb:dW F e [121]with
    |false=>
     rw[jR hb];simp only[aF,aa,ac]
     (rewrite [Ar,Nk];delta vz;rw[ac])
     exact⟨e,(15,(a:Int),(e:Int),u,())::l,rfl,rfl,by omega,O,by grind,J.2.one (af _) (af _) (by omega) rfl⟩
    |true=>
     have y:=eQ hb;rw[iR hb];simp only[au,aa,ac];have ah:=lV (F:=F) (e+1);have U:=kQ (F:=F) (a:=e+1) (by omega);rw[dD,show(e:Int)+1=((e+1:Nat):Int) by omega,iO hF (e+1) _ u d (by omega),pg hF (e+1) _ u d (by omega),bT,bT];simp only;obtain⟨f,m,g1,g2,g3,g4,g5⟩:=Td h B D u d hd N (p+1) (ln F (e+1)) (L++(15,(a:Int),(e:Int),u,())::l) (by omega) (by omega) U (by omega) (by omega);exact⟨f,((15,(a:Int),(e:Int),u,())::l)++m,by simp_all,by simp_all,by omega,g4,by grind,(J.2.one (af _) (af _) (by omega) rfl).app g5.2 (by omega) (ae ..)⟩
   obtain⟨f,m,s1,s2,V,W,X⟩:=S;refine⟨f,m, ?_, ?_,V,W,X⟩
   .cases A:dW F a [40]with
    |true=>
     simp_all [eU,bT,iI]
    |false=>
     rcases hgo with g|⟨g1,g2⟩
     .simp_all
     .rw[ku a L u d,g1];simp only[ac,aa,bT];rw[lm hF a L u d (by omega),bT];simp_all [eU,bT,iI]
   .cases A:dW F a [40]with
    |true=>
     simp_all
    |false=>
     rcases hgo with g|⟨g1,g2⟩
     .simp_all
     .have y:=Uk g1;have K:F[a].1=6:=by
       simp_all [qX]
      rw[ac,dn (b:=iV (a:Int) (bV F)) (fQ (by rw[cu];omega)),dn (b:=iy F (a:Int)) (fD),um y,dn (b:=cZ F[a].1 6) (gz K),kC a L u d [122] (by simp),bT,g2];simp_all
  .have A:dW F a [40]=false:=by
    simp_all
   rw[A];simp only[ac];refine⟨a,[], ?_, ?_,af _,I,by simp,.nil (af _)⟩
   .rw[ku a L u d,bT];simp only;cases Y:qX F a with
    |false=>simp
    |true=>
     have h2:dW F a [122]=true:=by
      simp_all
     simp only[aa]
     grind [lm,bT]
   .by_cases y:a<F.length
    .rw[dn (b:=iV (a:Int) (bV F)) (fQ (by rw[cu];omega)),dn (b:=iy F (a:Int)) (fD),um y];by_cases K:F[a].1=6
     .have Y:qX F a=true:=by simp_all [qX]
      simp_all [kC,bT]
     simp_all [dY,fB]
    simp_all [dY,iL,cu]
theorem apI {k:Nat} (h:All F k) (a:Nat) (l:List Nd) (u d:Int) (r i:Nat) (L:16*(F.length-a)+13<k) (M:k+2<=r) (N:k+1<=i) (hp:jD F a l d 100):
  ∃(e:Nat) (m:List Nd),(dA r).q239 F (a:Int) l u d=some (PR F e (l++m) u d,())/\
   (ik i).q179 F (jE F) l (a:Int) u d=some (RR F e (l++m) u d,())/\a<=e/\e<=F.length/\m.length<=16*(e-a)+3/\Tr F a e u l.length m:=by
 obtain⟨x,O,j,y⟩:=hp;have S:=hF.len;obtain⟨q,rfl⟩: ∃q,r=q+1:=⟨r-1,by omega⟩;obtain⟨g,rfl⟩: ∃g,i=g+1:=⟨i-1,by omega⟩;obtain⟨U,z,V⟩:=Py (F:=F) a;have p:=z x;have W:=lV (F:=F) (uF F a);have A:=kQ (F:=F) p;obtain⟨X,B⟩:=xA (F:=F) (ln F (uF F a)) [107];have v:=B A;have Y:=nT (F:=F) (ln F (uF F a)) [107] u;have Z:=lV (F:=F) (nJ F (ln F (uF F a)) [107]);have D:=kQ (F:=F) v;obtain⟨f,I,g1,g2,g3,g4,g5⟩:=Td hF h (q:=q) (q':=g) (by omega) (by omega) u d ⟨j,y⟩ bY bY (ln F (nJ F (ln F (uF F a)) [107])) (l++[Bd F a u]++ny F (ln F (uF F a)) [107] u) (di) (di) D (by omega) (by grind);obtain⟨y1,J⟩:=xA (F:=F) f [122];have K:=J g4;have y4:=nT (F:=F) f [122] u;refine⟨nJ F f [122],[Bd F a u]++ny F (ln F (uF F a)) [107] u++I++ny F f [122] u, ?_, ?_,by omega,K,by grind,(((Wn (af a) (af _)).apA fun _=>zS (af (ln F (uF F a))) (af _)).ap g5.2).apA fun _=>zS (af f) (by omega)⟩
 .show aq9 (dA q) F (a:Int) l u d=_;rw[aq9,zT a l u d (by omega) (by omega),bT];simp only[xm];rw[iO hF (uF F a) _ u d p,bT];simp only;rw[nI hF (ln F (uF F a)) _ u d (by omega) (by grind) [107] rfl,bT];simp only[jM];rw[iO hF (nJ F (ln F (uF F a)) [107]) _ u d v,bT];simp only;rw[g1,bT];simp only[dX];rw[nI hF f _ u d (by omega) (by grind) [122] rfl,bT];simp_all [jM]
 .show aq8 (ik g) F (jE F) l (a:Int) u d=_;rw[aq8,acS a l u d (by omega) (by omega) j (by omega),bT];simp only[xm];rw[pg hF (uF F a) _ u d p,bT];simp only;rw[Ce (ln F (uF F a)) _ u d (by omega) (by grind) j (by omega) [107] (by simp),bT];simp only[jM];rw[pg hF (nJ F (ln F (uF F a)) [107]) _ u d v,bT]
  grind [bT,dX,Ce,jM]
end
section
open Option renaming some → a6, none → a7
open Bool renaming and_eq_true → ah, and_true → aj
open List renaming append_assoc → ag
open Nat renaming le_refl → af
open Go.RowKit
theorem aBZ (q':jK) (F:List Lf) (S:dC) (a u d:Int) (l:List Nd):xN q' bY 123 9 0 F S a u d l=a6 (.inl ((9,()),((),()),((F,S,a,u,d,()),l,()))):=by kernel_rfl
theorem axv (q':jK) (F:List Lf) (S:dC) (a u d:Int) (l:List Nd):xN q' bY 40 9 0 F S a u d l=a6 (.inl ((10,()),((),()),((F,S,a,u,d,()),l,()))):=by kernel_rfl
theorem axw (q':jK) (F:List Lf) (S:dC) (a u d:Int) (l:List Nd):xN q' bY 105 9 0 F S a u d l=a6 (.inl ((11,()),((),()),((F,S,a,u,d,()),l,()))):=by kernel_rfl
theorem axx (q':jK) (F:List Lf) (S:dC) (a u d:Int) (l:List Nd):xN q' bY 119 9 0 F S a u d l=a6 (.inl ((12,()),((),()),((F,S,a,u,d,()),l,()))):=by kernel_rfl
theorem axy (q':jK) (F:List Lf) (S:dC) (a u d:Int) (l:List Nd):xN q' bY 114 9 0 F S a u d l=a6 (.inl ((13,()),((),()),((F,S,a,u,d,()),l,()))):=by kernel_rfl
theorem axz (q':jK) (F:List Lf) (S:dC) (a u d:Int) (l:List Nd):xN q' bY 99 9 0 F S a u d l=a6 (.inl ((14,()),((),()),((F,S,a,u,d,()),l,()))):=by kernel_rfl
variable {F:List Lf} (hF:yT F)
include hF
theorem aFM {n:Nat} (h2:All F (n-2)) (a:Nat) (l:List Nd) (u d:Int) (q q':Nat) (U:16*(F.length-a)+8<n+1) (V:n<=q) (W:n<=q') (hp:jD F a l d 113) (y:a<F.length) (hd:d<200) (j:qo F a=123):
  ∃(e:Nat) (m:List Nd),jL (dA q) F (a:Int) l u d=a6 (PR F e (l++m) u d,())/\
   CU (ik q') F (jE F) l (a:Int) u d=a6 (RR F e (l++m) u d,())/\a<e/\e<=F.length/\m.length+3<=16*(e-a)/\Tr F a e u l.length m:=by
 obtain⟨X,Y,z,Z⟩:=hp;have ab:=hF.len;obtain⟨f,rfl⟩: ∃f,q=f+1:=⟨q-1,by omega⟩;have p:(bZ l [opn 9 a u]).length=l.length+1:=by unfold bZ;simp
 have v:bZ l [opn 9 a u]=l++[(9,(a:Int),0,u,())]:=rfl;obtain⟨n1,_,_⟩:=iJ l (opn 9 a u) (by omega);obtain⟨A,g,B,D,e3,I,J⟩:=aca hF h2 (a+1) (bZ l [opn 9 a u]) (bV l) (d+1) f q' [125] rfl (by simp) (by omega) (by omega) (by omega) ⟨by omega,by rw[p];omega,by omega,by omega⟩;obtain⟨i,x,K,L,f3,M,N⟩:=aDS hF (q:=dA (f+1)) (q':=ik q') (bV l) (d+1) u (bV l) u 9 9 9 9 ⟨by omega,by omega⟩ A (bZ l [opn 9 a u]++g) I (by grind);obtain⟨O,S⟩:=jC l (g++x) (opn 9 a u);refine⟨i,(9,(a:Int),(i:Int),u,())::(g++x), ?_, ?_,by omega,M,by grind,Tr.one (((p▸J.2).wide (by omega) (af _)).ap N.2) (af _) (af _) (by omega) rfl⟩
 .rw[jL];simp only[eU,gU,aj,aa,bT];rw[lm hF a l u d (by omega),bT];simp only[j,show cZ (((123:UInt8).toNat:Nat):Int) 40=false from by kernel_rfl,show cZ (((123:UInt8).toNat:Nat):Int) 105=false from by kernel_rfl,show cZ (((123:UInt8).toNat:Nat):Int) 119=false from by kernel_rfl,show cZ (((123:UInt8).toNat:Nat):Int) 114=false from by kernel_rfl,show cZ (((123:UInt8).toNat:Nat):Int) 99=false from by kernel_rfl,aa,ac,n1];rw[dD,dD,show(a:Int)+1=((a+1:Nat):Int) by omega];show bU (KR (dA f) F ((a+1:Nat):Int) _ _ _) _=_;rw[KR,B,bT];simp only;rw[K,bT];simp only[dX];rw[ag,iH];simp only[O,S,aa,iI,show d+1-1=d by omega]
 ·(rewrite [CU];delta pY;rw[dn (b:=iy (jE F) (a:Int)) (fD (by omega) (by simp_all)),BZ y,j,show(((123:UInt8).toNat:Nat):Int)=123 from by kernel_rfl,aBZ,bT])
  simp only[dX];rw[ou a l u d (by omega) (by omega) (by omega) z (by omega),bT];simp only[show kW 9=true from by kernel_rfl,if_true,show cZ (9:Int) 9=true from by kernel_rfl,aa,ac];rw[show((l.length:Nat):Int)=bV l from rfl,<-v,dD,show(a:Int)+1=((a+1:Nat):Int) by omega];refine(D _).trans ?_;simp only;rw[L,bT];simp only[dX];rw[ag,v,show bV l=((l.length:Nat):Int) from rfl,xu i _ u (d+1) l.length (by simp) (qY l _ 9 _ _) (by omega) (by omega) (by omega) (by omega),bT];simp only[qU,show kW 9=true from by kernel_rfl,if_true,show d+1-1=d by omega]
theorem aBm {n:Nat} (h2:All F (n-2)) (a:Nat) (l:List Nd) (u d:Int) (q q':Nat) (U:16*(F.length-a)+8<n+1) (V:n<=q) (W:n<=q') (hp:jD F a l d 113) (y:a<F.length) (hd:d<200) (j:qo F a=40):
  ∃(e:Nat) (m:List Nd),jL (dA q) F (a:Int) l u d=a6 (PR F e (l++m) u d,())/\
   CU (ik q') F (jE F) l (a:Int) u d=a6 (RR F e (l++m) u d,())/\a<e/\e<=F.length/\m.length+3<=16*(e-a)/\Tr F a e u l.length m:=by
 obtain⟨X,Y,z,Z⟩:=hp;have ab:=hF.len;obtain⟨f,rfl⟩: ∃f,q=f+1:=⟨q-1,by omega⟩;have p:(bZ l [opn 10 a u]).length=l.length+1:=by unfold bZ;simp
 have v:bZ l [opn 10 a u]=l++[(10,(a:Int),0,u,())]:=rfl;obtain⟨n1,_,_⟩:=iJ l (opn 10 a u) (by omega);obtain⟨A,g,B,D,e3,I,J⟩:=aca hF h2 (a+1) (bZ l [opn 10 a u]) (bV l) (d+1) f q' [41] rfl (by simp) (by omega) (by omega) (by omega) ⟨by omega,by rw[p];omega,by omega,by omega⟩;obtain⟨i,x,K,L,f3,M,N⟩:=aIE hF (q:=dA (f+1)) (q':=ik q') (bV l) (d+1) u (bV l) u 10 10 10 10 ⟨by omega,by omega⟩ A (bZ l [opn 10 a u]++g) I (by grind);obtain⟨O,S⟩:=jC l (g++x) (opn 10 a u);refine⟨i,(10,(a:Int),(i:Int),u,())::(g++x), ?_, ?_,by omega,M,by grind,Tr.one (((p▸J.2).wide (by omega) (af _)).ap N.2) (af _) (af _) (by omega) rfl⟩
 .rw[jL];simp only[eU,gU,aj,aa,bT];rw[lm hF a l u d (by omega),bT];simp only[j,show cZ (((40:UInt8).toNat:Nat):Int) 40=true from by kernel_rfl,aa,ac,n1];rw[dD,dD,show(a:Int)+1=((a+1:Nat):Int) by omega];show bU (KT (dA f) F ((a+1:Nat):Int) _ _ _) _=_;rw[KT,B,bT];simp only;rw[K,bT];simp only[dX];rw[ag,iH];simp only[O,S,aa,iI,show d+1-1=d by omega]
 ·(rewrite [CU];delta pY;rw[dn (b:=iy (jE F) (a:Int)) (fD (by omega) (by simp_all)),BZ y,j,show(((40:UInt8).toNat:Nat):Int)=40 from by kernel_rfl,axv,bT])
  simp only[dX];rw[ou a l u d (by omega) (by omega) (by omega) z (by omega),bT];simp only[show kW 10=true from by kernel_rfl,if_true,show cZ (10:Int) 9=false from by kernel_rfl,show cZ (10:Int) 10=true from by kernel_rfl,aa,ac];rw[show((l.length:Nat):Int)=bV l from rfl,<-v,dD,show(a:Int)+1=((a+1:Nat):Int) by omega];refine(D _).trans ?_;simp only;rw[L,bT];simp only[dX];rw[ag,v,show bV l=((l.length:Nat):Int) from rfl,xu i _ u (d+1) l.length (by simp) (qY l _ 10 _ _) (by omega) (by omega) (by omega) (by omega),bT];simp only[qU,show kW 10=true from by kernel_rfl,if_true,show d+1-1=d by omega]
theorem aBn {n:Nat} (h2:All F (n-2)) (a:Nat) (l:List Nd) (u d:Int) (q q':Nat) (Y:16*(F.length-a)+8<n+1) (Z:n<=q) (ab:n<=q') (hp:jD F a l d 113) (B:a<F.length) (hd:d<200) (v:qo F a=105):
  ∃(f:Nat) (m:List Nd),jL (dA q) F (a:Int) l u d=a6 (PR F f (l++m) u d,())/\
   CU (ik q') F (jE F) l (a:Int) u d=a6 (RR F f (l++m) u d,())/\a<f/\f<=F.length/\m.length+3<=16*(f-a)/\Tr F a f u l.length m:=by
 obtain⟨p1,p2,D,p4⟩:=hp;have ad:=hF.len;obtain⟨i,rfl⟩: ∃i,q=i+1:=⟨q-1,by omega⟩;have x:(bZ l [opn 11 a u]).length=l.length+1:=by unfold bZ;simp
 have z:bZ l [opn 11 a u]=l++[(11,(a:Int),0,u,())]:=rfl;obtain⟨n1,_,_⟩:=iJ l (opn 11 a u) (by omega);obtain⟨I,j,J,K,e3,L,M⟩:=aGk hF h2 (a+1) (bZ l [opn 11 a u]) (bV l) (d+1) u (i+1) q' (by omega) (by omega) (by omega) ⟨by omega,by rw[x];omega,by omega,by omega⟩;obtain⟨p,A,N,O,f3,S,U⟩:=aDO hF (q:=dA (i+1)) (q':=ik q') (bV l) (d+1) u (bV l) u 11 11 11 11 ⟨by omega,by omega⟩ I (bZ l [opn 11 a u]++j) L (by grind);obtain⟨V,W⟩:=jC l (j++A) (opn 11 a u);refine⟨p,(11,(a:Int),(p:Int),u,())::(j++A), ?_, ?_,by omega,S,by grind,Tr.one (((x▸M.2).wide (by omega) (af _)).ap U.2) (af _) (af _) (by omega) rfl⟩
 .rw[jL];simp only[eU,gU,aj,aa,bT];rw[lm hF a l u d (by omega),bT];simp only[v,show cZ (((105:UInt8).toNat:Nat):Int) 40=false from by kernel_rfl,show cZ (((105:UInt8).toNat:Nat):Int) 105=true from by kernel_rfl,aa,ac,n1];rw[dD,dD,show(a:Int)+1=((a+1:Nat):Int) by omega];rw[J,bT];simp only;rw[N,bT];simp only[dX];rw[ag,iH];simp only[V,W,aa,iI,show d+1-1=d by omega]
 ·(rewrite [CU];delta pY;rw[dn (b:=iy (jE F) (a:Int)) (fD (by omega) (by simp_all)),BZ B,v,show(((105:UInt8).toNat:Nat):Int)=105 from by kernel_rfl,axw,bT])
  simp only[dX];rw[ou a l u d (by omega) (by omega) (by omega) D (by omega),bT];simp only[show kW 11=true from by kernel_rfl,if_true,show cZ (11:Int) 9=false from by kernel_rfl,show cZ (11:Int) 10=false from by kernel_rfl,show cZ (11:Int) 11=true from by kernel_rfl,aa,ac];rw[show((l.length:Nat):Int)=bV l from rfl,<-z,dD,show(a:Int)+1=((a+1:Nat):Int) by omega];refine(K (fun w y=>bU (kw (ik q') bY w y.1.1 y.1.2.1 y.1.2.2.2.1 y.1.2.2.2.2.1 y.1.2.2.2.2.2.1 y.1.2.2.1) fun X=>
   dX X (fun e=>
    bU (rW e.2.2.1.1 e.2.2.1.2.1 e.2.2.2.1 e.2.2.1.2.2.1 e.2.2.1.2.2.2.1 e.2.2.1.2.2.2.2.1 e.1.1) fun g=>
     a6 ((g.1.1,(g.1.2.1,(g.1.2.2.1,(g.1.2.2.2.1,(g.1.2.2.2.2.1,(g.1.2.2.2.2.2.1,())))))),())) (fun b6=>a7))).trans ?_
  simp only;rw[O,bT];simp only[dX];rw[ag,z,show bV l=((l.length:Nat):Int) from rfl,xu p _ u (d+1) l.length (by simp) (qY l _ 11 _ _) (by omega) (by omega) (by omega) (by omega),bT];simp only[qU,show kW 11=true from by kernel_rfl,if_true,show d+1-1=d by omega]
theorem aBo {n:Nat} (h2:All F (n-2)) (a:Nat) (l:List Nd) (u d:Int) (q q':Nat) (U:16*(F.length-a)+8<n+1) (V:n<=q) (W:n<=q') (hp:jD F a l d 113) (y:a<F.length) (hd:d<200) (j:qo F a=119):
  ∃(e:Nat) (m:List Nd),jL (dA q) F (a:Int) l u d=a6 (PR F e (l++m) u d,())/\
   CU (ik q') F (jE F) l (a:Int) u d=a6 (RR F e (l++m) u d,())/\a<e/\e<=F.length/\m.length+3<=16*(e-a)/\Tr F a e u l.length m:=by
 obtain⟨X,Y,z,Z⟩:=hp;have ab:=hF.len;obtain⟨f,rfl⟩: ∃f,q=f+1:=⟨q-1,by omega⟩;have p:(bZ l [opn 12 a u]).length=l.length+1:=by unfold bZ;simp
 have v:bZ l [opn 12 a u]=l++[(12,(a:Int),0,u,())]:=rfl;obtain⟨n1,_,_⟩:=iJ l (opn 12 a u) (by omega);obtain⟨A,g,B,D,e3,I,J⟩:=av6 hF h2 (a+1) (bZ l [opn 12 a u]) (bV l) (d+1) (f+1) q' (by omega) (by omega) (by omega) ⟨by omega,by rw[p];omega,by omega,by omega⟩;obtain⟨i,x,K,L,f3,M,N⟩:=aDP hF (q:=dA (f+1)) (q':=ik q') (bV l) (d+1) u (bV l) u 12 12 12 12 ⟨by omega,by omega⟩ A (bZ l [opn 12 a u]++g) I (by grind);obtain⟨O,S⟩:=jC l (g++x) (opn 12 a u);refine⟨i,(12,(a:Int),(i:Int),u,())::(g++x), ?_, ?_,by omega,M,by grind,Tr.one (((p▸J.2).wide (by omega) (af _)).ap N.2) (af _) (af _) (by omega) rfl⟩
 .rw[jL];simp only[eU,gU,aj,aa,bT];rw[lm hF a l u d (by omega),bT];simp only[j,show cZ (((119:UInt8).toNat:Nat):Int) 40=false from by kernel_rfl,show cZ (((119:UInt8).toNat:Nat):Int) 105=false from by kernel_rfl,show cZ (((119:UInt8).toNat:Nat):Int) 119=true from by kernel_rfl,aa,ac,n1];rw[dD,dD,show(a:Int)+1=((a+1:Nat):Int) by omega];rw[B,bT];simp only;rw[K,bT];simp only[dX];rw[ag,iH];simp only[O,S,aa,iI,show d+1-1=d by omega]
 ·(rewrite [CU];delta pY;rw[dn (b:=iy (jE F) (a:Int)) (fD (by omega) (by simp_all)),BZ y,j,show(((119:UInt8).toNat:Nat):Int)=119 from by kernel_rfl,axx,bT])
  simp only[dX];rw[ou a l u d (by omega) (by omega) (by omega) z (by omega),bT];simp only[show kW 12=true from by kernel_rfl,if_true,show cZ (12:Int) 9=false from by kernel_rfl,show cZ (12:Int) 10=false from by kernel_rfl,show cZ (12:Int) 11=false from by kernel_rfl,show cZ (12:Int) 12=true from by kernel_rfl,aa,ac];rw[show((l.length:Nat):Int)=bV l from rfl,<-v,dD,show(a:Int)+1=((a+1:Nat):Int) by omega];refine(D _).trans ?_;simp only;rw[L,bT];simp only[dX];rw[ag,v,show bV l=((l.length:Nat):Int) from rfl,xu i _ u (d+1) l.length (by simp) (qY l _ 12 _ _) (by omega) (by omega) (by omega) (by omega),bT];simp only[qU,show kW 12=true from by kernel_rfl,if_true,show d+1-1=d by omega]
theorem aBp {n:Nat} (h2:All F (n-2)) (a:Nat) (l:List Nd) (u d:Int) (q q':Nat) (U:16*(F.length-a)+8<n+1) (V:n<=q) (W:n<=q') (hp:jD F a l d 113) (y:a<F.length) (hd:d<200) (j:qo F a=114):
  ∃(e:Nat) (m:List Nd),jL (dA q) F (a:Int) l u d=a6 (PR F e (l++m) u d,())/\
   CU (ik q') F (jE F) l (a:Int) u d=a6 (RR F e (l++m) u d,())/\a<e/\e<=F.length/\m.length+3<=16*(e-a)/\Tr F a e u l.length m:=by
 obtain⟨X,Y,z,Z⟩:=hp;have ab:=hF.len;obtain⟨f,rfl⟩: ∃f,q=f+1:=⟨q-1,by omega⟩;have p:(bZ l [opn 13 a u]).length=l.length+1:=by unfold bZ;simp
 have v:bZ l [opn 13 a u]=l++[(13,(a:Int),0,u,())]:=rfl;obtain⟨n1,_,_⟩:=iJ l (opn 13 a u) (by omega);obtain⟨A,g,B,D,e3,I,J⟩:=awO hF h2 (a+1) (bZ l [opn 13 a u]) (bV l) (d+1) (f+1) q' (by omega) (by omega) (by omega) ⟨by omega,by rw[p];omega,by omega,by omega⟩;obtain⟨i,x,K,L,f3,M,N⟩:=aDQ hF (q:=dA (f+1)) (q':=ik q') (bV l) (d+1) u (bV l) u 13 13 13 13 ⟨by omega,by omega⟩ A (bZ l [opn 13 a u]++g) I (by grind);obtain⟨O,S⟩:=jC l (g++x) (opn 13 a u);refine⟨i,(13,(a:Int),(i:Int),u,())::(g++x), ?_, ?_,by omega,M,by grind,Tr.one (((p▸J.2).wide (by omega) (af _)).ap N.2) (af _) (af _) (by omega) rfl⟩
 .rw[jL];simp only[eU,gU,aj,aa,bT];rw[lm hF a l u d (by omega),bT];simp only[j,show cZ (((114:UInt8).toNat:Nat):Int) 40=false from by kernel_rfl,show cZ (((114:UInt8).toNat:Nat):Int) 105=false from by kernel_rfl,show cZ (((114:UInt8).toNat:Nat):Int) 119=false from by kernel_rfl,show cZ (((114:UInt8).toNat:Nat):Int) 114=true from by kernel_rfl,aa,ac,n1];rw[dD,dD,show(a:Int)+1=((a+1:Nat):Int) by omega];rw[B,bT];simp only;rw[K,bT];simp only[dX];rw[ag,iH];simp only[O,S,aa,iI,show d+1-1=d by omega]
 ·(rewrite [CU];delta pY;rw[dn (b:=iy (jE F) (a:Int)) (fD (by omega) (by simp_all)),BZ y,j,show(((114:UInt8).toNat:Nat):Int)=114 from by kernel_rfl,axy,bT])
  simp only[dX];rw[ou a l u d (by omega) (by omega) (by omega) z (by omega),bT];simp only[show kW 13=true from by kernel_rfl,if_true,show cZ (13:Int) 9=false from by kernel_rfl,show cZ (13:Int) 10=false from by kernel_rfl,show cZ (13:Int) 11=false from by kernel_rfl,show cZ (13:Int) 12=false from by kernel_rfl,show cZ (13:Int) 13=true from by kernel_rfl,aa,ac];rw[show((l.length:Nat):Int)=bV l from rfl,<-v,dD,show(a:Int)+1=((a+1:Nat):Int) by omega];rw[D,bT];simp only;rw[L,bT];simp only[dX];rw[ag,v,show bV l=((l.length:Nat):Int) from rfl,xu i _ u (d+1) l.length (by simp) (qY l _ 13 _ _) (by omega) (by omega) (by omega) (by omega),bT];simp only[qU,show kW 13=true from by kernel_rfl,if_true,show d+1-1=d by omega]
theorem aBq {n:Nat} (h2:All F (n-2)) (a:Nat) (l:List Nd) (u d:Int) (q q':Nat) (U:16*(F.length-a)+8<n+1) (V:n<=q) (W:n<=q') (hp:jD F a l d 113) (y:a<F.length) (hd:d<200) (j:qo F a=99):
  ∃(e:Nat) (m:List Nd),jL (dA q) F (a:Int) l u d=a6 (PR F e (l++m) u d,())/\
   CU (ik q') F (jE F) l (a:Int) u d=a6 (RR F e (l++m) u d,())/\a<e/\e<=F.length/\m.length+3<=16*(e-a)/\Tr F a e u l.length m:=by
 obtain⟨X,Y,z,Z⟩:=hp;have ab:=hF.len;obtain⟨f,rfl⟩: ∃f,q=f+1:=⟨q-1,by omega⟩;have p:(bZ l [opn 14 a u]).length=l.length+1:=by unfold bZ;simp
 have v:bZ l [opn 14 a u]=l++[(14,(a:Int),0,u,())]:=rfl;obtain⟨n1,_,_⟩:=iJ l (opn 14 a u) (by omega);obtain⟨A,g,B,D,e3,I,J⟩:=apI hF h2 (a+1) (bZ l [opn 14 a u]) (bV l) (d+1) (f+1) q' (by omega) (by omega) (by omega) ⟨by omega,by rw[p];omega,by omega,by omega⟩;obtain⟨i,x,K,L,f3,M,N⟩:=aDR hF (q:=dA (f+1)) (q':=ik q') (bV l) (d+1) u (bV l) u 14 14 14 14 ⟨by omega,by omega⟩ A (bZ l [opn 14 a u]++g) I (by grind);obtain⟨O,S⟩:=jC l (g++x) (opn 14 a u);refine⟨i,(14,(a:Int),(i:Int),u,())::(g++x), ?_, ?_,by omega,M,by grind,Tr.one (((p▸J.2).wide (by omega) (af _)).ap N.2) (af _) (af _) (by omega) rfl⟩
 .rw[jL];simp only[eU,gU,aj,aa,bT];rw[lm hF a l u d (by omega),bT];simp only[j,show cZ (((99:UInt8).toNat:Nat):Int) 40=false from by kernel_rfl,show cZ (((99:UInt8).toNat:Nat):Int) 105=false from by kernel_rfl,show cZ (((99:UInt8).toNat:Nat):Int) 119=false from by kernel_rfl,show cZ (((99:UInt8).toNat:Nat):Int) 114=false from by kernel_rfl,show cZ (((99:UInt8).toNat:Nat):Int) 99=true from by kernel_rfl,aa,ac,n1];rw[dD,dD,show(a:Int)+1=((a+1:Nat):Int) by omega];rw[B,bT];simp only;rw[K,bT];simp only[dX];rw[ag,iH];simp only[O,S,aa,iI,show d+1-1=d by omega]
 ·(rewrite [CU];delta pY;rw[dn (b:=iy (jE F) (a:Int)) (fD (by omega) (by simp_all)),BZ y,j,show(((99:UInt8).toNat:Nat):Int)=99 from by kernel_rfl,axz,bT])
  simp only[dX];rw[ou a l u d (by omega) (by omega) (by omega) z (by omega),bT];simp only[show kW 14=true from by kernel_rfl,if_true,show cZ (14:Int) 9=false from by kernel_rfl,show cZ (14:Int) 10=false from by kernel_rfl,show cZ (14:Int) 11=false from by kernel_rfl,show cZ (14:Int) 12=false from by kernel_rfl,show cZ (14:Int) 13=false from by kernel_rfl,show cZ (14:Int) 14=true from by kernel_rfl,aa,ac];rw[show((l.length:Nat):Int)=bV l from rfl,<-v,dD,show(a:Int)+1=((a+1:Nat):Int) by omega];rw[D,bT];simp only;rw[L,bT];simp only[dX];rw[ag,v,show bV l=((l.length:Nat):Int) from rfl,xu i _ u (d+1) l.length (by simp) (qY l _ 14 _ _) (by omega) (by omega) (by omega) (by omega),bT];simp only[qU,show kW 14=true from by kernel_rfl,if_true,show d+1-1=d by omega]
theorem WE {n:Nat} (h2:All F (n-2)) (a:Nat) (l:List Nd) (u d:Int) (r p:Nat) (g:16*(F.length-a)+8<n+1) (y:n+1<=r) (z:n+1<=p) (hp:jD F a l d 113) (x:oH F a d=true):
  ∃(i:Nat) (m:List Nd),(dA r).q212 F (a:Int) l u d=a6 (PR F i (l++m) u d,())/\
   (ik p).q146 F (jE F) l (a:Int) u d=a6 (RR F i (l++m) u d,())/\a<i/\i<=F.length/\m.length+3<=16*(i-a)/\Tr F a i u l.length m:=by
 obtain⟨q,rfl⟩: ∃q,r=q+1:=⟨r-1,by omega⟩;obtain⟨f,rfl⟩: ∃f,p=f+1:=⟨p-1,by omega⟩;unfold oH at x;simp only[ah,decide_eq_true_eq]at x;obtain⟨hd,v⟩:=x;have j:=eQ v;unfold dW at v;simp only[ah,decide_eq_true_eq,List.contains_eq_mem,List.mem_cons,List.not_mem_nil,or_false]at v;rcases v.2 with e|e|e|e|e|e
 .exact aFM hF h2 a l u d q f g (by omega) (by omega) hp j hd e
 .exact aBm hF h2 a l u d q f g (by omega) (by omega) hp j hd e
 .exact aBn hF h2 a l u d q f g (by omega) (by omega) hp j hd e
 .exact aBo hF h2 a l u d q f g (by omega) (by omega) hp j hd e
 .exact aBp hF h2 a l u d q f g (by omega) (by omega) hp j hd e
 .exact aBq hF h2 a l u d q f g (by omega) (by omega) hp j hd e
end
section
open Bool renaming false_eq_true → ai, and_true → aj, not_true → au, not_false → aF
open List renaming length_append → ae, getElem_mem → aI, nil_append → aQ, length_nil → aY, take_of_length_le → bD
open Nat renaming le_refl → af
open Go.RowKit
variable {F:List Lf} (hF:yT F)
include hF
theorem kN (n:Nat):All F n:=by
 induction n using Nat.strongRecOn with
 |_ n p=>
  cases n with
  |zero=>exact⟨fun a l u d r e h=>by omega,fun a l u d r e h=>by omega,fun a l u d r e h=>by omega,fun a l u d r h=>by omega,fun a l u d r e h=>by omega,fun a l u d r e h=>by omega,fun a l u d r e h=>by omega⟩
  |succ n=>
   have h:=p n (by omega);have q:=p (n-1) (by omega);have v:=p (n-2) (by omega);exact⟨fun a l u d r e i f j g m=>anp hF h a l u d r e i f j g m,
    fun a l u d r e i f j g m=>afN hF h a l u d r e i f j g m,
    fun a l u d r e i f j g m=>anM hF h a l u d r e i f j g m,
    fun a l u d r i f g m=>aeE hF a l u d r f g m,
    fun a l u d r e i f j g=>Za hF h q a l u d r e i f j g,
    fun a l u d r e i f j g m=>WE hF v a l u d r e i f j g m,
    fun a l u d r e i f j g=>al8 hF h a l u d r e i f j g⟩
theorem VF: ∀(N a:Nat),F.length-a<N->a<=F.length->
  Oo N F ((jE F).take a) (a:Int)=some (.inl ((F,jE F,()),()))
 |0,a,h,_=>by omega
 |N+1,a,g,i=>by
  have j:=hF.len;rw[Oo,ack];by_cases h:a<F.length
  .rw[dn (b:=iV (a:Int) (bV F)) (fQ (by rw[cu];omega)),dn (b:=iy F (a:Int)) (fD),um h];have d:Uc F[a]=some ([sgn F[a]],()):=(ab7 (hF.txt _ (aI h))).2;rw[d,bT];have e:jf ((jE F).take a) [sgn F[a]]=true:=by
    unfold jf nC
    grind
   simp only[e,aa];rw[dD,show(a:Int)+1=((a+1:Nat):Int) by omega];have f:bZ ((jE F).take a) [sgn F[a]]=(jE F).take (a+1):=by
    simp_all [bZ,List.take_add_one]
   rw[f];exact VF N (a+1) (by omega) (by omega)
  simp_all [dY,iL,cu,bD]
theorem DK (w:Int): ∀(N a:Nat) (L:List Nd) (b:Bool) (v:Int),F.length-a<N->a<=F.length->L.length<=16*a+1->cZ v 2=b->
  ∃m,nU N b F (a:Int) 0 0 L=some (.inl ((),((),()),((F,((F.length:Nat):Int),0,0,()),L++m,())))/\
   JH N F w v L F (jE F) (a:Int) 0 0=some (.inl ((w,()),(L++m,(F,jE F,((F.length:Nat):Int),0,0,()),())))/\m.length<=16*(F.length-a)/\Tr F a F.length 0 L.length m
 |0,a,L,b,v,i,_,_,_=>by omega
 |N+1,a,L,b,v,i,j,y,f=>by
  have z:=hF.len;rw[nU,GK,JH,acl];by_cases h:a<F.length
  .rw[dn (b:=iV (a:Int) (bV F)) (fQ (by rw[cu];omega)),dn (b:=iV (a:Int) (bV F)) (fQ (by rw[cu];omega)),iF hF a L 0 0 (by omega) [110] rfl,kC a L 0 0 [110] (by simp),bT,bT];simp only;have g: ∃m,nU N false F ((a+1:Nat):Int) 0 0 (L++[(17,(a:Int),((a+1:Nat):Int),0,())])=some (.inl ((),((),()),((F,((F.length:Nat):Int),0,0,()),L++m,())))/\
     JH N F w 17 (L++[(17,(a:Int),((a+1:Nat):Int),0,())]) F (jE F) ((a+1:Nat):Int) 0 0=some (.inl ((w,()),(L++m,(F,jE F,((F.length:Nat):Int),0,0,()),())))/\m.length<=16*(F.length-a)/\Tr F a F.length 0 L.length m:=by
    obtain⟨m,g1,g2,g3⟩:=DK w N (a+1) (L++[(17,(a:Int),((a+1:Nat):Int),0,())]) false 17 (by omega) (by omega) (by grind) rfl;exact⟨[(17,(a:Int),((a+1:Nat):Int),0,())]++m,by simp_all,by simp_all,by grind,(Tr.lf (af a) (af _) (by omega) (fun h=>by exfalso;omega)).ap g3.2⟩
   cases hb:dW F a [110]with
   |true=>
    rw[iR hb,dD,show(a:Int)+1=((a+1:Nat):Int) by omega];simp only[aa];obtain⟨m,g1,g2,g3⟩:=DK w N (a+1) L b v (by omega) (by omega) (by omega) f;exact⟨m,g1,g2,by omega,g3.2.wide (by omega) (af _)⟩
   |false=>
    rw[jR hb,f];simp only[ac];cases b with
    |true=>
     simp only[au,ac];rw[qG a L 0 0 17 (by omega) (by omega),Qj a L 0 0 (by omega) (by omega) rfl (by omega) (by omega) (by omega) (by omega),bT,bT];exact g
    |false=>
     simp only[aF,aa];rw[jO hF a L 0 0 (by omega),Jp a L 0 0 (by omega),bT,bT];simp only;cases hp:ji F a 0 with
     |true=>
      obtain⟨n1,_,_⟩:=iJ L (opn 2 a 0) (by omega);obtain⟨d,e,l,p,A,q,u⟩:=(kN hF (16*F.length+13)).list a L 0 0 bY bY (by omega) (Nat.le_of_lt (di)) (Nat.le_of_lt (di)) ⟨j,by omega,by omega,by omega⟩ hp;obtain⟨B,D⟩:=jC L e (opn 2 a 0);have I:aro F (a:Int) (bZ L [opn 2 a 0]) (bV L) 0=some (PR F d (bZ L [opn 2 a 0]++e) (bV L) 0,()):=l;have J:aBO F (jE F) L (a:Int) 0 0=some (RR F d (L++(2,(a:Int),(d:Int),0,())::e) 0 0,()):=p;obtain⟨m,g1,g2,g3⟩:=DK w N d (L++(2,(a:Int),(d:Int),0,())::e) true 2 (by omega) q (by grind) rfl;refine⟨((2,(a:Int),(d:Int),0,())::e)++m, ?_, ?_,by grind,(u.2.one (af _) (af _) (by omega) rfl).app g3.2 (af _) (ae ..)⟩
      .simp_all [eU,bT,iI]
      simp_all [bT]
     |false=>
      simp only[ac];rw[qG a L 0 0 17 (by omega) (by omega),Qj a L 0 0 (by omega) (by omega) rfl (by omega) (by omega) (by omega) (by omega),bT,bT];exact g
  .have x:a=F.length:=by omega
   rw[dY (b:=iV (a:Int) (bV F)) (iL (by rw[cu];omega)),dY (b:=iV (a:Int) (bV F)) (iL (by rw[cu];omega)),x];exact⟨[],by simp,by simp,by simp,.nil (af _)⟩
theorem atD: ∃l,TZ F=some (l,())/\aw1 F=some (l,())/\l.length<=16*F.length+1/\ ∃m,l=(1,0,(F.length:Int),-1,())::m/\Tr F 0 F.length 0 1 m:=by
 have e:=hF.len;obtain⟨m,g1,g2,g3⟩:=DK hF (-1) bY 0 [(1,0,0,-1,())] false 0 (di) (by omega) (by simp) rfl;refine⟨adm ([(1,0,0,-1,())]++m) 0 ((F.length:Nat):Int), ?_, ?_,by simp_all [apX],m,rfl,g3.2⟩
 .rw[TZ];have d:fG [((1:Int),((0:Int),((0:Int),((-1:Int),()))))] 32=true:=by kernel_rfl
  simp only[eU,aj,aa,d];rw[aw7,show((0:Int))=((0:Nat):Int) from rfl];simp only[Int.ofNat_zero]at g1 ⊢;rw[g1,bT];simp only[dX,bT];rw[dn (fD (by omega) (by simp)),dn (rX (by simp[dM]))];rfl
 .rw[aw1,show Oo bY F [] 0=some (.inl ((F,jE F,()),())) from VF hF bY 0 (di) (by omega),bT];simp only[dX];rw[show Fa F (jE F) [] 0 (-1) 0 1=_ from ou 0 [] (-1) 0 (by omega) (by omega) (by simp) (by omega) (by omega),bT];simp only[show kW 1=false from by kernel_rfl,ai,if_false,aQ,aY];rw[show JH bY F (-1) 0 [(1,((0:Nat):Int),0,-1,())] F (jE F) ((0:Nat):Int) ((0:Nat):Int) 0=_ from g2,bT];simp only[dX];rw[show rW F (jE F) _ ((F.length:Nat):Int) 0 0 (-1)=_ from xu F.length ([(1,0,0,-1,())]++m) (-1) 0 0 (by simp) (k:=1) rfl (by omega) (by omega) (by omega) (by omega),bT]
end
end Go.Proofs.YtjegbhogodknhaaGreatDoor
