/- Parts of the proof, joined and shortened by a program: the plain machine, the functions as it prints them, and the mathematics over them. -/
import Derived.Test.YtlhpdcadgbjhiaaGreatDoorY4
import Derived.Test.YtlhpdcadgbjhiaaGreatDoorY5
import Derived.Test.YtlhpdcadgbjhiaaGreatDoorY7
set_option linter.unusedVariables false
set_option linter.unusedSimpArgs false
set_option maxRecDepth 100000
set_option maxHeartbeats 4000000
namespace Go.Proofs.YtlhpdcadgbjhiaaGreatDoor
section
open Option renaming some → a6, none → a7
open Bool renaming not_true → au, not_false → az
open Nat renaming le_trans → aB
open Go.RowKit
theorem ayi {a b:List UInt8}:gG a b=true↔a=b:=by simp[gG]
theorem CV {a b:List UInt8} (h:a≠b):gG a b=false:=by simp[gG];exact h
theorem aiP {a b:List UInt8} (h:a=b):gG a b=true:=ayi.2 h
def ah4:List bZ:=[[33],[123],[125],[99,97,115,101],[100,111],[100,111,110,101],[101,108,105,102],[101,108,115,101],[101,115,97,99],[102,105],[102,111,114],[105,102],[105,110],[116,104,101,110],[117,110,116,105,108],[119,104,105,108,101]]
def aeb:bZ:=[32,33,32,123,32,125,32,99,97,115,101,32,100,111,32,100,111,110,101,32,101,108,105,102,32,101,108,115,101,32,101,115,97,99,32,102,105,32,102,111,114,32,105,102,32,105,110,32,116,104,101,110,32,117,110,116,105,108,32,119,104,105,108,101,32]
theorem agW: ∀i:Fin 66,∀n:Fin 66,(sub aeb (i.val:Int) ((i.val:Int)+((n.val:Int)+2))).getD 0 0=32->
  (sub aeb (i.val:Int) ((i.val:Int)+((n.val:Int)+2))).getD (n.val+1) 0=32->
  (((sub aeb (i.val:Int) ((i.val:Int)+((n.val:Int)+2))).drop 1).take n.val).contains 32=false->n.val≠0->i.val+n.val+2<=65->
  ah4.contains (((sub aeb (i.val:Int) ((i.val:Int)+((n.val:Int)+2))).drop 1).take n.val)=true:=by decide+kernel
theorem ajx (x:bZ) (hx:x.length<=3000000): ∀(n k:Nat),k<=x.length->x.length-k<n->
  BK n 32 x (k:Int)=a6 (.inl ((),()))/\(∀j,k<=j->j<x.length->bY x (j:Int)≠32)\/BK n 32 x (k:Int)=a6 (.inr ((true,()),()))
 |0,k,d,e=>by omega
 |n+1,k,d,e=>by
  rw[BK];unfold UO;by_cases hk:k<x.length
  .rw[bV (eH (by rw[bK];omega)),bV (dV)];by_cases hb:bY x (k:Int)=32
   .simp_all [fK]
   .rw[dI (dX hb),dn];rcases ajx x hx n (k+1) (by omega) (by omega)with ⟨h,h'⟩|h
    all_goals grind
  .rw[dI (ig (by rw[bK];omega))]
   grind
theorem auU {x:List UInt8} (h: ∀j,0<=j->j<x.length->bY x ((j:Nat):Int)≠32):x.contains 32=false:=by
 rw[Bool.eq_false_iff];intro d;rw[List.contains_iff_mem]at d;obtain⟨j,e,f⟩:=List.mem_iff_getElem.1 d;refine h j (by omega) e ?_;simp_all [bY]
theorem ae0 (x:bZ) (hx:x.length<=3000000) (h0:x.length≠0) (hb:x.contains 32=false) (e:ah4.contains x=false): ∀(n i:Nat),i<=66->66-i<n->
  TJ n (bT (bT [32] x) [32]) (i:Int)=a6 (.inl ((),()))
 |0,i,f,g=>by omega
 |n+1,i,f,g=>by
  have hl:(bT (bT [32] x) [32]).length=x.length+2:=by simp[bT]
  rw[TJ];unfold aca;by_cases hi:i+x.length+2<=65
  .rw[bV (lQ (by grind [bK,dn]))];rw[bV (fO (by omega) (by grind [bK,dn]) (by rw[bK,bK,hl,dn];show _<=(65:Int);omega))];rw[dI (CV ?_)]
   .rw[dn];exact ae0 x hx h0 hb e n (i+1) (by omega) (by omega)
   .intro d;rw[bK,hl,dn]at d;change sub aeb _ _=_ at d;have:=agW ⟨i,by omega⟩ ⟨x.length,by omega⟩;simp_all [bT]
  .rw[dI (zX (by grind [bK,dn]))]
theorem aAQ (x:bZ) (hx:x.length<=3000000) (d:ah4.contains x=false):ayD x=a6 (false,()):=by
 unfold ayD;by_cases h0:x.length=0
 .simp_all [fK,bK]
 rw[dI (dX (by rw[bK];omega))];unfold Gy;rcases ajx x hx bM 0 (by omega) (dK)with ⟨h,h'⟩|h
 .rw[show(0:Int)=((0:Nat):Int) from rfl,h];simp only[bG,ava,ac];rw[bV (show iH [32] x=true by unfold iH kH;grind)];rw[bV (show iH (bT [32] x) [32]=true by unfold iH kH bT;grind)];rw[ae0 x hx h0 (auU h') d bM 0 (by omega) (dK)];rfl
 .rw[show(0:Int)=((0:Nat):Int) from rfl,h];rfl
theorem aeP: ∀k:Fin 17,ai6 ((k.val:Int)+1)=a6 (Na.getD k.val [],())/\YN ((k.val:Int)+1)=a6 (Na.getD k.val [],()):=by
 intro k
 match k with
 |⟨0,_⟩=>exact⟨by kernel_rfl,by kernel_rfl⟩
 |⟨1,_⟩=>exact⟨by kernel_rfl,by kernel_rfl⟩
 |⟨2,_⟩=>exact⟨by kernel_rfl,by kernel_rfl⟩
 |⟨3,_⟩=>exact⟨by kernel_rfl,by kernel_rfl⟩
 |⟨4,_⟩=>exact⟨by kernel_rfl,by kernel_rfl⟩
 |⟨5,_⟩=>exact⟨by kernel_rfl,by kernel_rfl⟩
 |⟨6,_⟩=>exact⟨by kernel_rfl,by kernel_rfl⟩
 |⟨7,_⟩=>exact⟨by kernel_rfl,by kernel_rfl⟩
 |⟨8,_⟩=>exact⟨by kernel_rfl,by kernel_rfl⟩
 |⟨9,_⟩=>exact⟨by kernel_rfl,by kernel_rfl⟩
 |⟨10,_⟩=>exact⟨by kernel_rfl,by kernel_rfl⟩
 |⟨11,_⟩=>exact⟨by kernel_rfl,by kernel_rfl⟩
 |⟨12,_⟩=>exact⟨by kernel_rfl,by kernel_rfl⟩
 |⟨13,_⟩=>exact⟨by kernel_rfl,by kernel_rfl⟩
 |⟨14,_⟩=>exact⟨by kernel_rfl,by kernel_rfl⟩
 |⟨15,_⟩=>exact⟨by kernel_rfl,by kernel_rfl⟩
 |⟨16,_⟩=>exact⟨by kernel_rfl,by kernel_rfl⟩
 |⟨n+17,h⟩=>omega
theorem aB3 {x:List UInt8} (d:Na.contains x=false) {k:Nat} (hk:k<17):Na.getD k []≠x:=by
 rintro rfl;rw[Bool.eq_false_iff]at d;apply d;rw[List.contains_iff_mem,List.getD_eq_getElem?_getD,List.getElem?_eq_getElem (show k<Na.length from hk)];simp
theorem Xq (x:bZ) (d:Na.contains x=false): ∀(n k:Nat),k<=17->17-k<n->BI n x ((k:Int)+1)=a6 (.inl ((),()))
 |0,k,e,f=>by omega
 |n+1,k,e,f=>by
  rw[BI];unfold KU;by_cases hk:k<17
  .rw[bV (lQ),(aeP ⟨k,hk⟩).1,bG,dI (CV (aB3 d hk)),dn];exact Xq x d n (k+1) (by omega) (by omega)
  .rw[dI (zX)]
theorem al0 (x:bZ) (d:Na.contains x=false) (a b c:Int): ∀(n k:Nat),k<=17->17-k<n->TG n ((k:Int)+1) a x b c=a6 (.inl ((),()))
 |0,k,e,f=>by omega
 |n+1,k,e,f=>by
  rw[TG];unfold ab7;by_cases hk:k<17
  .rw[bV (lQ),(aeP ⟨k,hk⟩).2,bG,dI (CV (aB3 d hk)),dn];exact al0 x d a b c n (k+1) (by omega) (by omega)
  .rw[dI (zX)]
theorem azV {x:List UInt8} (h:ah4.contains x=true):x=[33]\/x=[123]\/x=[125]\/x=[99,97,115,101]\/x=[100,111]\/x=[100,111,110,101]\/x=[101,108,105,102]\/x=[101,108,115,101]\/x=[101,115,97,99]\/x=[102,105]\/x=[102,111,114]\/x=[105,102]\/x=[105,110]\/x=[116,104,101,110]\/x=[117,110,116,105,108]\/x=[119,104,105,108,101]:=by
 simp_all [ah4]
theorem aFb {x:List UInt8} (h:Na.contains x=true):x=[38,38]\/x=[124,124]\/x=[59,59]\/x=[60,60]\/x=[60,60,45]\/x=[62,62]\/x=[60,38]\/x=[62,38]\/x=[60,62]\/x=[62,124]\/x=[60]\/x=[62]\/x=[38]\/x=[59]\/x=[124]\/x=[40]\/x=[41]:=by
 simp_all [Na]
theorem apL (x:bZ) (hx:x.length<=10000) (a b:Int): ∃c:UInt8,ai9 x=a6 ((c.toNat:Int),())/\SL (6,(x,(a,(b,()))))=a6 ([c],()):=by
 cases hw:ah4.contains x with
 |true=>
  rcases azV hw with h|h|h|h|h|h|h|h|h|h|h|h|h|h|h|h
  .subst h;exact⟨33,by kernel_rfl,by kernel_rfl⟩
  .subst h;exact⟨123,by kernel_rfl,by kernel_rfl⟩
  .subst h;exact⟨125,by kernel_rfl,by kernel_rfl⟩
  .subst h;exact⟨99,by kernel_rfl,by kernel_rfl⟩
  .subst h;exact⟨100,by kernel_rfl,by kernel_rfl⟩
  .subst h;exact⟨103,by kernel_rfl,by kernel_rfl⟩
  .subst h;exact⟨101,by kernel_rfl,by kernel_rfl⟩
  .subst h;exact⟨108,by kernel_rfl,by kernel_rfl⟩
  .subst h;exact⟨122,by kernel_rfl,by kernel_rfl⟩
  .subst h;exact⟨102,by kernel_rfl,by kernel_rfl⟩
  .subst h;exact⟨114,by kernel_rfl,by kernel_rfl⟩
  .subst h;exact⟨105,by kernel_rfl,by kernel_rfl⟩
  .subst h;exact⟨107,by kernel_rfl,by kernel_rfl⟩
  .subst h;exact⟨116,by kernel_rfl,by kernel_rfl⟩
  .subst h;exact⟨119,by kernel_rfl,by kernel_rfl⟩
  .subst h;exact⟨119,by kernel_rfl,by kernel_rfl⟩
 |false=>
  refine⟨120, ?_, ?_⟩
  .have e: ∀l,ah4.contains l=true->gG x l=false:=fun l hl=>CV fun d=>by simp_all
   (unfold ai9;delta PO YB)
   simp only[e [33] rfl,e [123] rfl,e [125] rfl,e [99,97,115,101] rfl,e [100,111] rfl,e [100,111,110,101] rfl,e [101,108,105,102] rfl,e [101,108,115,101] rfl,e [101,115,97,99] rfl,e [102,105] rfl,e [102,111,114] rfl,e [105,102] rfl,e [105,110] rfl,e [116,104,101,110] rfl,e [117,110,116,105,108] rfl,e [119,104,105,108,101] rfl,ac];rfl
  .unfold SL;simp only[show bP 6 2=false from rfl,show bP 6 5=false from rfl,show bP 6 4=false from rfl,show bP 6 6=true from rfl,au,ac,aAQ x (aB hx (by omega)) hw,bG,az,aa]
theorem aos (x:bZ) (hx:x.length<=10000) (a b:Int): ∃c:UInt8,ai8 x=a6 ((c.toNat:Int),())/\SL (4,(x,(a,(b,()))))=a6 ([c],())/\c≠120:=by
 cases hw:Na.contains x with
 |true=>
  rcases aFb hw with h|h|h|h|h|h|h|h|h|h|h|h|h|h|h|h|h
  .subst h;exact⟨97,by kernel_rfl,by kernel_rfl,by decide⟩
  .subst h;exact⟨111,by kernel_rfl,by kernel_rfl,by decide⟩
  .subst h;exact⟨121,by kernel_rfl,by kernel_rfl,by decide⟩
  .subst h;exact⟨60,by kernel_rfl,by kernel_rfl,by decide⟩
  .subst h;exact⟨60,by kernel_rfl,by kernel_rfl,by decide⟩
  .subst h;exact⟨60,by kernel_rfl,by kernel_rfl,by decide⟩
  .subst h;exact⟨60,by kernel_rfl,by kernel_rfl,by decide⟩
  .subst h;exact⟨60,by kernel_rfl,by kernel_rfl,by decide⟩
  .subst h;exact⟨60,by kernel_rfl,by kernel_rfl,by decide⟩
  .subst h;exact⟨60,by kernel_rfl,by kernel_rfl,by decide⟩
  .subst h;exact⟨60,by kernel_rfl,by kernel_rfl,by decide⟩
  .subst h;exact⟨60,by kernel_rfl,by kernel_rfl,by decide⟩
  .subst h;exact⟨38,by kernel_rfl,by kernel_rfl,by decide⟩
  .subst h;exact⟨59,by kernel_rfl,by kernel_rfl,by decide⟩
  .subst h;exact⟨124,by kernel_rfl,by kernel_rfl,by decide⟩
  .subst h;exact⟨40,by kernel_rfl,by kernel_rfl,by decide⟩
  .subst h;exact⟨41,by kernel_rfl,by kernel_rfl,by decide⟩
 |false=>
  refine⟨63, ?_, ?_,by decide⟩
  .unfold ai8;have:Oh x=a6 (0,()):=by
    unfold Oh;by_cases h0:x=[]
    .rw[bV (aiP h0)]
    .rw[dI (CV h0),show(1:Int)=((0:Nat):Int)+1 from rfl,Xq x hw bM 0 (by omega) (dK)];rfl
   rw[this];rfl
  .unfold SL;simp only[show bP 4 2=false from rfl,show bP 4 5=false from rfl,show bP 4 4=true from rfl,ac,aa];rw[show(1:Int)=((0:Nat):Int)+1 from rfl,al0 x hw 4 a b bM 0 (by omega) (dK)];rfl
theorem aCc (k:Int) (x:bZ) (hx:x.length<=10000) (a b:Int): ∃c:UInt8,SC (k,(x,(a,(b,()))))=a6 ((c.toNat:Int),())/\SL (k,(x,(a,(b,()))))=a6 ([c],())/\(c=120->k=6):=by
 by_cases h2:k=2
 .subst h2;exact⟨110,rfl,rfl,fun h=>absurd h (by decide)⟩
 by_cases h5:k=5
 .subst h5;exact⟨35,rfl,rfl,fun h=>absurd h (by decide)⟩
 by_cases h4:k=4
 .subst h4;obtain⟨c,h,d,f⟩:=aos x hx a b;refine⟨c, ?_,d,fun e=>absurd e f⟩;unfold SC;simp only[show bP 4 2=false from rfl,show bP 4 4=true from rfl,ac,aa,h,bG]
 by_cases h6:k=6
 .subst h6;obtain⟨c,h,d⟩:=apL x hx a b;refine⟨c, ?_,d,fun _=>rfl⟩;unfold SC;simp only[show bP 6 2=false from rfl,show bP 6 4=false from rfl,show bP 6 5=false from rfl,show bP 6 6=true from rfl,ac,aa,h,bG]
 refine⟨63, ?_, ?_,fun h=>absurd h (by decide)⟩
 .unfold SC;simp only[dX h2,dX h4,dX h5,dX h6,ac];rfl
 .unfold SL;simp only[dX h2,dX h4,dX h5,dX h6,ac,az,aa]
abbrev Lf:=Int×List UInt8×Int×Int×Unit
def PM:Lf:=(0,([],(0,(0,()))))
def sgn (f:Lf):UInt8:=match SL f with
 |some ([c],_)=>c
 |_=>0
theorem av8 {f:Lf} (h:f.2.1.length<=10000):SC f=a6 (((sgn f).toNat:Int),())/\SL f=a6 ([sgn f],()):=by
 obtain⟨k,x,a,b,u⟩:=f;obtain⟨c,d,e,_⟩:=aCc k x h a b;simp_all [sgn]
theorem aCb {f:Lf} (h:f.2.1.length<=10000) (hx:sgn f=120):f.1=6:=by
 obtain⟨k,x,a,b,u⟩:=f;obtain⟨c,d,e,g⟩:=aCc k x h a b;simp_all [sgn]
end
section
open Option renaming some → a6, none → a7
open Bool renaming not_true → au, and_true → ay, not_false → az, true_and → aS
open List renaming getElem_mem → aG
open Nat renaming le_refl → ae
open Go.RowKit
abbrev Nd:=Int×Int×Int×Int×Unit
def AU:Nd:=(0,(0,(0,(0,()))))
structure OkF (F:List Lf):Prop where
 len:F.length<=10000
 txt: ∀f∈F,f.2.1.length<=10000
def Di (F:List Lf) (a:Nat):UInt8:=if h:a<F.length then sgn F[a]else 0
def fG (F:List Lf) (a:Nat) (o:bZ):Bool:=decide (a<F.length)&&o.contains (Di F a)
theorem abI {F:List Lf} {a:Nat} (h:a<F.length):Di F a=sgn F[a]:=by simp_all [Di]
theorem KQ {F:List Lf} {a:Nat} (h:F.length<=a:=by omega):Di F a=0:=by simp_all [Di,dif_neg]
theorem gZ {F:List Lf} {a:Nat} {o:List UInt8} (h:fG F a o=true):a<F.length:=by
 simp_all [fG]
theorem zY {F:List Lf} {a:Nat} (h:a<F.length):dw F (0,([],(0,(0,())))) (a:Int)=F[a]:=by
 simp_all [dw]
theorem aBB {d:Type} {l:List d} {k:Nat} (h:l.length*k<=140737488355328):dY l k=true:=by
 grind [dY,kH]
variable {F:List Lf} (hF:OkF F)
include hF
theorem awc (a k:Nat) (l:List Nd) (u d:Int) (e:a+k<1000000000):xQ F (a:Int) l u d (k:Int)=a6 ((F,((a:Int),(l,(u,(d,()))))),(((Di F (a+k)).toNat:Int),())):=by
 have:=hF.len;rw[xQ,dn,show(a:Int)+(k:Int)=((a+k:Nat):Int) by omega];by_cases h:a+k<F.length
 .rw[dI (zX (by rw[bK];omega)),bV (dV),zY h,(av8 (hF.txt _ (aG h))).1,bG,abI h]
 .rw[bV (lQ (by rw[bK];omega)),KQ];rfl
theorem oV (a:Nat) (l:List Nd) (u d:Int) (e:a<100000000):xQ F (a:Int) l u d 0=a6 ((F,((a:Int),(l,(u,(d,()))))),(((Di F a).toNat:Int),())):=awc hF a 0 l u d (by omega)
theorem al1 (a:Nat) (l:List Nd) (u d:Int) (e:a<100000000):xQ F (a:Int) l u d 1=a6 ((F,((a:Int),(l,(u,(d,()))))),(((Di F (a+1)).toNat:Int),())):=awc hF a 1 l u d (by omega)
omit hF in
theorem ayM (S:bZ) (c:UInt8):leI 0 (ibW S (c.toNat:Int))=S.contains c:=by
 have:ibW S (c.toNat:Int)=Lib.indexByte S c:=by unfold ibW;congr 1;simp
 rw[this,as9];by_cases h:(S.takeWhile (· !=c)).length<S.length
 .rw[am h,lQ];have:=zA (· !=c) S h
  grind
 .rw[aq h,zX];have e: ∀x∈S,x≠c:=fun x d=>by
   obtain⟨i,f,rfl⟩:=List.getElem_of_mem d
   grind [EN]
  grind
theorem Yj (a:Nat) (l:List Nd) (u d:Int) (f:a<100000000) (o:bZ) (h0:o.contains 0=false):Wl F (a:Int) l u d o=a6 ((F,((a:Int),(l,(u,(d,()))))),(fG F a o,())):=by
 rw[Wl,oV hF a l u d f,bG];simp only;unfold fG;by_cases h:Di F a=0
 .rw[h,show(!bP (((0:UInt8).toNat:Nat):Int) 0)=false from rfl,ac,h0,Bool.and_false]
 .have g:a<F.length:=by
   grind [KQ]
  rw[dX fun e=>h (UInt8.toNat_inj.1 (by simp_all))];simp only[az,aa];rw[adm,ai7,bG,bG];simp only[ayM,decide_eq_true g,aS]
def tk (F:List Lf) (a:Nat) (o:bZ):Nat:=if fG F a o=true then a+1 else a
theorem mV (a:Nat) (l:List Nd) (u d:Int) (e:a<100000000) (o:bZ) (h0:o.contains 0=false):rD F (a:Int) l u d o=a6 ((F,(((tk F a o:Nat):Int),(l,(u,(d,()))))),(fG F a o,())):=by
 rw[rD,Yj hF a l u d e o h0,bG];simp only;unfold tk;cases h:fG F a o with
 |false=>rfl
 |true=>
  simp only[au,ac,if_true]
  grind [dn]
def lnF (F:List Lf):Nat->Nat->Nat
 |0,a=>a
 |n+1,a=>if fG F a [110]=true then lnF F n (a+1)else a
def ln (F:List Lf) (a:Nat):Nat:=lnF F (F.length+1) a
omit hF in
theorem aed: ∀(n m a:Nat),F.length<n+a->F.length<m+a->lnF F n a=lnF F m a
 |0,0,a,_,_=>rfl
 |0,m+1,a,h,_=>by
  rw[lnF,lnF,aq];intro d;have:=gZ d;omega
 |n+1,0,a,_,h=>by
  rw[lnF,lnF,aq];intro d;have:=gZ d;omega
 |n+1,m+1,a,e,f=>by
  rw[lnF,lnF];split
  .exact aed n m (a+1) (by omega) (by omega)
  .rfl
omit hF in
theorem JS (a:Nat):ln F a=if fG F a [110]=true then ln F (a+1)else a:=by
 grind [ln,lnF,aed]
omit hF in
theorem agX: ∀(n a:Nat),a<=lnF F n a
 |0,a=>ae _
 |n+1,a=>by
  rw[lnF];split
  .have:=agX n (a+1);omega
  omega
omit hF in
theorem xk (a:Nat):a<=ln F a:=agX _ _
omit hF in
theorem aub: ∀(n a:Nat),a<=F.length->lnF F n a<=F.length
 |0,a,h=>h
 |n+1,a,h=>by
  rw[lnF];split
  .rename_i d
   exact aub n (a+1) (gZ d)
  .exact h
omit hF in
theorem xX {a:Nat} (h:a<=F.length):ln F a<=F.length:=aub _ _ h
theorem TE (l:List Nd) (u d:Int) (v:Bool): ∀(N a:Nat),F.length+1-a<N->a<=F.length->
  JV N v F (a:Int) u d l=a6 (.inl ((v,()),((),()),((F,((ln F a:Nat):Int),u,d,()),l,())))
 |0,a,h,_=>by omega
 |N+1,a,h,e=>by
  have:=hF.len;rw[JV,Qq,mV hF a l u d (by omega) [110] rfl,bG,JS];simp only;unfold tk;cases h':fG F a [110]with
  |false=>rfl
  |true=>
   simp only[aa,if_true];exact TE l u d v N (a+1) (by omega) (gZ h')
theorem nP (a:Nat) (l:List Nd) (u d:Int) (e:a<=F.length):pJ F (a:Int) l u d=a6 ((F,(((ln F a:Nat):Int),(l,(u,(d,()))))),(fG F a [110],())):=by
 have:=hF.len;rw[pJ,mV hF a l u d (by omega) [110] rfl,bG];simp only;have hl:tk F a [110]<=F.length:=by
  unfold tk;split
  .rename_i h;exact gZ h
  .exact e
 rw[TE hF l u d _ bM (tk F a [110]) (dK) hl,bG];simp only[dN];have:ln F (tk F a [110])=ln F a:=by
  unfold tk;split
  .rename_i h;rw[JS a,am h]
  .rfl
 rw[this]
omit hF in
theorem aez (l:List Nd) (k a u t:Int):gX (bT l [(k,(a,(0,(u,()))))]) (dC (bI l)) ((dJ (bT l [(k,(a,(0,(u,()))))]) (0,(0,(0,(0,())))) (dC (bI l))).1,((dJ (bT l [(k,(a,(0,(u,()))))]) (0,(0,(0,(0,())))) (dC (bI l))).2.1,(t,((dJ (bT l [(k,(a,(0,(u,()))))]) (0,(0,(0,(0,())))) (dC (bI l))).2.2.2.1,()))))=l++[(k,a,t,u,())]:=by
 simp_all [dC,bK,gX,bT,dJ]
omit hF in
theorem kU (l:List Nd) (x:Nd) (hl:l.length<1000000000):dY (bT l [x]) 32=true/\fD (bT l [x]) (bI l)=true/\lZ (dC (bI l)) (bT l [x])=true:=
 ⟨aBB (by grind [bT]),dV (by rw[bK];omega) (by grind [bK,bT]),l9 (by unfold bT;simp[dC,bK])⟩
omit hF in
theorem Iq (a:Nat) (l:List Nd) (u d k:Int) (h:a<100000000) (hl:l.length<1000000000):SS F (a:Int) l u d k=a6 ((F,(((a+1:Nat):Int),(l++[(k,(a:Int),((a+1:Nat):Int),u,())],(u,(d,()))))),()):=by
 obtain⟨e,f,g⟩:=kU l (k,((a:Int),(0,(u,())))) hl;rw[SS];simp only[eP,ay,aa,e,f,g,aez]
 grind [dn]
omit hF in
theorem nz (a:Nat) (l:List Nd) (u d:Int) (hl:l.length<1000000000):xR F (a:Int) l u d=a6 ((F,((a:Int),(l++[(18,(a:Int),(a:Int),u,())],(u,(d,()))))),()):=by
 obtain⟨e,f,g⟩:=kU l (18,((a:Int),(0,(u,())))) hl;rw[xR];simp only[eP,ay,aa,e,f,g,aez]
def qp (F:List Lf) (a:Nat) (o:bZ):Nat:=tk F a o
def wnL (F:List Lf) (a:Nat) (o:bZ) (l:List Nd) (u:Int):List Nd:=if fG F a o=true then l else l++[(18,(a:Int),(a:Int),u,())]
theorem zB (a:Nat) (l:List Nd) (u d:Int) (e:a<100000000) (hl:l.length<1000000000) (o:bZ) (h0:o.contains 0=false):rG F (a:Int) l u d o=a6 ((F,(((qp F a o:Nat):Int),(wnL F a o l u,(u,(d,()))))),()):=by
 rw[rG,mV hF a l u d e o h0,bG];unfold qp wnL tk;cases h:fG F a o with
 |true=>rfl
 |false=>
  simp_all [nz,bG]
def Bv (F:List Lf) (a:Nat):Bool:=if h:a<F.length then decide (F[a].1=6)else false
omit hF in
theorem YV {a:Nat} (h:Bv F a=true):a<F.length:=by
 grind [Bv]
omit hF in
theorem zU (a:Nat) (l:List Nd) (u d:Int):Oo F (a:Int) l u d=a6 ((F,((a:Int),(l,(u,(d,()))))),(Bv F a,())):=by
 rw[Oo];unfold Bv;by_cases h:a<F.length
 .simp_all [eH,bK,dV,zY,ik]
 simp_all [ig,bK,dif_neg]
def C9 (F:List Lf) (a:Nat):Nat:=if Bv F a=true then a+1 else a
def wdL (F:List Lf) (a:Nat) (l:List Nd) (u:Int):List Nd:=if Bv F a=true then l++[(7,(a:Int),((a+1:Nat):Int),u,())]else l++[(18,(a:Int),(a:Int),u,())]
omit hF in
theorem Vh (a:Nat) (l:List Nd) (u d:Int) (e:a<100000000) (hl:l.length<1000000000):Om F (a:Int) l u d=a6 ((F,(((C9 F a:Nat):Int),(wdL F a l u,(u,(d,()))))),()):=by
 rw[Om,zU a l u d,bG];unfold C9 wdL;cases h:Bv F a with
 |true=>
  simp_all [Iq,bG]
 |false=>
  simp_all [nz,bG]
def Dh (F:List Lf) (a:Nat):Bool:=fG F a [60]||fG F a [35]&&decide (Di F (a+1)=60)
def Ic (F:List Lf) (a:Nat) (d:Int):Bool:=decide (d<200)&&fG F a [123,40,105,119,114,99]
def Jp (F:List Lf) (a:Nat) (d:Int):Bool:=fG F a [120]||(Dh F a||Ic F a d)
def qF (F:List Lf) (a:Nat) (d:Int):Bool:=fG F a [33]||Jp F a d
omit hF in
theorem Xp (a:Nat) (c:UInt8) (d:c≠0):bP ((Di F a).toNat:Int) (c.toNat:Int)=fG F a [c]:=by
 unfold fG;rw[ik];by_cases h:a<F.length
 .rw[decide_eq_true h,aS,Bool.eq_iff_iff,decide_eq_true_eq];simp only[List.contains_cons,List.contains_nil,Bool.or_false,beq_iff_eq]
  grind [UInt8.toNat_inj]
 .rw[decide_eq_false h,Bool.false_and,KQ];refine decide_eq_false fun e=>d (UInt8.toNat_inj.1 ?_);omega
theorem Eu (a:Nat) (l:List Nd) (u d:Int) (f:a<10000000):adn F (a:Int) l u d=a6 ((F,((a:Int),(l,(u,(d,()))))),(Dh F a,())):=by
 rw[adn,oV hF a l u d (by omega),bG];simp only;rw[show bP ((Di F a).toNat:Int) 60=fG F a [60] from Xp a 60 (by decide),show bP ((Di F a).toNat:Int) 35=fG F a [35] from Xp a 35 (by decide)];unfold Dh;cases fG F a [60]with
 |true=>rfl
 |false=>
  cases fG F a [35]with
  |false=>rfl
  |true=>
   simp only[aa,ac,Bool.false_or,aS];rw[al1 hF a l u d (by omega),bG];simp only[ik];congr 3;rw[decide_eq_decide];constructor
   .intro e;exact UInt8.toNat_inj.1 (by grind)
   simp_all
theorem Dt (a:Nat) (l:List Nd) (u d:Int) (e:a<10000000):Wq F (a:Int) l u d=a6 ((F,((a:Int),(l,(u,(d,()))))),(Ic F a d,())):=by
 rw[Wq];unfold Ic;by_cases h:d<200
 .rw[bV (eH h),Yj hF a l u d (by omega) _ rfl,bG,decide_eq_true h,aS]
 simp_all [ig,decide_eq_false]
theorem RN (a:Nat) (l:List Nd) (u d:Int) (e:a<10000000):ada F (a:Int) l u d=a6 ((F,((a:Int),(l,(u,(d,()))))),(Jp F a d,())):=by
 rw[ada,oV hF a l u d (by omega),bG];simp only;rw[show bP ((Di F a).toNat:Int) 120=fG F a [120] from Xp a 120 (by decide)];unfold Jp;cases fG F a [120]with
 |true=>rfl
 |false=>
  simp only[ac,Bool.false_or];rw[Eu hF a l u d e,bG];simp only;cases Dh F a with
  |true=>rfl
  |false=>
   simp_all [Dt,bG]
theorem Cf (a:Nat) (l:List Nd) (u d:Int) (e:a<10000000):YL F (a:Int) l u d=a6 ((F,((a:Int),(l,(u,(d,()))))),(qF F a d,())):=by
 rw[YL,oV hF a l u d (by omega),bG];simp only;rw[show bP ((Di F a).toNat:Int) 33=fG F a [33] from Xp a 33 (by decide)];unfold qF;cases fG F a [33]with
 |true=>rfl
 |false=>
  simp_all [RN,bG]
end
section
open Option renaming some → a6, none → a7
open Bool renaming false_eq_true → ah, and_true → ay, true_and → aS
open List renaming drop_eq_getElem_cons → aA, drop_zero → aJ, drop_of_length_le → aQ
open Go.RowKit
theorem adI (c:UInt8) (o:bZ) (d:o.length<1000000): ∀(N k:Nat),o.length-k<N->k<=o.length->
  BK N (c.toNat:Int) o (k:Int)=a6 (if(o.drop k).contains c=true then .inr ((true,()),())else .inl ((),()))
 |0,k,h,_=>by omega
 |N+1,k,h,hk=>by
  rw[BK,UO];by_cases e:k<o.length
  .rw[bV (eH (by rw[bK];omega)),bV (dV),byte_at e,aA e];by_cases h1:o[k]=c
   .simp_all [fK]
   .rw[dI (dX fun h=>h1 (UInt8.toNat_inj.1 (by omega))),dn,show(k:Int)+1=((k+1:Nat):Int) by omega,adI c o d N (k+1) (by omega) (by omega)]
    grind
  simp_all [ig,bK,aQ]
theorem aJC (c:UInt8) (o:bZ) (d:o.length<1000000):Gy (c.toNat:Int) o=a6 (o.contains c,()):=by
 have h:=adI c o d bM 0 (dK) (by omega);rw[Gy,show BK bM (c.toNat:Int) o 0=_ from h,bG,aJ];cases o.contains c with
 |true=>rfl
 |false=>rfl
abbrev iT (F:List Lf):bZ:=F.map sgn
variable {F:List Lf} (hF:OkF F)
include hF
omit hF in
theorem zx {a:Nat} (h:a<F.length):bY (iT F) (a:Int)=((Di F a).toNat:Int):=by
 simp_all [byte_at,abI]
omit hF in
theorem jh (a:Nat) (l:List Nd) (u d:Int) (o:bZ) (e:o.length<1000000):nU F (iT F) l (a:Int) u d o=a6 ((F,(iT F,(l,((a:Int),(u,(d,())))))),(fG F a o,())):=by
 rw[nU];unfold fG;by_cases h:a<F.length
 .rw[bV (eH (by simp_all [bK])),bV (dV (by omega) (by simp_all)),zx h,aJC _ o e,bG,decide_eq_true h,aS]
 simp_all [ig,bK,decide_eq_false]
theorem JR (l:List Nd) (u d:Int): ∀(N a:Nat) (v:Int),F.length+1-a<N->a<=F.length->0<=v->v<=a->
  ∃e:Int,TM N v F (iT F) (a:Int) u d l=a6 (.inl ((e,()),((),()),((F,iT F,((ln F a:Nat):Int),u,d,()),l,())))/\e=v+((ln F a:Nat):Int)-a
 |0,a,v,h,_,_,_=>by omega
 |N+1,a,v,h,f,g,i=>by
  have:=hF.len;rw[TM,acd,jh a l u d [110] (by simp),bG,JS];simp only;cases h':fG F a [110]with
  |false=>simp
  |true=>
   simp only[aa,if_true];rw[dn,dn,show(a:Int)+1=((a+1:Nat):Int) by omega];obtain⟨e,j,o⟩:=JR l u d N (a+1) (v+1) (by omega) (gZ h') (by omega) (by omega)
   grind
omit hF in
theorem aHY (a:Nat):fG F a [110]=decide (a<ln F a):=by
 rw[JS];cases h:fG F a [110]with
 |false=>simp
 |true=>
  have:=xk (F:=F) (a+1)
  grind
theorem mG (a:Nat) (l:List Nd) (u d:Int) (e:a<=F.length):rU F (iT F) l (a:Int) u d=a6 ((F,(iT F,(l,(((ln F a:Nat):Int),(u,(d,())))))),(((ln F a:Nat):Int)-a,())):=by
 have:=hF.len;rw[rU];obtain⟨f,g,h⟩:=JR hF l u d bM a 0 (dK) e (by omega) (by omega);simp_all [bG,dN]
def jB (k:Int):Bool:=decide (9<=k)&&decide (k<=14)||decide (k=16)
omit hF in
theorem akz {k:Int} (d:1<=k) (h2:k<=18):asT k=a6 (jB k,()):=by
 have: ∀n:Fin 19,n.val≠0->asT ((n.val:Nat):Int)=a6 (jB ((n.val:Nat):Int),()):=by decide+kernel
 have:=this ⟨k.toNat,by omega⟩ (by simp only;omega)
 grind
omit hF in
theorem lH (a:Nat) (l:List Nd) (u d:Int) {k:Int} (e:1<=k) (h2:k<=18) (hl:l.length<1000000000) (hd:0<=d) (h:d<1000000000):
  Df F (iT F) l (a:Int) u d k=a6 ((F,(iT F,(l++[(k,(a:Int),0,u,())],((a:Int),(((l.length:Nat):Int),((if jB k=true then d+1 else d),())))))),(u,())):=by
 have f:dY (bT l [(k,((a:Int),(0,(u,()))))]) 32=true:=aBB (by grind [bT]);have g:eU .i64 (bI (bT l [(k,((a:Int),(0,(u,()))))])) 1=((l.length:Nat):Int):=by
  grind [bT,bK,iw]
 rw[Df];simp only[eP,ay,aa,f,akz e h2,bG,g];cases jB k with
 |true=>
  simp only[aa,if_true];rw[dn];rfl
 |false=>rfl
def ac1 (l:List Nd) (i:Nat) (t:Int):List Nd:=gX l i ((dJ l AU i).1,(dJ l AU i).2.1,t,(dJ l AU i).2.2.2.1,())
omit hF in
theorem aq0 (l:List Nd) (i:Nat) (t:Int):(ac1 l i t).length=l.length:=vT
omit hF in
theorem uT (a:Nat) (l:List Nd) (u d:Int) (i:Nat) (hi:i<l.length) {k:Int} (hk:(dJ l AU i).1=k) (f:1<=k) (h2:k<=18) (hd:0<=d) (o:d<1000000000):
  pK F (iT F) l (a:Int) ((i:Nat):Int) d u=a6 ((F,(iT F,(ac1 l i (a:Int),((a:Int),(u,((if jB k=true then d-1 else d),())))))),()):=by
 have g:dC ((i:Nat):Int)=i:=by simp[dC]
 have h: ∀x,fD (gX l i x) ((i:Nat):Int)=true:=fun x=>dV (by omega) (by rw[vT];omega);have j: ∀x,lZ i (gX l i x)=true:=fun x=>l9 (by rw[vT];exact hi);have iV: ∀x,dJ (gX l i x) (0,(0,(0,(0,())))) i=x:=fun x=>FY hi
 (rewrite [pK];delta L6;rw[bV (dV),g,bV (l9 hi)])
 simp only[h,j,iV,aa];have e:(dJ l (0,(0,(0,(0,())))) i).1=k:=hk;rw[e,akz f h2,bG];simp only;unfold ac1;rw[show AU=(0,(0,(0,(0,())))) from rfl,e];cases jB k with
 |true=>
  simp only[aa,if_true]
  grind [iw]
 |false=>rfl
omit hF in
theorem Ua (l:List Nd) (x:Nd):dJ (l++[x]) AU l.length=x:=by
 simp_all [dJ]
omit hF in
theorem V8 (l:List Nd) (k a u t:Int):ac1 (l++[(k,a,0,u,())]) l.length t=l++[(k,a,t,u,())]:=by
 grind [ac1,Ua,gX]
omit hF in
theorem xn (a:Nat) (l:List Nd) (u d:Int) (hl:l.length<1000000000) (hd:0<=d) (e:d<1000000000):
  uw F (iT F) l (a:Int) u d=a6 ((F,(iT F,(l++[(18,(a:Int),(a:Int),u,())],((a:Int),(u,(d,())))))),()):=by
 rw[uw,lH a l u d (by omega) (by omega) hl hd e,bG];simp only;rw[show jB 18=false from rfl,aq (by simp),uT a _ u d l.length (by simp) (by rw[Ua]) (by omega) (by omega) hd e,bG];simp only[V8,show jB 18=false from rfl,ah,if_false]
omit hF in
theorem OX (a:Nat) (l:List Nd) (u d:Int) {k:Int} (e:1<=k) (h2:k<=18) (g:jB k=false) (h:a<100000000) (hl:l.length<1000000000) (hd:0<=d) (f:d<1000000000):
  LZ F (iT F) l (a:Int) u d k=a6 ((F,(iT F,(l++[(k,(a:Int),((a+1:Nat):Int),u,())],(((a+1:Nat):Int),(u,(d,())))))),()):=by
 rw[LZ,lH a l u d e h2 hl hd f,bG];simp only;rw[g,aq (by simp),dn,show(a:Int)+1=((a+1:Nat):Int) by omega,uT (a+1) _ u d l.length (by simp) (by rw[Ua]) e h2 hd f,bG];simp_all [V8]
omit hF in
theorem zC (a:Nat) (l:List Nd) (u d:Int) (f:a<100000000) (hl:l.length<1000000000) (hd:0<=d) (g:d<1000000000) (o:bZ) (e:o.length<1000000):
  mX F (iT F) l (a:Int) u d o=a6 ((F,(iT F,(wnL F a o l u,(((qp F a o:Nat):Int),(u,(d,())))))),()):=by
 rw[mX,jh a l u d o e,bG];unfold qp wnL tk;cases h:fG F a o with
 |true=>
  simp only[aa,if_true]
  grind [dn]
 |false=>
  simp_all [xn,bG]
omit hF in
theorem acz (a:Nat) (l:List Nd) (u d:Int) (e:a<100000000) (hl:l.length<1000000000) (hd:0<=d) (f:d<1000000000):
  wX F (iT F) l (a:Int) u d=a6 ((F,(iT F,(wdL F a l u,(((C9 F a:Nat):Int),(u,(d,())))))),()):=by
 rw[wX];unfold wdL C9 Bv;by_cases h:a<F.length
 .rw[bV (eH (by rw[bK];omega)),bV (dV),zY h];simp only[dif_pos h,decide_eq_true_eq];by_cases h6:F[a].1=6
  .rw[bV (fK h6),OX a l u d (by omega) (by omega) rfl e hl hd f,bG,am h6,am h6]
  simp_all [dX,xn,bG]
 simp_all [ig,bK,xn,bG,dif_neg]
omit hF in
theorem yM (a:Nat) (l:List Nd) (u d:Int) (f:a<10000000):Wp F (iT F) l (a:Int) u d=a6 ((F,(iT F,(l,((a:Int),(u,(d,())))))),(Dh F a,())):=by
 rw[Wp,jh a l u d [60] (by simp),bG];unfold Dh;simp only;cases fG F a [60]with
 |true=>rfl
 |false=>
  simp only[ac,Bool.false_or];rw[jh a l u d [35] (by simp),bG];simp only;cases fG F a [35]with
  |false=>rfl
  |true=>
   simp only[aa,aS];rw[dn,show(a:Int)+1=((a+1:Nat):Int) by omega];by_cases h:a+1<F.length
   .rw[bV (eH (by grind [bK])),bV (dV (by omega) (by grind)),zx h];simp only[ik];congr 3;rw[decide_eq_decide];constructor
    .intro e;exact UInt8.toNat_inj.1 (by grind)
    simp_all
   .rw[dI (ig (by grind [bK])),KQ];rfl
omit hF in
theorem wJ (a:Nat) (l:List Nd) (u d:Int):SB F (iT F) l (a:Int) u d=a6 ((F,(iT F,(l,((a:Int),(u,(d,())))))),(Ic F a d,())):=by
 rw[SB,jh a l u d _ (by simp),bG]
 grind [Ic,gV]
omit hF in
theorem VV (a:Nat) (l:List Nd) (u d:Int) (e:a<10000000):asU F (iT F) l (a:Int) u d=a6 ((F,(iT F,(l,((a:Int),(u,(d,())))))),(Jp F a d,())):=by
 rw[asU,jh a l u d [120] (by simp),bG];unfold Jp;simp only;cases fG F a [120]with
 |true=>rfl
 |false=>
  simp only[ac,Bool.false_or];rw[yM a l u d e,bG];simp only;cases Dh F a with
  |true=>rfl
  |false=>
   simp_all [wJ,bG]
omit hF in
theorem HY (a:Nat) (l:List Nd) (u d:Int) (e:a<10000000):PD F (iT F) l (a:Int) u d=a6 ((F,(iT F,(l,((a:Int),(u,(d,())))))),(qF F a d,())):=by
 rw[PD,jh a l u d [33] (by simp),bG];unfold qF;simp only;cases fG F a [33]with
 |true=>rfl
 |false=>
  simp_all [VV,bG]
end
section
open Option renaming some → a6, none → a7
open List renaming append_assoc → ag
open Nat renaming le_refl → ae
open Go.RowKit
abbrev opn (k:Int) (a:Nat) (u:Int):Nd:=(k,((a:Int),(0,(u,()))))
abbrev PR (F:List Lf) (a:Nat) (l:List Nd) (u d:Int):List Lf×Int×List Nd×Int×Int×Unit:=(F,((a:Int),(l,(u,(d,())))))
abbrev RR (F:List Lf) (a:Nat) (l:List Nd) (u d:Int):List Lf×List UInt8×List Nd×Int×Int×Int×Unit:=(F,(iT F,(l,((a:Int),(u,(d,()))))))
theorem lJ (l m:List Nd) (k a u t:Int):gX (bT l [(k,(a,(0,(u,()))))]++m) (dC (bI l)) ((dJ (bT l [(k,(a,(0,(u,()))))]++m) (0,(0,(0,(0,())))) (dC (bI l))).1,((dJ (bT l [(k,(a,(0,(u,()))))]++m) (0,(0,(0,(0,())))) (dC (bI l))).2.1,(t,((dJ (bT l [(k,(a,(0,(u,()))))]++m) (0,(0,(0,(0,())))) (dC (bI l))).2.2.2.1,()))))=l++(k,a,t,u,())::m:=by
 have d:dC (bI l)=l.length:=by simp[dC,bK]
 simp_all [dJ,bT,gX]
theorem qE (l m:List Nd) (x:Nd):fD (bT l [x]++m) (bI l)=true/\lZ (dC (bI l)) (bT l [x]++m)=true:=
 ⟨dV (by rw[bK];omega) (by grind [bK,bT]),l9 (by unfold bT;simp[dC,bK])⟩
theorem oJ (l m:List Nd) (k a u t:Int):ac1 ((l++[(k,a,0,u,())])++m) l.length t=l++(k,a,t,u,())::m:=by
 unfold ac1;simp_all [dJ,gX]
theorem oN (l m:List Nd) (k a u:Int):(dJ ((l++[(k,a,0,u,())])++m) AU l.length).1=k:=by
 simp_all [dJ]
def LfG (F:List Lf) (d:Int) (f:Nat):Prop:=d=6\/d=7-> ∃h:f<F.length,F[f].1=6
def RdG (F:List Lf) (f t:Nat) (m:List Nd):Prop:= ∃p,(p=f\/p=f+1/\fG F f [35]=true)/\fG F p [60]=true/\((t=p+2/\ ∃u,m=[(7,((p+1:Nat):Int),((p+2:Nat):Int),u,())])\/(t=p+1/\ ∃u,m=[(18,((p+1:Nat):Int),((p+1:Nat):Int),u,())]))
inductive Tr (F:List Lf):Nat->Nat->Int->Nat->List Nd->Prop
 |nil {a b:Nat} {u:Int} {k:Nat} (h:a<=b):Tr F a b u k []
 |leaf {a b f t:Nat} {u:Int} {k:Nat} {kd:Int} {m:List Nd} (h1:a<=f) (hk:kd=18/\t=f\/(kd=6\/kd=7\/kd=17)/\t=f+1) (hf:LfG F kd f) (h2:Tr F t b u (k+1) m):Tr F a b u k ((kd,(f:Int),(t:Int),u,())::m)
 |node {a b f t:Nat} {u:Int} {k:Nat} {kd:Int} {m n:List Nd} (h1:a<=f) (hk:2<=kd/\kd<=16/\kd≠6/\kd≠7) (h8:kd=8->RdG F f t m) (h:Tr F f t (k:Int) (k+1) m) (h2:Tr F t b u (k+1+m.length) n):Tr F a b u k ((kd,(f:Int),(t:Int),u,())::(m++n))
section
variable {F:List Lf}
theorem Tr.le {a b:Nat} {u:Int} {k:Nat} {m:List Nd} (h:Tr F a b u k m):a<=b:=by
 induction h with
 |nil h=>exact h
 |leaf h1 hk _ _ d=>omega
 |node h1 _ _ _ _ ih1 e=>omega
theorem Tr.wide {a b:Nat} {u:Int} {k:Nat} {m:List Nd} (h:Tr F a b u k m): ∀{e f:Nat},e<=a->b<=f->Tr F e f u k m:=by
 induction h with
 |nil h=>exact fun g o=>.nil (by omega)
 |leaf g hk hf _ i=>exact fun j d=>.leaf (by omega) hk hf (i (ae _) d)
 |node g hk h8 h _ _ l=>exact fun j d=>.node (by omega) hk h8 h (l (ae _) d)
theorem Tr.app {a b:Nat} {u:Int} {k:Nat} {m:List Nd} (h:Tr F a b u k m): ∀{c e j:Nat} {n:List Nd},Tr F c e u j n->b<=c->j=k+m.length->Tr F a e u k (m++n):=by
 induction h with
 |nil h=>exact fun d q g=>by subst g;exact d.wide (by omega) (ae _)
 |leaf d hk hf _ l=>exact fun g i o=>.leaf d hk hf (l g i (by grind))
 | @node a b f t u k kd m n' d hk h8 h _ _ p=>
  intro c e j n g i o;rw[List.cons_append,ag];exact .node d hk h8 h (p g i (by grind))
theorem Tr.ap {a b c e:Nat} {u:Int} {k j:Nat} {m n:List Nd} (h:Tr F a b u k m) (h2:Tr F c e u j n) (d:b<=c:=by omega) (f:j=k+m.length:=by first|omega|grind):Tr F a e u k (m++n):=h.app h2 d f
theorem Tr.apA {a b c e:Nat} {u:Int} {k:Nat} {m n:List Nd} (h:Tr F a b u k m) (h2: ∀j,Tr F c e u j n) (d:b<=c:=by omega):Tr F a e u k (m++n):=h.app (h2 _) d rfl
theorem Tr.one {a b f t:Nat} {u:Int} {k j:Nat} {d:Int} {m:List Nd} (h:Tr F f t (j:Int) (j+1) m) (e:a<=f) (h2:t<=b) (hk:2<=d/\d<=16/\d≠6/\d≠7) (g:j=k) (i:d=8->RdG F f t m:=by intro h;exfalso;omega):Tr F a b u k ((d,(f:Int),(t:Int),u,())::m):=by
 subst g;have:=Tr.node (n:=[]) (u:=u) e hk i h (.nil h2);simp_all
theorem Tr.mis {a b f:Nat} {u:Int} {k:Nat} (d:a<=f) (h2:f<=b):Tr F a b u k [(18,(f:Int),(f:Int),u,())]:=.leaf d (.inl ⟨rfl,rfl⟩) (fun h=>by exfalso;omega) (.nil h2)
theorem Tr.lf {a b f:Nat} {u:Int} {k:Nat} {d:Int} (e:a<=f) (h2:f+1<=b) (hk:d=6\/d=7\/d=17) (hf:LfG F d f):Tr F a b u k [(d,(f:Int),((f+1:Nat):Int),u,())]:=.leaf e (.inr ⟨hk,rfl⟩) hf (.nil h2)
end
structure Jb (F:List Lf) (a:Nat) (l:List Nd) (d:Int) (K:Nat):Prop where
 len:a<=F.length
 nod:l.length<=16*a+K
 d0:0<=d
 d1:d<=200
structure All (F:List Lf) (n:Nat):Prop where
 list: ∀(a:Nat) (l:List Nd) (u d:Int) (r r':Nat),16*(F.length-a)+12<n->n<=r->n<=r'->Jb F a l d 110->qF F a d=true->
  ∃(a':Nat) (m:List Nd),(gI r).q71 F (a:Int) (bT l [opn 2 a u]) (bI l) d=a6 (PR F a' (bT l [opn 2 a u]++m) (bI l) d,())/\
   (gU r').q52 F (iT F) l (a:Int) u d=a6 (RR F a' (l++(2,(a:Int),(a':Int),u,())::m) u d,())/\a<a'/\a'<=F.length/\m.length+1<=16*(a'-a)/\Tr F a a' (bI l) (l.length+1) m
 andor: ∀(a:Nat) (l:List Nd) (u d:Int) (r r':Nat),16*(F.length-a)+11<n->n<=r->n<=r'->Jb F a l d 111->qF F a d=true->
  ∃(a':Nat) (m:List Nd),(gI r).q105 F (a:Int) (bT l [opn 3 a u]) (bI l) d=a6 (PR F a' (bT l [opn 3 a u]++m) (bI l) d,())/\
   (gU r').q88 F (iT F) l (a:Int) u d=a6 (RR F a' (l++(3,(a:Int),(a':Int),u,())::m) u d,())/\a<a'/\a'<=F.length/\m.length+2<=16*(a'-a)/\Tr F a a' (bI l) (l.length+1) m
 pipe: ∀(a:Nat) (l:List Nd) (u d:Int) (r r':Nat),16*(F.length-a)+10<n->n<=r->n<=r'->Jb F a l d 112->qF F a d=true->
  ∃(a':Nat) (m:List Nd),(gI r).q148 F (a:Int) l u d=a6 (PR F a' (l++m) u d,())/\
   (gU r').q121 F (iT F) l (a:Int) u d=a6 (RR F a' (l++m) u d,())/\a<a'/\a'<=F.length/\m.length+2<=16*(a'-a)/\Tr F a a' u l.length m
 nopipe: ∀(a:Nat) (l:List Nd) (u d:Int) (r:Nat),10<n->n<=r->Jb F a l d 130->qF F a d=false->
  (gI r).q148 F (a:Int) l u d=a6 (PR F a (l++[(18,(a:Int),(a:Int),u,())]) u d,())
 command: ∀(a:Nat) (l:List Nd) (u d:Int) (r r':Nat),16*(F.length-a)+9<n->n<=r->n<=r'->Jb F a l d 113->
  ∃(a':Nat) (m:List Nd),(gI r).q177 F (a:Int) l u d=a6 (PR F a' (l++m) u d,())/\
   (gU r').q155 F (iT F) l (a:Int) u d=a6 (RR F a' (l++m) u d,())/\a<=a'/\a'<=F.length/\(m.length<=16*(a'-a)+1/\Tr F a a' u l.length m)/\(Jp F a d=true->a<a'/\m.length+3<=16*(a'-a))
 compound: ∀(a:Nat) (l:List Nd) (u d:Int) (r r':Nat),16*(F.length-a)+8<n->n<=r->n<=r'->Jb F a l d 113->Ic F a d=true->
  ∃(a':Nat) (m:List Nd),(gI r).q219 F (a:Int) l u d=a6 (PR F a' (l++m) u d,())/\
   (gU r').q186 F (iT F) l (a:Int) u d=a6 (RR F a' (l++m) u d,())/\a<a'/\a'<=F.length/\m.length+3<=16*(a'-a)/\Tr F a a' u l.length m
 body: ∀(a:Nat) (l:List Nd) (u d:Int) (r r':Nat),16*(F.length-a)+13<n->n<=r->n<=r'->Jb F a l d 110->
  ∃(a':Nat) (m:List Nd),(gI r).q268 F (a:Int) l u d=a6 (PR F a' (l++m) u d,())/\
   (gU r').q230 F (iT F) l (a:Int) u d=a6 (RR F a' (l++m) u d,())/\a<=a'/\a'<=F.length/\m.length<=16*(a'-a)+1/\Tr F a a' u l.length m
variable {F:List Lf} (hF:OkF F)
include hF
theorem amE {n:Nat} (h:All F n) (a:Nat) (l:List Nd) (u d:Int) (r f:Nat) (y:16*(F.length-a)+13<n+1) (hr:n+1<=r) (z:n+1<=f) (hp:Jb F a l d 110):
  ∃(e:Nat) (m:List Nd),(gI r).q268 F (a:Int) l u d=a6 (PR F e (l++m) u d,())/\
   (gU f).q230 F (iT F) l (a:Int) u d=a6 (RR F e (l++m) u d,())/\a<=e/\e<=F.length/\m.length<=16*(e-a)+1/\Tr F a e u l.length m:=by
 obtain⟨i,A,p,s⟩:=hp;have B:=hF.len;obtain⟨q,rfl⟩: ∃q,r=q+1:=⟨r-1,by omega⟩;obtain⟨g,rfl⟩: ∃g,f=g+1:=⟨f-1,by omega⟩;have j:=xk (F:=F) a;have o:=xX (F:=F) i;show ∃(e:Nat) (m:List Nd),asC (gI q) F (a:Int) l u d=_/\ast (gU g) F (iT F) l (a:Int) u d=_/\_;rw[asC,ast,nP hF a l u d i,mG hF a l u d i,bG,bG];simp only;rw[Cf hF (ln F a) l u d (by omega),HY (ln F a) l u d (by omega),bG,bG];simp only;cases hb:qF F (ln F a) d with
 |true=>
  obtain⟨D,E,G⟩:=kU l (opn 2 (ln F a) u) (by omega);obtain⟨e,m,I,J,K,v,x⟩:=h.list (ln F a) l u d q g (by omega) (by omega) (by omega) ⟨o,by omega,p,s⟩ hb;obtain⟨M,N⟩:=qE l m (opn 2 (ln F a) u);refine⟨e,(2,((ln F a:Nat):Int),(e:Int),u,())::m, ?_, ?_,by omega,v,by grind,x.2.one j (ae _) (by omega) rfl⟩
  .simp_all [eP,bG,lJ]
  simp_all [bG]
 |false=>
  refine⟨ln F a,[(18,((ln F a:Nat):Int),((ln F a:Nat):Int),u,())], ?_, ?_,j,o,by simp,.mis j (ae _)⟩
  .simp only[ac]
   grind [nz,bG]
  .simp only[ac]
   grind [xn,bG]
end
section
open Bool renaming false_eq_true → ah
open List renaming append_assoc → ag, length_append → ai, length_singleton → bu
open Nat renaming le_refl → ae
open Go.RowKit
variable {F:List Lf} (hF:OkF F)
include hF
omit hF in
theorem nJ {a:Nat} {o:List UInt8} (h:fG F a o=true):tk F a o=a+1:=by unfold tk;rw[am h]
omit hF in
theorem xC {a:Nat} {o:List UInt8} (h:fG F a o=false):tk F a o=a:=by unfold tk;rw[aq (by rw[h];simp)]
theorem H6 {n:Nat} (h:All F n) {q q':Nat} (f:n<=q) (g:n<=q') (u d v:Int) (hd:0<=d/\d<=200): ∀(N a:Nat) (L:List Nd),F.length-a<N->a<=F.length->16*(F.length-a)+10<n->L.length<=16*a+112->
  ∃(e:Nat) (m:List Nd),JU (gI q) N F (a:Int) u d L=some (.inl ((),((),()),((F,(e:Int),u,d,()),L++m,())))/\
   TL (gU q') N v F (iT F) (a:Int) u d L=some (.inl ((v,()),((),()),((F,iT F,(e:Int),u,d,()),L++m,())))/\a<=e/\e<=F.length/\m.length<=16*(e-a)/\Tr F a e u L.length m
 |0,a,L,x,_,_,_=>by omega
 |N+1,a,L,x,y,I,hL=>by
  have J:=hF.len;rw[JU,Qp,TL,acb,mV hF a L u d (by omega) [97,111] rfl,jh a L u d [97,111] (by simp),bG,bG];simp only;cases hb:fG F a [97,111]with
  |false=>
   rw[xC hb];exact⟨a,[],by simp,by simp,ae _,y,by simp,.nil (ae _)⟩
  |true=>
   have K:=gZ hb;have M:=xk (F:=F) (a+1);have i:=xX (F:=F) (a:=a+1) (by omega);rw[nJ hb];simp only[aa];rw[dn,show(a:Int)+1=((a+1:Nat):Int) by omega,nP hF (a+1) L u d (by omega),mG hF (a+1) L u d (by omega),bG,bG];simp only;rw[HY (ln F (a+1)) L u d (by omega),bG];simp only;cases hp:qF F (ln F (a+1)) d with
   |true=>
    obtain⟨z,s,A,B,O,D,E⟩:=h.pipe (ln F (a+1)) L u d q q' (by omega) f g ⟨i,by omega,hd.1,hd.2⟩ hp;rw[A,bG];simp only[aa];rw[B,bG];simp only;obtain⟨e,m,j,l,G,o,p⟩:=H6 h f g u d v hd N z (L++s) (by omega) D (by omega) (by rw[ai];omega);exact⟨e,s++m,by rw[j,ag],by rw[l,ag],by omega,o,by rw[ai];omega,(E.2.wide (by omega) (ae _)).app p.2 (ae _) (ai ..)⟩
   |false=>
    rw[h.nopipe (ln F (a+1)) L u d q (by omega) f ⟨i,by omega,hd.1,hd.2⟩ hp,bG];simp only[ac];rw[xn (ln F (a+1)) L u d (by omega) hd.1 (by omega),bG];simp only;obtain⟨e,m,j,l,G,o,p⟩:=H6 h f g u d v hd N (ln F (a+1)) (L++[(18,((ln F (a+1):Nat):Int),((ln F (a+1):Nat):Int),u,())]) (by omega) i (by omega) (by rw[ai,bu];omega);exact⟨e,[(18,((ln F (a+1):Nat):Int),((ln F (a+1):Nat):Int),u,())]++m,by rw[j,ag],by rw[l,ag],by omega,o,by rw[ai,bu];omega,(Tr.mis (by omega) (ae _)).app p.2 (ae _) (ai ..)⟩
theorem afK {n:Nat} (h:All F n) (a:Nat) (l:List Nd) (u d:Int) (r g:Nat) (J:16*(F.length-a)+11<n+1) (hr:n+1<=r) (K:n+1<=g) (hp:Jb F a l d 111) (hb:qF F a d=true):
  ∃(e:Nat) (m:List Nd),(gI r).q105 F (a:Int) (bT l [opn 3 a u]) (bI l) d=some (PR F e (bT l [opn 3 a u]++m) (bI l) d,())/\
   (gU g).q88 F (iT F) l (a:Int) u d=some (RR F e (l++(3,(a:Int),(e:Int),u,())::m) u d,())/\a<e/\e<=F.length/\m.length+2<=16*(e-a)/\Tr F a e (bI l) (l.length+1) m:=by
 obtain⟨x,M,i,o⟩:=hp;have N:=hF.len;obtain⟨q,rfl⟩: ∃q,r=q+1:=⟨r-1,by omega⟩;obtain⟨f,rfl⟩: ∃f,g=f+1:=⟨g-1,by omega⟩;show ∃(e:Nat) (m:List Nd),asn (gI q) F (a:Int) _ _ d=_/\aDM (gU f) F (iT F) l (a:Int) u d=_/\_;have j:(bT l [opn 3 a u]).length=l.length+1:=by unfold bT;simp
 obtain⟨y,p,z,s,O,A,B⟩:=h.pipe a (bT l [opn 3 a u]) (bI l) d q f (by omega) (by omega) (by omega) ⟨x,by rw[j];omega,i,o⟩ hb;obtain⟨e,m,D,v,S,E,G⟩:=H6 hF h (q:=q) (q':=f) (by omega) (by omega) (bI l) d u ⟨i,o⟩ bM y (bT l [opn 3 a u]++p) (dK) A (by omega) (by rw[ai,j];omega);have I:bT l [opn 3 a u]=l++[(3,(a:Int),0,u,())]:=rfl;refine⟨e,p++m, ?_, ?_,by omega,E,by rw[ai];omega,(j▸B.2).app G.2 (ae _) (by rw[ai,j])⟩
 .rw[asn,z,bG];simp only;rw[D,bG];simp only[dN,ag]
 .rw[aDM,lH a l u d (by omega) (by omega) (by omega) i (by omega),bG];simp only[show jB 3=false from rfl,ah,if_false];rw[I]at s v;rw[show((l.length:Nat):Int)=bI l from rfl,s,bG];simp only;rw[v,bG];simp only[dN];rw[ag (l++_),show bI l=((l.length:Nat):Int) from rfl,uT e _ u d l.length (by simp only[ai,bu];omega) (oN l _ 3 _ _) (by omega) (by omega) i (by omega),bG];simp only[oJ,show jB 3=false from rfl,ah,if_false]
end
section
open Option renaming some → a6, none → a7
open Bool renaming false_eq_true → ah, not_true → au, and_true → ay, not_false → az
open List renaming append_assoc → ag, length_append → ai
open Nat renaming le_refl → ae
open Go.RowKit
variable {F:List Lf} (hF:OkF F)
include hF
theorem Xe {n:Nat} (h:All F n) {q q':Nat} (i:n<=q) (j:n<=q') (u d v f g:Int) (hd:0<=d/\d<=200): ∀(N a:Nat) (L:List Nd),F.length-a<N->a<=F.length->16*(F.length-a)+9<n+16->L.length<=16*a+114->
  ∃(e:Nat) (m:List Nd),uA (gI q) N f g F (a:Int) u d L=a6 (.inl ((),((f,g,()),(),(),()),((),(F,(e:Int),u,d,()),L++m,())))/\
   BG (gU q') N v F (iT F) (a:Int) u d L=a6 (.inl ((v,()),((),()),((F,iT F,(e:Int),u,d,()),L++m,())))/\a<=e/\e<=F.length/\m.length<=16*(e-a)/\Tr F a e u L.length m
 |0,a,L,o,_,_,_=>by omega
 |N+1,a,L,o,p,G,hL=>by
  have I:=hF.len;rw[uA,yI,BG,Qy,mV hF a L u d (by omega) [124] rfl,jh a L u d [124] (by simp),bG,bG];simp only;cases hb:fG F a [124]with
  |false=>
   rw[xC hb];exact⟨a,[],by simp,by simp,ae _,p,by simp,.nil (ae _)⟩
  |true=>
   have J:=gZ hb;have K:=xk (F:=F) (a+1);have s:=xX (F:=F) (a:=a+1) (by omega);rw[nJ hb];simp only[aa];rw[dn,show(a:Int)+1=((a+1:Nat):Int) by omega,nP hF (a+1) L u d (by omega),mG hF (a+1) L u d (by omega),bG,bG];simp only;obtain⟨x,l,y,z,M,A,B,_⟩:=h.command (ln F (a+1)) L u d q q' (by omega) i j ⟨s,by omega,hd.1,hd.2⟩;rw[y,z,bG,bG];simp only;obtain⟨e,m,O,S,U,D,E⟩:=Xe h i j u d v f g hd N x (L++l) (by omega) A (by omega) (by grind);exact⟨e,l++m,by simp_all,by simp_all,by omega,D,by grind,(B.2.wide (by omega) (ae _)).app E.2 (ae _) (ai ..)⟩
theorem aeA {n:Nat} (a:Nat) (l:List Nd) (u d:Int) (r:Nat) (hr:n+1<=r) (hp:Jb F a l d 130) (hb:qF F a d=false):
  (gI r).q148 F (a:Int) l u d=a6 (PR F a (l++[(18,(a:Int),(a:Int),u,())]) u d,()):=by
 obtain⟨e,f,g,h⟩:=hp;have i:=hF.len;obtain⟨q,rfl⟩: ∃q,r=q+1:=⟨r-1,by omega⟩;show ac7 (gI q) F (a:Int) l u d=_;rw[ac7,Cf hF a l u d (by omega),bG,hb];simp only[az,aa]
 grind [nz,bG]
theorem aox {n:Nat} (h:All F n) (a:Nat) (l:List Nd) (u d:Int) (r p:Nat) (W:16*(F.length-a)+10<n+1) (hr:n+1<=r) (X:n+1<=p) (hp:Jb F a l d 112) (hb:qF F a d=true):
  ∃(e:Nat) (m:List Nd),(gI r).q148 F (a:Int) l u d=a6 (PR F e (l++m) u d,())/\
   (gU p).q121 F (iT F) l (a:Int) u d=a6 (RR F e (l++m) u d,())/\a<e/\e<=F.length/\m.length+2<=16*(e-a)/\Tr F a e u l.length m:=by
 obtain⟨Y,Z,s,x⟩:=hp;have ab:=hF.len;obtain⟨q,rfl⟩: ∃q,r=q+1:=⟨r-1,by omega⟩;obtain⟨f,rfl⟩: ∃f,p=f+1:=⟨p-1,by omega⟩;have y:(bT l [opn 4 a u]).length=l.length+1:=by unfold bT;simp
 have D:bT l [opn 4 a u]=l++[(4,(a:Int),0,u,())]:=rfl;obtain⟨E,_,_⟩:=kU l (opn 4 a u) (by omega);have z:tk F a [33]<=F.length/\a<=tk F a [33]:=by
  unfold tk;split
  .rename_i G;exact⟨gZ G,by omega⟩
  omega
 obtain⟨v,i,I,o,e3,J,K,e6⟩:=h.command (tk F a [33]) (bT l [opn 4 a u]) (bI l) d q f (by omega) (by omega) (by omega) ⟨z.1,by rw[y];omega,s,x⟩;have ad:a<v/\i.length+1+2<=16*(v-a):=by
  cases h33:fG F a [33]with
  |true=>grind [nJ]
  |false=>
   simp_all [xC,qF]
 obtain⟨e,m,M,A,f3,N,O⟩:=Xe hF h (q:=q) (q':=f) (by omega) (by omega) (bI l) d u (bI l) u ⟨s,x⟩ bM v (bT l [opn 4 a u]++i) (dK) J (by omega) (by grind);obtain⟨S,U⟩:=qE l (i++m) (opn 4 a u);refine⟨e,(4,(a:Int),(e:Int),u,())::(i++m), ?_, ?_,by omega,N,by grind,Tr.one (((y▸K.2).wide z.2 (ae _)).app O.2 (ae _) (by grind)) (ae _) (ae _) (by omega) rfl⟩
 .show ac7 (gI q) F (a:Int) l u d=_;rw[ac7,Cf hF a l u d (by omega),bG,hb];simp only[au,ac,eP,ay,aa,E];rw[mV hF a _ _ d (by omega) [33] rfl,bG];simp only;rw[I,bG];simp only;rw[M,bG];simp only[dN,ag,S,U,aa,lJ]
 .show aso (gU f) F (iT F) l (a:Int) u d=_;rw[aso,lH a l u d (by omega) (by omega) (by omega) s (by omega),bG];simp only[show jB 4=false from rfl,ah,if_false];rw[jh a _ _ d [33] (by simp),bG];simp only;rw[D]at o A;have B:bH (BG (gU f) bM u F (iT F) (v:Int) (bI l) d (l++[(4,(a:Int),0,u,())]++i)) (fun V=>dN V (fun g=>
    bH (pK g.2.2.1.1 g.2.2.1.2.1 g.2.2.2.1 g.2.2.1.2.2.1 g.2.2.1.2.2.2.1 g.2.2.1.2.2.2.2.1 g.1.1) fun j=>
     a6 ((j.1.1,(j.1.2.1,(j.1.2.2.1,(j.1.2.2.2.1,(j.1.2.2.2.2.1,(j.1.2.2.2.2.2.1,())))))),())) (fun b4=>a7))=a6 (RR F e (l++(4,(a:Int),(e:Int),u,())::(i++m)) u d,()):=by
   rw[A,bG];simp only[dN];rw[ag (l++_),show bI l=((l.length:Nat):Int) from rfl,uT e _ u d l.length (by simp) (oN l _ 4 _ _) (by omega) (by omega) s (by omega),bG];simp only[oJ,show jB 4=false from rfl,ah,if_false]
  cases h33:fG F a [33]with
  |true=>
   rw[nJ h33]at o;simp only[aa];rw[dn,show(a:Int)+1=((a+1:Nat):Int) by omega,show((l.length:Nat):Int)=bI l from rfl,o,bG];exact B
  |false=>
   rw[xC h33]at o;simp only[ac];rw[show((l.length:Nat):Int)=bI l from rfl,o,bG];exact B
theorem WM {n:Nat} (h:All F n) {q q':Nat} (D:n<=q) (E:n<=q') (u d v:Int) (hd:0<=d/\d<=200): ∀(N a:Nat) (L:List Nd),F.length-a<N->a<=F.length->16*(F.length-a)+11<n->L.length<=16*a+111->qF F a d=true->
  ∃(f e:Nat) (m g:List Nd),D5 (gI q) N F (a:Int) u d L=a6 (.inl ((),((),()),((F,(f:Int),u,d,()),L++m,())))/\
   (gU q').q88 F (iT F) L (a:Int) u d=a6 (RR F e (L++g) u d,())/\
   yQ (gU q') N v F (iT F) (e:Int) u d (L++g)=a6 (.inl ((v,()),((),()),((F,iT F,(f:Int),u,d,()),L++m,())))/\a<f/\f<=F.length/\m.length+1<=16*(f-a)/\Tr F a f u L.length m
 |0,a,L,G,_,_,_,_=>by omega
 |N+1,a,L,G,I,J,hL,M=>by
  have af:=hF.len;obtain⟨e,g,O,s,S,x,U⟩:=h.andor a L u d q q' J D E ⟨I,by omega,hd.1,hd.2⟩ M;obtain⟨V,_,_⟩:=kU L (opn 3 a u) (by omega);obtain⟨W,X⟩:=qE L g (opn 3 a u);have hP: ∀K:Option _,D5 (gI q) (N+1) F (a:Int) u d L=K->D5 (gI q) (N+1) F (a:Int) u d L=K:=fun _ h=>h;rw[D5,ab9];simp only[eP,ay,aa,V];rw[O,bG];simp only[W,X,aa,lJ];rw[mV hF e _ u d (by omega) [59,38] rfl,bG];simp only;have Y:(L++(3,(a:Int),(e:Int),u,())::g).length=L.length+1+g.length:=by grind
  have stop: ∀b:Nat,e<=b->b<=F.length->((3,(a:Int),(e:Int),u,())::g).length+1<=16*(b-a)/\Tr F a b u L.length ((3,(a:Int),(e:Int),u,())::g):=fun b y z=>⟨by grind,U.2.one (ae _) y (by omega) rfl⟩;have next: ∀b:Nat,e<=b->b<=F.length->qF F b d=true->e<b-> ∃(f:Nat) (m:List Nd) (l:Nat) (o:List Nd),
    D5 (gI q) N F (b:Int) u d (L++(3,(a:Int),(e:Int),u,())::g)=a6 (.inl ((),((),()),((F,(f:Int),u,d,()),L++m,())))/\
    (gU q').q88 F (iT F) (L++(3,(a:Int),(e:Int),u,())::g) (b:Int) u d=a6 (RR F l ((L++(3,(a:Int),(e:Int),u,())::g)++o) u d,())/\
    yQ (gU q') N v F (iT F) (l:Int) u d ((L++(3,(a:Int),(e:Int),u,())::g)++o)=a6 (.inl ((v,()),((),()),((F,iT F,(f:Int),u,d,()),L++m,())))/\a<f/\f<=F.length/\m.length+1<=16*(f-a)/\Tr F a f u L.length m:=fun b y z i A=>by
   obtain⟨f,l,m,o,f1,Z,f3,f4,f5,f6⟩:=WM h D E u d v hd N b (L++(3,(a:Int),(e:Int),u,())::g) (by omega) z (by omega) (by rw[Y];omega) i;exact⟨f,((3,(a:Int),(e:Int),u,())::g)++m,l,o,by simp_all,Z,by simp_all,by omega,f5,by grind,(stop b y z).2.app f6.2 (ae _) (ai ..)⟩
  cases hs:fG F e [59,38]with
  |true=>
   have A:=gZ hs;have ab:=xk (F:=F) (e+1);have j:=xX (F:=F) (a:=e+1) (by omega);rw[nJ hs];simp only[aa];rw[nP hF (e+1) _ u d (by omega),bG];simp only;rw[Cf hF _ _ u d (by omega),bG];simp only;cases i:qF F (ln F (e+1)) d with
   |false=>
    refine⟨ln F (e+1),e,_,_,rfl,s, ?_,by omega,j,stop _ (by omega) j⟩;rw[yQ,NE,jh e _ u d [59,38] (by simp),bG,hs];simp only[aa];rw[dn,show(e:Int)+1=((e+1:Nat):Int) by omega,mG hF (e+1) _ u d (by omega),bG]
    grind [HY,bG]
   |true=>
    obtain⟨f,m,l,o,g1,g2,g3,g4,g5,g6⟩:=next _ (by omega) j i (by omega)
    refine⟨f,e,m,_,g1,s, ?_,g4,g5,g6⟩;rw[yQ,NE,jh e _ u d [59,38] (by simp),bG,hs];simp only[aa];rw[dn,show(e:Int)+1=((e+1:Nat):Int) by omega,mG hF (e+1) _ u d (by omega),bG];simp only;rw[HY _ _ u d (by omega),bG,i];simp_all [bG]
  |false=>
   have ab:=xk (F:=F) e;have j:=xX (F:=F) x;have B:yQ (gU q') (N+1) v F (iT F) (e:Int) u d (L++(3,(a:Int),(e:Int),u,())::g)=
     (bif bP (((ln F e:Nat):Int)-e) 0 then(a6 (.inl ((v,()),((),()),((F,iT F,((ln F e:Nat):Int),u,d,()),L++(3,(a:Int),(e:Int),u,())::g,()))):Option (aaO.den⊕abu.den))
     else bif !qF F (ln F e) d then a6 (.inl ((v,()),((),()),((F,iT F,((ln F e:Nat):Int),u,d,()),L++(3,(a:Int),(e:Int),u,())::g,())))
      else bH ((gU q').q88 F (iT F) (L++(3,(a:Int),(e:Int),u,())::g) ((ln F e:Nat):Int) u d) fun p=>yQ (gU q') N v p.1.1 p.1.2.1 p.1.2.2.2.1 p.1.2.2.2.2.1 p.1.2.2.2.2.2.1 p.1.2.2.1):=by
    rw[yQ,NE,jh e _ u d [59,38] (by simp),bG,hs];simp only[ac];rw[mG hF e _ u d x,bG];simp only;cases bP (((ln F e:Nat):Int)-e) 0 with
    |true=>rfl
    |false=>
     simp only[ac]
     grind [HY,bG]
   rw[xC hs];simp only[ac];rw[nP hF e _ u d x,bG];simp only;cases hln:fG F e [110]with
   |false=>
    have ad:ln F e=e:=by rw[JS,hln];rfl
    rw[ad]at B ⊢;refine⟨e,e,_,_,rfl,s, ?_,S,x,stop _ (ae _) x⟩;simp_all [fK]
   |true=>
    have A:e<ln F e:=by simp_all [aHY]
    simp only[au,ac];rw[dI (dX)]at B;rw[Cf hF _ _ u d (by omega),bG];simp only;cases i:qF F (ln F e) d with
    |false=>
     refine⟨ln F e,e,_,_,rfl,s, ?_,by omega,j,stop _ (by omega) j⟩;rw[B,i];rfl
    |true=>
     obtain⟨f,m,l,o,g1,g2,g3,g4,g5,g6⟩:=next _ (by omega) j i A
     refine⟨f,e,m,_,g1,s, ?_,g4,g5,g6⟩;simp_all [bG]
theorem aob {n:Nat} (h:All F n) (a:Nat) (l:List Nd) (u d:Int) (r g:Nat) (D:16*(F.length-a)+12<n+1) (hr:n+1<=r) (E:n+1<=g) (hp:Jb F a l d 110) (hb:qF F a d=true):
  ∃(e:Nat) (m:List Nd),(gI r).q71 F (a:Int) (bT l [opn 2 a u]) (bI l) d=a6 (PR F e (bT l [opn 2 a u]++m) (bI l) d,())/\
   (gU g).q52 F (iT F) l (a:Int) u d=a6 (RR F e (l++(2,(a:Int),(e:Int),u,())::m) u d,())/\a<e/\e<=F.length/\m.length+1<=16*(e-a)/\Tr F a e (bI l) (l.length+1) m:=by
 obtain⟨v,G,i,x⟩:=hp;have I:=hF.len;obtain⟨q,rfl⟩: ∃q,r=q+1:=⟨r-1,by omega⟩;obtain⟨f,rfl⟩: ∃f,g=f+1:=⟨g-1,by omega⟩;have j:(bT l [opn 2 a u]).length=l.length+1:=by unfold bT;simp
 have y:bT l [opn 2 a u]=l++[(2,(a:Int),0,u,())]:=rfl;obtain⟨e,J,m,K,z,o,p,A,B,s⟩:=WM hF h (q:=q) (q':=f) (by omega) (by omega) (bI l) d u ⟨i,x⟩ bM a (bT l [opn 2 a u]) (dK) v (by omega) (by rw[j];omega) hb;refine⟨e,m, ?_, ?_,A,B,s.1,j▸s.2⟩
 .show aDL (gI q) F (a:Int) _ _ d=_;rw[aDL,z,bG];rfl
 .show aDK (gU f) F (iT F) l (a:Int) u d=_;rw[aDK,lH a l u d (by omega) (by omega) (by omega) i (by omega),bG];simp only[show jB 2=false from rfl,ah,if_false];rw[y]at o p;rw[show((l.length:Nat):Int)=bI l from rfl,o,bG];simp only;rw[p,bG];simp only[dN];rw[show bI l=((l.length:Nat):Int) from rfl,uT e _ u d l.length (by simp) (oN l _ 2 _ _) (by omega) (by omega) i (by omega),bG];simp only[oJ,show jB 2=false from rfl,ah,if_false]
end
section
open Bool renaming and_eq_true → af, not_true → au, not_false → az
open Nat renaming lt_of_lt_of_le → bi
open Go.RowKit
theorem aex {s:List UInt8} (d:s.length<1000000):agH s 0=some (((nl s:Nat):Int),()):=by
 have:=apX (bi d (by omega)) (a:=0) (Nat.zero_le _);simpa using this
theorem Oz {s:List UInt8} (d:s.length<1000000):agA s=some (decide (nl s≠0/\nl s=s.length),()):=by
 rw[agA];by_cases h0:s=[]
 .subst h0;rfl
 have f:0<s.length:=List.length_pos_iff.2 h0;rw[CV h0];simp only[az,aa];rw[aex d,bG];congr 2;by_cases h:nl s=s.length
 .rw[fK (by rw[bK];omega),decide_eq_true ⟨by omega,h⟩]
 .rw[dX (by rw[bK];omega),decide_eq_false (fun e=>h e.2)]
def jo (s:bZ):Bool:=decide (nl s≠0/\nl s<s.length)&&decide (s.getD (nl s) 0=61)
theorem acH {s:List UInt8} (f:s.length<1000000): ∃x y,ajr s=some (x,(y,(jo s,()))):=by
 have g:nl s<=s.length:=by unfold nl;split;omega;exact Lu WH s
 rw[ajr,aex f,bG];simp only;by_cases h0:nl s=0
 .exact⟨[],[],by rw[bV (fK),jo,decide_eq_false (fun h=>h.1 h0)];rfl⟩
 rw[dI (dX)];by_cases h1:nl s=s.length
 .exact⟨[],[],by rw[bV (fK (by rw[bK];omega)),jo,decide_eq_false (fun h=>by omega)];rfl⟩
 have d:nl s<s.length:=by omega
 rw[dI (dX (by rw[bK];omega)),bV (dV),byte_at d];have e:s.getD (nl s) 0=s[nl s]:=by rw[List.getD_eq_getElem?_getD,List.getElem?_eq_getElem d];rfl
 by_cases h3:s[nl s]=61
 .rw[h3,show bP ((61:UInt8).toNat:Int) 61=true from rfl];simp only[au,ac];rw[dn,bV (fO (by omega) (by omega) (by rw[bK];omega)),bV (fO (by omega) (by rw[bK];omega) (by omega))];exact⟨_,_,by rw[jo,decide_eq_true ⟨h0,d⟩,e,decide_eq_true h3];rfl⟩
 .rw[dX (fun h=>h3 (UInt8.toNat_inj.1 (by have:((61:UInt8).toNat:Int)=61:=rfl;omega)))];exact⟨[],[],by rw[jo,e,decide_eq_false h3,Bool.and_false];rfl⟩
theorem aF2 (s:bZ) (i:Nat):sub s 0 (i:Int)=s.take i:=by simp[sub]
theorem auS {s:List UInt8} {i:Nat} (hi:i<s.length) (o:s[i]=61):(nl (s.take i)≠0/\nl (s.take i)=(s.take i).length)↔(nl s≠0/\nl s=i):=by
 have q:WH (61:UInt8)=false:=by decide
 have hL:isL (61:UInt8)=false:=by decide
 have u:(s.take i).length=i:=by simp;omega
 have g: ∀p:UInt8->Bool,p 61=false->(((s.take i).takeWhile p).length=i↔(s.takeWhile p).length=i)/\((((s.take i).takeWhile p).length=0)↔((s.takeWhile p).length=0)):=by
  intro p v;have x:(s.takeWhile p).length<=i:=by
   by_cases c:(s.takeWhile p).length<=i
   .exact c
   .have:=EN p s i hi (by omega);rw[o,v]at this;cases this
  have e:((s.take i).takeWhile p).length=(s.takeWhile p).length:=by
   refine aJr p _ _ (by omega) (fun j y h=> ?_) fun h=> ?_
   .rw[List.getElem_take];exact EN p s j (by omega) h
   .rw[List.getElem_take];exact zA p s (by omega)
  rw[e];exact⟨Iff.rfl,Iff.rfl⟩
 have f:=g WH q;have l:=g isL hL;unfold nl Gz runN;rw[u];by_cases h:(s.takeWhile isL).length=0
 .rw[am h,am (l.2.2 h)]
 .rw[aq h,aq (fun d=>h (l.2.1 d))];constructor
  .rintro ⟨a,b⟩;exact⟨fun d=>a (f.2.2 d),f.1.1 b⟩
  .rintro ⟨a,b⟩;exact⟨fun d=>a (f.2.1 d),f.1.2 b⟩
theorem Dn {s:List UInt8} (g:s.length<1000000): ∀(N k:Nat),s.length-k<N->1<=k->k<=s.length->(jo s=true->k<=nl s)->
  ∃r,FD N s (k:Int)=some r/\(jo s=true-> ∃n:Nat,r=.inr (((n:Int),()),())/\0<n/\n=nl s)/\(jo s=false->r=.inl ((),()))
 |0,k,h,_,_,_=>by omega
 |N+1,k,h,q,hk,f=>by
  rw[FD,QK];by_cases h1:k<s.length
  .have p:di .i64 (k:Int) 1=((k+1:Nat):Int):=by rw[dn];rfl
   rw[bV (eH (by rw[bK];omega)),bV (dV),byte_at h1,p];have i:s.getD k 0=s[k]:=by rw[List.getD_eq_getElem?_getD,List.getElem?_eq_getElem h1];rfl
   by_cases h2:s[k]=61
   .rw[h2,show bP ((61:UInt8).toNat:Int) 61=true from rfl];simp only[aa];rw[bV (fO (by omega) (by omega) (by rw[bK];omega)),aF2,xf (by simp;omega),bG];simp only;have j:=auS h1 h2;by_cases h3:nl s≠0/\nl s=k
    .rw[decide_eq_true (j.2 h3)];refine⟨_,rfl,fun _=>⟨k,rfl,by omega,h3.2.symm⟩,fun l=> ?_⟩;have:jo s=true:=by rw[jo,decide_eq_true ⟨h3.1,by omega⟩,h3.2,i,decide_eq_true h2];rfl
     rw[this]at l;cases l
    .rw[decide_eq_false (fun d=>h3 (j.1 d))];refine Dn g N (k+1) (by omega) (by omega) (by omega) fun d=> ?_;have o:=f d;unfold jo at d;simp only[af,decide_eq_true_eq]at d;omega
   .rw[dX (fun h=>h2 (UInt8.toNat_inj.1 (by have:((61:UInt8).toNat:Int)=61:=rfl;omega)))];refine Dn g N (k+1) (by omega) (by omega) (by omega) fun d=> ?_;have o:=f d;unfold jo at d;simp only[af,decide_eq_true_eq]at d;by_cases e:k=nl s
    .subst e;rw[i]at d;exact absurd d.2 h2
    .omega
  .rw[dI (ig (by rw[bK];omega))];refine⟨_,rfl,fun d=> ?_,fun _=>rfl⟩;have o:=f d;unfold jo at d;simp only[af,decide_eq_true_eq]at d;omega
theorem afO {s:List UInt8} (d:s.length<1000000): ∃n:Int,ajb s=some (n,())/\gV 0 n=jo s/\bP n 0= !jo s:=by
 rw[ajb];by_cases h0:s=[]
 .subst h0;exact⟨0,rfl,rfl,rfl⟩
 have j:0<s.length:=List.length_pos_iff.2 h0;obtain⟨r,f,g,i⟩:=Dn d bM 1 (dK) (by omega) (by omega) (fun h=>by
  unfold jo at h;simp only[af,decide_eq_true_eq]at h;omega)
 rw[show FD bM s 1=_ from f];cases ha:jo s with
 |true=>
  obtain⟨n,e,l,_⟩:=g ha;subst e;exact⟨n,rfl,eH,dX⟩
 |false=>
  have e:=i ha;subst e;exact⟨0,rfl,rfl,rfl⟩
theorem amz {s:List UInt8} (d:s.length<1000000):ajp s=some (jo s,()):=by
 obtain⟨x,y,h⟩:=acH d;rw[ajp,h,bG]
end
section
open Bool renaming false_eq_true → ah, not_true → au, and_true → ay, not_false → az, true_and → aS
open List renaming append_assoc → ag, length_append → ai, getElem_mem → aG
open Nat renaming le_refl → ae
open Go.RowKit
variable {F:List Lf} (hF:OkF F)
include hF
omit hF in
theorem Ub {a:Nat} {c:UInt8} (h:fG F a [c]=true):Di F a=c:=by
 simp_all [fG]
omit hF in
theorem UL {a:Nat} {c:UInt8} (d:c≠0) (h:Di F a=c):fG F a [c]=true:=by
 grind [KQ,fG]
def N8 (F:List Lf) (a:Nat) (u:Int):Nd:=if Bv F a=true then(7,(a:Int),((a+1:Nat):Int),u,())else(18,(a:Int),(a:Int),u,())
omit hF in
theorem I8 (a:Nat) (l:List Nd) (u:Int):wdL F a l u=l++[N8 F a u]:=by grind [wdL,N8]
omit hF in
theorem aGJ (a:Nat):a<=C9 F a/\(a<=F.length->C9 F a<=F.length):=by
 unfold C9;split
 .grind [YV]
 omega
omit hF in
theorem Vf {a b c:Nat} {u:Int} {k:Nat} (d:a<=c) (h2:C9 F c<=b):Tr F a b u k [N8 F c u]:=by
 unfold C9 at h2;unfold N8;split at h2
 .rename_i h;rw[am h];exact .lf d h2 (by omega) (fun _=>by simpa [Bv] using h)
 .rename_i h;rw[aq h];exact .mis d h2
theorem O6 (a:Nat) (l:List Nd) (u d:Int) (G:a<=F.length) (hl:l.length<100000000) (hd:0<=d) (I:d<1000000) (h:Dh F a=true):
  ∃(g:Nat) (m:List Nd),zS F (a:Int) l u d=some (PR F g (l++m) u d,(true,()))/\adq F (iT F) l (a:Int) u d=some (RR F g (l++m) u d,())/\a<g/\g<=F.length/\m.length=2/\Tr F a g u l.length m:=by
 have J:=hF.len;obtain⟨q,_,_⟩:=kU l (opn 8 a u) (by omega);have s:(bT l [opn 8 a u]).length=l.length+1:=by unfold bT;simp
 obtain⟨b,v,x,y,i,j⟩: ∃b:Nat,a<b/\b<=F.length/\tk F (tk F a [35]) [60]=b/\(if fG F a [35]=true then a+2 else a+1)=b/\((b=a+1\/b=a+2/\fG F a [35]=true)/\fG F (b-1) [60]=true):=by
  cases h35:fG F a [35]with
  |true=>
   have K:=Ub h35;unfold Dh at h;have z:fG F a [60]=false:=by
    simp_all [fG]
   rw[z,h35,Bool.false_or,aS,decide_eq_true_eq]at h;have o:=UL (by decide) h;exact⟨a+2,by omega,gZ o,by grind [nJ],by simp,.inr ⟨rfl,rfl⟩,o⟩
  |false=>
   unfold Dh at h;rw[h35,Bool.false_and,Bool.or_false]at h;exact⟨a+1,by omega,gZ h,by rw[xC h35,nJ h],by simp,.inl rfl,h⟩
 have M:tk F a [35]<=F.length:=by
  grind [tk]
 obtain⟨N,A⟩:=aGJ (F:=F) b;obtain⟨B,D⟩:=qE l [N8 F b (bI l)] (opn 8 a u);have O:bT l [opn 8 a u]=l++[(8,(a:Int),0,u,())]:=rfl;refine⟨C9 F b,[(8,(a:Int),((C9 F b:Nat):Int),u,()),N8 F b (bI l)], ?_, ?_,by omega,A x,rfl,Tr.one (Vf (Nat.le_of_lt v) (ae _)) (ae _) (ae _) (by omega) rfl (fun _=>by
  obtain⟨p,rfl⟩: ∃p,b=p+1:=⟨b-1,by omega⟩;refine⟨p,(by
   rcases j.1 with h|⟨h,E⟩
   .exact .inl (by omega)
   .exact .inr ⟨by omega,E⟩),j.2, ?_⟩
  unfold N8 C9;split
  .exact .inl ⟨rfl,_,rfl⟩
  .exact .inr ⟨rfl,_,rfl⟩)⟩
 .rw[zS,Eu hF a l u d (by omega),bG,h];simp only[au,ac,eP,ay,aa,q];rw[mV hF a _ _ d (by omega) [35] rfl,bG];simp only;rw[mV hF _ _ _ d (by omega) [60] rfl,bG,y];simp only;rw[Vh b _ _ d (by omega) (by rw[s];omega),bG];simp only[I8,B,D,aa,lJ]
 .rw[adq,lH a l u d (by omega) (by omega) (by omega) hd (by omega),bG];simp only[show jB 8=false from rfl,ah,if_false];rw[jh a _ _ d [35] (by simp),bG];simp only;have S:bH (wX F (iT F) (l++[(8,(a:Int),0,u,())]) (b:Int) ((l.length:Nat):Int) d) (fun e=>bH (pK e.1.1 e.1.2.1 e.1.2.2.1 e.1.2.2.2.1 e.1.2.2.2.2.1 e.1.2.2.2.2.2.1 u) fun f=>
    some ((f.1.1,(f.1.2.1,(f.1.2.2.1,(f.1.2.2.2.1,(f.1.2.2.2.2.1,(f.1.2.2.2.2.2.1,())))))),()))=some (RR F (C9 F b) (l++[(8,(a:Int),((C9 F b:Nat):Int),u,()),N8 F b (bI l)]) u d,()):=by
   rw[acz b _ _ d (by omega) (by grind) hd (by omega),bG];simp only[I8];rw[uT (C9 F b) _ u d l.length (by simp) (oN l _ 8 _ _) (by omega) (by omega) hd (by omega),bG];simp only[oJ,show jB 8=false from rfl,ah,if_false];rfl
  cases h35:fG F a [35]with
  |true=>
   rw[h35,am rfl]at i;simp only[aa]
   grind [dn]
  |false=>
   rw[h35,aq (by simp)]at i;simp only[ac]
   grind [dn]
theorem oC (a:Nat) (l:List Nd) (u d:Int) (e:a<=F.length) (h:Dh F a=false):zS F (a:Int) l u d=some (PR F a l u d,(false,())):=by
 have f:=hF.len;rw[zS,Eu hF a l u d (by omega),bG,h];rfl
theorem Ey {q':iY} (u d v:Int) (hd:0<=d/\d<=201): ∀(N a:Nat) (L:List Nd) (i:Bool) (w:Int),F.length-a<N->a<=F.length->L.length<=16*a+1000->0<=w->w<=a->(i=true↔w≠0)->
  ∃(f:Nat) (m:List Nd),FH N i F (a:Int) u d L=some (.inl ((),((),()),((F,(f:Int),u,d,()),L++m,())))/\
   Aa q' N v w F (iT F) (a:Int) u d L=some (.inl ((v,()),((),()),((F,iT F,(f:Int),u,d,()),L++m,())))/\a<=f/\f<=F.length/\(m.length<=2*(f-a)/\Tr F a f u L.length m)/\((Dh F a||Bv F a)=true->a<f)
 |0,a,L,i,w,J,_,_,_,_,_=>by omega
 |N+1,a,L,i,w,J,l,hL,z,af,A=>by
  have aj:=hF.len;rw[FH,QN,Aa,KW,yM a L u d (by omega),bG];simp only;cases hr:Dh F a with
  |true=>
   obtain⟨K,B,M,O,e3,S,U⟩:=O6 hF a L u d l (by omega) hd.1 (by omega) hr;rw[M,bG];simp only[aa];rw[O,bG];simp only;obtain⟨f,m,V,o,W,p,q,_⟩:=Ey u d v hd N K (L++B) i w (by omega) S (by grind) z (by omega) A;exact⟨f,B++m,by simp_all,by rw[o,ag],by omega,p,⟨by grind,U.2.app q.2 (ae _) (ai ..)⟩,fun _=>by omega⟩
  |false=>
   rw[oC hF a L u d l hr,bG];simp only[ac];rw[zU a L u d,bG];simp only;cases hi:Bv F a with
   |false=>
    refine⟨a,[],by simp, ?_,ae _,l,⟨by simp,.nil (ae _)⟩,fun h=>by simp at h⟩;by_cases h:a<F.length
    .have x:F[a].1≠6:=by
      simp_all [Bv]
     simp_all [dV,zY,dX]
    simp_all [ig,bK]
   |true=>
    have h:=YV hi;have x:F[a].1=6:=by
     simp_all [Bv]
    have X:fD F (a:Int)=true:=dV;have hg:=hF.txt _ (aG h);obtain⟨y,Y,Z,y3⟩:=afO (s:=F[a].2.1) (by omega);simp only[au,ac];rw[bV (eH (by rw[bK];omega)),X];simp only[aa,zY h,fK x];rw[amz (by omega),bG,Y,bG];simp only[Z];have go: ∀(k:Int) (j:Bool) (g:Int),k=6\/k=7->0<=g->g<=((a+1:Nat):Int)->(j=true↔g≠0)-> ∃(f:Nat) (m:List Nd),
      FH N j F ((a+1:Nat):Int) u d (L++[(k,(a:Int),((a+1:Nat):Int),u,())])=some (.inl ((),((),()),((F,(f:Int),u,d,()),L++m,())))/\
      Aa q' N v g F (iT F) ((a+1:Nat):Int) u d (L++[(k,(a:Int),((a+1:Nat):Int),u,())])=some (.inl ((v,()),((),()),((F,iT F,(f:Int),u,d,()),L++m,())))/\a<=f/\f<=F.length/\(m.length<=2*(f-a)/\Tr F a f u L.length m)/\((false||true)=true->a<f):=fun k j g hk h1 h2 h3=>by
     obtain⟨f,m,V,o,W,p,q,_⟩:=Ey u d v hd N (a+1) (L++[(k,(a:Int),((a+1:Nat):Int),u,())]) j g (by omega) (by omega) (by grind) h1 h2 h3;exact⟨f,[(k,(a:Int),((a+1:Nat):Int),u,())]++m,by simp_all,by rw[o,ag],by omega,p,⟨by grind,(Tr.lf (ae _) (ae _) (by omega) (fun _=>⟨h,x⟩)).app q.2 (ae _) (ai ..)⟩,fun _=>by omega⟩
    have D:di .i64 w 1=w+1:=dn;have E: ∀g,g=w+1->(true=true↔g≠0):=fun g e=>⟨fun _=>by omega,fun _=>rfl⟩;have l6:=Iq (F:=F) a L u d 6 (by omega) (by omega);have G:=Iq (F:=F) a L u d 7 (by omega) (by omega);have o6:=OX (F:=F) a L u d (k:=6) (by omega) (by omega) rfl (by omega) (by omega) hd.1 (by omega);have I:=OX (F:=F) a L u d (k:=7) (by omega) (by omega) rfl (by omega) (by omega) hd.1 (by omega);by_cases hw:w=0
    .have ab:i=false:=by
      simp_all
     subst ab;rw[fK hw];simp only[az,aa];cases jo F[a].2.1 with
     |true=>
      simp only[aa];rw[l6,o6,bG,bG];exact go 6 false w (.inl rfl) z (by omega) ⟨fun h=>(by cases h),fun h=>absurd hw h⟩
     |false=>
      simp only[ac];rw[G,I,bG,bG];simp only[D];exact go 7 true (w+1) (.inr rfl) (by omega) (by omega) (E _ rfl)
    .have ad:i=true:=A.2 hw;subst ad;rw[dX hw];simp only[au,ac];rw[G,I,bG,bG];simp only[D];exact go 7 true (w+1) (.inr rfl) (by omega) (by omega) (E _ rfl)
end
section
open Bool renaming and_eq_true → af, true_and → aS
open List renaming append_assoc → ag, getElem_mem → aG
open Nat renaming le_refl → ae
open Go.RowKit
variable {F:List Lf} (hF:OkF F)
include hF
def fnB (F:List Lf) (a:Nat) (d:Int):Bool:=fG F a [120]&&(decide (Di F (a+1)=40)&&(decide (d<200)&&(if h:a<F.length then decide (nl F[a].2.1≠0/\nl F[a].2.1=F[a].2.1.length)else false)))
omit hF in
theorem ah9 (a:Nat) (c:UInt8):bP ((Di F a).toNat:Int) (c.toNat:Int)=decide (Di F a=c):=by
 rw[ik,decide_eq_decide]
 grind [UInt8.toNat_inj]
theorem agJ (a:Nat) (l:List Nd) (u d:Int) (e:a<=F.length):aje F (a:Int) l u d=some (PR F a l u d,(fnB F a d,())):=by
 have f:=hF.len;rw[aje,oV hF a l u d (by omega),bG];simp only;rw[show bP ((Di F a).toNat:Int) 120=fG F a [120] from Xp a 120 (by decide)];unfold fnB;cases hx:fG F a [120]with
 |false=>rfl
 |true=>
  have h:=gZ hx;simp only[aa,aS];rw[al1 hF a l u d (by omega),bG];simp only;rw[show bP ((Di F (a+1)).toNat:Int) 40=decide (Di F (a+1)=40) from ah9 (a+1) 40];cases decide (Di F (a+1)=40)with
  |false=>rfl
  |true=>
   simp only[aa,aS];by_cases hd:d<200
   .rw[bV (eH hd),bV (dV),zY h,Oz (by have:=hF.txt _ (aG h);omega),bG,dif_pos h,decide_eq_true hd,aS]
   simp_all [ig,decide_eq_false]
omit hF in
theorem Hw (a:Nat) (o:bZ):a<=qp F a o/\(a<=F.length->qp F a o<=F.length):=by
 unfold qp tk;split
 .grind [gZ]
 omega
def uO (F:List Lf) (a:Nat) (o:bZ) (u:Int):List Nd:=if fG F a o=true then []else [(18,(a:Int),(a:Int),u,())]
omit hF in
theorem lV (a:Nat) (o:bZ) (l:List Nd) (u:Int):wnL F a o l u=l++uO F a o u:=by
 grind [wnL,uO]
omit hF in
theorem xG {a b c:Nat} {o:List UInt8} {u:Int} {k:Nat} (d:a<=c) (h2:c<=b):Tr F a b u k (uO F c o u):=by
 unfold uO;split
 .exact .nil (by omega)
 .exact .mis d h2
omit hF in
theorem tY (a:Nat) (o:bZ) (u:Int):(uO F a o u).length<=1:=by grind [uO]
theorem amL {n:Nat} (h:All F n) (z:All F (n-1)) (a:Nat) (l:List Nd) (u d:Int) (q q':Nat) (Z:16*(F.length-a)+9<n+1) (hq:n<=q) (ab:n<=q') (hp:Jb F a l d 113) (hb:fnB F a d=true):
  ∃(e:Nat) (m:List Nd),(gI q).q222 F (a:Int) (bT l [opn 16 a u]) (bI l) (d+1)=some (PR F e (bT l [opn 16 a u]++m) (bI l) (d+1),())/\
   (bH (Df F (iT F) l (a:Int) u d 16) fun j=>
    bH (LZ j.1.1 j.1.2.1 j.1.2.2.1 j.1.2.2.2.1 j.1.2.2.2.2.1 j.1.2.2.2.2.2.1 7) fun o=>
     bH (mX o.1.1 o.1.2.1 o.1.2.2.1 (di .i64 o.1.2.2.2.1 1) o.1.2.2.2.2.1 o.1.2.2.2.2.2.1 [41]) fun p=>
      bH (rU p.1.1 p.1.2.1 p.1.2.2.1 p.1.2.2.2.1 p.1.2.2.2.2.1 p.1.2.2.2.2.2.1) fun s=>
       bH (SB s.1.1 s.1.2.1 s.1.2.2.1 s.1.2.2.2.1 s.1.2.2.2.2.1 s.1.2.2.2.2.2.1) fun g=>
        bif g.2.1 then
         bH ((gU q').q186 g.1.1 g.1.2.1 g.1.2.2.1 g.1.2.2.2.1 g.1.2.2.2.2.1 g.1.2.2.2.2.2.1) fun i=>
          bH (pK i.1.1 i.1.2.1 i.1.2.2.1 i.1.2.2.2.1 i.1.2.2.2.2.1 i.1.2.2.2.2.2.1 j.2.1) fun f=>
           some ((f.1.1,(f.1.2.1,(f.1.2.2.1,(f.1.2.2.2.1,(f.1.2.2.2.2.1,(f.1.2.2.2.2.2.1,())))))),())
        else
        bH (uw g.1.1 g.1.2.1 g.1.2.2.1 g.1.2.2.2.1 g.1.2.2.2.2.1 g.1.2.2.2.2.2.1) fun i=>
         bH (pK i.1.1 i.1.2.1 i.1.2.2.1 i.1.2.2.2.1 i.1.2.2.2.2.1 i.1.2.2.2.2.2.1 j.2.1) fun f=>
          some ((f.1.1,(f.1.2.1,(f.1.2.2.1,(f.1.2.2.2.1,(f.1.2.2.2.2.1,(f.1.2.2.2.2.2.1,())))))),()))=some (RR F e (l++(16,(a:Int),(e:Int),u,())::m) u d,())/\a<e/\e<=F.length/\m.length+4<=16*(e-a)/\Tr F a e (bI l) (l.length+1) m:=by
 obtain⟨p1,p2,N,p4⟩:=hp;have ad:=hF.len;unfold fnB at hb;simp only[af,decide_eq_true_eq]at hb;obtain⟨B,O,b3,_⟩:=hb;have x:=gZ B;have D:Bv F a=true:=by
  unfold Bv;rw[dif_pos x];have z:=Ub B;rw[abI x]at z;exact decide_eq_true (aCb (hF.txt _ (aG x)) z)
 have E:=UL (F:=F) (a:=a+1) (c:=40) (by decide) O;have ah:=gZ E;obtain⟨y,rfl⟩: ∃y,q=y+1:=⟨q-1,by omega⟩;have S:bT l [opn 16 a u]=l++[(16,(a:Int),0,u,())]:=rfl;have U:(bT l [opn 16 a u]).length=l.length+1:=by unfold bT;simp
 have G:=Hw (F:=F) (a+2) [41];have A:=G.2 (by omega);have ai:=tY (F:=F) (a+2) [41] (bI l);have V:=xk (F:=F) (qp F (a+2) [41]);have I:=xX (F:=F) A;have J: ∀(e:Nat) (m:List Nd),bH (pK F (iT F) ((l++[(16,(a:Int),0,u,())])++m) (e:Int) ((l.length:Nat):Int) (d+1) u) (fun f=>some ((f.1.1,(f.1.2.1,(f.1.2.2.1,(f.1.2.2.2.1,(f.1.2.2.2.2.1,(f.1.2.2.2.2.2.1,())))))),()))=some (RR F e (l++(16,(a:Int),(e:Int),u,())::m) u d,()):=fun e m=>by
  rw[uT e _ u (d+1) l.length (by simp) (oN l _ 16 _ _) (by omega) (by omega) (by omega) (by omega),bG];simp only[oJ,show jB 16=true from rfl,if_true,show d+1-1=d by omega]
 have W: ∃(e:Nat) (m:List Nd),(bif Ic F (ln F (qp F (a+2) [41])) (d+1)then
    (gI y).q219 F ((ln F (qp F (a+2) [41]):Nat):Int) ((bT l [opn 16 a u]++[(7,(a:Int),((a+1:Nat):Int),bI l,())])++uO F (a+2) [41] (bI l)) (bI l) (d+1)
   else xR F ((ln F (qp F (a+2) [41]):Nat):Int) ((bT l [opn 16 a u]++[(7,(a:Int),((a+1:Nat):Int),bI l,())])++uO F (a+2) [41] (bI l)) (bI l) (d+1))=some (PR F e (((bT l [opn 16 a u]++[(7,(a:Int),((a+1:Nat):Int),bI l,())])++uO F (a+2) [41] (bI l))++m) (bI l) (d+1),())/\
   (bif Ic F (ln F (qp F (a+2) [41])) (d+1)then
    (gU q').q186 F (iT F) ((bT l [opn 16 a u]++[(7,(a:Int),((a+1:Nat):Int),bI l,())])++uO F (a+2) [41] (bI l)) ((ln F (qp F (a+2) [41]):Nat):Int) (bI l) (d+1)
   else uw F (iT F) ((bT l [opn 16 a u]++[(7,(a:Int),((a+1:Nat):Int),bI l,())])++uO F (a+2) [41] (bI l)) ((ln F (qp F (a+2) [41]):Nat):Int) (bI l) (d+1))=some (RR F e (((bT l [opn 16 a u]++[(7,(a:Int),((a+1:Nat):Int),bI l,())])++uO F (a+2) [41] (bI l))++m) (bI l) (d+1),())/\ln F (qp F (a+2) [41])<=e/\e<=F.length/\m.length<=16*(e-ln F (qp F (a+2) [41]))+1/\Tr F (ln F (qp F (a+2) [41])) e (bI l) ((bT l [opn 16 a u]++[(7,(a:Int),((a+1:Nat):Int),bI l,())])++uO F (a+2) [41] (bI l)).length m:=by
  have aj:((bT l [opn 16 a u]++[(7,(a:Int),((a+1:Nat):Int),bI l,())])++uO F (a+2) [41] (bI l)).length<=l.length+3:=by
   simp_all
  cases hc:Ic F (ln F (qp F (a+2) [41])) (d+1)with
  |true=>
   obtain⟨e,m,X,v,Y,K,M⟩:=z.compound (ln F (qp F (a+2) [41])) ((bT l [opn 16 a u]++[(7,(a:Int),((a+1:Nat):Int),bI l,())])++uO F (a+2) [41] (bI l)) (bI l) (d+1) y q' (by omega) (by omega) (by omega) ⟨I,by omega,by omega,by omega⟩ hc
   grind
  |false=>
   refine⟨ln F (qp F (a+2) [41]),[(18,((ln F (qp F (a+2) [41]):Nat):Int),((ln F (qp F (a+2) [41]):Nat):Int),bI l,())], ?_, ?_,ae _,I,by simp,.mis (ae _) (ae _)⟩
   .rw[ac,nz _ ((bT l [opn 16 a u]++[(7,(a:Int),((a+1:Nat):Int),bI l,())])++uO F (a+2) [41] (bI l)) _ _ (by omega)]
   .rw[ac,xn _ ((bT l [opn 16 a u]++[(7,(a:Int),((a+1:Nat):Int),bI l,())])++uO F (a+2) [41] (bI l)) _ _ (by omega) (by omega) (by omega)]
 obtain⟨e,m,X,v,Y,K,M⟩:=W;refine⟨e,[(7,(a:Int),((a+1:Nat):Int),bI l,())]++uO F (a+2) [41] (bI l)++m, ?_, ?_,by omega,K,by grind,((Tr.lf (ae a) (ae _) (by omega) (fun _=>⟨x,by simpa [Bv,x] using D⟩)).app (xG (a:=a+1) (by omega) G.1) (ae _) rfl).app M.2 V (by grind)⟩
 .show ass (gI y) F (a:Int) _ _ _=_;rw[ass,Vh a _ _ _ (by omega) (by rw[U];omega),bG];simp only[wdL,C9,D,if_true];rw[mV hF (a+1) _ _ _ (by omega) [40] rfl,nJ E,bG];simp only;rw[show a+1+1=a+2 from rfl,zB hF (a+2) _ _ _ (by omega) (by grind) [41] rfl,bG];simp only[lV];rw[nP hF _ _ _ _ A,bG];simp only;rw[Dt hF _ _ _ _ (by omega),bG];simp only;cases hc:Ic F (ln F (qp F (a+2) [41])) (d+1)with
  |true=>
   simp_all [bG]
  |false=>
   simp_all [bG]
 .rw[lH a l u d (by omega) (by omega) (by omega) N (by omega),bG];simp only[show jB 16=true from rfl,if_true];rw[OX a _ _ _ (k:=7) (by omega) (by omega) rfl (by omega) (by grind) (by omega) (by omega),bG];simp only;rw[dn,show((a+1:Nat):Int)+1=((a+2:Nat):Int) by omega,zC (a+2) _ _ _ (by omega) (by grind) (by omega) (by omega) [41] (by simp),bG];simp only[lV];rw[mG hF _ _ _ _ A,bG];simp only;rw[wJ,bG];simp only;rw[S]at v;rw[show((l.length:Nat):Int)=bI l from rfl];cases hc:Ic F (ln F (qp F (a+2) [41])) (d+1)with
  |true=>
   rw[hc,aa]at v;rw[aa,v,bG];simp only;rw[ag,ag,show bI l=((l.length:Nat):Int) from rfl,J];rfl
  |false=>
   rw[hc,ac]at v;rw[ac,v,bG];simp only;rw[ag,ag,show bI l=((l.length:Nat):Int) from rfl,J];rfl
end
section
open Bool renaming and_eq_true → af, false_eq_true → ah, not_true → au, and_true → ay, not_false → az
open List renaming getElem_mem → aG
open Nat renaming le_refl → ae
open Go.RowKit
variable {F:List Lf} (hF:OkF F)
include hF
theorem aoF {q':iY} (a:Nat) (l:List Nd) (u d:Int) (hp:Jb F a l d 113) (p:Ic F a d=false) (hb:Jp F a d=true):
  ∃(e:Nat) (m:List Nd),ajf F (a:Int) (bT l [opn 5 a u]) (bI l) d=some (PR F e (bT l [opn 5 a u]++m) (bI l) d,())/\
   mM q' F (iT F) (a:Int) u d l=some (.inl ((),((),()),((F,iT F,(e:Int),u,d,()),l++(5,(a:Int),(e:Int),u,())::m,())))/\a<e/\e<=F.length/\m.length+4<=16*(e-a)/\Tr F a e (bI l) (l.length+1) m:=by
 obtain⟨q,B,g,D⟩:=hp;have E:=hF.len;have i:(bT l [opn 5 a u]).length=l.length+1:=by unfold bT;simp
 have s:bT l [opn 5 a u]=l++[(5,(a:Int),0,u,())]:=rfl;have v:(Dh F a||Bv F a)=true:=by
  unfold Jp at hb;rw[p,Bool.or_false]at hb;cases hr:Dh F a with
  |true=>rfl
  |false=>
   rw[hr,Bool.or_false]at hb;have f:=gZ hb;have j:=Ub hb;rw[abI f]at j;rw[Bool.false_or];unfold Bv;rw[dif_pos f];exact decide_eq_true (aCb (hF.txt _ (aG f)) j)
 obtain⟨e,m,x,o,G,y,z,A⟩:=Ey hF (q':=q') (bI l) d u ⟨g,by omega⟩ bM a (bT l [opn 5 a u]) false 0 (dK) q (by rw[i];omega) (by omega) (by omega) ⟨fun h=>(by cases h),fun h=>absurd rfl h⟩;have f:=A v;refine⟨e,m, ?_, ?_,f,y,by omega,i▸z.2⟩
 .rw[ajf,x,bG];rfl
 .rw[mM,vU,lH a l u d (by omega) (by omega) (by omega) g (by omega),bG];simp only[show jB 5=false from rfl,ah,if_false];rw[s]at o;rw[show((l.length:Nat):Int)=bI l from rfl,o,bG];simp only[dN];rw[show bI l=((l.length:Nat):Int) from rfl,uT e _ u d l.length (by simp) (oN l _ 5 _ _) (by omega) (by omega) g (by omega),bG];simp only[oJ,show jB 5=false from rfl,ah,if_false]
theorem Yk {n:Nat} (h:All F n) (G:All F (n-1)) (a:Nat) (l:List Nd) (u d:Int) (r s:Nat) (I:16*(F.length-a)+9<n+1) (hr:n+1<=r) (O:n+1<=s) (hp:Jb F a l d 113):
  ∃(e:Nat) (m:List Nd),(gI r).q177 F (a:Int) l u d=some (PR F e (l++m) u d,())/\
   (gU s).q155 F (iT F) l (a:Int) u d=some (RR F e (l++m) u d,())/\a<=e/\e<=F.length/\(m.length<=16*(e-a)+1/\Tr F a e u l.length m)/\(Jp F a d=true->a<e/\m.length+3<=16*(e-a)):=by
 have x:=hp;obtain⟨A,S,J,U⟩:=hp;have V:=hF.len;obtain⟨q,rfl⟩: ∃q,r=q+1:=⟨r-1,by omega⟩;obtain⟨f,rfl⟩: ∃f,s=f+1:=⟨s-1,by omega⟩;show ∃(e:Nat) (m:List Nd),asr (gI q) F (a:Int) l u d=_/\asq (gU f) F (iT F) l (a:Int) u d=_/\_
 (rewrite [asr,asq];delta EZ;rw[Dt hF a l u d (by omega),VV a l u d (by omega),bG,bG])
 simp only;cases hc:Ic F a d with
 |true=>
  have v:Jp F a d=true:=by grind [Jp]
  obtain⟨e,m,y,z,o,p,g⟩:=h.compound a l u d q f (by omega) (by omega) (by omega) x hc;refine⟨e,m, ?_, ?_,by omega,p,⟨by omega,g.2⟩,fun _=>⟨o,g.1⟩⟩
  .simp_all [bG]
  simp_all [wJ,bG]
 |false=>
  simp only[ac];rw[agJ hF a l u d A,bG];simp only;cases hf:fnB F a d with
  |true=>
   have v:Jp F a d=true:=by
    simp_all [fnB,Jp]
   obtain⟨e,m,y,z,o,p,g⟩:=amL hF h G a l u d q f I (by omega) (by omega) x hf;obtain⟨B,_,_⟩:=kU l (opn 16 a u) (by omega);obtain⟨D,E⟩:=qE l m (opn 16 a u);refine⟨e,(16,(a:Int),(e:Int),u,())::m, ?_, ?_,by omega,p,⟨by grind,g.2.one (ae _) (ae _) (by omega) rfl⟩,fun _=>⟨o,by simp_all⟩⟩
   .simp only[eP,ay,aa,B];rw[dn,y,bG];simp only[D,E,aa,lJ]
    grind [iw]
   .unfold fnB at hf;simp only[af,decide_eq_true_eq]at hf;obtain⟨g1,g2,g3,g4⟩:=hf;have i:=gZ g1;have K:=gZ (UL (F:=F) (a:=a+1) (c:=40) (by decide) g2);rw[dif_pos i]at g4;rw[v];simp only[au,ac];rw[wJ a l u d,bG,hc];simp only[ac];rw[jh a l u d [120] (by simp),bG,g1];simp only[aa];rw[dn,show(a:Int)+1=((a+1:Nat):Int) by omega,bV (eH (by grind [bK])),bV (dV (by omega) (by grind)),zx K,
     show bP ((Di F (a+1)).toNat:Int) 40=decide (Di F (a+1)=40) from ah9 (a+1) 40,decide_eq_true g2,aa,bV (eH g3),bV (dV),zY i,xf (by have:=hF.txt _ (aG i);omega),bG,g4]
    assumption
  |false=>
   simp only[ac];rw[RN hF a l u d (by omega),bG];simp only;cases v:Jp F a d with
   |false=>
    simp only[az,aa,ac];rw[nz a l u d (by omega),xn a l u d (by omega) J (by omega),bG,bG];exact⟨a,[(18,(a:Int),(a:Int),u,())],rfl,rfl,ae _,A,⟨by simp,.mis (ae _) (ae _)⟩,fun h=>by cases h⟩
   |true=>
    obtain⟨e,m,y,z,o,p,g⟩:=aoF hF (q':=gU f) a l u d x hc v;obtain⟨B,_,_⟩:=kU l (opn 5 a u) (by omega);obtain⟨D,E⟩:=qE l m (opn 5 a u);refine⟨e,(5,(a:Int),(e:Int),u,())::m, ?_, ?_,by omega,p,⟨by grind,g.2.one (ae _) (ae _) (by omega) rfl⟩,fun _=>⟨o,by simp_all⟩⟩
    .simp_all [eP,bG,lJ]
    .simp only[au,ac];rw[wJ a l u d,bG,hc];simp only[ac];rw[jh a l u d [120] (by simp),bG];simp only;have M:bH (mM (gU f) F (iT F) (a:Int) u d l) (fun N=>dN N (fun j=>
       some ((j.2.2.1.1,(j.2.2.1.2.1,(j.2.2.2.1,(j.2.2.1.2.2.1,(j.2.2.1.2.2.2.1,(j.2.2.1.2.2.2.2.1,())))))),())) (fun W=>none))=some (RR F e (l++(5,(a:Int),(e:Int),u,())::m) u d,()):=by
      rw[z,bG];rfl
     cases hx:fG F a [120]with
     |false=>assumption
     |true=>
      have i:=gZ hx;simp only[aa];rw[dn,show(a:Int)+1=((a+1:Nat):Int) by omega];by_cases hl2:a+1<F.length
      .rw[bV (eH (by grind [bK])),bV (dV (by omega) (by grind)),zx hl2,show bP ((Di F (a+1)).toNat:Int) 40=decide (Di F (a+1)=40) from ah9 (a+1) 40];by_cases h40:Di F (a+1)=40
       .rw[decide_eq_true h40,aa];by_cases hd2:d<200
        .rw[bV (eH hd2),bV (dV),zY i,xf (by have:=hF.txt _ (aG i);omega),bG];have X:decide (nl F[a].2.1≠0/\nl F[a].2.1=F[a].2.1.length)=false:=by
          simp_all [fnB]
         grind
        simp_all [ig]
       simp_all
      .rw[dI (ig (by grind [bK]))];exact M
end
section
open Option renaming some → a6, none → a7
open List renaming append_assoc → ag
open Nat renaming le_refl → ae
open Go.RowKit
variable {F:List Lf} (hF:OkF F)
include hF
theorem IR {q':iY} (u d w:Int) (hd:0<=d/\d<=201) (P:Nat->Nat->List Nd->Option (Nat×List Nd)->Prop)
  (i: ∀N a L,Dh F a=false->P (N+1) a L (a6 (a,L)))
  (j: ∀N a L f g x,Dh F a=true->f<=F.length->zS F (a:Int) L u d=a6 (PR F f (L++g) u d,(true,()))->P N f (L++g) x->P (N+1) a L x):
  ∀(N a:Nat) (L:List Nd),F.length-a<N->a<=F.length->L.length<=16*a+1000->
  ∃(e:Nat) (m:List Nd),P N a L (a6 (e,L++m))/\jg q' N w F (iT F) (a:Int) u d L=a6 (.inl ((w,()),((),()),((F,iT F,(e:Int),u,d,()),L++m,())))/\a<=e/\e<=F.length/\m.length<=2*(e-a)/\Tr F a e u L.length m
 |0,a,L,l,_,_=>by omega
 |N+1,a,L,l,h,hL=>by
  have z:=hF.len;rw[jg,KZ,yM a L u d (by omega),bG];simp only;cases hr:Dh F a with
  |false=>exact⟨a,[],by simp_all,by simp,ae _,h,by simp,.nil (ae _)⟩
  |true=>
   obtain⟨f,g,A,o,B,p,q⟩:=O6 hF a L u d h (by omega) hd.1 (by omega) hr;simp only[aa];rw[o,bG];simp only;obtain⟨e,m,D,s,E,v,y⟩:=IR u d w hd P i j N f (L++g) (by omega) p (by grind);exact⟨e,g++m,by grind,by rw[s,ag],by omega,v,by grind,q.2.ap y.2⟩
theorem aJ2 {q:iE} {q':iY} (u d w f g h i j l:Int) (hd:0<=d/\d<=201) (a:Nat) (L:List Nd) (o:a<=F.length) (hL:L.length<=16*a+1000):
  ∃(e:Nat) (m:List Nd),ou q bM f g h i j l L F (a:Int) u d=a6 (.inl ((),((f,g,()),(h,i,()),(j,l,()),(),()),((),(),L++m,(F,(e:Int),u,d,()),())))/\
   jg q' bM w F (iT F) (a:Int) u d L=a6 (.inl ((w,()),((),()),((F,iT F,(e:Int),u,d,()),L++m,())))/\a<=e/\e<=F.length/\m.length<=2*(e-a)/\Tr F a e u L.length m:=by
 have A:=hF.len;obtain⟨e,m,B,D,E,G,I⟩:=IR hF (q':=q') u d w hd (fun N a L x=>a<=F.length-> ∀y,x=a6 y->ou q N f g h i j l L F (a:Int) u d=a6 (.inl ((),((f,g,()),(h,i,()),(j,l,()),(),()),((),(),y.2,(F,(y.1:Int),u,d,()),()))))
  (fun N a L hr o y p=>by
   cases p;rw[ou,uK,oC hF a L u d o hr,bG];rfl)
  (fun N a L J K x hr s v z o y p=>by
   rw[ou,uK,v,bG];simp only[aa];exact z s y p) bM a L (dK) o hL
 grind
theorem aFQ {q:iE} {q':iY} (u d w f g h i j l:Int) (hd:0<=d/\d<=201) (a:Nat) (L:List Nd) (o:a<=F.length) (hL:L.length<=16*a+1000):
  ∃(e:Nat) (m:List Nd),kY q bM f g h i j l L F (a:Int) u d=a6 (.inl ((),((f,g,()),(h,i,()),(j,l,()),(),()),((),(),L++m,(F,(e:Int),u,d,()),())))/\
   jg q' bM w F (iT F) (a:Int) u d L=a6 (.inl ((w,()),((),()),((F,iT F,(e:Int),u,d,()),L++m,())))/\a<=e/\e<=F.length/\m.length<=2*(e-a)/\Tr F a e u L.length m:=by
 have A:=hF.len;obtain⟨e,m,B,D,E,G,I⟩:=IR hF (q':=q') u d w hd (fun N a L x=>a<=F.length-> ∀y,x=a6 y->kY q N f g h i j l L F (a:Int) u d=a6 (.inl ((),((f,g,()),(h,i,()),(j,l,()),(),()),((),(),y.2,(F,(y.1:Int),u,d,()),()))))
  (fun N a L hr o y p=>by
   cases p;rw[kY,pU,oC hF a L u d o hr,bG];rfl)
  (fun N a L J K x hr s v z o y p=>by
   rw[kY,pU,v,bG];simp only[aa];exact z s y p) bM a L (dK) o hL
 grind
theorem aFR {q:iE} {q':iY} (u d w f g h i j l:Int) (hd:0<=d/\d<=201) (a:Nat) (L:List Nd) (o:a<=F.length) (hL:L.length<=16*a+1000):
  ∃(e:Nat) (m:List Nd),kZ q bM f g h i j l L F (a:Int) u d=a6 (.inl ((),((f,g,()),(h,i,()),(j,l,()),(),()),((),(),L++m,(F,(e:Int),u,d,()),())))/\
   jg q' bM w F (iT F) (a:Int) u d L=a6 (.inl ((w,()),((),()),((F,iT F,(e:Int),u,d,()),L++m,())))/\a<=e/\e<=F.length/\m.length<=2*(e-a)/\Tr F a e u L.length m:=by
 have A:=hF.len;obtain⟨e,m,B,D,E,G,I⟩:=IR hF (q':=q') u d w hd (fun N a L x=>a<=F.length-> ∀y,x=a6 y->kZ q N f g h i j l L F (a:Int) u d=a6 (.inl ((),((f,g,()),(h,i,()),(j,l,()),(),()),((),(),y.2,(F,(y.1:Int),u,d,()),()))))
  (fun N a L hr o y p=>by
   cases p;rw[kZ,pV,oC hF a L u d o hr,bG];rfl)
  (fun N a L J K x hr s v z o y p=>by
   rw[kZ,pV,v,bG];simp only[aa];exact z s y p) bM a L (dK) o hL
 grind
theorem aFS {q:iE} {q':iY} (u d w f g h i j l:Int) (hd:0<=d/\d<=201) (a:Nat) (L:List Nd) (o:a<=F.length) (hL:L.length<=16*a+1000):
  ∃(e:Nat) (m:List Nd),lg q bM f g h i j l L F (a:Int) u d=a6 (.inl ((),((f,g,()),(h,i,()),(j,l,()),(),()),((),(),L++m,(F,(e:Int),u,d,()),())))/\
   jg q' bM w F (iT F) (a:Int) u d L=a6 (.inl ((w,()),((),()),((F,iT F,(e:Int),u,d,()),L++m,())))/\a<=e/\e<=F.length/\m.length<=2*(e-a)/\Tr F a e u L.length m:=by
 have A:=hF.len;obtain⟨e,m,B,D,E,G,I⟩:=IR hF (q':=q') u d w hd (fun N a L x=>a<=F.length-> ∀y,x=a6 y->lg q N f g h i j l L F (a:Int) u d=a6 (.inl ((),((f,g,()),(h,i,()),(j,l,()),(),()),((),(),y.2,(F,(y.1:Int),u,d,()),()))))
  (fun N a L hr o y p=>by
   cases p;rw[lg,pW,oC hF a L u d o hr,bG];rfl)
  (fun N a L J K x hr s v z o y p=>by
   rw[lg,pW,v,bG];simp only[aa];exact z s y p) bM a L (dK) o hL
 grind
theorem aFT {q:iE} {q':iY} (u d w f g h i j l:Int) (hd:0<=d/\d<=201) (a:Nat) (L:List Nd) (o:a<=F.length) (hL:L.length<=16*a+1000):
  ∃(e:Nat) (m:List Nd),lm q bM f g h i j l L F (a:Int) u d=a6 (.inl ((),((f,g,()),(h,i,()),(j,l,()),(),()),((),(),L++m,(F,(e:Int),u,d,()),())))/\
   jg q' bM w F (iT F) (a:Int) u d L=a6 (.inl ((w,()),((),()),((F,iT F,(e:Int),u,d,()),L++m,())))/\a<=e/\e<=F.length/\m.length<=2*(e-a)/\Tr F a e u L.length m:=by
 have A:=hF.len;obtain⟨e,m,B,D,E,G,I⟩:=IR hF (q':=q') u d w hd (fun N a L x=>a<=F.length-> ∀y,x=a6 y->lm q N f g h i j l L F (a:Int) u d=a6 (.inl ((),((f,g,()),(h,i,()),(j,l,()),(),()),((),(),y.2,(F,(y.1:Int),u,d,()),()))))
  (fun N a L hr o y p=>by
   cases p;rw[lm,pX,oC hF a L u d o hr,bG];rfl)
  (fun N a L J K x hr s v z o y p=>by
   rw[lm,pX,v,bG];simp only[aa];exact z s y p) bM a L (dK) o hL
 grind
theorem aFU {q:iE} {q':iY} (u d w f g h i j l:Int) (hd:0<=d/\d<=201) (a:Nat) (L:List Nd) (o:a<=F.length) (hL:L.length<=16*a+1000):
  ∃(e:Nat) (m:List Nd),lq q bM f g h i j l L F (a:Int) u d=a6 (.inl ((),((f,g,()),(h,i,()),(j,l,()),(),()),((),(),L++m,(F,(e:Int),u,d,()),())))/\
   jg q' bM w F (iT F) (a:Int) u d L=a6 (.inl ((w,()),((),()),((F,iT F,(e:Int),u,d,()),L++m,())))/\a<=e/\e<=F.length/\m.length<=2*(e-a)/\Tr F a e u L.length m:=by
 have A:=hF.len;obtain⟨e,m,B,D,E,G,I⟩:=IR hF (q':=q') u d w hd (fun N a L x=>a<=F.length-> ∀y,x=a6 y->lq q N f g h i j l L F (a:Int) u d=a6 (.inl ((),((f,g,()),(h,i,()),(j,l,()),(),()),((),(),y.2,(F,(y.1:Int),u,d,()),()))))
  (fun N a L hr o y p=>by
   cases p;rw[lq,pY,oC hF a L u d o hr,bG];rfl)
  (fun N a L J K x hr s v z o y p=>by
   rw[lq,pY,v,bG];simp only[aa];exact z s y p) bM a L (dK) o hL
 grind
end
section
open List renaming append_assoc → ag, length_append → ai
open Nat renaming le_refl → ae
open Go.RowKit
variable {F:List Lf} (hF:OkF F)
include hF
theorem EW {k:Nat} (h:All F k) (a:Nat) (l:List Nd) (u d:Int) (r g:Nat) (G:16*(F.length-a)+13<k) (hr:k+1<=r) (I:k+1<=g) (hp:Jb F a l d 105):
  ∃(f:Nat) (m:List Nd),(gI r).q269 F (a:Int) l u d=some (PR F f (l++m) u d,())/\
   (gU g).q231 F (iT F) l (a:Int) u d=some (RR F f (l++m) u d,())/\a<=f/\f<=F.length/\m.length<=16*(f-a)+3/\Tr F a f u l.length m:=by
 obtain⟨o,J,j,p⟩:=hp;have K:=hF.len;obtain⟨q,rfl⟩: ∃q,r=q+1:=⟨r-1,by omega⟩;obtain⟨i,rfl⟩: ∃i,g=i+1:=⟨g-1,by omega⟩;obtain⟨M,s⟩:=Hw (F:=F) a [100];have v:=s o;have N:=tY (F:=F) a [100] u;obtain⟨e,x,y,z,O,A,B⟩:=h.body (qp F a [100]) (l++uO F a [100] u) u d q i (by omega) (by omega) (by omega) ⟨v,by rw[ai];omega,j,p⟩;obtain⟨S,D⟩:=Hw (F:=F) e [103];have E:=D A;have U:=tY (F:=F) e [103] u;refine⟨qp F e [103],uO F a [100] u++x++uO F e [103] u, ?_, ?_,by omega,E,by simp only[ai];omega,((xG (ae a) (ae a)).ap B.2).apA fun _=>xG (ae e) (by omega)⟩
 .show asD (gI q) F (a:Int) l u d=_;rw[asD,zB hF a l u d (by omega) (by omega) [100] rfl,bG];simp only[lV];rw[y,bG];simp only;rw[zB hF e _ u d (by omega) (by simp only[ai];omega) [103] rfl,bG];simp only[lV,ag]
 .show asu (gU i) F (iT F) l (a:Int) u d=_;rw[asu,zC a l u d (by omega) (by omega) j (by omega) [100] (by simp),bG];simp only[lV];rw[z,bG];simp only;rw[zC e _ u d (by omega) (by simp only[ai];omega) j (by omega) [103] (by simp),bG];simp only[lV,ag]
theorem abK {k:Nat} (h:All F k) (a:Nat) (l:List Nd) (u d:Int) (q q':Nat) (o:bZ) (h0:o.contains 0=false) (s:o.length<1000000) (J:16*(F.length-a)+13<k) (hr:k<=q) (M:k<=q') (hp:Jb F a l d 105):
  ∃(f:Nat) (m:List Nd),(bH ((gI q).q268 F (a:Int) l u d) fun i=>bH (rG i.1.1 i.1.2.1 i.1.2.2.1 i.1.2.2.2.1 i.1.2.2.2.2.1 o) fun j=>
    some ((j.1.1,(j.1.2.1,(j.1.2.2.1,(j.1.2.2.2.1,(j.1.2.2.2.2.1,()))))),()))=some (PR F f (l++m) u d,())/\
   (∀{v:Type} (K:(List Lf×List UInt8×List Nd×Int×Int×Int×Unit)×Unit->Option v),(bH ((gU q').q230 F (iT F) l (a:Int) u d) fun g=>bH (mX g.1.1 g.1.2.1 g.1.2.2.1 g.1.2.2.2.1 g.1.2.2.2.2.1 g.1.2.2.2.2.2.1 o) K)=K (RR F f (l++m) u d,()))/\a<=f/\f<=F.length/\m.length<=16*(f-a)+2/\Tr F a f u l.length m:=by
 obtain⟨x,N,p,y⟩:=hp;have O:=hF.len;obtain⟨e,z,A,B,S,D,E⟩:=h.body a l u d q q' (by omega) (by omega) (by omega) ⟨x,by omega,p,y⟩;obtain⟨U,G⟩:=Hw (F:=F) e o;have I:=G D;have V:=tY (F:=F) e o u;refine⟨qp F e o,z++uO F e o u, ?_,fun K=> ?_,by omega,I,by simp only[ai];omega,E.2.apA fun _=>xG (ae e) (by omega)⟩
 .rw[A,bG];simp only;rw[zB hF e _ u d (by omega) (by simp only[ai];omega) o h0,bG];simp only[lV,ag]
 .rw[B,bG];simp only;rw[zC e _ u d (by omega) (by simp only[ai];omega) p (by omega) o s,bG];simp only[lV,ag]
end
section
open Nat renaming le_refl → ae
open Go.RowKit
variable {F:List Lf} (hF:OkF F)
include hF
theorem V7 {k:Nat} (h:All F k) {q q':Nat} (g:k<=q) (i:k<=q') (u d v:Int) (hd:0<=d/\d<=200): ∀(N a:Nat) (L:List Nd),F.length-a<N->a<=F.length->16*(F.length-a)+2<k->L.length<=16*a+110->
  ∃(f:Nat) (m:List Nd),J8 (gI q) N F (a:Int) u d L=some (.inl ((),((),()),((F,(f:Int),u,d,()),L++m,())))/\
   Ad (gU q') N v F (iT F) (a:Int) u d L=some (.inl ((v,()),((),()),((F,iT F,(f:Int),u,d,()),L++m,())))/\a<=f/\f<=F.length/\m.length<=16*(f-a)/\Tr F a f u L.length m
 |0,a,L,o,_,_,_=>by omega
 |N+1,a,L,o,p,G,hL=>by
  have I:=hF.len;rw[J8,QR,Ad,KY,mV hF a L u d (by omega) [101] rfl,jh a L u d [101] (by simp),bG,bG];simp only;cases hb:fG F a [101]with
  |false=>
   rw[xC hb];exact⟨a,[],by simp,by simp,ae _,p,by simp,.nil (ae _)⟩
  |true=>
   have J:=gZ hb;rw[nJ hb];simp only[aa];rw[dn,show(a:Int)+1=((a+1:Nat):Int) by omega];obtain⟨e,j,s,K,M,x,y⟩:=h.body (a+1) L u d q q' (by omega) g i ⟨by omega,by omega,hd.1,hd.2⟩;obtain⟨O,z⟩:=Hw (F:=F) e [116];have A:=z x;have S:=tY (F:=F) e [116] u;obtain⟨B,l,U,V,W,D,E⟩:=h.body (qp F e [116]) (L++j++uO F e [116] u) u d q q' (by omega) g i ⟨A,by grind,hd.1,hd.2⟩;obtain⟨f,m,g1,g2,g3,g4,g5⟩:=V7 h g i u d v hd N B (L++j++uO F e [116] u++l) (by omega) D (by omega) (by grind);refine⟨f,j++uO F e [116] u++l++m, ?_, ?_,by omega,g4,by grind,(((y.2.wide (by omega) (ae _)).apA fun _=>xG (ae e) (ae e)).ap E.2).ap g5.2⟩
   .rw[s,bG];simp only;rw[zB hF e _ u d (by omega) (by grind) [116] rfl,bG];simp_all [lV,bG]
   grind [bG,zC,lV]
theorem aHM {k:Nat} (h:All F k) (a:Nat) (l:List Nd) (u d v:Int) (r q':Nat) (hm:16*(F.length-a)+13<k) (hr:k+1<=r) (G:k<=q') (hp:Jb F a l d 105):
  ∃(j:Nat) (m:List Nd),(gI r).q253 F (a:Int) l u d=some (PR F j (l++m) u d,())/\
   (∀{J:Type} (K:Int->(List Lf×List UInt8×List Nd×Int×Int×Int×Unit)×Unit->Option J),
    (bH ((gU q').q230 F (iT F) l (a:Int) u d) fun A=>
       bH (mX A.1.1 A.1.2.1 A.1.2.2.1 A.1.2.2.2.1 A.1.2.2.2.2.1 A.1.2.2.2.2.2.1 [116]) fun B=>
        bH ((gU q').q230 B.1.1 B.1.2.1 B.1.2.2.1 B.1.2.2.2.1 B.1.2.2.2.2.1 B.1.2.2.2.2.2.1) fun g=>
         bH (Ad (gU q') bM v g.1.1 g.1.2.1 g.1.2.2.2.1 g.1.2.2.2.2.1 g.1.2.2.2.2.2.1 g.1.2.2.1) fun o=>
          dN o (fun y=>
           bH (nU y.2.2.1.1 y.2.2.1.2.1 y.2.2.2.1 y.2.2.1.2.2.1 y.2.2.1.2.2.2.1 y.2.2.1.2.2.2.2.1 [108]) fun e=>
            bif e.2.1 then
             bH ((gU q').q230 e.1.1 e.1.2.1 e.1.2.2.1 (di .i64 e.1.2.2.2.1 1) e.1.2.2.2.2.1 e.1.2.2.2.2.2.1) fun p=>
              bH (mX p.1.1 p.1.2.1 p.1.2.2.1 p.1.2.2.2.1 p.1.2.2.2.2.1 p.1.2.2.2.2.2.1 [102]) (K y.1.1)
            else
            bH (mX e.1.1 e.1.2.1 e.1.2.2.1 e.1.2.2.2.1 e.1.2.2.2.2.1 e.1.2.2.2.2.2.1 [102]) (K y.1.1)) (fun b7=>none))=K v (RR F j (l++m) u d,()))/\a<=j/\j<=F.length/\m.length<=16*(j-a)+5/\Tr F a j u l.length m:=by
 obtain⟨U,p2,D,I⟩:=hp;have ad:=hF.len;obtain⟨q,rfl⟩: ∃q,r=q+1:=⟨r-1,by omega⟩;obtain⟨i,s,V,W,e3,X,Y⟩:=h.body a l u d q q' (by omega) (by omega) G ⟨U,by omega,D,I⟩;obtain⟨w1,Z⟩:=Hw (F:=F) i [116];have w3:=Z X;have w4:=tY (F:=F) i [116] u;obtain⟨a2,x,f1,f2,f3,f4,f5⟩:=h.body (qp F i [116]) (l++s++uO F i [116] u) u d q q' (by omega) (by omega) G ⟨w3,by grind,D,I⟩;obtain⟨f,z,g1,g2,g3,g4,g5⟩:=V7 hF h (q:=q) (q':=q') (by omega) G u d v ⟨D,I⟩ bM a2 (l++s++uO F i [116] u++x) (dK) f4 (by omega) (by grind);have ab: ∃(j:Nat) (m:List Nd),(bH (rD F (f:Int) (l++s++uO F i [116] u++x++z) u d [108]) fun g=>
       bif g.2.1 then
        bH ((gI q).q268 g.1.1 g.1.2.1 g.1.2.2.1 g.1.2.2.2.1 g.1.2.2.2.2.1) fun o=>
         bH (rG o.1.1 o.1.2.1 o.1.2.2.1 o.1.2.2.2.1 o.1.2.2.2.2.1 [102]) fun E=>
          some ((E.1.1,(E.1.2.1,(E.1.2.2.1,(E.1.2.2.2.1,(E.1.2.2.2.2.1,()))))),())
       else
       bH (rG g.1.1 g.1.2.1 g.1.2.2.1 g.1.2.2.2.1 g.1.2.2.2.2.1 [102]) fun o=>
        some ((o.1.1,(o.1.2.1,(o.1.2.2.1,(o.1.2.2.2.1,(o.1.2.2.2.2.1,()))))),()))=some (PR F j (l++s++uO F i [116] u++x++z++m) u d,())/\
   (∀{J:Type} (K:(List Lf×List UInt8×List Nd×Int×Int×Int×Unit)×Unit->Option J),(bH (nU F (iT F) (l++s++uO F i [116] u++x++z) (f:Int) u d [108]) fun e=>
            bif e.2.1 then
             bH ((gU q').q230 e.1.1 e.1.2.1 e.1.2.2.1 (di .i64 e.1.2.2.2.1 1) e.1.2.2.2.2.1 e.1.2.2.2.2.2.1) fun p=>
              bH (mX p.1.1 p.1.2.1 p.1.2.2.1 p.1.2.2.2.1 p.1.2.2.2.2.1 p.1.2.2.2.2.2.1 [102]) K
            else
            bH (mX e.1.1 e.1.2.1 e.1.2.2.1 e.1.2.2.2.1 e.1.2.2.2.2.1 e.1.2.2.2.2.2.1 [102]) K)=K (RR F j (l++s++uO F i [116] u++x++z++m) u d,()))/\f<=j/\j<=F.length/\m.length<=16*(j-f)+2/\Tr F f j u (l++s++uO F i [116] u++x++z).length m:=by
  have hL:(l++s++uO F i [116] u++x++z).length<=16*f+108:=by grind
  generalize l++s++uO F i [116] u++x++z=L at hL;rw[mV hF f L u d (by omega) [108] rfl,bG];cases hb:fG F f [108]with
  |true=>
   have af:=gZ hb;obtain⟨b1,n1,s1,O,s3,M,N⟩:=abK hF h (f+1) L u d q q' [102] rfl (by simp) (by omega) (by omega) G ⟨by omega,by omega,D,I⟩;refine⟨b1,n1, ?_,fun K=> ?_,by omega,M,by omega,N.2.wide (by omega) (ae _)⟩
   .simp_all [nJ]
   .rw[jh f L u d [108] (by simp),bG,hb];simp only[aa];rw[dn,show(f:Int)+1=((f+1:Nat):Int) by omega];exact O K
  |false=>
   obtain⟨S,x2⟩:=Hw (F:=F) f [102];have x3:=x2 g4;have x4:=tY (F:=F) f [102] u;refine⟨qp F f [102],uO F f [102] u, ?_,fun K=> ?_,S,x3,by omega,xG (ae f) S⟩
   .rw[xC hb];simp only[ac];rw[zB hF f L u d (by omega) (by omega) [102] rfl,bG];simp only[lV]
   .rw[jh f L u d [108] (by simp),bG,hb];simp only[ac]
    grind [zC,bG,lV]
 obtain⟨j,m,s1,O,s3,M,N⟩:=ab;refine⟨j,s++uO F i [116] u++x++z++m, ?_,fun K=> ?_,by omega,M,by grind,(((Y.2.apA fun _=>xG (ae i) (ae i)).ap f5.2).ap g5.2).ap N.2⟩
 .show asz (gI q) F (a:Int) l u d=_;rw[asz,V,bG];simp only;rw[zB hF i _ u d (by omega) (by grind) [116] rfl,bG];simp_all [lV,bG,dN]
 .rw[W,bG];simp only;rw[zC i _ u d (by omega) (by grind) D (by omega) [116] (by simp),bG];simp_all [lV,bG,dN]
theorem axM {k:Nat} (h:All F k) (a:Nat) (l:List Nd) (u d:Int) (r q':Nat) (A:16*(F.length-a)+13<k) (hr:k+2<=r) (B:k+1<=q') (hp:Jb F a l d 104):
  ∃(e:Nat) (m:List Nd),(gI r).q254 F (a:Int) l u d=some (PR F e (l++m) u d,())/\
   (∀{o:Type} (K:(List Lf×List UInt8×List Nd×Int×Int×Int×Unit)×Unit->Option o),
    (bH ((gU q').q230 F (iT F) l (a:Int) u d) fun f=>
       bH ((gU q').q231 f.1.1 f.1.2.1 f.1.2.2.1 f.1.2.2.2.1 f.1.2.2.2.2.1 f.1.2.2.2.2.2.1) K)=K (RR F e (l++m) u d,()))/\a<=e/\e<=F.length/\m.length<=16*(e-a)+4/\Tr F a e u l.length m:=by
 obtain⟨p,D,g,i⟩:=hp;have E:=hF.len;obtain⟨q,rfl⟩: ∃q,r=q+1:=⟨r-1,by omega⟩;obtain⟨s,j,G,I,J,v,x⟩:=h.body a l u d q q' (by omega) (by omega) (by omega) ⟨p,by omega,g,i⟩;obtain⟨e,m,M,N,O,y,z⟩:=EW hF h s (l++j) u d q q' (by omega) (by omega) (by omega) ⟨v,by grind,g,i⟩;refine⟨e,j++m, ?_,fun K=> ?_,by omega,y,by grind,x.2.ap z.2⟩
 .simp_all [aBz,gI,bG]
 simp_all [bG]
end
section
open Option renaming some → a6, none → a7
open Bool renaming not_true → au, not_false → az
open List renaming append_assoc → ag, getElem_mem → aG
open Nat renaming le_refl → ae
open Go.RowKit
variable {F:List Lf} (hF:OkF F)
include hF
omit hF in
theorem aD8 {a:Nat} (h:fG F a [110]=true):bP (((ln F a:Nat):Int)-(a:Int)) 0=false:=by
 have:a+1<=ln F a:=by
  simp_all [ln,lnF,agX]
 exact dX
omit hF in
theorem aHZ {a:Nat} (h:fG F a [110]=false):bP (((ln F a:Nat):Int)-(a:Int)) 0=true:=by
 simp_all [ln,lnF,fK]
theorem Vj {q:iE} {q':iY} (u d:Int) (hd:0<=d/\d<=200): ∀(N a:Nat) (L:List Nd),F.length-a<N->a<=F.length->L.length<=16*a+200->
  ∃(e:Nat) (m:List Nd),FN q N F (a:Int) u d L=a6 (.inl ((),((),()),((F,(e:Int),u,d,()),L++m,())))/\
   FM q' N F (iT F) (a:Int) u d L=a6 (.inl ((),((),()),((F,iT F,(e:Int),u,d,()),L++m,())))/\a<=e/\e<=F.length/\m.length<=e-a/\Tr F a e u L.length m
 |0,a,L,h,_,_=>by omega
 |N+1,a,L,h,g,hL=>by
  have i:=hF.len;rw[FN,QS,FM,QP,zU a L u d,bG];simp only;by_cases hlt:a<F.length
  .rw[bV (b:=gV (a:Int) (bI F)) (eH (by rw[bK];omega)),bV (b:=fD F (a:Int)) (dV),zY hlt];by_cases h6:F[a].1=6
   .have f:Bv F a=true:=by simp_all [Bv]
    rw[bV (b:=bP F[a].1 6) (fK h6),f];simp only[aa];rw[Iq a L u d 7 (by omega) (by omega),OX a L u d (by omega) (by omega) rfl (by omega) (by omega) hd.1 (by omega),bG,bG];simp only;obtain⟨e,m,g1,g2,g3,g4,g5⟩:=Vj u d hd N (a+1) (L++[(7,(a:Int),((a+1:Nat):Int),u,())]) (by omega) (by omega) (by grind);exact⟨e,[(7,(a:Int),((a+1:Nat):Int),u,())]++m,by rw[g1,ag],by rw[g2,ag],by omega,g4,by grind,(Tr.lf (ae a) (ae _) (by omega) (fun _=>⟨hlt,h6⟩)).ap g5.2⟩
   .have f:Bv F a=false:=by simp_all [Bv]
    rw[dI (b:=bP F[a].1 6) (dX h6),f];exact⟨a,[],by simp,by simp,ae _,g,by simp,.nil (ae _)⟩
  .have f:Bv F a=false:=by unfold Bv;rw[dif_neg hlt]
   rw[dI (b:=gV (a:Int) (bI F)) (ig (by rw[bK];omega)),f];exact⟨a,[],by simp,by simp,ae _,g,by simp,.nil (ae _)⟩
theorem ady {k:Nat} (h:All F k) (a:Nat) (l:List Nd) (u d:Int) (q q':Nat) (Y:16*(F.length-a)+13<k) (hr:k+1<=q) (Z:k+1<=q') (hp:Jb F a l d 102):
  ∃(s:Nat) (m:List Nd),(bH (rD F (a:Int) l u d [59]) fun j=>
    bif j.2.1 then
     bH (pJ j.1.1 j.1.2.1 j.1.2.2.1 j.1.2.2.2.1 j.1.2.2.2.2.1) fun f=>
      bH ((gI q).q269 f.1.1 f.1.2.1 f.1.2.2.1 f.1.2.2.2.1 f.1.2.2.2.2.1) fun i=>
       a6 ((i.1.1,(i.1.2.1,(i.1.2.2.1,(i.1.2.2.2.1,(i.1.2.2.2.2.1,()))))),())
    else
    bH (pJ j.1.1 j.1.2.1 j.1.2.2.1 j.1.2.2.2.1 j.1.2.2.2.2.1) fun f=>
     bH (rD f.1.1 f.1.2.1 f.1.2.2.1 f.1.2.2.2.1 f.1.2.2.2.2.1 [107]) fun i=>
      bif i.2.1 then
       bH (FN (gI q) bM i.1.1 i.1.2.1 i.1.2.2.2.1 i.1.2.2.2.2.1 i.1.2.2.1) fun E=>
        dN E (fun K=>
         bH (rD K.2.2.1.1 K.2.2.1.2.1 K.2.2.2.1 K.2.2.1.2.2.1 K.2.2.1.2.2.2.1 [59]) fun g=>
          bH (pJ g.1.1 g.1.2.1 g.1.2.2.1 g.1.2.2.2.1 g.1.2.2.2.2.1) fun e=>
           bif(!e.2.1)then
            bif(!g.2.1)then
             bH (xR e.1.1 e.1.2.1 e.1.2.2.1 e.1.2.2.2.1 e.1.2.2.2.2.1) fun o=>
              bH ((gI q).q269 o.1.1 o.1.2.1 o.1.2.2.1 o.1.2.2.2.1 o.1.2.2.2.2.1) fun M=>
               a6 ((M.1.1,(M.1.2.1,(M.1.2.2.1,(M.1.2.2.2.1,(M.1.2.2.2.2.1,()))))),())
            else
            bH ((gI q).q269 e.1.1 e.1.2.1 e.1.2.2.1 e.1.2.2.2.1 e.1.2.2.2.2.1) fun o=>
             a6 ((o.1.1,(o.1.2.1,(o.1.2.2.1,(o.1.2.2.2.1,(o.1.2.2.2.2.1,()))))),())
           else
           bH ((gI q).q269 e.1.1 e.1.2.1 e.1.2.2.1 e.1.2.2.2.1 e.1.2.2.2.2.1) fun o=>
            a6 ((o.1.1,(o.1.2.1,(o.1.2.2.1,(o.1.2.2.2.1,(o.1.2.2.2.2.1,()))))),())) (fun b6=>
         a7)
      else
      bH ((gI q).q269 i.1.1 i.1.2.1 i.1.2.2.1 i.1.2.2.2.1 i.1.2.2.2.2.1) fun E=>
       a6 ((E.1.1,(E.1.2.1,(E.1.2.2.1,(E.1.2.2.2.1,(E.1.2.2.2.2.1,()))))),()))=a6 (PR F s (l++m) u d,())/\
   (bH (nU F (iT F) l (a:Int) u d [59]) fun x=>
   bif x.2.1 then
    bH (rU x.1.1 x.1.2.1 x.1.2.2.1 (di .i64 x.1.2.2.2.1 1) x.1.2.2.2.2.1 x.1.2.2.2.2.2.1) fun j=>
     bH ((gU q').q231 j.1.1 j.1.2.1 j.1.2.2.1 j.1.2.2.2.1 j.1.2.2.2.2.1 j.1.2.2.2.2.2.1) fun f=>
      a6 ((f.1.1,(f.1.2.1,(f.1.2.2.1,(f.1.2.2.2.1,(f.1.2.2.2.2.1,(f.1.2.2.2.2.2.1,())))))),())
   else
   bH (rU x.1.1 x.1.2.1 x.1.2.2.1 x.1.2.2.2.1 x.1.2.2.2.2.1 x.1.2.2.2.2.2.1) fun j=>
    bH (nU j.1.1 j.1.2.1 j.1.2.2.1 j.1.2.2.2.1 j.1.2.2.2.2.1 j.1.2.2.2.2.2.1 [107]) fun f=>
     bif f.2.1 then
      bH (FM (gU q') bM f.1.1 f.1.2.1 (di .i64 f.1.2.2.2.1 1) f.1.2.2.2.2.1 f.1.2.2.2.2.2.1 f.1.2.2.1) fun i=>
       dN i (fun I=>
        bH (nU I.2.2.1.1 I.2.2.1.2.1 I.2.2.2.1 I.2.2.1.2.2.1 I.2.2.1.2.2.2.1 I.2.2.1.2.2.2.2.1 [59]) fun y=>
         bif y.2.1 then
          bH (rU y.1.1 y.1.2.1 y.1.2.2.1 (di .i64 y.1.2.2.2.1 1) y.1.2.2.2.2.1 y.1.2.2.2.2.2.1) fun g=>
           bH ((gU q').q231 g.1.1 g.1.2.1 g.1.2.2.1 g.1.2.2.2.1 g.1.2.2.2.2.1 g.1.2.2.2.2.2.1) fun e=>
            a6 ((e.1.1,(e.1.2.1,(e.1.2.2.1,(e.1.2.2.2.1,(e.1.2.2.2.2.1,(e.1.2.2.2.2.2.1,())))))),())
         else
         bH (rU y.1.1 y.1.2.1 y.1.2.2.1 y.1.2.2.2.1 y.1.2.2.2.2.1 y.1.2.2.2.2.2.1) fun g=>
          bif(bP g.2.1 0)then
           bH (uw g.1.1 g.1.2.1 g.1.2.2.1 g.1.2.2.2.1 g.1.2.2.2.2.1 g.1.2.2.2.2.2.1) fun e=>
            bH ((gU q').q231 e.1.1 e.1.2.1 e.1.2.2.1 e.1.2.2.2.1 e.1.2.2.2.2.1 e.1.2.2.2.2.2.1) fun o=>
             a6 ((o.1.1,(o.1.2.1,(o.1.2.2.1,(o.1.2.2.2.1,(o.1.2.2.2.2.1,(o.1.2.2.2.2.2.1,())))))),())
          else
          bH ((gU q').q231 g.1.1 g.1.2.1 g.1.2.2.1 g.1.2.2.2.1 g.1.2.2.2.2.1 g.1.2.2.2.2.2.1) fun e=>
           a6 ((e.1.1,(e.1.2.1,(e.1.2.2.1,(e.1.2.2.2.1,(e.1.2.2.2.2.1,(e.1.2.2.2.2.2.1,())))))),())) (fun b5=>
        a7)
     else
     bH ((gU q').q231 f.1.1 f.1.2.1 f.1.2.2.1 f.1.2.2.2.1 f.1.2.2.2.2.1 f.1.2.2.2.2.2.1) fun i=>
      a6 ((i.1.1,(i.1.2.1,(i.1.2.2.1,(i.1.2.2.2.1,(i.1.2.2.2.2.1,(i.1.2.2.2.2.2.1,())))))),()))=a6 (RR F s (l++m) u d,())/\a<=s/\s<=F.length/\m.length<=16*(s-a)+4/\Tr F a s u l.length m:=by
 obtain⟨S,p2,G,J⟩:=hp;have ab:=hF.len;rw[mV hF a l u d (by omega) [59] rfl,jh a l u d [59] (by simp),bG,bG];simp only;cases hb:fG F a [59]with
 |true=>
  have V:=gZ hb;rw[nJ hb];simp only[aa];have W:=xk (F:=F) (a+1);have U:=xX (F:=F) (a:=a+1) (by omega);rw[dn,show(a:Int)+1=((a+1:Nat):Int) by omega,nP hF (a+1) l u d (by omega),mG hF (a+1) l u d (by omega),bG,bG];simp only;obtain⟨s,m,z,A,N,B,D⟩:=EW hF h (ln F (a+1)) l u d q q' (by omega) (by omega) (by omega) ⟨U,by omega,G,J⟩;rw[z,A,bG,bG];exact⟨s,m,rfl,rfl,by omega,B,by omega,D.2.wide (by omega) (ae _)⟩
 |false=>
  rw[xC hb];simp only[ac];have W:=xk (F:=F) a;have U:=xX (F:=F) S;rw[nP hF a l u d S,mG hF a l u d S,bG,bG];simp only;rw[mV hF (ln F a) l u d (by omega) [107] rfl,jh (ln F a) l u d [107] (by simp),bG,bG];simp only;cases hb2:fG F (ln F a) [107]with
  |false=>
   rw[xC hb2];simp only[ac];obtain⟨s,m,z,A,N,B,D⟩:=EW hF h (ln F a) l u d q q' (by omega) (by omega) (by omega) ⟨U,by omega,G,J⟩;rw[z,A,bG,bG];exact⟨s,m,rfl,rfl,by omega,B,by omega,D.2.wide (by omega) (ae _)⟩
  |true=>
   have V:=gZ hb2;rw[nJ hb2];simp only[aa];obtain⟨p,v,g1,g2,g3,g4,g5⟩:=Vj hF (q:=gI q) (q':=gU q') u d ⟨G,J⟩ bM (ln F a+1) l (dK) (by omega) (by omega);rw[dn,show((ln F a:Nat):Int)+1=((ln F a+1:Nat):Int) by omega,g1,g2,bG,bG];simp only[dN];have hL:(l++v).length<=16*p+90:=by grind
   rw[mV hF p (l++v) u d (by omega) [59] rfl,jh p (l++v) u d [59] (by simp),bG,bG];simp only;cases hb3:fG F p [59]with
   |true=>
    have ad:=gZ hb3;rw[nJ hb3];simp only[aa,au,ac];have X:=xk (F:=F) (p+1);have O:=xX (F:=F) (a:=p+1) (by omega);rw[dn,show(p:Int)+1=((p+1:Nat):Int) by omega,nP hF (p+1) (l++v) u d (by omega),mG hF (p+1) (l++v) u d (by omega),bG,bG];simp only;obtain⟨s,m,z,A,N,B,D⟩:=EW hF h (ln F (p+1)) (l++v) u d q q' (by omega) (by omega) (by omega) ⟨O,by omega,G,J⟩;rw[z,A,bG,bG];refine⟨s,v++m, ?_,by simp,by omega,B,by grind,(g5.2.wide (by omega) (ae _)).ap D.2⟩;simp
   |false=>
    rw[xC hb3];simp only[az,aa,ac];have X:=xk (F:=F) p;have O:=xX (F:=F) g4;rw[nP hF p (l++v) u d g4,mG hF p (l++v) u d g4,bG,bG];simp only;cases hb4:fG F p [110]with
    |true=>
     rw[aD8 hb4];simp only[au,ac];obtain⟨s,m,z,A,N,B,D⟩:=EW hF h (ln F p) (l++v) u d q q' (by omega) (by omega) (by omega) ⟨O,by omega,G,J⟩;rw[z,A,bG,bG];exact⟨s,v++m,by simp,by simp,by omega,B,by grind,(g5.2.wide (by omega) (ae _)).ap D.2⟩
    |false=>
     rw[aHZ hb4];simp only[az,aa];rw[nz (ln F p) (l++v) u d (by omega),xn (ln F p) (l++v) u d (by omega) G (by omega),bG,bG];simp only;obtain⟨s,m,z,A,N,B,D⟩:=EW hF h (ln F p) (l++v++[(18,((ln F p:Nat):Int),((ln F p:Nat):Int),u,())]) u d q q' (by omega) (by omega) (by omega) ⟨O,by grind,G,J⟩;rw[z,A,bG,bG];exact⟨s,v++[(18,((ln F p:Nat):Int),((ln F p:Nat):Int),u,())]++m,by simp,by simp,by omega,B,by grind,((g5.2.wide (by omega) (ae _)).apA fun _=>Tr.mis (ae (ln F p)) (ae _)).ap D.2⟩
theorem ax9 {k:Nat} (h:All F k) (a:Nat) (l:List Nd) (u d:Int) (r j:Nat) (E:16*(F.length-a)+13<k) (hr:k+2<=r) (G:k+2<=j) (hp:Jb F a l d 101):
  ∃(e:Nat) (m:List Nd),(gI r).q255 F (a:Int) l u d=a6 (PR F e (l++m) u d,())/\
   (gU j).q232 F (iT F) l (a:Int) u d=a6 (RR F e (l++m) u d,())/\a<=e/\e<=F.length/\m.length<=16*(e-a)+5/\Tr F a e u l.length m:=by
 obtain⟨y,I,f,x⟩:=hp;have J:=hF.len;obtain⟨q,rfl⟩: ∃q,r=q+1:=⟨r-1,by omega⟩;obtain⟨g,rfl⟩: ∃g,j=g+1:=⟨j-1,by omega⟩;obtain⟨o,p,K,M,N,s,v⟩:=ady hF h a (l++[(18,(a:Int),(a:Int),u,())]) u d q g (by omega) (by omega) (by omega) ⟨y,by simp_all,f,x⟩;show ∃(e:Nat) (m:List Nd),asA (gI q) F (a:Int) l u d=_/\asv (gU g) F (iT F) l (a:Int) u d=_/\_
 (rewrite [asA,asv];delta PN JE JD;rw[zU a l u d,bG])
 simp only;by_cases hlt:a<F.length
 .rw[bV (b:=gV (a:Int) (bI F)) (eH (by rw[bK];omega))];simp only[show fD F (a:Int)=true from dV,aa];rw[zY hlt];by_cases h6:F[a].1=6
  .have i:Bv F a=true:=by simp_all [Bv]
   rw[bV (b:=bP F[a].1 6) (fK h6),i];simp only[aa];rw[Oz (by have:=hF.txt _ (aG hlt);omega),xf (by have:=hF.txt _ (aG hlt);omega),bG,bG];simp only;cases decide (nl F[a].2.1≠0/\nl F[a].2.1=F[a].2.1.length)with
   |true=>
    simp only[aa];rw[Iq a l u d 7 (by omega) (by omega),OX a l u d (by omega) (by omega) rfl (by omega) (by omega) f (by omega),bG,bG];obtain⟨z,A,O,S,U,B,D⟩:=ady hF h (a+1) (l++[(7,(a:Int),((a+1:Nat):Int),u,())]) u d q g (by omega) (by omega) (by omega) ⟨by omega,by grind,f,x⟩;exact⟨z,[(7,(a:Int),((a+1:Nat):Int),u,())]++A,by simp_all,by simp_all,by omega,B,by grind,(Tr.lf (ae a) (ae _) (by omega) (fun _=>⟨hlt,h6⟩)).ap D.2⟩
   |false=>
    simp only[ac];rw[nz a l u d (by omega),xn a l u d (by omega) f (by omega),bG,bG];exact⟨o,[(18,(a:Int),(a:Int),u,())]++p,by simp_all,by simp_all,by omega,s,by simp_all,(Tr.mis (ae a) (ae a)).ap v.2⟩
  .have i:Bv F a=false:=by simp_all [Bv]
   rw[dI (b:=bP F[a].1 6) (dX h6),i];simp only[ac];rw[nz a l u d (by omega),xn a l u d (by omega) f (by omega),bG,bG];exact⟨o,[(18,(a:Int),(a:Int),u,())]++p,by simp_all,by simp_all,by omega,s,by simp_all,(Tr.mis (ae a) (ae a)).ap v.2⟩
 .have i:Bv F a=false:=by unfold Bv;rw[dif_neg hlt]
  rw[dI (b:=gV (a:Int) (bI F)) (ig (by rw[bK];omega)),i];simp only[ac];rw[nz a l u d (by omega),xn a l u d (by omega) f (by omega),bG,bG];exact⟨o,[(18,(a:Int),(a:Int),u,())]++p,by simp_all,by simp_all,by omega,s,by simp_all,(Tr.mis (ae a) (ae a)).ap v.2⟩
end
section
open Bool renaming false_eq_true → ah
open List renaming append_assoc → ag
open Nat renaming le_refl → ae
open Go.RowKit
variable {F:List Lf} (hF:OkF F)
include hF
omit hF in
theorem N7 (a:Nat):a<=C9 F a/\(a<=F.length->C9 F a<=F.length)/\(Bv F a=true->C9 F a=a+1):=by
 unfold C9;cases h:Bv F a with
 |true=>have:=YV h;grind
 |false=>simp
theorem acG {q:iE} {q':iY} (u d v:Int) (hd:0<=d/\d<=200): ∀(N a:Nat) (L:List Nd),F.length-a<N->a<=F.length->L.length<=16*a+200->
  ∃(e:Nat) (m:List Nd),J9 q N F (a:Int) u d L=some (.inl ((),((),()),((F,(e:Int),u,d,()),L++m,())))/\
   uB q' N v F (iT F) (a:Int) u d L=some (.inl ((v,()),((),()),((F,iT F,(e:Int),u,d,()),L++m,())))/\a<=e/\e<=F.length/\m.length<=e-a/\Tr F a e u L.length m
 |0,a,L,f,_,_=>by omega
 |N+1,a,L,f,g,hL=>by
  have j:=hF.len;rw[J9,QV,uB,Ld,mV hF a L u d (by omega) [124] rfl,jh a L u d [124] (by simp),bG,bG];simp only;cases hb:fG F a [124]with
  |false=>
   rw[xC hb];exact⟨a,[],by simp,by simp,ae _,g,by simp,.nil (ae _)⟩
  |true=>
   have l:=gZ hb;rw[nJ hb];simp only[aa];rw[dn,show(a:Int)+1=((a+1:Nat):Int) by omega];obtain⟨o,h,_⟩:=N7 (F:=F) (a+1);have i:=h (by omega);rw[Vh (a+1) L u d (by omega) (by omega),acz (a+1) L u d (by omega) (by omega) hd.1 (by omega),bG,bG];simp only[I8];obtain⟨e,m,g1,g2,g3,g4,g5⟩:=acG u d v hd N (C9 F (a+1)) (L++[N8 F (a+1) u]) (by omega) i (by grind);exact⟨e,[N8 F (a+1) u]++m,by rw[g1,ag],by rw[g2,ag],by omega,g4,by grind,(Vf (by omega) (ae _)).ap g5.2⟩
theorem ayS {k:Nat} (h:All F k) (a:Nat) (L:List Nd) (u d:Int) (q q':Nat) (hm:16*(F.length-a)+13<k) (hr:k+1<=q) (N:k<=q') (hp:Jb F a L d 104) (ab:fG F a [40]=true\/Bv F a=true):
  ∃(g:Nat) (m:List Nd),(gI q).q270 F (a:Int) (bT L [opn 15 a u]) (bI L) d=some (PR F g (bT L [opn 15 a u]++m) (bI L) d,())/\
   (∀{z:Type} (K:(List Lf×List UInt8×List Nd×Int×Int×Int×Unit)×Unit->Option z) (B:Option z),
    (bH (Df F (iT F) L (a:Int) u d 15) fun x=>
     bH (nU x.1.1 x.1.2.1 x.1.2.2.1 x.1.2.2.2.1 x.1.2.2.2.2.1 x.1.2.2.2.2.2.1 [40]) fun v=>
      bif v.2.1 then
       bH (wX v.1.1 v.1.2.1 v.1.2.2.1 (di .i64 v.1.2.2.2.1 1) v.1.2.2.2.2.1 v.1.2.2.2.2.2.1) fun j=>
        bH (uB (gU q') bM x.2.1 j.1.1 j.1.2.1 j.1.2.2.2.1 j.1.2.2.2.2.1 j.1.2.2.2.2.2.1 j.1.2.2.1) fun A=>
         dN A (fun i=>
          bH (mX i.2.2.1.1 i.2.2.1.2.1 i.2.2.2.1 i.2.2.1.2.2.1 i.2.2.1.2.2.2.1 i.2.2.1.2.2.2.2.1 [41]) fun l=>
           bH (rU l.1.1 l.1.2.1 l.1.2.2.1 l.1.2.2.2.1 l.1.2.2.2.2.1 l.1.2.2.2.2.2.1) fun o=>
            bH (PD o.1.1 o.1.2.1 o.1.2.2.1 o.1.2.2.2.1 o.1.2.2.2.2.1 o.1.2.2.2.2.2.1) fun f=>
             bif f.2.1 then
              bH ((gU q').q52 f.1.1 f.1.2.1 f.1.2.2.1 f.1.2.2.2.1 f.1.2.2.2.2.1 f.1.2.2.2.2.2.1) fun p=>
               bH (pK p.1.1 p.1.2.1 p.1.2.2.1 p.1.2.2.2.1 p.1.2.2.2.2.1 p.1.2.2.2.2.2.1 i.1.1) K
             else
             bH (pK f.1.1 f.1.2.1 f.1.2.2.1 f.1.2.2.2.1 f.1.2.2.2.2.1 f.1.2.2.2.2.2.1 i.1.1) K) (fun G=>B)
      else
      bH (wX v.1.1 v.1.2.1 v.1.2.2.1 v.1.2.2.2.1 v.1.2.2.2.2.1 v.1.2.2.2.2.2.1) fun j=>
       bH (uB (gU q') bM x.2.1 j.1.1 j.1.2.1 j.1.2.2.2.1 j.1.2.2.2.2.1 j.1.2.2.2.2.2.1 j.1.2.2.1) fun A=>
        dN A (fun i=>
         bH (mX i.2.2.1.1 i.2.2.1.2.1 i.2.2.2.1 i.2.2.1.2.2.1 i.2.2.1.2.2.2.1 i.2.2.1.2.2.2.2.1 [41]) fun l=>
          bH (rU l.1.1 l.1.2.1 l.1.2.2.1 l.1.2.2.2.1 l.1.2.2.2.2.1 l.1.2.2.2.2.2.1) fun o=>
           bH (PD o.1.1 o.1.2.1 o.1.2.2.1 o.1.2.2.2.1 o.1.2.2.2.2.1 o.1.2.2.2.2.2.1) fun f=>
            bif f.2.1 then
             bH ((gU q').q52 f.1.1 f.1.2.1 f.1.2.2.1 f.1.2.2.2.1 f.1.2.2.2.2.1 f.1.2.2.2.2.2.1) fun p=>
              bH (pK p.1.1 p.1.2.1 p.1.2.2.1 p.1.2.2.2.1 p.1.2.2.2.2.1 p.1.2.2.2.2.2.1 i.1.1) K
            else
            bH (pK f.1.1 f.1.2.1 f.1.2.2.1 f.1.2.2.2.1 f.1.2.2.2.2.1 f.1.2.2.2.2.2.1 i.1.1) K) (fun G=>B))=K (RR F g (L++(15,(a:Int),(g:Int),u,())::m) u d,()))/\a<g/\g<=F.length/\m.length+4<=16*(g-a)/\Tr F a g (bI L) (L.length+1) m:=by
 obtain⟨p1,p2,y,I⟩:=hp;have ad:=hF.len;obtain⟨q,rfl⟩: ∃O,q=O+1:=⟨q-1,by omega⟩;have J:(bT L [opn 15 a u]).length=L.length+1:=by unfold bT;simp
 have M:bT L [opn 15 a u]=L++[(15,(a:Int),0,u,())]:=rfl;have S:a<=tk F a [40]/\tk F a [40]<=F.length:=by
  unfold tk;split
  .rename_i D;have:=gZ D;omega
  .omega
 obtain⟨w1,U,w3⟩:=N7 (F:=F) (tk F a [40]);have V:=U S.2;have af:a+1<=C9 F (tk F a [40]):=by
  cases D:fG F a [40]with
  |true=>simp_all [nJ]
  |false=>
   grind
 obtain⟨e,s,g1,g2,g3,g4,g5⟩:=acG hF (q:=gI q) (q':=gU q') (bI L) d u ⟨y,I⟩ bM (C9 F (tk F a [40])) (bT L [opn 15 a u]++[N8 F (tk F a [40]) (bI L)]) (dK) V (by grind);obtain⟨x1,W⟩:=Hw (F:=F) e [41];have E:=W g4;have x4:=tY (F:=F) e [41] (bI L);have ai:=xk (F:=F) (qp F e [41]);have X:=xX (F:=F) E;have hM:(bT L [opn 15 a u]++[N8 F (tk F a [40]) (bI L)]++s++uO F e [41] (bI L)).length<=L.length+3+(e-C9 F (tk F a [40])):=by
  grind
 have aj: ∀(g:Nat) (m:List Nd) {z:Type} (K:(List Lf×List UInt8×List Nd×Int×Int×Int×Unit)×Unit->Option z),bH (pK F (iT F) (bT L [opn 15 a u]++m) (g:Int) (bI L) d u) K=K (RR F g (L++(15,(a:Int),(g:Int),u,())::m) u d,()):=fun g m z K=>by
  rw[M,show bI L=((L.length:Nat):Int) from rfl,uT g _ u d L.length (by simp) (oN L _ 15 _ _) (by omega) (by omega) y (by omega),bG];simp only[oJ,show jB 15=false from rfl,ah,if_false]
 have Y: ∃(g:Nat) (m:List Nd),∃(ak:qF F (ln F (qp F e [41])) d=true->(gI q).q71 F ((ln F (qp F e [41]):Nat):Int) (bT (bT L [opn 15 a u]++[N8 F (tk F a [40]) (bI L)]++s++uO F e [41] (bI L)) [opn 2 (ln F (qp F e [41])) (bI L)]) (bI (bT L [opn 15 a u]++[N8 F (tk F a [40]) (bI L)]++s++uO F e [41] (bI L))) d=some (PR F g (bT (bT L [opn 15 a u]++[N8 F (tk F a [40]) (bI L)]++s++uO F e [41] (bI L)) [opn 2 (ln F (qp F e [41])) (bI L)]++m) (bI (bT L [opn 15 a u]++[N8 F (tk F a [40]) (bI L)]++s++uO F e [41] (bI L))) d,())/\
   (gU q').q52 F (iT F) (bT L [opn 15 a u]++[N8 F (tk F a [40]) (bI L)]++s++uO F e [41] (bI L)) ((ln F (qp F e [41]):Nat):Int) (bI L) d=some (RR F g ((bT L [opn 15 a u]++[N8 F (tk F a [40]) (bI L)]++s++uO F e [41] (bI L))++(2,((ln F (qp F e [41]):Nat):Int),(g:Int),(bI L),())::m) (bI L) d,())),
   ln F (qp F e [41])<=g/\g<=F.length/\(qF F (ln F (qp F e [41])) d=true->m.length+1<=16*(g-ln F (qp F e [41])))/\(qF F (ln F (qp F e [41])) d=false->g=ln F (qp F e [41]))/\(qF F (ln F (qp F e [41])) d=true->Tr F (ln F (qp F e [41])) g (bI (bT L [opn 15 a u]++[N8 F (tk F a [40]) (bI L)]++s++uO F e [41] (bI L))) ((bT L [opn 15 a u]++[N8 F (tk F a [40]) (bI L)]++s++uO F e [41] (bI L)).length+1) m):=by
  cases hb:qF F (ln F (qp F e [41])) d with
  |true=>
   obtain⟨g,m,e1,e2,e3,e4,e5⟩:=h.list (ln F (qp F e [41])) (bT L [opn 15 a u]++[N8 F (tk F a [40]) (bI L)]++s++uO F e [41] (bI L)) (bI L) d q q' (by omega) (by omega) N ⟨X,by omega,y,I⟩ hb
   grind
  |false=>simp_all
 obtain⟨g,m,f1,f2,Z,f4,f5,f6⟩:=Y;refine⟨g,[N8 F (tk F a [40]) (bI L)]++s++uO F e [41] (bI L)++(if qF F (ln F (qp F e [41])) d=true then(2,((ln F (qp F e [41]):Nat):Int),(g:Int),(bI L),())::m else []), ?_,fun K B=> ?_,by omega,Z, ?_⟩
 .show asE (gI q) F (a:Int) _ _ d=_;rw[asE,mV hF a _ (bI L) d (by omega) [40] rfl,bG];simp only;rw[Vh (tk F a [40]) _ _ d (by omega) (by rw[J];omega),bG];simp only[I8];rw[g1,bG];simp only[dN];rw[zB hF e _ (bI L) d (by omega) (by grind) [41] rfl,bG];simp only[lV];rw[nP hF (qp F e [41]) _ (bI L) d E,bG];simp only;rw[Cf hF (ln F (qp F e [41])) _ (bI L) d (by omega),bG];simp only;cases hb:qF F (ln F (qp F e [41])) d with
  |true=>
   have n1:=(kU (bT L [opn 15 a u]++[N8 F (tk F a [40]) (bI L)]++s++uO F e [41] (bI L)) (opn 2 (ln F (qp F e [41])) (bI L)) (by omega)).1;obtain⟨c1,c2⟩:=qE (bT L [opn 15 a u]++[N8 F (tk F a [40]) (bI L)]++s++uO F e [41] (bI L)) m (opn 2 (ln F (qp F e [41])) (bI L));simp_all [eP,bG,lJ]
  |false=>
   simp_all
 .rw[lH a L u d (by omega) (by omega) (by omega) y (by omega),bG];simp only[show jB 15=false from rfl,ah,if_false];rw[show((L.length:Nat):Int)=bI L from rfl,<-M,jh a _ (bI L) d [40] (by simp),bG];simp only;have al: ∀(b:Nat),b=tk F a [40]->(bH (wX F (iT F) (bT L [opn 15 a u]) (b:Int) (bI L) d) fun j=>
        bH (uB (gU q') bM u j.1.1 j.1.2.1 j.1.2.2.2.1 j.1.2.2.2.2.1 j.1.2.2.2.2.2.1 j.1.2.2.1) fun A=>
         dN A (fun i=>
          bH (mX i.2.2.1.1 i.2.2.1.2.1 i.2.2.2.1 i.2.2.1.2.2.1 i.2.2.1.2.2.2.1 i.2.2.1.2.2.2.2.1 [41]) fun l=>
           bH (rU l.1.1 l.1.2.1 l.1.2.2.1 l.1.2.2.2.1 l.1.2.2.2.2.1 l.1.2.2.2.2.2.1) fun o=>
            bH (PD o.1.1 o.1.2.1 o.1.2.2.1 o.1.2.2.2.1 o.1.2.2.2.2.1 o.1.2.2.2.2.2.1) fun f=>
             bif f.2.1 then
              bH ((gU q').q52 f.1.1 f.1.2.1 f.1.2.2.1 f.1.2.2.2.1 f.1.2.2.2.2.1 f.1.2.2.2.2.2.1) fun p=>
               bH (pK p.1.1 p.1.2.1 p.1.2.2.1 p.1.2.2.2.1 p.1.2.2.2.2.1 p.1.2.2.2.2.2.1 i.1.1) K
             else
             bH (pK f.1.1 f.1.2.1 f.1.2.2.1 f.1.2.2.2.1 f.1.2.2.2.2.1 f.1.2.2.2.2.2.1 i.1.1) K) (fun G=>B))=K (RR F g (L++(15,(a:Int),(g:Int),u,())::([N8 F (tk F a [40]) (bI L)]++s++uO F e [41] (bI L)++(if qF F (ln F (qp F e [41])) d=true then(2,((ln F (qp F e [41]):Nat):Int),(g:Int),(bI L),())::m else []))) u d,()):=by
   rintro b rfl;rw[acz (tk F a [40]) _ _ d (by omega) (by rw[J];omega) y (by omega),bG];simp only[I8];rw[g2,bG];simp only[dN];rw[zC e _ (bI L) d (by omega) (by grind) y (by omega) [41] (by simp),bG];simp only[lV];rw[mG hF (qp F e [41]) _ (bI L) d E,bG];simp only;rw[HY (ln F (qp F e [41])) _ (bI L) d (by omega),bG];simp only;cases hb:qF F (ln F (qp F e [41])) d with
   |true=>
    simp_all [bG]
   |false=>
    simp_all
  cases D:fG F a [40]with
  |true=>
   simp only[aa]
   grind [dn,nJ]
  |false=>
   simp_all [xC]
 .cases hb:qF F (ln F (qp F e [41])) d with
  |true=>
   have:=f4 hb;rw[am rfl];exact⟨by grind,(((Vf (by omega) (ae _)).ap g5.2).apA fun _=>xG (ae e) (ae _)).ap (Tr.one (f6 hb) (ae _) (ae _) (by omega) rfl)⟩
  |false=>
   have:=f5 hb;rw[aq (by simp),List.append_nil];exact⟨by grind,((Vf (by omega) (ae _)).ap g5.2).apA fun _=>xG (ae e) (by omega)⟩
end
section
open Bool renaming not_true → au, not_false → az
open List renaming length_append → ai
open Nat renaming le_refl → ae
open Go.RowKit
variable {F:List Lf} (hF:OkF F)
include hF
theorem RI {k:Nat} (h:All F k) {q q':Nat} (z:k+1<=q) (A:k<=q') (u d:Int) (hd:0<=d/\d<=200): ∀(N o a:Nat) (L:List Nd),F.length-a<N->F.length-a+1<o->a<=F.length->16*(F.length-a)+13<k->L.length<=16*a+104->
  ∃(f:Nat) (m:List Nd),FO (gI q) N F (a:Int) u d L=some (.inl ((),((),()),((F,(f:Int),u,d,()),L++m,())))/\
   xY (gU q') o true F (iT F) (a:Int) u d L=some (.inl ((),((),()),((F,iT F,(f:Int),u,d,()),L++m,())))/\a<=f/\f<=F.length/\m.length<=16*(f-a)/\Tr F a f u L.length m
 |0,_,a,L,x,_,_,_,_=>by omega
 |N+1,0,a,L,_,x,_,_,_=>by omega
 |N+1,1,a,L,_,x,_,_,_=>by omega
 |N+1,o+2,a,L,x,U,B,V,hL=>by
  have W:=hF.len
  (rewrite [FO,QT,xY,Lh];delta sH;rw[Yj hF a L u d (by omega) [40] rfl,jh a L u d [40] (by simp),bG,aa,bG])
  simp only;have X:bP ((Di F a).toNat:Int) 122=fG F a [122]:=Xp a 122 (by decide);by_cases hgo:fG F a [40]=true\/(Bv F a=true/\fG F a [122]=false)
  .obtain⟨e,l,Y,Z,e3,G,D⟩:=ayS hF h a L u d q q' (by omega) z A ⟨B,hL,hd.1,hd.2⟩ (hgo.imp id And.left);obtain⟨n1,_,_⟩:=kU L (opn 15 a u) (by omega);obtain⟨c1,c2⟩:=qE L l (opn 15 a u);have ab:(L++(15,(a:Int),(e:Int),u,())::l).length<=16*e+104:=by grind
   have I: ∃(f:Nat) (m:List Nd),(bH (rD F (e:Int) (L++(15,(a:Int),(e:Int),u,())::l) u d [121]) fun j=>
      bif(!j.2.1)then
       some (.inl ((),((),()),((j.1.1,j.1.2.1,j.1.2.2.2.1,j.1.2.2.2.2.1,()),j.1.2.2.1,())))
      else
      bH (pJ j.1.1 j.1.2.1 j.1.2.2.1 j.1.2.2.2.1 j.1.2.2.2.2.1) fun s=>
       FO (gI q) N s.1.1 s.1.2.1 s.1.2.2.2.1 s.1.2.2.2.2.1 s.1.2.2.1)=some (.inl ((),((),()),((F,(f:Int),u,d,()),L++m,())))/\
     (bH (nU F (iT F) (L++(15,(a:Int),(e:Int),u,())::l) (e:Int) u d [121]) fun i=>
      bif i.2.1 then
       bH (rU i.1.1 i.1.2.1 i.1.2.2.1 (di .i64 i.1.2.2.2.1 1) i.1.2.2.2.2.1 i.1.2.2.2.2.2.1) fun p=>
        xY (gU q') (o+1) i.2.1 p.1.1 p.1.2.1 p.1.2.2.2.1 p.1.2.2.2.2.1 p.1.2.2.2.2.2.1 p.1.2.2.1
      else
      xY (gU q') (o+1) i.2.1 i.1.1 i.1.2.1 i.1.2.2.2.1 i.1.2.2.2.2.1 i.1.2.2.2.2.2.1 i.1.2.2.1)=some (.inl ((),((),()),((F,iT F,(f:Int),u,d,()),L++m,())))/\a<=f/\f<=F.length/\m.length<=16*(f-a)/\Tr F a f u L.length m:=by
    rw[mV hF e _ u d (by omega) [121] rfl,jh e _ u d [121] (by simp),bG,bG];simp only;cases hb:fG F e [121]with
    |false=>
     rw[xC hb];simp only[az,aa,ac]
     (rewrite [xY,Lh];delta sH;rw[ac])
     exact⟨e,(15,(a:Int),(e:Int),u,())::l,rfl,rfl,by omega,G,by grind,D.2.one (ae _) (ae _) (by omega) rfl⟩
    |true=>
     have v:=gZ hb;rw[nJ hb];simp only[au,aa,ac];have ad:=xk (F:=F) (e+1);have J:=xX (F:=F) (a:=e+1) (by omega);rw[dn,show(e:Int)+1=((e+1:Nat):Int) by omega,nP hF (e+1) _ u d (by omega),mG hF (e+1) _ u d (by omega),bG,bG];simp only;obtain⟨f,m,g1,g2,g3,g4,g5⟩:=RI h z A u d hd N (o+1) (ln F (e+1)) (L++(15,(a:Int),(e:Int),u,())::l) (by omega) (by omega) J (by omega) (by omega);exact⟨f,((15,(a:Int),(e:Int),u,())::l)++m,by simp_all,by simp_all,by omega,g4,by grind,(D.2.one (ae _) (ae _) (by omega) rfl).app g5.2 (by omega) (ai ..)⟩
   obtain⟨f,m,s1,s2,K,M,O⟩:=I;refine⟨f,m, ?_, ?_,K,M,O⟩
   .cases y:fG F a [40]with
    |true=>
     simp_all [eP,bG,lJ]
    |false=>
     rcases hgo with g|⟨g1,g2⟩
     .simp_all
     .rw[zU a L u d,g1];simp only[ac,aa,bG];rw[oV hF a L u d (by omega),bG];simp_all [eP,bG,lJ]
   .cases y:fG F a [40]with
    |true=>
     simp_all
    |false=>
     rcases hgo with g|⟨g1,g2⟩
     .simp_all
     .have v:=YV g1;have E:F[a].1=6:=by
       simp_all [Bv]
      rw[ac,bV (b:=gV (a:Int) (bI F)) (eH (by rw[bK];omega)),bV (b:=fD F (a:Int)) (dV),zY v,bV (b:=bP F[a].1 6) (fK E),jh a L u d [122] (by simp),bG,g2];simp_all
  .have y:fG F a [40]=false:=by
    simp_all
   rw[y];simp only[ac];refine⟨a,[], ?_, ?_,ae _,B,by simp,.nil (ae _)⟩
   .rw[zU a L u d,bG];simp only;cases S:Bv F a with
    |false=>simp
    |true=>
     have h2:fG F a [122]=true:=by
      simp_all
     simp only[aa]
     grind [oV,bG]
   .by_cases v:a<F.length
    .rw[bV (b:=gV (a:Int) (bI F)) (eH (by rw[bK];omega)),bV (b:=fD F (a:Int)) (dV),zY v];by_cases E:F[a].1=6
     .have S:Bv F a=true:=by simp_all [Bv]
      simp_all [jh,bG]
     simp_all [dI,dX]
    simp_all [dI,ig,bK]
theorem aqT {k:Nat} (h:All F k) (a:Nat) (l:List Nd) (u d:Int) (r i:Nat) (G:16*(F.length-a)+13<k) (hr:k+2<=r) (I:k+1<=i) (hp:Jb F a l d 100):
  ∃(e:Nat) (m:List Nd),(gI r).q256 F (a:Int) l u d=some (PR F e (l++m) u d,())/\
   (gU i).q233 F (iT F) l (a:Int) u d=some (RR F e (l++m) u d,())/\a<=e/\e<=F.length/\m.length<=16*(e-a)+3/\Tr F a e u l.length m:=by
 obtain⟨s,J,j,v⟩:=hp;have K:=hF.len;obtain⟨q,rfl⟩: ∃q,r=q+1:=⟨r-1,by omega⟩;obtain⟨g,rfl⟩: ∃g,i=g+1:=⟨i-1,by omega⟩;obtain⟨M,x,N⟩:=N7 (F:=F) a;have o:=x s;have O:=xk (F:=F) (C9 F a);have y:=xX (F:=F) o;obtain⟨S,z⟩:=Hw (F:=F) (ln F (C9 F a)) [107];have p:=z y;have U:=tY (F:=F) (ln F (C9 F a)) [107] u;have V:=xk (F:=F) (qp F (ln F (C9 F a)) [107]);have A:=xX (F:=F) p;obtain⟨f,B,g1,g2,g3,g4,g5⟩:=RI hF h (q:=q) (q':=g) (by omega) (by omega) u d ⟨j,v⟩ bM bM (ln F (qp F (ln F (C9 F a)) [107])) (l++[N8 F a u]++uO F (ln F (C9 F a)) [107] u) (dK) (dK) A (by omega) (by grind);obtain⟨W,D⟩:=Hw (F:=F) f [122];have E:=D g4;have X:=tY (F:=F) f [122] u;refine⟨qp F f [122],[N8 F a u]++uO F (ln F (C9 F a)) [107] u++B++uO F f [122] u, ?_, ?_,by omega,E,by grind,(((Vf (ae a) (ae _)).apA fun _=>xG (ae (ln F (C9 F a))) (ae _)).ap g5.2).apA fun _=>xG (ae f) (by omega)⟩
 .show asB (gI q) F (a:Int) l u d=_;rw[asB,Vh a l u d (by omega) (by omega),bG];simp only[I8];rw[nP hF (C9 F a) _ u d o,bG];simp only;rw[zB hF (ln F (C9 F a)) _ u d (by omega) (by grind) [107] rfl,bG];simp only[lV];rw[nP hF (qp F (ln F (C9 F a)) [107]) _ u d p,bG];simp only;rw[g1,bG];simp only[dN];rw[zB hF f _ u d (by omega) (by grind) [122] rfl,bG];simp_all [lV]
 .show asw (gU g) F (iT F) l (a:Int) u d=_;rw[asw,acz a l u d (by omega) (by omega) j (by omega),bG];simp only[I8];rw[mG hF (C9 F a) _ u d o,bG];simp only;rw[zC (ln F (C9 F a)) _ u d (by omega) (by grind) j (by omega) [107] (by simp),bG];simp only[lV];rw[mG hF (qp F (ln F (C9 F a)) [107]) _ u d p,bG]
  grind [bG,dN,zC,lV]
end
section
open Option renaming some → a6, none → a7
open Bool renaming and_eq_true → af, and_true → ay
open List renaming append_assoc → ag
open Nat renaming le_refl → ae
open Go.RowKit
theorem aD2 (q':iY) (F:List Lf) (S:bZ) (a u d:Int) (l:List Nd):vG q' bM 123 9 0 F S a u d l=a6 (.inl ((9,()),((),()),((F,S,a,u,d,()),l,()))):=by kernel_rfl
theorem ay0 (q':iY) (F:List Lf) (S:bZ) (a u d:Int) (l:List Nd):vG q' bM 40 9 0 F S a u d l=a6 (.inl ((10,()),((),()),((F,S,a,u,d,()),l,()))):=by kernel_rfl
theorem ay1 (q':iY) (F:List Lf) (S:bZ) (a u d:Int) (l:List Nd):vG q' bM 105 9 0 F S a u d l=a6 (.inl ((11,()),((),()),((F,S,a,u,d,()),l,()))):=by kernel_rfl
theorem ay2 (q':iY) (F:List Lf) (S:bZ) (a u d:Int) (l:List Nd):vG q' bM 119 9 0 F S a u d l=a6 (.inl ((12,()),((),()),((F,S,a,u,d,()),l,()))):=by kernel_rfl
theorem ay3 (q':iY) (F:List Lf) (S:bZ) (a u d:Int) (l:List Nd):vG q' bM 114 9 0 F S a u d l=a6 (.inl ((13,()),((),()),((F,S,a,u,d,()),l,()))):=by kernel_rfl
theorem ay4 (q':iY) (F:List Lf) (S:bZ) (a u d:Int) (l:List Nd):vG q' bM 99 9 0 F S a u d l=a6 (.inl ((14,()),((),()),((F,S,a,u,d,()),l,()))):=by kernel_rfl
variable {F:List Lf} (hF:OkF F)
include hF
theorem aHo {n:Nat} (h2:All F (n-2)) (a:Nat) (l:List Nd) (u d:Int) (q q':Nat) (N:16*(F.length-a)+8<n+1) (O:n<=q) (S:n<=q') (hp:Jb F a l d 113) (s:a<F.length) (hd:d<200) (i:Di F a=123):
  ∃(e:Nat) (m:List Nd),zQ (gI q) F (a:Int) l u d=a6 (PR F e (l++m) u d,())/\
   zO (gU q') F (iT F) l (a:Int) u d=a6 (RR F e (l++m) u d,())/\a<e/\e<=F.length/\m.length+3<=16*(e-a)/\Tr F a e u l.length m:=by
 obtain⟨U,V,v,W⟩:=hp;have X:=hF.len;obtain⟨f,rfl⟩: ∃f,q=f+1:=⟨q-1,by omega⟩;have j:(bT l [opn 9 a u]).length=l.length+1:=by unfold bT;simp
 have o:bT l [opn 9 a u]=l++[(9,(a:Int),0,u,())]:=rfl;obtain⟨x,_,_⟩:=kU l (opn 9 a u) (by omega);obtain⟨y,g,z,A,Y,B,D⟩:=abK hF h2 (a+1) (bT l [opn 9 a u]) (bI l) (d+1) f q' [125] rfl (by simp) (by omega) (by omega) (by omega) ⟨by omega,by rw[j];omega,by omega,by omega⟩;obtain⟨h,p,E,G,Z,I,J⟩:=aFU hF (q:=gI (f+1)) (q':=gU q') (bI l) (d+1) u (bI l) u 9 9 9 9 ⟨by omega,by omega⟩ y (bT l [opn 9 a u]++g) B (by grind);obtain⟨K,M⟩:=qE l (g++p) (opn 9 a u);refine⟨h,(9,(a:Int),(h:Int),u,())::(g++p), ?_, ?_,by omega,I,by grind,Tr.one (((j▸D.2).wide (by omega) (ae _)).ap J.2) (ae _) (ae _) (by omega) rfl⟩
 .rw[zQ];simp only[eP,gQ,ay,aa,bG];rw[oV hF a l u d (by omega),bG];simp only[i,show bP (((123:UInt8).toNat:Nat):Int) 40=false from by kernel_rfl,show bP (((123:UInt8).toNat:Nat):Int) 105=false from by kernel_rfl,show bP (((123:UInt8).toNat:Nat):Int) 119=false from by kernel_rfl,show bP (((123:UInt8).toNat:Nat):Int) 114=false from by kernel_rfl,show bP (((123:UInt8).toNat:Nat):Int) 99=false from by kernel_rfl,aa,ac,x];rw[dn,dn,show(a:Int)+1=((a+1:Nat):Int) by omega];show bH (asx (gI f) F ((a+1:Nat):Int) _ _ _) _=_;rw[asx,z,bG];simp only;rw[E,bG];simp only[dN];rw[ag,iw];simp only[K,M,aa,lJ,show d+1-1=d by omega]
 ·(rewrite [zO];delta nO;rw[bV (b:=fD (iT F) (a:Int)) (dV (by omega) (by simp_all)),zx s,i,show(((123:UInt8).toNat:Nat):Int)=123 from by kernel_rfl,aD2,bG])
  simp only[dN];rw[lH a l u d (by omega) (by omega) (by omega) v (by omega),bG];simp only[show jB 9=true from by kernel_rfl,if_true,show bP (9:Int) 9=true from by kernel_rfl,aa,ac];rw[show((l.length:Nat):Int)=bI l from rfl,<-o,dn,show(a:Int)+1=((a+1:Nat):Int) by omega];refine(A _).trans ?_;simp only;rw[G,bG];simp only[dN];rw[ag,o,show bI l=((l.length:Nat):Int) from rfl,uT h _ u (d+1) l.length (by simp) (oN l _ 9 _ _) (by omega) (by omega) (by omega) (by omega),bG];simp only[oJ,show jB 9=true from by kernel_rfl,if_true,show d+1-1=d by omega]
theorem aDo {n:Nat} (h2:All F (n-2)) (a:Nat) (l:List Nd) (u d:Int) (q q':Nat) (N:16*(F.length-a)+8<n+1) (O:n<=q) (S:n<=q') (hp:Jb F a l d 113) (s:a<F.length) (hd:d<200) (i:Di F a=40):
  ∃(e:Nat) (m:List Nd),zQ (gI q) F (a:Int) l u d=a6 (PR F e (l++m) u d,())/\
   zO (gU q') F (iT F) l (a:Int) u d=a6 (RR F e (l++m) u d,())/\a<e/\e<=F.length/\m.length+3<=16*(e-a)/\Tr F a e u l.length m:=by
 obtain⟨U,V,v,W⟩:=hp;have X:=hF.len;obtain⟨f,rfl⟩: ∃f,q=f+1:=⟨q-1,by omega⟩;have j:(bT l [opn 10 a u]).length=l.length+1:=by unfold bT;simp
 have o:bT l [opn 10 a u]=l++[(10,(a:Int),0,u,())]:=rfl;obtain⟨x,_,_⟩:=kU l (opn 10 a u) (by omega);obtain⟨y,g,z,A,Y,B,D⟩:=abK hF h2 (a+1) (bT l [opn 10 a u]) (bI l) (d+1) f q' [41] rfl (by simp) (by omega) (by omega) (by omega) ⟨by omega,by rw[j];omega,by omega,by omega⟩;obtain⟨h,p,E,G,Z,I,J⟩:=aJ2 hF (q:=gI (f+1)) (q':=gU q') (bI l) (d+1) u (bI l) u 10 10 10 10 ⟨by omega,by omega⟩ y (bT l [opn 10 a u]++g) B (by grind);obtain⟨K,M⟩:=qE l (g++p) (opn 10 a u);refine⟨h,(10,(a:Int),(h:Int),u,())::(g++p), ?_, ?_,by omega,I,by grind,Tr.one (((j▸D.2).wide (by omega) (ae _)).ap J.2) (ae _) (ae _) (by omega) rfl⟩
 .rw[zQ];simp only[eP,gQ,ay,aa,bG];rw[oV hF a l u d (by omega),bG];simp only[i,show bP (((40:UInt8).toNat:Nat):Int) 40=true from by kernel_rfl,aa,ac,x];rw[dn,dn,show(a:Int)+1=((a+1:Nat):Int) by omega];show bH (asy (gI f) F ((a+1:Nat):Int) _ _ _) _=_;rw[asy,z,bG];simp only;rw[E,bG];simp only[dN];rw[ag,iw];simp only[K,M,aa,lJ,show d+1-1=d by omega]
 ·(rewrite [zO];delta nO;rw[bV (b:=fD (iT F) (a:Int)) (dV (by omega) (by simp_all)),zx s,i,show(((40:UInt8).toNat:Nat):Int)=40 from by kernel_rfl,ay0,bG])
  simp only[dN];rw[lH a l u d (by omega) (by omega) (by omega) v (by omega),bG];simp only[show jB 10=true from by kernel_rfl,if_true,show bP (10:Int) 9=false from by kernel_rfl,show bP (10:Int) 10=true from by kernel_rfl,aa,ac];rw[show((l.length:Nat):Int)=bI l from rfl,<-o,dn,show(a:Int)+1=((a+1:Nat):Int) by omega];refine(A _).trans ?_;simp only;rw[G,bG];simp only[dN];rw[ag,o,show bI l=((l.length:Nat):Int) from rfl,uT h _ u (d+1) l.length (by simp) (oN l _ 10 _ _) (by omega) (by omega) (by omega) (by omega),bG];simp only[oJ,show jB 10=true from by kernel_rfl,if_true,show d+1-1=d by omega]
theorem aDp {n:Nat} (h2:All F (n-2)) (a:Nat) (l:List Nd) (u d:Int) (q q':Nat) (V:16*(F.length-a)+8<n+1) (W:n<=q) (X:n<=q') (hp:Jb F a l d 113) (x:a<F.length) (hd:d<200) (o:Di F a=105):
  ∃(f:Nat) (m:List Nd),zQ (gI q) F (a:Int) l u d=a6 (PR F f (l++m) u d,())/\
   zO (gU q') F (iT F) l (a:Int) u d=a6 (RR F f (l++m) u d,())/\a<f/\f<=F.length/\m.length+3<=16*(f-a)/\Tr F a f u l.length m:=by
 obtain⟨Y,Z,z,p4⟩:=hp;have ab:=hF.len;obtain⟨h,rfl⟩: ∃h,q=h+1:=⟨q-1,by omega⟩;have p:(bT l [opn 11 a u]).length=l.length+1:=by unfold bT;simp
 have s:bT l [opn 11 a u]=l++[(11,(a:Int),0,u,())]:=rfl;obtain⟨A,_,_⟩:=kU l (opn 11 a u) (by omega);obtain⟨B,i,D,E,e3,G,I⟩:=aHM hF h2 (a+1) (bT l [opn 11 a u]) (bI l) (d+1) u (h+1) q' (by omega) (by omega) (by omega) ⟨by omega,by rw[p];omega,by omega,by omega⟩;obtain⟨j,v,J,K,f3,M,N⟩:=aFQ hF (q:=gI (h+1)) (q':=gU q') (bI l) (d+1) u (bI l) u 11 11 11 11 ⟨by omega,by omega⟩ B (bT l [opn 11 a u]++i) G (by grind);obtain⟨O,S⟩:=qE l (i++v) (opn 11 a u);refine⟨j,(11,(a:Int),(j:Int),u,())::(i++v), ?_, ?_,by omega,M,by grind,Tr.one (((p▸I.2).wide (by omega) (ae _)).ap N.2) (ae _) (ae _) (by omega) rfl⟩
 .rw[zQ];simp only[eP,gQ,ay,aa,bG];rw[oV hF a l u d (by omega),bG];simp only[o,show bP (((105:UInt8).toNat:Nat):Int) 40=false from by kernel_rfl,show bP (((105:UInt8).toNat:Nat):Int) 105=true from by kernel_rfl,aa,ac,A];rw[dn,dn,show(a:Int)+1=((a+1:Nat):Int) by omega];rw[D,bG];simp only;rw[J,bG];simp only[dN];rw[ag,iw];simp only[O,S,aa,lJ,show d+1-1=d by omega]
 ·(rewrite [zO];delta nO;rw[bV (b:=fD (iT F) (a:Int)) (dV (by omega) (by simp_all)),zx x,o,show(((105:UInt8).toNat:Nat):Int)=105 from by kernel_rfl,ay1,bG])
  simp only[dN];rw[lH a l u d (by omega) (by omega) (by omega) z (by omega),bG];simp only[show jB 11=true from by kernel_rfl,if_true,show bP (11:Int) 9=false from by kernel_rfl,show bP (11:Int) 10=false from by kernel_rfl,show bP (11:Int) 11=true from by kernel_rfl,aa,ac];rw[show((l.length:Nat):Int)=bI l from rfl,<-s,dn,show(a:Int)+1=((a+1:Nat):Int) by omega];refine(E (fun w y=>bH (jg (gU q') bM w y.1.1 y.1.2.1 y.1.2.2.2.1 y.1.2.2.2.2.1 y.1.2.2.2.2.2.1 y.1.2.2.1) fun U=>
   dN U (fun e=>
    bH (pK e.2.2.1.1 e.2.2.1.2.1 e.2.2.2.1 e.2.2.1.2.2.1 e.2.2.1.2.2.2.1 e.2.2.1.2.2.2.2.1 e.1.1) fun g=>
     a6 ((g.1.1,(g.1.2.1,(g.1.2.2.1,(g.1.2.2.2.1,(g.1.2.2.2.2.1,(g.1.2.2.2.2.2.1,())))))),())) (fun b6=>a7))).trans ?_
  simp only;rw[K,bG];simp only[dN];rw[ag,s,show bI l=((l.length:Nat):Int) from rfl,uT j _ u (d+1) l.length (by simp) (oN l _ 11 _ _) (by omega) (by omega) (by omega) (by omega),bG];simp only[oJ,show jB 11=true from by kernel_rfl,if_true,show d+1-1=d by omega]
theorem aDq {n:Nat} (h2:All F (n-2)) (a:Nat) (l:List Nd) (u d:Int) (q q':Nat) (N:16*(F.length-a)+8<n+1) (O:n<=q) (S:n<=q') (hp:Jb F a l d 113) (s:a<F.length) (hd:d<200) (i:Di F a=119):
  ∃(e:Nat) (m:List Nd),zQ (gI q) F (a:Int) l u d=a6 (PR F e (l++m) u d,())/\
   zO (gU q') F (iT F) l (a:Int) u d=a6 (RR F e (l++m) u d,())/\a<e/\e<=F.length/\m.length+3<=16*(e-a)/\Tr F a e u l.length m:=by
 obtain⟨U,V,v,W⟩:=hp;have X:=hF.len;obtain⟨f,rfl⟩: ∃f,q=f+1:=⟨q-1,by omega⟩;have j:(bT l [opn 12 a u]).length=l.length+1:=by unfold bT;simp
 have o:bT l [opn 12 a u]=l++[(12,(a:Int),0,u,())]:=rfl;obtain⟨x,_,_⟩:=kU l (opn 12 a u) (by omega);obtain⟨y,g,z,A,Y,B,D⟩:=axM hF h2 (a+1) (bT l [opn 12 a u]) (bI l) (d+1) (f+1) q' (by omega) (by omega) (by omega) ⟨by omega,by rw[j];omega,by omega,by omega⟩;obtain⟨h,p,E,G,Z,I,J⟩:=aFR hF (q:=gI (f+1)) (q':=gU q') (bI l) (d+1) u (bI l) u 12 12 12 12 ⟨by omega,by omega⟩ y (bT l [opn 12 a u]++g) B (by grind);obtain⟨K,M⟩:=qE l (g++p) (opn 12 a u);refine⟨h,(12,(a:Int),(h:Int),u,())::(g++p), ?_, ?_,by omega,I,by grind,Tr.one (((j▸D.2).wide (by omega) (ae _)).ap J.2) (ae _) (ae _) (by omega) rfl⟩
 .rw[zQ];simp only[eP,gQ,ay,aa,bG];rw[oV hF a l u d (by omega),bG];simp only[i,show bP (((119:UInt8).toNat:Nat):Int) 40=false from by kernel_rfl,show bP (((119:UInt8).toNat:Nat):Int) 105=false from by kernel_rfl,show bP (((119:UInt8).toNat:Nat):Int) 119=true from by kernel_rfl,aa,ac,x];rw[dn,dn,show(a:Int)+1=((a+1:Nat):Int) by omega];rw[z,bG];simp only;rw[E,bG];simp only[dN];rw[ag,iw];simp only[K,M,aa,lJ,show d+1-1=d by omega]
 ·(rewrite [zO];delta nO;rw[bV (b:=fD (iT F) (a:Int)) (dV (by omega) (by simp_all)),zx s,i,show(((119:UInt8).toNat:Nat):Int)=119 from by kernel_rfl,ay2,bG])
  simp only[dN];rw[lH a l u d (by omega) (by omega) (by omega) v (by omega),bG];simp only[show jB 12=true from by kernel_rfl,if_true,show bP (12:Int) 9=false from by kernel_rfl,show bP (12:Int) 10=false from by kernel_rfl,show bP (12:Int) 11=false from by kernel_rfl,show bP (12:Int) 12=true from by kernel_rfl,aa,ac];rw[show((l.length:Nat):Int)=bI l from rfl,<-o,dn,show(a:Int)+1=((a+1:Nat):Int) by omega];refine(A _).trans ?_;simp only;rw[G,bG];simp only[dN];rw[ag,o,show bI l=((l.length:Nat):Int) from rfl,uT h _ u (d+1) l.length (by simp) (oN l _ 12 _ _) (by omega) (by omega) (by omega) (by omega),bG];simp only[oJ,show jB 12=true from by kernel_rfl,if_true,show d+1-1=d by omega]
theorem aDr {n:Nat} (h2:All F (n-2)) (a:Nat) (l:List Nd) (u d:Int) (q q':Nat) (N:16*(F.length-a)+8<n+1) (O:n<=q) (S:n<=q') (hp:Jb F a l d 113) (s:a<F.length) (hd:d<200) (i:Di F a=114):
  ∃(e:Nat) (m:List Nd),zQ (gI q) F (a:Int) l u d=a6 (PR F e (l++m) u d,())/\
   zO (gU q') F (iT F) l (a:Int) u d=a6 (RR F e (l++m) u d,())/\a<e/\e<=F.length/\m.length+3<=16*(e-a)/\Tr F a e u l.length m:=by
 obtain⟨U,V,v,W⟩:=hp;have X:=hF.len;obtain⟨f,rfl⟩: ∃f,q=f+1:=⟨q-1,by omega⟩;have j:(bT l [opn 13 a u]).length=l.length+1:=by unfold bT;simp
 have o:bT l [opn 13 a u]=l++[(13,(a:Int),0,u,())]:=rfl;obtain⟨x,_,_⟩:=kU l (opn 13 a u) (by omega);obtain⟨y,g,z,A,Y,B,D⟩:=ax9 hF h2 (a+1) (bT l [opn 13 a u]) (bI l) (d+1) (f+1) q' (by omega) (by omega) (by omega) ⟨by omega,by rw[j];omega,by omega,by omega⟩;obtain⟨h,p,E,G,Z,I,J⟩:=aFS hF (q:=gI (f+1)) (q':=gU q') (bI l) (d+1) u (bI l) u 13 13 13 13 ⟨by omega,by omega⟩ y (bT l [opn 13 a u]++g) B (by grind);obtain⟨K,M⟩:=qE l (g++p) (opn 13 a u);refine⟨h,(13,(a:Int),(h:Int),u,())::(g++p), ?_, ?_,by omega,I,by grind,Tr.one (((j▸D.2).wide (by omega) (ae _)).ap J.2) (ae _) (ae _) (by omega) rfl⟩
 .rw[zQ];simp only[eP,gQ,ay,aa,bG];rw[oV hF a l u d (by omega),bG];simp only[i,show bP (((114:UInt8).toNat:Nat):Int) 40=false from by kernel_rfl,show bP (((114:UInt8).toNat:Nat):Int) 105=false from by kernel_rfl,show bP (((114:UInt8).toNat:Nat):Int) 119=false from by kernel_rfl,show bP (((114:UInt8).toNat:Nat):Int) 114=true from by kernel_rfl,aa,ac,x];rw[dn,dn,show(a:Int)+1=((a+1:Nat):Int) by omega];rw[z,bG];simp only;rw[E,bG];simp only[dN];rw[ag,iw];simp only[K,M,aa,lJ,show d+1-1=d by omega]
 ·(rewrite [zO];delta nO;rw[bV (b:=fD (iT F) (a:Int)) (dV (by omega) (by simp_all)),zx s,i,show(((114:UInt8).toNat:Nat):Int)=114 from by kernel_rfl,ay3,bG])
  simp only[dN];rw[lH a l u d (by omega) (by omega) (by omega) v (by omega),bG];simp only[show jB 13=true from by kernel_rfl,if_true,show bP (13:Int) 9=false from by kernel_rfl,show bP (13:Int) 10=false from by kernel_rfl,show bP (13:Int) 11=false from by kernel_rfl,show bP (13:Int) 12=false from by kernel_rfl,show bP (13:Int) 13=true from by kernel_rfl,aa,ac];rw[show((l.length:Nat):Int)=bI l from rfl,<-o,dn,show(a:Int)+1=((a+1:Nat):Int) by omega];rw[A,bG];simp only;rw[G,bG];simp only[dN];rw[ag,o,show bI l=((l.length:Nat):Int) from rfl,uT h _ u (d+1) l.length (by simp) (oN l _ 13 _ _) (by omega) (by omega) (by omega) (by omega),bG];simp only[oJ,show jB 13=true from by kernel_rfl,if_true,show d+1-1=d by omega]
theorem aDs {n:Nat} (h2:All F (n-2)) (a:Nat) (l:List Nd) (u d:Int) (q q':Nat) (N:16*(F.length-a)+8<n+1) (O:n<=q) (S:n<=q') (hp:Jb F a l d 113) (s:a<F.length) (hd:d<200) (i:Di F a=99):
  ∃(e:Nat) (m:List Nd),zQ (gI q) F (a:Int) l u d=a6 (PR F e (l++m) u d,())/\
   zO (gU q') F (iT F) l (a:Int) u d=a6 (RR F e (l++m) u d,())/\a<e/\e<=F.length/\m.length+3<=16*(e-a)/\Tr F a e u l.length m:=by
 obtain⟨U,V,v,W⟩:=hp;have X:=hF.len;obtain⟨f,rfl⟩: ∃f,q=f+1:=⟨q-1,by omega⟩;have j:(bT l [opn 14 a u]).length=l.length+1:=by unfold bT;simp
 have o:bT l [opn 14 a u]=l++[(14,(a:Int),0,u,())]:=rfl;obtain⟨x,_,_⟩:=kU l (opn 14 a u) (by omega);obtain⟨y,g,z,A,Y,B,D⟩:=aqT hF h2 (a+1) (bT l [opn 14 a u]) (bI l) (d+1) (f+1) q' (by omega) (by omega) (by omega) ⟨by omega,by rw[j];omega,by omega,by omega⟩;obtain⟨h,p,E,G,Z,I,J⟩:=aFT hF (q:=gI (f+1)) (q':=gU q') (bI l) (d+1) u (bI l) u 14 14 14 14 ⟨by omega,by omega⟩ y (bT l [opn 14 a u]++g) B (by grind);obtain⟨K,M⟩:=qE l (g++p) (opn 14 a u);refine⟨h,(14,(a:Int),(h:Int),u,())::(g++p), ?_, ?_,by omega,I,by grind,Tr.one (((j▸D.2).wide (by omega) (ae _)).ap J.2) (ae _) (ae _) (by omega) rfl⟩
 .rw[zQ];simp only[eP,gQ,ay,aa,bG];rw[oV hF a l u d (by omega),bG];simp only[i,show bP (((99:UInt8).toNat:Nat):Int) 40=false from by kernel_rfl,show bP (((99:UInt8).toNat:Nat):Int) 105=false from by kernel_rfl,show bP (((99:UInt8).toNat:Nat):Int) 119=false from by kernel_rfl,show bP (((99:UInt8).toNat:Nat):Int) 114=false from by kernel_rfl,show bP (((99:UInt8).toNat:Nat):Int) 99=true from by kernel_rfl,aa,ac,x];rw[dn,dn,show(a:Int)+1=((a+1:Nat):Int) by omega];rw[z,bG];simp only;rw[E,bG];simp only[dN];rw[ag,iw];simp only[K,M,aa,lJ,show d+1-1=d by omega]
 ·(rewrite [zO];delta nO;rw[bV (b:=fD (iT F) (a:Int)) (dV (by omega) (by simp_all)),zx s,i,show(((99:UInt8).toNat:Nat):Int)=99 from by kernel_rfl,ay4,bG])
  simp only[dN];rw[lH a l u d (by omega) (by omega) (by omega) v (by omega),bG];simp only[show jB 14=true from by kernel_rfl,if_true,show bP (14:Int) 9=false from by kernel_rfl,show bP (14:Int) 10=false from by kernel_rfl,show bP (14:Int) 11=false from by kernel_rfl,show bP (14:Int) 12=false from by kernel_rfl,show bP (14:Int) 13=false from by kernel_rfl,show bP (14:Int) 14=true from by kernel_rfl,aa,ac];rw[show((l.length:Nat):Int)=bI l from rfl,<-o,dn,show(a:Int)+1=((a+1:Nat):Int) by omega];rw[A,bG];simp only;rw[G,bG];simp only[dN];rw[ag,o,show bI l=((l.length:Nat):Int) from rfl,uT h _ u (d+1) l.length (by simp) (oN l _ 14 _ _) (by omega) (by omega) (by omega) (by omega),bG];simp only[oJ,show jB 14=true from by kernel_rfl,if_true,show d+1-1=d by omega]
theorem Vq {n:Nat} (h2:All F (n-2)) (a:Nat) (l:List Nd) (u d:Int) (r j:Nat) (g:16*(F.length-a)+8<n+1) (hr:n+1<=r) (s:n+1<=j) (hp:Jb F a l d 113) (p:Ic F a d=true):
  ∃(h:Nat) (m:List Nd),(gI r).q219 F (a:Int) l u d=a6 (PR F h (l++m) u d,())/\
   (gU j).q186 F (iT F) l (a:Int) u d=a6 (RR F h (l++m) u d,())/\a<h/\h<=F.length/\m.length+3<=16*(h-a)/\Tr F a h u l.length m:=by
 obtain⟨q,rfl⟩: ∃q,r=q+1:=⟨r-1,by omega⟩;obtain⟨f,rfl⟩: ∃f,j=f+1:=⟨j-1,by omega⟩;unfold Ic at p;simp only[af,decide_eq_true_eq]at p;obtain⟨hd,o⟩:=p;have i:=gZ o;unfold fG at o;simp only[af,decide_eq_true_eq,List.contains_eq_mem,List.mem_cons,List.not_mem_nil,or_false]at o;rcases o.2 with e|e|e|e|e|e
 .exact aHo hF h2 a l u d q f g (by omega) (by omega) hp i hd e
 .exact aDo hF h2 a l u d q f g (by omega) (by omega) hp i hd e
 .exact aDp hF h2 a l u d q f g (by omega) (by omega) hp i hd e
 .exact aDq hF h2 a l u d q f g (by omega) (by omega) hp i hd e
 .exact aDr hF h2 a l u d q f g (by omega) (by omega) hp i hd e
 .exact aDs hF h2 a l u d q f g (by omega) (by omega) hp i hd e
end
section
open Bool renaming false_eq_true → ah, not_true → au, and_true → ay, not_false → az
open List renaming length_append → ai, getElem_mem → aG, nil_append → aO, take_of_length_le → bn
open Nat renaming le_refl → ae
open Go.RowKit
variable {F:List Lf} (hF:OkF F)
include hF
theorem aC5 (n:Nat):All F n:=by
 induction n using Nat.strongRecOn with
 |_ n o=>
  cases n with
  |zero=>exact⟨fun a l u d r e h=>by omega,fun a l u d r e h=>by omega,fun a l u d r e h=>by omega,fun a l u d r h=>by omega,fun a l u d r e h=>by omega,fun a l u d r e h=>by omega,fun a l u d r e h=>by omega⟩
  |succ n=>
   have h:=o n (by omega);have p:=o (n-1) (by omega);have q:=o (n-2) (by omega);exact⟨fun a l u d r e g hr i f j=>aob hF h a l u d r e g hr i f j,
    fun a l u d r e g hr i f j=>afK hF h a l u d r e g hr i f j,
    fun a l u d r e g hr i f j=>aox hF h a l u d r e g hr i f j,
    fun a l u d r g hr f j=>aeA hF a l u d r hr f j,
    fun a l u d r e g hr i f=>Yk hF h p a l u d r e g hr i f,
    fun a l u d r e g hr i f j=>Vq hF q a l u d r e g hr i f j,
    fun a l u d r e g hr i f=>amE hF h a l u d r e g hr i f⟩
theorem UM: ∀(N a:Nat),F.length-a<N->a<=F.length->
  MK N F ((iT F).take a) (a:Int)=some (.inl ((F,iT F,()),()))
 |0,a,h,_=>by omega
 |N+1,a,g,i=>by
  have j:=hF.len;rw[MK,abY];by_cases h:a<F.length
  .rw[bV (b:=gV (a:Int) (bI F)) (eH (by rw[bK];omega)),bV (b:=fD F (a:Int)) (dV),zY h];have d:SL F[a]=some ([sgn F[a]],()):=(av8 (hF.txt _ (aG h))).2;rw[d,bG];have e:iH ((iT F).take a) [sgn F[a]]=true:=by
    unfold iH kH
    grind
   simp only[e,aa];rw[dn,show(a:Int)+1=((a+1:Nat):Int) by omega];have f:bT ((iT F).take a) [sgn F[a]]=(iT F).take (a+1):=by
    simp_all [bT,List.take_add_one]
   rw[f];exact UM N (a+1) (by omega) (by omega)
  simp_all [dI,ig,bK,bn]
theorem Ls (w:Int): ∀(N a:Nat) (L:List Nd) (b:Bool) (v:Int),F.length-a<N->a<=F.length->L.length<=16*a+1->bP v 2=b->
  ∃m,MO N b F (a:Int) 0 0 L=some (.inl ((),((),()),((F,((F.length:Nat):Int),0,0,()),L++m,())))/\
   Iw N F w v L F (iT F) (a:Int) 0 0=some (.inl ((w,()),(L++m,(F,iT F,((F.length:Nat):Int),0,0,()),())))/\m.length<=16*(F.length-a)/\Tr F a F.length 0 L.length m
 |0,a,L,b,v,i,_,_,_=>by omega
 |N+1,a,L,b,v,i,j,hL,f=>by
  have u:=hF.len;rw[MO,ab5,Iw,abZ];by_cases h:a<F.length
  .rw[bV (b:=gV (a:Int) (bI F)) (eH (by rw[bK];omega)),bV (b:=gV (a:Int) (bI F)) (eH (by rw[bK];omega)),mV hF a L 0 0 (by omega) [110] rfl,jh a L 0 0 [110] (by simp),bG,bG];simp only;have g: ∃m,MO N false F ((a+1:Nat):Int) 0 0 (L++[(17,(a:Int),((a+1:Nat):Int),0,())])=some (.inl ((),((),()),((F,((F.length:Nat):Int),0,0,()),L++m,())))/\
     Iw N F w 17 (L++[(17,(a:Int),((a+1:Nat):Int),0,())]) F (iT F) ((a+1:Nat):Int) 0 0=some (.inl ((w,()),(L++m,(F,iT F,((F.length:Nat):Int),0,0,()),())))/\m.length<=16*(F.length-a)/\Tr F a F.length 0 L.length m:=by
    obtain⟨m,g1,g2,g3⟩:=Ls w N (a+1) (L++[(17,(a:Int),((a+1:Nat):Int),0,())]) false 17 (by omega) (by omega) (by grind) rfl;exact⟨[(17,(a:Int),((a+1:Nat):Int),0,())]++m,by simp_all,by simp_all,by grind,(Tr.lf (ae a) (ae _) (by omega) (fun h=>by exfalso;omega)).ap g3.2⟩
   cases hb:fG F a [110]with
   |true=>
    rw[nJ hb,dn,show(a:Int)+1=((a+1:Nat):Int) by omega];simp only[aa];obtain⟨m,g1,g2,g3⟩:=Ls w N (a+1) L b v (by omega) (by omega) (by omega) f;exact⟨m,g1,g2,by omega,g3.2.wide (by omega) (ae _)⟩
   |false=>
    rw[xC hb,f];simp only[ac];cases b with
    |true=>
     simp only[au,ac];rw[Iq a L 0 0 17 (by omega) (by omega),OX a L 0 0 (by omega) (by omega) rfl (by omega) (by omega) (by omega) (by omega),bG,bG];exact g
    |false=>
     simp only[az,aa];rw[Cf hF a L 0 0 (by omega),HY a L 0 0 (by omega),bG,bG];simp only;cases hp:qF F a 0 with
     |true=>
      obtain⟨x,_,_⟩:=kU L (opn 2 a 0) (by omega);obtain⟨d,e,l,o,y,p,q⟩:=(aC5 hF (16*F.length+13)).list a L 0 0 bM bM (by omega) (Nat.le_of_lt (dK)) (Nat.le_of_lt (dK)) ⟨j,by omega,by omega,by omega⟩ hp;obtain⟨z,A⟩:=qE L e (opn 2 a 0);have B:aDP F (a:Int) (bT L [opn 2 a 0]) (bI L) 0=some (PR F d (bT L [opn 2 a 0]++e) (bI L) 0,()):=l;have D:aDO F (iT F) L (a:Int) 0 0=some (RR F d (L++(2,(a:Int),(d:Int),0,())::e) 0 0,()):=o;obtain⟨m,g1,g2,g3⟩:=Ls w N d (L++(2,(a:Int),(d:Int),0,())::e) true 2 (by omega) p (by grind) rfl;refine⟨((2,(a:Int),(d:Int),0,())::e)++m, ?_, ?_,by grind,(q.2.one (ae _) (ae _) (by omega) rfl).app g3.2 (ae _) (ai ..)⟩
      .simp_all [eP,bG,lJ]
      simp_all [bG]
     |false=>
      simp only[ac];rw[Iq a L 0 0 17 (by omega) (by omega),OX a L 0 0 (by omega) (by omega) rfl (by omega) (by omega) (by omega) (by omega),bG,bG];exact g
  .have s:a=F.length:=by omega
   rw[dI (b:=gV (a:Int) (bI F)) (ig (by rw[bK];omega)),dI (b:=gV (a:Int) (bI F)) (ig (by rw[bK];omega)),s];exact⟨[],by simp,by simp,by simp,.nil (ae _)⟩
theorem ave: ∃l,anO F=some (l,())/\anP F=some (l,())/\l.length<=16*F.length+1/\ ∃m,l=(1,0,(F.length:Int),-1,())::m/\Tr F 0 F.length 0 1 m:=by
 have e:=hF.len;obtain⟨m,g1,g2,g3⟩:=Ls hF (-1) bM 0 [(1,0,0,-1,())] false 0 (dK) (by omega) (by simp) rfl;refine⟨ac1 ([(1,0,0,-1,())]++m) 0 ((F.length:Nat):Int), ?_, ?_,by simp_all [aq0],m,rfl,g3.2⟩
 .rw[anO];have d:dY [((1:Int),((0:Int),((0:Int),((-1:Int),()))))] 32=true:=by kernel_rfl
  simp only[eP,ay,aa,d];rw[aDN,show((0:Int))=((0:Nat):Int) from rfl];simp only[Int.ofNat_zero]at g1 ⊢;rw[g1,bG];simp only[dN,bG];rw[bV (dV (by omega) (by simp)),bV (l9 (by simp[dC]))];rfl
 .rw[anP,show MK bM F [] 0=some (.inl ((F,iT F,()),())) from UM hF bM 0 (dK) (by omega),bG];simp only[dN];rw[show Df F (iT F) [] 0 (-1) 0 1=_ from lH 0 [] (-1) 0 (by omega) (by omega) (by simp) (by omega) (by omega),bG];simp only[show jB 1=false from by kernel_rfl,ah,if_false,aO,List.length_nil];rw[show Iw bM F (-1) 0 [(1,((0:Nat):Int),0,-1,())] F (iT F) ((0:Nat):Int) ((0:Nat):Int) 0=_ from g2,bG];simp only[dN];rw[show pK F (iT F) _ ((F.length:Nat):Int) 0 0 (-1)=_ from uT F.length ([(1,0,0,-1,())]++m) (-1) 0 0 (by simp) (k:=1) rfl (by omega) (by omega) (by omega) (by omega),bG]
end
end Go.Proofs.YtlhpdcadgbjhiaaGreatDoor
