/- Parts of the proof, joined and shortened by a program: the plain machine, the functions as it prints them, and the mathematics over them. -/
import Derived.Test.YtkichehglnecnaaGreatDoorY4
import Derived.Test.YtkichehglnecnaaGreatDoorY5
import Derived.Test.YtkichehglnecnaaGreatDoorY7
set_option linter.unusedVariables false
set_option linter.unusedSimpArgs false
set_option maxRecDepth 100000
set_option maxHeartbeats 4000000
namespace Go.Proofs.YtkichehglnecnaaGreatDoor
section
open Option renaming some → a6, none → a7
open Bool renaming not_true → ay, not_false → aB
open Nat renaming le_trans → aG
open Go.RowKit
theorem awe {a b:List UInt8}:gI a b=true↔a=b:=by simp[gI]
theorem VR {a b:List UInt8} (h:a≠b):gI a b=false:=by simp[gI];exact h
theorem aGk {a b:List UInt8} (h:a=b):gI a b=true:=awe.2 h
def aa3:List bW:=[[33],[123],[125],[99,97,115,101],[100,111],[100,111,110,101],[101,108,105,102],[101,108,115,101],[101,115,97,99],[102,105],[102,111,114],[105,102],[105,110],[116,104,101,110],[117,110,116,105,108],[119,104,105,108,101]]
def adg:bW:=[32,33,32,123,32,125,32,99,97,115,101,32,100,111,32,100,111,110,101,32,101,108,105,102,32,101,108,115,101,32,101,115,97,99,32,102,105,32,102,111,114,32,105,102,32,105,110,32,116,104,101,110,32,117,110,116,105,108,32,119,104,105,108,101,32]
theorem afP: ∀i:Fin 66,∀n:Fin 66,(sub adg (i.val:Int) ((i.val:Int)+((n.val:Int)+2))).getD 0 0=32->
  (sub adg (i.val:Int) ((i.val:Int)+((n.val:Int)+2))).getD (n.val+1) 0=32->
  (((sub adg (i.val:Int) ((i.val:Int)+((n.val:Int)+2))).drop 1).take n.val).contains 32=false->n.val≠0->i.val+n.val+2<=65->
  aa3.contains (((sub adg (i.val:Int) ((i.val:Int)+((n.val:Int)+2))).drop 1).take n.val)=true:=by decide+kernel
theorem ait (x:bW) (hx:x.length<=3000000): ∀(n k:Nat),k<=x.length->x.length-k<n->
  Ce n 32 x (k:Int)=a6 (.inl ((),()))/\(∀j,k<=j->j<x.length->bY x (j:Int)≠32)\/Ce n 32 x (k:Int)=a6 (.inr ((true,()),()))
 |0,k,d,e=>by omega
 |n+1,k,d,e=>by
  rw[Ce];unfold Ur;by_cases hk:k<x.length
  .rw[bU (eQ (by rw[bI];omega)),bU (dU)];by_cases hb:bY x (k:Int)=32
   .simp_all [fO]
   .rw[dG (dR hb),dh];rcases ait x hx n (k+1) (by omega) (by omega)with ⟨h,h'⟩|h
    all_goals grind
  .rw[dG (gK (by rw[bI];omega))]
   grind
theorem asP {x:List UInt8} (h: ∀j,0<=j->j<x.length->bY x ((j:Nat):Int)≠32):x.contains 32=false:=by
 rw[Bool.eq_false_iff];intro d;rw[List.contains_iff_mem]at d;obtain⟨j,e,f⟩:=List.mem_iff_getElem.1 d;refine h j (by omega) e ?_;simp_all [bY]
theorem ad2 (x:bW) (hx:x.length<=3000000) (f:x.length≠0) (hb:x.contains 32=false) (g:aa3.contains x=false): ∀(n i:Nat),i<=66->66-i<n->
  SL n (bM (bM [32] x) [32]) (i:Int)=a6 (.inl ((),()))
 |0,i,h,j=>by omega
 |n+1,i,h,j=>by
  have d:(bM (bM [32] x) [32]).length=x.length+2:=by simp[bM]
  rw[SL];unfold abv;by_cases hi:i+x.length+2<=65
  .rw[bU (nK (by grind [bI,dh]))];rw[bU (fV (by omega) (by grind [bI,dh]) (by rw[bI,bI,d,dh];show _<=(65:Int);omega))];rw[dG (VR ?_)]
   .rw[dh];exact ad2 x hx f hb g n (i+1) (by omega) (by omega)
   .intro e;rw[bI,d,dh]at e;change sub adg _ _=_ at e;have:=afP ⟨i,by omega⟩ ⟨x.length,by omega⟩;simp_all [bM]
  .rw[dG (Dq (by grind [bI,dh]))]
theorem aj1 (x:bW) (hx:x.length<=3000000) (d:aa3.contains x=false):aws x=a6 (false,()):=by
 unfold aws;by_cases h0:x.length=0
 .simp_all [fO,bI]
 rw[dG (dR (by rw[bI];omega))];unfold Md;rcases ait x hx bJ 0 (by omega) (dH)with ⟨h,h'⟩|h
 .rw[show(0:Int)=((0:Nat):Int) from rfl,h];simp only[bD,as6,ac];rw[bU (show iD [32] x=true by unfold iD jO;grind)];rw[bU (show iD (bM [32] x) [32]=true by unfold iD jO bM;grind)];rw[ad2 x hx h0 (asP h') d bJ 0 (by omega) (dH)];rfl
 .rw[show(0:Int)=((0:Nat):Int) from rfl,h];rfl
theorem adR: ∀k:Fin 17,awu ((k.val:Int)+1)=a6 (LJ.getD k.val [],())/\Yr ((k.val:Int)+1)=a6 (LJ.getD k.val [],()):=by
 intro k
 match k with
 |⟨0,_⟩=>exact⟨by kernel_rfl,by kernel_rfl⟩
 |⟨1,_⟩=>exact⟨by kernel_rfl,by kernel_rfl⟩
 |⟨2,_⟩=>exact⟨by kernel_rfl,by kernel_rfl⟩
 |⟨3,_⟩=>exact⟨by kernel_rfl,by kernel_rfl⟩
 |⟨4,_⟩=>exact⟨by kernel_rfl,by kernel_rfl⟩
 |⟨5,_⟩=>exact⟨by kernel_rfl,by kernel_rfl⟩
 |⟨6,_⟩=>exact⟨by kernel_rfl,by kernel_rfl⟩
 |⟨7,_⟩=>exact⟨by kernel_rfl,by kernel_rfl⟩
 |⟨8,_⟩=>exact⟨by kernel_rfl,by kernel_rfl⟩
 |⟨9,_⟩=>exact⟨by kernel_rfl,by kernel_rfl⟩
 |⟨10,_⟩=>exact⟨by kernel_rfl,by kernel_rfl⟩
 |⟨11,_⟩=>exact⟨by kernel_rfl,by kernel_rfl⟩
 |⟨12,_⟩=>exact⟨by kernel_rfl,by kernel_rfl⟩
 |⟨13,_⟩=>exact⟨by kernel_rfl,by kernel_rfl⟩
 |⟨14,_⟩=>exact⟨by kernel_rfl,by kernel_rfl⟩
 |⟨15,_⟩=>exact⟨by kernel_rfl,by kernel_rfl⟩
 |⟨16,_⟩=>exact⟨by kernel_rfl,by kernel_rfl⟩
 |⟨n+17,h⟩=>omega
theorem azU {x:List UInt8} (d:LJ.contains x=false) {k:Nat} (hk:k<17):LJ.getD k []≠x:=by
 rintro rfl;rw[Bool.eq_false_iff]at d;apply d;rw[List.contains_iff_mem,List.getD_eq_getElem?_getD,List.getElem?_eq_getElem (show k<LJ.length from hk)];simp
theorem W9 (x:bW) (d:LJ.contains x=false): ∀(n k:Nat),k<=17->17-k<n->IB n x ((k:Int)+1)=a6 (.inl ((),()))
 |0,k,e,f=>by omega
 |n+1,k,e,f=>by
  rw[IB];unfold Uo;by_cases hk:k<17
  .rw[bU (nK),(adR ⟨k,hk⟩).1,bD,dG (VR (azU d hk)),dh];exact W9 x d n (k+1) (by omega) (by omega)
  .rw[dG (Dq)]
theorem abe (x:bW) (d:LJ.contains x=false) (a b c:Int): ∀(n k:Nat),k<=17->17-k<n->SI n ((k:Int)+1) a x b c=a6 (.inl ((),()))
 |0,k,e,f=>by omega
 |n+1,k,e,f=>by
  rw[SI];unfold abq;by_cases hk:k<17
  .rw[bU (nK),(adR ⟨k,hk⟩).2,bD,dG (VR (azU d hk)),dh];exact abe x d a b c n (k+1) (by omega) (by omega)
  .rw[dG (Dq)]
theorem axH {x:List UInt8} (h:aa3.contains x=true):x=[33]\/x=[123]\/x=[125]\/x=[99,97,115,101]\/x=[100,111]\/x=[100,111,110,101]\/x=[101,108,105,102]\/x=[101,108,115,101]\/x=[101,115,97,99]\/x=[102,105]\/x=[102,111,114]\/x=[105,102]\/x=[105,110]\/x=[116,104,101,110]\/x=[117,110,116,105,108]\/x=[119,104,105,108,101]:=by
 simp_all [aa3]
theorem asJ {x:List UInt8} (h:LJ.contains x=true):x=[38,38]\/x=[124,124]\/x=[59,59]\/x=[60,60]\/x=[60,60,45]\/x=[62,62]\/x=[60,38]\/x=[62,38]\/x=[60,62]\/x=[62,124]\/x=[60]\/x=[62]\/x=[38]\/x=[59]\/x=[124]\/x=[40]\/x=[41]:=by
 simp_all [LJ]
theorem aox (x:bW) (hx:x.length<=10000) (a b:Int): ∃c:UInt8,ahT x=a6 ((c.toNat:Int),())/\lY (6,(x,(a,(b,()))))=a6 ([c],()):=by
 cases hw:aa3.contains x with
 |true=>
  rcases axH hw with h|h|h|h|h|h|h|h|h|h|h|h|h|h|h|h
  .subst h;exact⟨33,by kernel_rfl,by kernel_rfl⟩
  .subst h;exact⟨123,by kernel_rfl,by kernel_rfl⟩
  .subst h;exact⟨125,by kernel_rfl,by kernel_rfl⟩
  .subst h;exact⟨99,by kernel_rfl,by kernel_rfl⟩
  .subst h;exact⟨100,by kernel_rfl,by kernel_rfl⟩
  .subst h;exact⟨103,by kernel_rfl,by kernel_rfl⟩
  .subst h;exact⟨101,by kernel_rfl,by kernel_rfl⟩
  .subst h;exact⟨108,by kernel_rfl,by kernel_rfl⟩
  .subst h;exact⟨122,by kernel_rfl,by kernel_rfl⟩
  .subst h;exact⟨102,by kernel_rfl,by kernel_rfl⟩
  .subst h;exact⟨114,by kernel_rfl,by kernel_rfl⟩
  .subst h;exact⟨105,by kernel_rfl,by kernel_rfl⟩
  .subst h;exact⟨107,by kernel_rfl,by kernel_rfl⟩
  .subst h;exact⟨116,by kernel_rfl,by kernel_rfl⟩
  .subst h;exact⟨119,by kernel_rfl,by kernel_rfl⟩
  .subst h;exact⟨119,by kernel_rfl,by kernel_rfl⟩
 |false=>
  refine⟨120, ?_, ?_⟩
  .have e: ∀l,aa3.contains l=true->gI x l=false:=fun l d=>VR fun f=>by simp_all
   (unfold ahT;delta Pj Ye)
   simp only[e [33] rfl,e [123] rfl,e [125] rfl,e [99,97,115,101] rfl,e [100,111] rfl,e [100,111,110,101] rfl,e [101,108,105,102] rfl,e [101,108,115,101] rfl,e [101,115,97,99] rfl,e [102,105] rfl,e [102,111,114] rfl,e [105,102] rfl,e [105,110] rfl,e [116,104,101,110] rfl,e [117,110,116,105,108] rfl,e [119,104,105,108,101] rfl,ac];rfl
  .unfold lY;simp only[show bT 6 2=false from rfl,show bT 6 5=false from rfl,show bT 6 4=false from rfl,show bT 6 6=true from rfl,ay,ac,aj1 x (aG hx (by omega)) hw,bD,aB,aa]
theorem am9 (x:bW) (hx:x.length<=10000) (a b:Int): ∃c:UInt8,ahS x=a6 ((c.toNat:Int),())/\lY (4,(x,(a,(b,()))))=a6 ([c],())/\c≠120:=by
 cases hw:LJ.contains x with
 |true=>
  rcases asJ hw with h|h|h|h|h|h|h|h|h|h|h|h|h|h|h|h|h
  .subst h;exact⟨97,by kernel_rfl,by kernel_rfl,by decide⟩
  .subst h;exact⟨111,by kernel_rfl,by kernel_rfl,by decide⟩
  .subst h;exact⟨121,by kernel_rfl,by kernel_rfl,by decide⟩
  .subst h;exact⟨60,by kernel_rfl,by kernel_rfl,by decide⟩
  .subst h;exact⟨60,by kernel_rfl,by kernel_rfl,by decide⟩
  .subst h;exact⟨60,by kernel_rfl,by kernel_rfl,by decide⟩
  .subst h;exact⟨60,by kernel_rfl,by kernel_rfl,by decide⟩
  .subst h;exact⟨60,by kernel_rfl,by kernel_rfl,by decide⟩
  .subst h;exact⟨60,by kernel_rfl,by kernel_rfl,by decide⟩
  .subst h;exact⟨60,by kernel_rfl,by kernel_rfl,by decide⟩
  .subst h;exact⟨60,by kernel_rfl,by kernel_rfl,by decide⟩
  .subst h;exact⟨60,by kernel_rfl,by kernel_rfl,by decide⟩
  .subst h;exact⟨38,by kernel_rfl,by kernel_rfl,by decide⟩
  .subst h;exact⟨59,by kernel_rfl,by kernel_rfl,by decide⟩
  .subst h;exact⟨124,by kernel_rfl,by kernel_rfl,by decide⟩
  .subst h;exact⟨40,by kernel_rfl,by kernel_rfl,by decide⟩
  .subst h;exact⟨41,by kernel_rfl,by kernel_rfl,by decide⟩
 |false=>
  refine⟨63, ?_, ?_,by decide⟩
  .unfold ahS;have:acN x=a6 (0,()):=by
    unfold acN;by_cases h0:x=[]
    .rw[bU (aGk h0)]
    .rw[dG (VR h0),show(1:Int)=((0:Nat):Int)+1 from rfl,W9 x hw bJ 0 (by omega) (dH)];rfl
   rw[this];rfl
  .unfold lY;simp only[show bT 4 2=false from rfl,show bT 4 5=false from rfl,show bT 4 4=true from rfl,ac,aa];rw[show(1:Int)=((0:Nat):Int)+1 from rfl,abe x hw 4 a b bJ 0 (by omega) (dH)];rfl
theorem az9 (k:Int) (x:bW) (hx:x.length<=10000) (a b:Int): ∃c:UInt8,afz (k,(x,(a,(b,()))))=a6 ((c.toNat:Int),())/\lY (k,(x,(a,(b,()))))=a6 ([c],())/\(c=120->k=6):=by
 by_cases h2:k=2
 .subst h2;exact⟨110,rfl,rfl,fun h=>absurd h (by decide)⟩
 by_cases h5:k=5
 .subst h5;exact⟨35,rfl,rfl,fun h=>absurd h (by decide)⟩
 by_cases h4:k=4
 .subst h4;obtain⟨c,h,d,f⟩:=am9 x hx a b;refine⟨c, ?_,d,fun e=>absurd e f⟩;unfold afz;simp only[show bT 4 2=false from rfl,show bT 4 4=true from rfl,ac,aa,h,bD]
 by_cases h6:k=6
 .subst h6;obtain⟨c,h,d⟩:=aox x hx a b;refine⟨c, ?_,d,fun _=>rfl⟩;unfold afz;simp only[show bT 6 2=false from rfl,show bT 6 4=false from rfl,show bT 6 5=false from rfl,show bT 6 6=true from rfl,ac,aa,h,bD]
 refine⟨63, ?_, ?_,fun h=>absurd h (by decide)⟩
 .unfold afz;simp only[dR h2,dR h4,dR h5,dR h6,ac];rfl
 .unfold lY;simp only[dR h2,dR h4,dR h5,dR h6,ac,aB,aa]
abbrev Lf:=Int×List UInt8×Int×Int×Unit
def dLf:Lf:=(0,([],(0,(0,()))))
def O6 (f:Lf):UInt8:=match lY f with
 |some ([c],_)=>c
 |_=>0
theorem aud {f:Lf} (h:f.2.1.length<=10000):afz f=a6 (((O6 f).toNat:Int),())/\lY f=a6 ([O6 f],()):=by
 obtain⟨k,x,a,b,u⟩:=f;obtain⟨c,d,e,_⟩:=az9 k x h a b;simp_all [O6]
theorem az8 {f:Lf} (h:f.2.1.length<=10000) (hx:O6 f=120):f.1=6:=by
 obtain⟨k,x,a,b,u⟩:=f;obtain⟨c,d,e,g⟩:=az9 k x h a b;simp_all [O6]
end
section
open Option renaming some → a6, none → a7
open Bool renaming and_true → ax, not_true → ay, not_false → aB, true_and → aU
open List renaming getElem_mem → aJ
open Nat renaming le_refl → ae
open Go.RowKit
abbrev Nd:=Int×Int×Int×Int×Unit
def dNd:Nd:=(0,(0,(0,(0,()))))
structure U2 (F:List Lf):Prop where
 len:F.length<=10000
 txt: ∀f∈F,f.2.1.length<=10000
def DD (F:List Lf) (a:Nat):UInt8:=if h:a<F.length then O6 F[a]else 0
def fD (F:List Lf) (a:Nat) (o:bW):Bool:=decide (a<F.length)&&o.contains (DD F a)
theorem Uh {F:List Lf} {a:Nat} (h:a<F.length):DD F a=O6 F[a]:=by simp_all [DD]
theorem KT {F:List Lf} {a:Nat} (h:F.length<=a:=by omega):DD F a=0:=by simp_all [DD,dif_neg]
theorem gW {F:List Lf} {a:Nat} {o:List UInt8} (h:fD F a o=true):a<F.length:=by
 simp_all [fD]
theorem AO {F:List Lf} {a:Nat} (h:a<F.length):eX F (0,([],(0,(0,())))) (a:Int)=F[a]:=by
 simp_all [eX]
theorem azt {d:Type} {l:List d} {k:Nat} (h:l.length*k<=140737488355328):dV l k=true:=by
 grind [dV,jO]
variable {F:List Lf} (hF:U2 F)
include hF
theorem auj (a k:Nat) (l:List Nd) (u d:Int) (e:a+k<1000000000):yA F (a:Int) l u d (k:Int)=a6 ((F,((a:Int),(l,(u,(d,()))))),(((DD F (a+k)).toNat:Int),())):=by
 have:=hF.len;rw[yA,dh,show(a:Int)+(k:Int)=((a+k:Nat):Int) by omega];by_cases h:a+k<F.length
 .rw[dG (Dq (by rw[bI];omega)),bU (dU),AO h,(aud (hF.txt _ (aJ h))).1,bD,Uh h]
 .rw[bU (nK (by rw[bI];omega)),KT];rfl
theorem oO (a:Nat) (l:List Nd) (u d:Int) (e:a<100000000):yA F (a:Int) l u d 0=a6 ((F,((a:Int),(l,(u,(d,()))))),(((DD F a).toNat:Int),())):=auj hF a 0 l u d (by omega)
theorem akQ (a:Nat) (l:List Nd) (u d:Int) (e:a<100000000):yA F (a:Int) l u d 1=a6 ((F,((a:Int),(l,(u,(d,()))))),(((DD F (a+1)).toNat:Int),())):=auj hF a 1 l u d (by omega)
omit hF in
theorem awD (S:bW) (c:UInt8):leI 0 (ibW S (c.toNat:Int))=S.contains c:=by
 have:ibW S (c.toNat:Int)=Lib.indexByte S c:=by unfold ibW;congr 1;simp
 rw[this,arh];by_cases h:(S.takeWhile (· !=c)).length<S.length
 .rw[am h,nK];have:=Ac (· !=c) S h
  grind
 .rw[aq h,Dq];have e: ∀x∈S,x≠c:=fun x d=>by
   obtain⟨i,f,rfl⟩:=List.getElem_of_mem d
   grind [ES]
  grind
theorem XV (a:Nat) (l:List Nd) (u d:Int) (f:a<100000000) (o:bW) (g:o.contains 0=false):VZ F (a:Int) l u d o=a6 ((F,((a:Int),(l,(u,(d,()))))),(fD F a o,())):=by
 rw[VZ,oO hF a l u d f,bD];simp only;unfold fD;by_cases h:DD F a=0
 .rw[h,show(!bT (((0:UInt8).toNat:Nat):Int) 0)=false from rfl,ac,g,Bool.and_false]
 .have i:a<F.length:=by
   grind [KT]
  rw[dR fun e=>h (UInt8.toNat_inj.1 (by simp_all))];simp only[aB,aa];rw[acI,aii,bD,bD];simp only[awD,decide_eq_true i,aU]
def tk (F:List Lf) (a:Nat) (o:bW):Nat:=if fD F a o=true then a+1 else a
theorem mV (a:Nat) (l:List Nd) (u d:Int) (e:a<100000000) (o:bW) (f:o.contains 0=false):lD F (a:Int) l u d o=a6 ((F,(((tk F a o:Nat):Int),(l,(u,(d,()))))),(fD F a o,())):=by
 rw[lD,XV hF a l u d e o f,bD];simp only;unfold tk;cases h:fD F a o with
 |false=>rfl
 |true=>
  simp only[ay,ac,if_true]
  grind [dh]
def lnF (F:List Lf):Nat->Nat->Nat
 |0,a=>a
 |n+1,a=>if fD F a [110]=true then lnF F n (a+1)else a
def ln (F:List Lf) (a:Nat):Nat:=lnF F (F.length+1) a
omit hF in
theorem adi: ∀(n m a:Nat),F.length<n+a->F.length<m+a->lnF F n a=lnF F m a
 |0,0,a,_,_=>rfl
 |0,m+1,a,h,_=>by
  rw[lnF,lnF,aq];intro d;have:=gW d;omega
 |n+1,0,a,_,h=>by
  rw[lnF,lnF,aq];intro d;have:=gW d;omega
 |n+1,m+1,a,e,f=>by
  rw[lnF,lnF];split
  .exact adi n m (a+1) (by omega) (by omega)
  .rfl
omit hF in
theorem JV (a:Nat):ln F a=if fD F a [110]=true then ln F (a+1)else a:=by
 grind [ln,lnF,adi]
omit hF in
theorem afQ: ∀(n a:Nat),a<=lnF F n a
 |0,a=>ae _
 |n+1,a=>by
  rw[lnF];split
  .have:=afQ n (a+1);omega
  omega
omit hF in
theorem xG (a:Nat):a<=ln F a:=afQ _ _
omit hF in
theorem ar9: ∀(n a:Nat),a<=F.length->lnF F n a<=F.length
 |0,a,h=>h
 |n+1,a,h=>by
  rw[lnF];split
  .rename_i d
   exact ar9 n (a+1) (gW d)
  .exact h
omit hF in
theorem yI {a:Nat} (h:a<=F.length):ln F a<=F.length:=ar9 _ _ h
theorem SG (l:List Nd) (u d:Int) (v:Bool): ∀(N a:Nat),F.length+1-a<N->a<=F.length->
  JZ N v F (a:Int) u d l=a6 (.inl ((v,()),((),()),((F,((ln F a:Nat):Int),u,d,()),l,())))
 |0,a,h,_=>by omega
 |N+1,a,h,e=>by
  have:=hF.len;rw[JZ,Qg,mV hF a l u d (by omega) [110] rfl,bD,JV];simp only;unfold tk;cases h':fD F a [110]with
  |false=>rfl
  |true=>
   simp only[aa,if_true];exact SG l u d v N (a+1) (by omega) (gW h')
theorem nM (a:Nat) (l:List Nd) (u d:Int) (e:a<=F.length):pq F (a:Int) l u d=a6 ((F,(((ln F a:Nat):Int),(l,(u,(d,()))))),(fD F a [110],())):=by
 have:=hF.len;rw[pq,mV hF a l u d (by omega) [110] rfl,bD];simp only;have f:tk F a [110]<=F.length:=by
  unfold tk;split
  .rename_i h;exact gW h
  .exact e
 rw[SG hF l u d _ bJ (tk F a [110]) (dH) f,bD];simp only[dL];have:ln F (tk F a [110])=ln F a:=by
  unfold tk;split
  .rename_i h;rw[JV a,am h]
  .rfl
 rw[this]
omit hF in
theorem adE (l:List Nd) (k a u t:Int):ik (bM l [(k,(a,(0,(u,()))))]) (dw (bG l)) ((dD (bM l [(k,(a,(0,(u,()))))]) (0,(0,(0,(0,())))) (dw (bG l))).1,((dD (bM l [(k,(a,(0,(u,()))))]) (0,(0,(0,(0,())))) (dw (bG l))).2.1,(t,((dD (bM l [(k,(a,(0,(u,()))))]) (0,(0,(0,(0,())))) (dw (bG l))).2.2.2.1,()))))=l++[(k,a,t,u,())]:=by
 simp_all [dw,bI,ik,bM,dD]
omit hF in
theorem kX (l:List Nd) (x:Nd) (hl:l.length<1000000000):dV (bM l [x]) 32=true/\gm (bM l [x]) (bG l)=true/\ni (dw (bG l)) (bM l [x])=true:=
 ⟨azt (by grind [bM]),dU (by rw[bI];omega) (by grind [bI,bM]),pJ (by unfold bM;simp[dw,bI])⟩
omit hF in
theorem Iy (a:Nat) (l:List Nd) (u d k:Int) (h:a<100000000) (hl:l.length<1000000000):DV F (a:Int) l u d k=a6 ((F,(((a+1:Nat):Int),(l++[(k,(a:Int),((a+1:Nat):Int),u,())],(u,(d,()))))),()):=by
 obtain⟨e,f,g⟩:=kX l (k,((a:Int),(0,(u,())))) hl;rw[DV];simp only[eH,ax,aa,e,f,g,adE]
 grind [dh]
omit hF in
theorem ny (a:Nat) (l:List Nd) (u d:Int) (hl:l.length<1000000000):yC F (a:Int) l u d=a6 ((F,((a:Int),(l++[(18,(a:Int),(a:Int),u,())],(u,(d,()))))),()):=by
 obtain⟨e,f,g⟩:=kX l (18,((a:Int),(0,(u,())))) hl;rw[yC];simp only[eH,ax,aa,e,f,g,adE]
def ql (F:List Lf) (a:Nat) (o:bW):Nat:=tk F a o
def wnL (F:List Lf) (a:Nat) (o:bW) (l:List Nd) (u:Int):List Nd:=if fD F a o=true then l else l++[(18,(a:Int),(a:Int),u,())]
theorem Ad (a:Nat) (l:List Nd) (u d:Int) (e:a<100000000) (hl:l.length<1000000000) (o:bW) (f:o.contains 0=false):rG F (a:Int) l u d o=a6 ((F,(((ql F a o:Nat):Int),(wnL F a o l u,(u,(d,()))))),()):=by
 rw[rG,mV hF a l u d e o f,bD];unfold ql wnL tk;cases h:fD F a o with
 |true=>rfl
 |false=>
  simp_all [ny,bD]
def BQ (F:List Lf) (a:Nat):Bool:=if h:a<F.length then decide (F[a].1=6)else false
omit hF in
theorem Yz {a:Nat} (h:BQ F a=true):a<F.length:=by
 grind [BQ]
omit hF in
theorem AC (a:Nat) (l:List Nd) (u d:Int):NZ F (a:Int) l u d=a6 ((F,((a:Int),(l,(u,(d,()))))),(BQ F a,())):=by
 rw[NZ];unfold BQ;by_cases h:a<F.length
 .simp_all [eQ,bI,dU,AO,gZ]
 simp_all [gK,bI,dif_neg]
def Dw (F:List Lf) (a:Nat):Nat:=if BQ F a=true then a+1 else a
def wdL (F:List Lf) (a:Nat) (l:List Nd) (u:Int):List Nd:=if BQ F a=true then l++[(7,(a:Int),((a+1:Nat):Int),u,())]else l++[(18,(a:Int),(a:Int),u,())]
omit hF in
theorem UV (a:Nat) (l:List Nd) (u d:Int) (e:a<100000000) (hl:l.length<1000000000):NY F (a:Int) l u d=a6 ((F,(((Dw F a:Nat):Int),(wdL F a l u,(u,(d,()))))),()):=by
 rw[NY,AC a l u d,bD];unfold Dw wdL;cases h:BQ F a with
 |true=>
  simp_all [Iy,bD]
 |false=>
  simp_all [ny,bD]
def DC (F:List Lf) (a:Nat):Bool:=fD F a [60]||fD F a [35]&&decide (DD F (a+1)=60)
def Ij (F:List Lf) (a:Nat) (d:Int):Bool:=decide (d<200)&&fD F a [123,40,105,119,114,99]
def Jk (F:List Lf) (a:Nat) (d:Int):Bool:=fD F a [120]||(DC F a||Ij F a d)
def qx (F:List Lf) (a:Nat) (d:Int):Bool:=fD F a [33]||Jk F a d
omit hF in
theorem WZ (a:Nat) (c:UInt8) (d:c≠0):bT ((DD F a).toNat:Int) (c.toNat:Int)=fD F a [c]:=by
 unfold fD;rw[gZ];by_cases h:a<F.length
 .rw[decide_eq_true h,aU,Bool.eq_iff_iff,decide_eq_true_eq];simp only[List.contains_cons,List.contains_nil,Bool.or_false,beq_iff_eq]
  grind [UInt8.toNat_inj]
 .rw[decide_eq_false h,Bool.false_and,KT];refine decide_eq_false fun e=>d (UInt8.toNat_inj.1 ?_);omega
theorem EK (a:Nat) (l:List Nd) (u d:Int) (f:a<10000000):acJ F (a:Int) l u d=a6 ((F,((a:Int),(l,(u,(d,()))))),(DC F a,())):=by
 rw[acJ,oO hF a l u d (by omega),bD];simp only;rw[show bT ((DD F a).toNat:Int) 60=fD F a [60] from WZ a 60 (by decide),show bT ((DD F a).toNat:Int) 35=fD F a [35] from WZ a 35 (by decide)];unfold DC;cases fD F a [60]with
 |true=>rfl
 |false=>
  cases fD F a [35]with
  |false=>rfl
  |true=>
   simp only[aa,ac,Bool.false_or,aU];rw[akQ hF a l u d (by omega),bD];simp only[gZ];congr 3;rw[decide_eq_decide];constructor
   .intro e;exact UInt8.toNat_inj.1 (by grind)
   simp_all
theorem DK (a:Nat) (l:List Nd) (u d:Int) (e:a<10000000):V5 F (a:Int) l u d=a6 ((F,((a:Int),(l,(u,(d,()))))),(Ij F a d,())):=by
 rw[V5];unfold Ij;by_cases h:d<200
 .rw[bU (eQ h),XV hF a l u d (by omega) _ rfl,bD,decide_eq_true h,aU]
 simp_all [gK,decide_eq_false]
theorem Rj (a:Nat) (l:List Nd) (u d:Int) (e:a<10000000):acz F (a:Int) l u d=a6 ((F,((a:Int),(l,(u,(d,()))))),(Jk F a d,())):=by
 rw[acz,oO hF a l u d (by omega),bD];simp only;rw[show bT ((DD F a).toNat:Int) 120=fD F a [120] from WZ a 120 (by decide)];unfold Jk;cases fD F a [120]with
 |true=>rfl
 |false=>
  simp only[ac,Bool.false_or];rw[EK hF a l u d e,bD];simp only;cases DC F a with
  |true=>rfl
  |false=>
   simp_all [DK,bD]
theorem CQ (a:Nat) (l:List Nd) (u d:Int) (e:a<10000000):JD F (a:Int) l u d=a6 ((F,((a:Int),(l,(u,(d,()))))),(qx F a d,())):=by
 rw[JD,oO hF a l u d (by omega),bD];simp only;rw[show bT ((DD F a).toNat:Int) 33=fD F a [33] from WZ a 33 (by decide)];unfold qx;cases fD F a [33]with
 |true=>rfl
 |false=>
  simp_all [Rj,bD]
end
section
open Option renaming some → a6, none → a7
open Bool renaming false_eq_true → ah, and_true → ax, true_and → aU
open List renaming drop_eq_getElem_cons → aF, drop_of_length_le → aK
open Go.RowKit
theorem acW (c:UInt8) (o:bW) (d:o.length<1000000): ∀(N k:Nat),o.length-k<N->k<=o.length->
  Ce N (c.toNat:Int) o (k:Int)=a6 (if(o.drop k).contains c=true then .inr ((true,()),())else .inl ((),()))
 |0,k,h,_=>by omega
 |N+1,k,h,hk=>by
  rw[Ce,Ur];by_cases e:k<o.length
  .rw[bU (eQ (by rw[bI];omega)),bU (dU),byte_at e,aF e];by_cases h1:o[k]=c
   .simp_all [fO]
   .rw[dG (dR fun h=>h1 (UInt8.toNat_inj.1 (by omega))),dh,show(k:Int)+1=((k+1:Nat):Int) by omega,acW c o d N (k+1) (by omega) (by omega)]
    grind
  simp_all [gK,bI,aK]
theorem aIK (c:UInt8) (o:bW) (d:o.length<1000000):Md (c.toNat:Int) o=a6 (o.contains c,()):=by
 have h:=acW c o d bJ 0 (dH) (by omega);rw[Md,show Ce bJ (c.toNat:Int) o 0=_ from h,bD,List.drop_zero];cases o.contains c with
 |true=>rfl
 |false=>rfl
abbrev iO (F:List Lf):bW:=F.map O6
variable {F:List Lf} (hF:U2 F)
include hF
omit hF in
theorem zZ {a:Nat} (h:a<F.length):bY (iO F) (a:Int)=((DD F a).toNat:Int):=by
 simp_all [byte_at,Uh]
omit hF in
theorem je (a:Nat) (l:List Nd) (u d:Int) (o:bW) (e:o.length<1000000):nP F (iO F) l (a:Int) u d o=a6 ((F,(iO F,(l,((a:Int),(u,(d,())))))),(fD F a o,())):=by
 rw[nP];unfold fD;by_cases h:a<F.length
 .rw[bU (eQ (by simp_all [bI])),bU (dU (by omega) (by simp_all)),zZ h,aIK _ o e,bD,decide_eq_true h,aU]
 simp_all [gK,bI,decide_eq_false]
theorem JU (l:List Nd) (u d:Int): ∀(N a:Nat) (v:Int),F.length+1-a<N->a<=F.length->0<=v->v<=a->
  ∃e:Int,SS N v F (iO F) (a:Int) u d l=a6 (.inl ((e,()),((),()),((F,iO F,((ln F a:Nat):Int),u,d,()),l,())))/\e=v+((ln F a:Nat):Int)-a
 |0,a,v,h,_,_,_=>by omega
 |N+1,a,v,h,f,g,i=>by
  have:=hF.len;rw[SS,abx,je a l u d [110] (by simp),bD,JV];simp only;cases h':fD F a [110]with
  |false=>simp
  |true=>
   simp only[aa,if_true];rw[dh,dh,show(a:Int)+1=((a+1:Nat):Int) by omega];obtain⟨e,j,m⟩:=JU l u d N (a+1) (v+1) (by omega) (gW h') (by omega) (by omega)
   grind
omit hF in
theorem aG3 (a:Nat):fD F a [110]=decide (a<ln F a):=by
 rw[JV];cases h:fD F a [110]with
 |false=>simp
 |true=>
  have:=xG (F:=F) (a+1)
  grind
theorem mG (a:Nat) (l:List Nd) (u d:Int) (e:a<=F.length):rP F (iO F) l (a:Int) u d=a6 ((F,(iO F,(l,(((ln F a:Nat):Int),(u,(d,())))))),(((ln F a:Nat):Int)-a,())):=by
 have:=hF.len;rw[rP];obtain⟨f,g,h⟩:=JU hF l u d bJ a 0 (dH) e (by omega) (by omega);simp_all [bD,dL]
def jv (k:Int):Bool:=decide (9<=k)&&decide (k<=14)||decide (k=16)
omit hF in
theorem ajq {k:Int} (d:1<=k) (h2:k<=18):aq2 k=a6 (jv k,()):=by
 have: ∀n:Fin 19,n.val≠0->aq2 ((n.val:Nat):Int)=a6 (jv ((n.val:Nat):Int),()):=by decide+kernel
 have:=this ⟨k.toNat,by omega⟩ (by simp only;omega)
 grind
omit hF in
theorem lI (a:Nat) (l:List Nd) (u d:Int) {k:Int} (e:1<=k) (h2:k<=18) (hl:l.length<1000000000) (hd:0<=d) (h:d<1000000000):
  Dz F (iO F) l (a:Int) u d k=a6 ((F,(iO F,(l++[(k,(a:Int),0,u,())],((a:Int),(((l.length:Nat):Int),((if jv k=true then d+1 else d),())))))),(u,())):=by
 have f:dV (bM l [(k,((a:Int),(0,(u,()))))]) 32=true:=azt (by grind [bM]);have g:eF .i64 (bG (bM l [(k,((a:Int),(0,(u,()))))])) 1=((l.length:Nat):Int):=by
  grind [bM,bI,iy]
 rw[Dz];simp only[eH,ax,aa,f,ajq e h2,bD,g];cases jv k with
 |true=>
  simp only[aa,if_true];rw[dh];rfl
 |false=>rfl
def acj (l:List Nd) (i:Nat) (t:Int):List Nd:=ik l i ((dD l dNd i).1,(dD l dNd i).2.1,t,(dD l dNd i).2.2.2.1,())
omit hF in
theorem apI (l:List Nd) (i:Nat) (t:Int):(acj l i t).length=l.length:=wH
omit hF in
theorem uZ (a:Nat) (l:List Nd) (u d:Int) (i:Nat) (hi:i<l.length) {k:Int} (hk:(dD l dNd i).1=k) (f:1<=k) (h2:k<=18) (hd:0<=d) (m:d<1000000000):
  pz F (iO F) l (a:Int) ((i:Nat):Int) d u=a6 ((F,(iO F,(acj l i (a:Int),((a:Int),(u,((if jv k=true then d-1 else d),())))))),()):=by
 have g:dw ((i:Nat):Int)=i:=by simp[dw]
 have h: ∀x,gm (ik l i x) ((i:Nat):Int)=true:=fun x=>dU (by omega) (by rw[wH];omega);have j: ∀x,ni i (ik l i x)=true:=fun x=>pJ (by rw[wH];exact hi);have iT: ∀x,dD (ik l i x) (0,(0,(0,(0,())))) i=x:=fun x=>F8 hi
 (rewrite [pz];delta Mc;rw[bU (dU),g,bU (pJ hi)])
 simp only[h,j,iT,aa];have e:(dD l (0,(0,(0,(0,())))) i).1=k:=hk;rw[e,ajq f h2,bD];simp only;unfold acj;rw[show dNd=(0,(0,(0,(0,())))) from rfl,e];cases jv k with
 |true=>
  simp only[aa,if_true]
  grind [iy]
 |false=>rfl
omit hF in
theorem Tv (l:List Nd) (x:Nd):dD (l++[x]) dNd l.length=x:=by
 simp_all [dD]
omit hF in
theorem VQ (l:List Nd) (k a u t:Int):acj (l++[(k,a,0,u,())]) l.length t=l++[(k,a,t,u,())]:=by
 grind [acj,Tv,ik]
omit hF in
theorem xI (a:Nat) (l:List Nd) (u d:Int) (hl:l.length<1000000000) (hd:0<=d) (e:d<1000000000):
  uA F (iO F) l (a:Int) u d=a6 ((F,(iO F,(l++[(18,(a:Int),(a:Int),u,())],((a:Int),(u,(d,())))))),()):=by
 rw[uA,lI a l u d (by omega) (by omega) hl hd e,bD];simp only;rw[show jv 18=false from rfl,aq (by simp),uZ a _ u d l.length (by simp) (by rw[Tv]) (by omega) (by omega) hd e,bD];simp only[VQ,show jv 18=false from rfl,ah,if_false]
omit hF in
theorem Ov (a:Nat) (l:List Nd) (u d:Int) {k:Int} (e:1<=k) (h2:k<=18) (g:jv k=false) (h:a<100000000) (hl:l.length<1000000000) (hd:0<=d) (f:d<1000000000):
  L9 F (iO F) l (a:Int) u d k=a6 ((F,(iO F,(l++[(k,(a:Int),((a+1:Nat):Int),u,())],(((a+1:Nat):Int),(u,(d,())))))),()):=by
 rw[L9,lI a l u d e h2 hl hd f,bD];simp only;rw[g,aq (by simp),dh,show(a:Int)+1=((a+1:Nat):Int) by omega,uZ (a+1) _ u d l.length (by simp) (by rw[Tv]) e h2 hd f,bD];simp_all [VQ]
omit hF in
theorem Ae (a:Nat) (l:List Nd) (u d:Int) (f:a<100000000) (hl:l.length<1000000000) (hd:0<=d) (g:d<1000000000) (o:bW) (e:o.length<1000000):
  mW F (iO F) l (a:Int) u d o=a6 ((F,(iO F,(wnL F a o l u,(((ql F a o:Nat):Int),(u,(d,())))))),()):=by
 rw[mW,je a l u d o e,bD];unfold ql wnL tk;cases h:fD F a o with
 |true=>
  simp only[aa,if_true]
  grind [dh]
 |false=>
  simp_all [xI,bD]
omit hF in
theorem abT (a:Nat) (l:List Nd) (u d:Int) (e:a<100000000) (hl:l.length<1000000000) (hd:0<=d) (f:d<1000000000):
  xx F (iO F) l (a:Int) u d=a6 ((F,(iO F,(wdL F a l u,(((Dw F a:Nat):Int),(u,(d,())))))),()):=by
 rw[xx];unfold wdL Dw BQ;by_cases h:a<F.length
 .rw[bU (eQ (by rw[bI];omega)),bU (dU),AO h];simp only[dif_pos h,decide_eq_true_eq];by_cases h6:F[a].1=6
  .rw[bU (fO h6),Ov a l u d (by omega) (by omega) rfl e hl hd f,bD,am h6,am h6]
  simp_all [dR,xI,bD]
 simp_all [gK,bI,xI,bD,dif_neg]
omit hF in
theorem zo (a:Nat) (l:List Nd) (u d:Int) (f:a<10000000):VX F (iO F) l (a:Int) u d=a6 ((F,(iO F,(l,((a:Int),(u,(d,())))))),(DC F a,())):=by
 rw[VX,je a l u d [60] (by simp),bD];unfold DC;simp only;cases fD F a [60]with
 |true=>rfl
 |false=>
  simp only[ac,Bool.false_or];rw[je a l u d [35] (by simp),bD];simp only;cases fD F a [35]with
  |false=>rfl
  |true=>
   simp only[aa,aU];rw[dh,show(a:Int)+1=((a+1:Nat):Int) by omega];by_cases h:a+1<F.length
   .rw[bU (eQ (by grind [bI])),bU (dU (by omega) (by grind)),zZ h];simp only[gZ];congr 3;rw[decide_eq_decide];constructor
    .intro e;exact UInt8.toNat_inj.1 (by grind)
    simp_all
   .rw[dG (gK (by grind [bI])),KT];rfl
omit hF in
theorem wZ (a:Nat) (l:List Nd) (u d:Int):RJ F (iO F) l (a:Int) u d=a6 ((F,(iO F,(l,((a:Int),(u,(d,())))))),(Ij F a d,())):=by
 rw[RJ,je a l u d _ (by simp),bD]
 grind [Ij,iq]
omit hF in
theorem VA (a:Nat) (l:List Nd) (u d:Int) (e:a<10000000):aq3 F (iO F) l (a:Int) u d=a6 ((F,(iO F,(l,((a:Int),(u,(d,())))))),(Jk F a d,())):=by
 rw[aq3,je a l u d [120] (by simp),bD];unfold Jk;simp only;cases fD F a [120]with
 |true=>rfl
 |false=>
  simp only[ac,Bool.false_or];rw[zo a l u d e,bD];simp only;cases DC F a with
  |true=>rfl
  |false=>
   simp_all [wZ,bD]
omit hF in
theorem Ia (a:Nat) (l:List Nd) (u d:Int) (e:a<10000000):OY F (iO F) l (a:Int) u d=a6 ((F,(iO F,(l,((a:Int),(u,(d,())))))),(qx F a d,())):=by
 rw[OY,je a l u d [33] (by simp),bD];unfold qx;simp only;cases fD F a [33]with
 |true=>rfl
 |false=>
  simp_all [VA,bD]
end
section
open Option renaming some → a6, none → a7
open List renaming append_assoc → ag, cons_append → aW
open Nat renaming le_refl → ae
open Go.RowKit
abbrev opn (k:Int) (a:Nat) (u:Int):Nd:=(k,((a:Int),(0,(u,()))))
abbrev PR (F:List Lf) (a:Nat) (l:List Nd) (u d:Int):List Lf×Int×List Nd×Int×Int×Unit:=(F,((a:Int),(l,(u,(d,())))))
abbrev RR (F:List Lf) (a:Nat) (l:List Nd) (u d:Int):List Lf×List UInt8×List Nd×Int×Int×Int×Unit:=(F,(iO F,(l,((a:Int),(u,(d,()))))))
theorem lK (l m:List Nd) (k a u t:Int):ik (bM l [(k,(a,(0,(u,()))))]++m) (dw (bG l)) ((dD (bM l [(k,(a,(0,(u,()))))]++m) (0,(0,(0,(0,())))) (dw (bG l))).1,((dD (bM l [(k,(a,(0,(u,()))))]++m) (0,(0,(0,(0,())))) (dw (bG l))).2.1,(t,((dD (bM l [(k,(a,(0,(u,()))))]++m) (0,(0,(0,(0,())))) (dw (bG l))).2.2.2.1,()))))=l++(k,a,t,u,())::m:=by
 have d:dw (bG l)=l.length:=by simp[dw,bI]
 simp_all [dD,bM,ik]
theorem qw (l m:List Nd) (x:Nd):gm (bM l [x]++m) (bG l)=true/\ni (dw (bG l)) (bM l [x]++m)=true:=
 ⟨dU (by rw[bI];omega) (by grind [bI,bM]),pJ (by unfold bM;simp[dw,bI])⟩
theorem oG (l m:List Nd) (k a u t:Int):acj ((l++[(k,a,0,u,())])++m) l.length t=l++(k,a,t,u,())::m:=by
 unfold acj;simp_all [dD,ik]
theorem oK (l m:List Nd) (k a u:Int):(dD ((l++[(k,a,0,u,())])++m) dNd l.length).1=k:=by
 simp_all [dD]
def LfG (F:List Lf) (kd:Int) (f:Nat):Prop:=kd=6\/kd=7-> ∃h:f<F.length,F[f].1=6
def RdG (F:List Lf) (f t:Nat) (m:List Nd):Prop:= ∃p,(p=f\/p=f+1/\fD F f [35]=true)/\fD F p [60]=true/\((t=p+2/\ ∃u,m=[(7,((p+1:Nat):Int),((p+2:Nat):Int),u,())])\/(t=p+1/\ ∃u,m=[(18,((p+1:Nat):Int),((p+1:Nat):Int),u,())]))
inductive Tr (F:List Lf):Nat->Nat->Int->Nat->List Nd->Prop
 |nil {a b:Nat} {u:Int} {k:Nat} (h:a<=b):Tr F a b u k []
 |leaf {a b f t:Nat} {u:Int} {k:Nat} {kd:Int} {m:List Nd} (h1:a<=f) (hk:kd=18/\t=f\/(kd=6\/kd=7\/kd=17)/\t=f+1) (hf:LfG F kd f) (h2:Tr F t b u (k+1) m):Tr F a b u k ((kd,(f:Int),(t:Int),u,())::m)
 |node {a b f t:Nat} {u:Int} {k:Nat} {kd:Int} {m n:List Nd} (h1:a<=f) (hk:2<=kd/\kd<=16/\kd≠6/\kd≠7) (h8:kd=8->RdG F f t m) (h:Tr F f t (k:Int) (k+1) m) (h2:Tr F t b u (k+1+m.length) n):Tr F a b u k ((kd,(f:Int),(t:Int),u,())::(m++n))
section
variable {F:List Lf}
theorem Tr.le {a b:Nat} {u:Int} {k:Nat} {m:List Nd} (h:Tr F a b u k m):a<=b:=by
 induction h with
 |nil h=>exact h
 |leaf h1 hk _ _ d=>omega
 |node h1 _ _ _ _ ih1 e=>omega
theorem Tr.wide {a b:Nat} {u:Int} {k:Nat} {m:List Nd} (h:Tr F a b u k m): ∀{e f:Nat},e<=a->b<=f->Tr F e f u k m:=by
 induction h with
 |nil h=>exact fun g o=>.nil (by omega)
 |leaf g hk hf _ i=>exact fun j d=>.leaf (by omega) hk hf (i (ae _) d)
 |node g hk h8 h _ _ l=>exact fun j d=>.node (by omega) hk h8 h (l (ae _) d)
theorem Tr.app {a b:Nat} {u:Int} {k:Nat} {m:List Nd} (h:Tr F a b u k m): ∀{c e j:Nat} {n:List Nd},Tr F c e u j n->b<=c->j=k+m.length->Tr F a e u k (m++n):=by
 induction h with
 |nil h=>exact fun d q g=>by subst g;exact d.wide (by omega) (ae _)
 |leaf d hk hf _ l=>exact fun g i o=>.leaf d hk hf (l g i (by grind))
 | @node a b f t u k kd m n' d hk h8 h _ _ p=>
  intro c e j n g i o;rw[aW,ag];exact .node d hk h8 h (p g i (by grind))
theorem Tr.ap {a b c e:Nat} {u:Int} {k j:Nat} {m n:List Nd} (h:Tr F a b u k m) (h2:Tr F c e u j n) (d:b<=c:=by omega) (f:j=k+m.length:=by first|omega|grind):Tr F a e u k (m++n):=h.app h2 d f
theorem Tr.apA {a b c e:Nat} {u:Int} {k:Nat} {m n:List Nd} (h:Tr F a b u k m) (h2: ∀j,Tr F c e u j n) (d:b<=c:=by omega):Tr F a e u k (m++n):=h.app (h2 _) d rfl
theorem Tr.one {a b f t:Nat} {u:Int} {k j:Nat} {kd:Int} {m:List Nd} (h:Tr F f t (j:Int) (j+1) m) (d:a<=f) (h2:t<=b) (hk:2<=kd/\kd<=16/\kd≠6/\kd≠7) (e:j=k) (g:kd=8->RdG F f t m:=by intro h;exfalso;omega):Tr F a b u k ((kd,(f:Int),(t:Int),u,())::m):=by
 subst e;have:=Tr.node (n:=[]) (u:=u) d hk g h (.nil h2);simp_all
theorem Tr.mis {a b f:Nat} {u:Int} {k:Nat} (d:a<=f) (h2:f<=b):Tr F a b u k [(18,(f:Int),(f:Int),u,())]:=.leaf d (.inl ⟨rfl,rfl⟩) (fun h=>by exfalso;omega) (.nil h2)
theorem Tr.lf {a b f:Nat} {u:Int} {k:Nat} {kd:Int} (d:a<=f) (h2:f+1<=b) (hk:kd=6\/kd=7\/kd=17) (hf:LfG F kd f):Tr F a b u k [(kd,(f:Int),((f+1:Nat):Int),u,())]:=.leaf d (.inr ⟨hk,rfl⟩) hf (.nil h2)
end
structure Ja (F:List Lf) (a:Nat) (l:List Nd) (d:Int) (K:Nat):Prop where
 len:a<=F.length
 nod:l.length<=16*a+K
 d0:0<=d
 d1:d<=200
structure All (F:List Lf) (n:Nat):Prop where
 list: ∀(a:Nat) (l:List Nd) (u d:Int) (r r':Nat),16*(F.length-a)+12<n->n<=r->n<=r'->Ja F a l d 110->qx F a d=true->
  ∃(a':Nat) (m:List Nd),(dW r).q108 F (a:Int) (bM l [opn 2 a u]) (bG l) d=a6 (PR F a' (bM l [opn 2 a u]++m) (bG l) d,())/\
   (gz r').q36 F (iO F) l (a:Int) u d=a6 (RR F a' (l++(2,(a:Int),(a':Int),u,())::m) u d,())/\a<a'/\a'<=F.length/\m.length+1<=16*(a'-a)/\Tr F a a' (bG l) (l.length+1) m
 andor: ∀(a:Nat) (l:List Nd) (u d:Int) (r r':Nat),16*(F.length-a)+11<n->n<=r->n<=r'->Ja F a l d 111->qx F a d=true->
  ∃(a':Nat) (m:List Nd),(dW r).q155 F (a:Int) (bM l [opn 3 a u]) (bG l) d=a6 (PR F a' (bM l [opn 3 a u]++m) (bG l) d,())/\
   (gz r').q75 F (iO F) l (a:Int) u d=a6 (RR F a' (l++(3,(a:Int),(a':Int),u,())::m) u d,())/\a<a'/\a'<=F.length/\m.length+2<=16*(a'-a)/\Tr F a a' (bG l) (l.length+1) m
 pipe: ∀(a:Nat) (l:List Nd) (u d:Int) (r r':Nat),16*(F.length-a)+10<n->n<=r->n<=r'->Ja F a l d 112->qx F a d=true->
  ∃(a':Nat) (m:List Nd),(dW r).q205 F (a:Int) l u d=a6 (PR F a' (l++m) u d,())/\
   (gz r').q119 F (iO F) l (a:Int) u d=a6 (RR F a' (l++m) u d,())/\a<a'/\a'<=F.length/\m.length+2<=16*(a'-a)/\Tr F a a' u l.length m
 nopipe: ∀(a:Nat) (l:List Nd) (u d:Int) (r:Nat),10<n->n<=r->Ja F a l d 130->qx F a d=false->
  (dW r).q205 F (a:Int) l u d=a6 (PR F a (l++[(18,(a:Int),(a:Int),u,())]) u d,())
 command: ∀(a:Nat) (l:List Nd) (u d:Int) (r r':Nat),16*(F.length-a)+9<n->n<=r->n<=r'->Ja F a l d 113->
  ∃(a':Nat) (m:List Nd),(dW r).q239 F (a:Int) l u d=a6 (PR F a' (l++m) u d,())/\
   (gz r').q163 F (iO F) l (a:Int) u d=a6 (RR F a' (l++m) u d,())/\a<=a'/\a'<=F.length/\(m.length<=16*(a'-a)+1/\Tr F a a' u l.length m)/\(Jk F a d=true->a<a'/\m.length+3<=16*(a'-a))
 compound: ∀(a:Nat) (l:List Nd) (u d:Int) (r r':Nat),16*(F.length-a)+8<n->n<=r->n<=r'->Ja F a l d 113->Ij F a d=true->
  ∃(a':Nat) (m:List Nd),(dW r).q263 F (a:Int) l u d=a6 (PR F a' (l++m) u d,())/\
   (gz r').q214 F (iO F) l (a:Int) u d=a6 (RR F a' (l++m) u d,())/\a<a'/\a'<=F.length/\m.length+3<=16*(a'-a)/\Tr F a a' u l.length m
 body: ∀(a:Nat) (l:List Nd) (u d:Int) (r r':Nat),16*(F.length-a)+13<n->n<=r->n<=r'->Ja F a l d 110->
  ∃(a':Nat) (m:List Nd),(dW r).q285 F (a:Int) l u d=a6 (PR F a' (l++m) u d,())/\
   (gz r').q246 F (iO F) l (a:Int) u d=a6 (RR F a' (l++m) u d,())/\a<=a'/\a'<=F.length/\m.length<=16*(a'-a)+1/\Tr F a a' u l.length m
variable {F:List Lf} (hF:U2 F)
include hF
theorem alA {n:Nat} (h:All F n) (a:Nat) (l:List Nd) (u d:Int) (r f:Nat) (y:16*(F.length-a)+13<n+1) (z:n+1<=r) (A:n+1<=f) (hp:Ja F a l d 110):
  ∃(e:Nat) (m:List Nd),(dW r).q285 F (a:Int) l u d=a6 (PR F e (l++m) u d,())/\
   (gz f).q246 F (iO F) l (a:Int) u d=a6 (RR F e (l++m) u d,())/\a<=e/\e<=F.length/\m.length<=16*(e-a)+1/\Tr F a e u l.length m:=by
 obtain⟨i,B,p,s⟩:=hp;have D:=hF.len;obtain⟨q,rfl⟩: ∃q,r=q+1:=⟨r-1,by omega⟩;obtain⟨g,rfl⟩: ∃g,f=g+1:=⟨f-1,by omega⟩;have j:=xG (F:=F) a;have o:=yI (F:=F) i;show ∃(e:Nat) (m:List Nd),aqP (dW q) F (a:Int) l u d=_/\aqF (gz g) F (iO F) l (a:Int) u d=_/\_;rw[aqP,aqF,nM hF a l u d i,mG hF a l u d i,bD,bD];simp only;rw[CQ hF (ln F a) l u d (by omega),Ia (ln F a) l u d (by omega),bD,bD];simp only;cases hb:qx F (ln F a) d with
 |true=>
  obtain⟨E,G,I⟩:=kX l (opn 2 (ln F a) u) (by omega);obtain⟨e,m,J,K,L,v,x⟩:=h.list (ln F a) l u d q g (by omega) (by omega) (by omega) ⟨o,by omega,p,s⟩ hb;obtain⟨M,N⟩:=qw l m (opn 2 (ln F a) u);refine⟨e,(2,((ln F a:Nat):Int),(e:Int),u,())::m, ?_, ?_,by omega,v,by grind,x.2.one j (ae _) (by omega) rfl⟩
  .simp_all [eH,bD,lK]
  simp_all [bD]
 |false=>
  refine⟨ln F a,[(18,((ln F a:Nat):Int),((ln F a:Nat):Int),u,())], ?_, ?_,j,o,by simp,.mis j (ae _)⟩
  .simp only[ac]
   grind [ny,bD]
  .simp only[ac]
   grind [xI,bD]
end
section
open Bool renaming false_eq_true → ah
open List renaming append_assoc → ag, length_append → ai, length_singleton → aO
open Nat renaming le_refl → ae
open Go.RowKit
variable {F:List Lf} (hF:U2 F)
include hF
omit hF in
theorem nG {a:Nat} {o:List UInt8} (h:fD F a o=true):tk F a o=a+1:=by unfold tk;rw[am h]
omit hF in
theorem xU {a:Nat} {o:List UInt8} (h:fD F a o=false):tk F a o=a:=by unfold tk;rw[aq (by rw[h];simp)]
theorem Ic {n:Nat} (h:All F n) {q q':Nat} (f:n<=q) (g:n<=q') (u d v:Int) (hd:0<=d/\d<=200): ∀(N a:Nat) (L:List Nd),F.length-a<N->a<=F.length->16*(F.length-a)+10<n->L.length<=16*a+112->
  ∃(e:Nat) (m:List Nd),JY (dW q) N F (a:Int) u d L=some (.inl ((),((),()),((F,(e:Int),u,d,()),L++m,())))/\
   SN (gz q') N v F (iO F) (a:Int) u d L=some (.inl ((v,()),((),()),((F,iO F,(e:Int),u,d,()),L++m,())))/\a<=e/\e<=F.length/\m.length<=16*(e-a)/\Tr F a e u L.length m
 |0,a,L,x,_,_,_=>by omega
 |N+1,a,L,x,y,I,J=>by
  have K:=hF.len;rw[JY,Qe,SN,abw,mV hF a L u d (by omega) [97,111] rfl,je a L u d [97,111] (by simp),bD,bD];simp only;cases hb:fD F a [97,111]with
  |false=>
   rw[xU hb];exact⟨a,[],by simp,by simp,ae _,y,by simp,.nil (ae _)⟩
  |true=>
   have M:=gW hb;have O:=xG (F:=F) (a+1);have i:=yI (F:=F) (a:=a+1) (by omega);rw[nG hb];simp only[aa];rw[dh,show(a:Int)+1=((a+1:Nat):Int) by omega,nM hF (a+1) L u d (by omega),mG hF (a+1) L u d (by omega),bD,bD];simp only;rw[Ia (ln F (a+1)) L u d (by omega),bD];simp only;cases hp:qx F (ln F (a+1)) d with
   |true=>
    obtain⟨z,s,A,B,S,D,E⟩:=h.pipe (ln F (a+1)) L u d q q' (by omega) f g ⟨i,by omega,hd.1,hd.2⟩ hp;rw[A,bD];simp only[aa];rw[B,bD];simp only;obtain⟨e,m,j,l,G,o,p⟩:=Ic h f g u d v hd N z (L++s) (by omega) D (by omega) (by rw[ai];omega);exact⟨e,s++m,by rw[j,ag],by rw[l,ag],by omega,o,by rw[ai];omega,(E.2.wide (by omega) (ae _)).app p.2 (ae _) (ai ..)⟩
   |false=>
    rw[h.nopipe (ln F (a+1)) L u d q (by omega) f ⟨i,by omega,hd.1,hd.2⟩ hp,bD];simp only[ac];rw[xI (ln F (a+1)) L u d (by omega) hd.1 (by omega),bD];simp only;obtain⟨e,m,j,l,G,o,p⟩:=Ic h f g u d v hd N (ln F (a+1)) (L++[(18,((ln F (a+1):Nat):Int),((ln F (a+1):Nat):Int),u,())]) (by omega) i (by omega) (by rw[ai,aO];omega);exact⟨e,[(18,((ln F (a+1):Nat):Int),((ln F (a+1):Nat):Int),u,())]++m,by rw[j,ag],by rw[l,ag],by omega,o,by rw[ai,aO];omega,(Tr.mis (by omega) (ae _)).app p.2 (ae _) (ai ..)⟩
theorem aeP {n:Nat} (h:All F n) (a:Nat) (l:List Nd) (u d:Int) (r g:Nat) (J:16*(F.length-a)+11<n+1) (K:n+1<=r) (L:n+1<=g) (hp:Ja F a l d 111) (hb:qx F a d=true):
  ∃(e:Nat) (m:List Nd),(dW r).q155 F (a:Int) (bM l [opn 3 a u]) (bG l) d=some (PR F e (bM l [opn 3 a u]++m) (bG l) d,())/\
   (gz g).q75 F (iO F) l (a:Int) u d=some (RR F e (l++(3,(a:Int),(e:Int),u,())::m) u d,())/\a<e/\e<=F.length/\m.length+2<=16*(e-a)/\Tr F a e (bG l) (l.length+1) m:=by
 obtain⟨x,M,i,o⟩:=hp;have N:=hF.len;obtain⟨q,rfl⟩: ∃q,r=q+1:=⟨r-1,by omega⟩;obtain⟨f,rfl⟩: ∃f,g=f+1:=⟨g-1,by omega⟩;show ∃(e:Nat) (m:List Nd),aqC (dW q) F (a:Int) _ _ d=_/\aBA (gz f) F (iO F) l (a:Int) u d=_/\_;have j:(bM l [opn 3 a u]).length=l.length+1:=by unfold bM;simp
 obtain⟨y,p,z,s,O,A,B⟩:=h.pipe a (bM l [opn 3 a u]) (bG l) d q f (by omega) (by omega) (by omega) ⟨x,by rw[j];omega,i,o⟩ hb;obtain⟨e,m,D,v,S,E,G⟩:=Ic hF h (q:=q) (q':=f) (by omega) (by omega) (bG l) d u ⟨i,o⟩ bJ y (bM l [opn 3 a u]++p) (dH) A (by omega) (by rw[ai,j];omega);have I:bM l [opn 3 a u]=l++[(3,(a:Int),0,u,())]:=rfl;refine⟨e,p++m, ?_, ?_,by omega,E,by rw[ai];omega,(j▸B.2).app G.2 (ae _) (by rw[ai,j])⟩
 .rw[aqC,z,bD];simp only;rw[D,bD];simp only[dL,ag]
 .rw[aBA,lI a l u d (by omega) (by omega) (by omega) i (by omega),bD];simp only[show jv 3=false from rfl,ah,if_false];rw[I]at s v;rw[show((l.length:Nat):Int)=bG l from rfl,s,bD];simp only;rw[v,bD];simp only[dL];rw[ag (l++_),show bG l=((l.length:Nat):Int) from rfl,uZ e _ u d l.length (by simp only[ai,aO];omega) (oK l _ 3 _ _) (by omega) (by omega) i (by omega),bD];simp only[oG,show jv 3=false from rfl,ah,if_false]
end
section
open Option renaming some → a6, none → a7
open Bool renaming false_eq_true → ah, and_true → ax, not_true → ay, not_false → aB
open List renaming append_assoc → ag, length_append → ai
open Nat renaming le_refl → ae
open Go.RowKit
variable {F:List Lf} (hF:U2 F)
include hF
theorem WR {n:Nat} (h:All F n) {q q':Nat} (i:n<=q) (j:n<=q') (u d v f g:Int) (hd:0<=d/\d<=200): ∀(N a:Nat) (L:List Nd),F.length-a<N->a<=F.length->16*(F.length-a)+9<n+16->L.length<=16*a+114->
  ∃(e:Nat) (m:List Nd),uC (dW q) N f g F (a:Int) u d L=a6 (.inl ((),((f,g,()),(),(),()),((),(F,(e:Int),u,d,()),L++m,())))/\
   BX (gz q') N v F (iO F) (a:Int) u d L=a6 (.inl ((v,()),((),()),((F,iO F,(e:Int),u,d,()),L++m,())))/\a<=e/\e<=F.length/\m.length<=16*(e-a)/\Tr F a e u L.length m
 |0,a,L,o,_,_,_=>by omega
 |N+1,a,L,o,p,G,I=>by
  have J:=hF.len;rw[uC,zg,BX,Qc,mV hF a L u d (by omega) [124] rfl,je a L u d [124] (by simp),bD,bD];simp only;cases hb:fD F a [124]with
  |false=>
   rw[xU hb];exact⟨a,[],by simp,by simp,ae _,p,by simp,.nil (ae _)⟩
  |true=>
   have K:=gW hb;have M:=xG (F:=F) (a+1);have s:=yI (F:=F) (a:=a+1) (by omega);rw[nG hb];simp only[aa];rw[dh,show(a:Int)+1=((a+1:Nat):Int) by omega,nM hF (a+1) L u d (by omega),mG hF (a+1) L u d (by omega),bD,bD];simp only;obtain⟨x,l,y,z,O,A,B,_⟩:=h.command (ln F (a+1)) L u d q q' (by omega) i j ⟨s,by omega,hd.1,hd.2⟩;rw[y,z,bD,bD];simp only;obtain⟨e,m,S,U,V,D,E⟩:=WR h i j u d v f g hd N x (L++l) (by omega) A (by omega) (by grind);exact⟨e,l++m,by simp_all,by simp_all,by omega,D,by grind,(B.2.wide (by omega) (ae _)).app E.2 (ae _) (ai ..)⟩
theorem adF {n:Nat} (a:Nat) (l:List Nd) (u d:Int) (r:Nat) (e:n+1<=r) (hp:Ja F a l d 130) (hb:qx F a d=false):
  (dW r).q205 F (a:Int) l u d=a6 (PR F a (l++[(18,(a:Int),(a:Int),u,())]) u d,()):=by
 obtain⟨f,g,h,i⟩:=hp;have j:=hF.len;obtain⟨q,rfl⟩: ∃q,r=q+1:=⟨r-1,by omega⟩;show acr (dW q) F (a:Int) l u d=_;rw[acr,CQ hF a l u d (by omega),bD,hb];simp only[aB,aa]
 grind [ny,bD]
theorem anf {n:Nat} (h:All F n) (a:Nat) (l:List Nd) (u d:Int) (r p:Nat) (V:16*(F.length-a)+10<n+1) (W:n+1<=r) (X:n+1<=p) (hp:Ja F a l d 112) (hb:qx F a d=true):
  ∃(e:Nat) (m:List Nd),(dW r).q205 F (a:Int) l u d=a6 (PR F e (l++m) u d,())/\
   (gz p).q119 F (iO F) l (a:Int) u d=a6 (RR F e (l++m) u d,())/\a<e/\e<=F.length/\m.length+2<=16*(e-a)/\Tr F a e u l.length m:=by
 obtain⟨Y,Z,s,x⟩:=hp;have ab:=hF.len;obtain⟨q,rfl⟩: ∃q,r=q+1:=⟨r-1,by omega⟩;obtain⟨f,rfl⟩: ∃f,p=f+1:=⟨p-1,by omega⟩;have y:(bM l [opn 4 a u]).length=l.length+1:=by unfold bM;simp
 have D:bM l [opn 4 a u]=l++[(4,(a:Int),0,u,())]:=rfl;obtain⟨E,_,_⟩:=kX l (opn 4 a u) (by omega);have z:tk F a [33]<=F.length/\a<=tk F a [33]:=by
  unfold tk;split
  .rename_i G;exact⟨gW G,by omega⟩
  omega
 obtain⟨v,i,I,o,e3,J,K,e6⟩:=h.command (tk F a [33]) (bM l [opn 4 a u]) (bG l) d q f (by omega) (by omega) (by omega) ⟨z.1,by rw[y];omega,s,x⟩;have ad:a<v/\i.length+1+2<=16*(v-a):=by
  cases h33:fD F a [33]with
  |true=>grind [nG]
  |false=>
   simp_all [xU,qx]
 obtain⟨e,m,L,A,f3,M,N⟩:=WR hF h (q:=q) (q':=f) (by omega) (by omega) (bG l) d u (bG l) u ⟨s,x⟩ bJ v (bM l [opn 4 a u]++i) (dH) J (by omega) (by grind);obtain⟨O,S⟩:=qw l (i++m) (opn 4 a u);refine⟨e,(4,(a:Int),(e:Int),u,())::(i++m), ?_, ?_,by omega,M,by grind,Tr.one (((y▸K.2).wide z.2 (ae _)).app N.2 (ae _) (by grind)) (ae _) (ae _) (by omega) rfl⟩
 .show acr (dW q) F (a:Int) l u d=_;rw[acr,CQ hF a l u d (by omega),bD,hb];simp only[ay,ac,eH,ax,aa,E];rw[mV hF a _ _ d (by omega) [33] rfl,bD];simp only;rw[I,bD];simp only;rw[L,bD];simp only[dL,ag,O,S,aa,lK]
 .show aqB (gz f) F (iO F) l (a:Int) u d=_;rw[aqB,lI a l u d (by omega) (by omega) (by omega) s (by omega),bD];simp only[show jv 4=false from rfl,ah,if_false];rw[je a _ _ d [33] (by simp),bD];simp only;rw[D]at o A;have B:bF (BX (gz f) bJ u F (iO F) (v:Int) (bG l) d (l++[(4,(a:Int),0,u,())]++i)) (fun U=>dL U (fun g=>
    bF (pz g.2.2.1.1 g.2.2.1.2.1 g.2.2.2.1 g.2.2.1.2.2.1 g.2.2.1.2.2.2.1 g.2.2.1.2.2.2.2.1 g.1.1) fun j=>
     a6 ((j.1.1,(j.1.2.1,(j.1.2.2.1,(j.1.2.2.2.1,(j.1.2.2.2.2.1,(j.1.2.2.2.2.2.1,())))))),())) (fun b4=>a7))=a6 (RR F e (l++(4,(a:Int),(e:Int),u,())::(i++m)) u d,()):=by
   rw[A,bD];simp only[dL];rw[ag (l++_),show bG l=((l.length:Nat):Int) from rfl,uZ e _ u d l.length (by simp) (oK l _ 4 _ _) (by omega) (by omega) s (by omega),bD];simp only[oG,show jv 4=false from rfl,ah,if_false]
  cases h33:fD F a [33]with
  |true=>
   rw[nG h33]at o;simp only[aa];rw[dh,show(a:Int)+1=((a+1:Nat):Int) by omega,show((l.length:Nat):Int)=bG l from rfl,o,bD];exact B
  |false=>
   rw[xU h33]at o;simp only[ac];rw[show((l.length:Nat):Int)=bG l from rfl,o,bD];exact B
theorem Wx {n:Nat} (h:All F n) {q q':Nat} (D:n<=q) (E:n<=q') (u d v:Int) (hd:0<=d/\d<=200): ∀(N a:Nat) (L:List Nd),F.length-a<N->a<=F.length->16*(F.length-a)+11<n->L.length<=16*a+111->qx F a d=true->
  ∃(f e:Nat) (m g:List Nd),yK (dW q) N F (a:Int) u d L=a6 (.inl ((),((),()),((F,(f:Int),u,d,()),L++m,())))/\
   (gz q').q75 F (iO F) L (a:Int) u d=a6 (RR F e (L++g) u d,())/\
   zx (gz q') N v F (iO F) (e:Int) u d (L++g)=a6 (.inl ((v,()),((),()),((F,iO F,(f:Int),u,d,()),L++m,())))/\a<f/\f<=F.length/\m.length+1<=16*(f-a)/\Tr F a f u L.length m
 |0,a,L,G,_,_,_,_=>by omega
 |N+1,a,L,G,I,J,hL,M=>by
  have af:=hF.len;obtain⟨e,g,O,s,S,x,U⟩:=h.andor a L u d q q' J D E ⟨I,by omega,hd.1,hd.2⟩ M;obtain⟨V,_,_⟩:=kX L (opn 3 a u) (by omega);obtain⟨W,X⟩:=qw L g (opn 3 a u);have hP: ∀K:Option _,yK (dW q) (N+1) F (a:Int) u d L=K->yK (dW q) (N+1) F (a:Int) u d L=K:=fun _ h=>h;rw[yK,P6];simp only[eH,ax,aa,V];rw[O,bD];simp only[W,X,aa,lK];rw[mV hF e _ u d (by omega) [59,38] rfl,bD];simp only;have Y:(L++(3,(a:Int),(e:Int),u,())::g).length=L.length+1+g.length:=by grind
  have stop: ∀b:Nat,e<=b->b<=F.length->((3,(a:Int),(e:Int),u,())::g).length+1<=16*(b-a)/\Tr F a b u L.length ((3,(a:Int),(e:Int),u,())::g):=fun b y z=>⟨by grind,U.2.one (ae _) y (by omega) rfl⟩;have next: ∀b:Nat,e<=b->b<=F.length->qx F b d=true->e<b-> ∃(f:Nat) (m:List Nd) (l:Nat) (o:List Nd),
    yK (dW q) N F (b:Int) u d (L++(3,(a:Int),(e:Int),u,())::g)=a6 (.inl ((),((),()),((F,(f:Int),u,d,()),L++m,())))/\
    (gz q').q75 F (iO F) (L++(3,(a:Int),(e:Int),u,())::g) (b:Int) u d=a6 (RR F l ((L++(3,(a:Int),(e:Int),u,())::g)++o) u d,())/\
    zx (gz q') N v F (iO F) (l:Int) u d ((L++(3,(a:Int),(e:Int),u,())::g)++o)=a6 (.inl ((v,()),((),()),((F,iO F,(f:Int),u,d,()),L++m,())))/\a<f/\f<=F.length/\m.length+1<=16*(f-a)/\Tr F a f u L.length m:=fun b y z i A=>by
   obtain⟨f,l,m,o,f1,Z,f3,f4,f5,f6⟩:=Wx h D E u d v hd N b (L++(3,(a:Int),(e:Int),u,())::g) (by omega) z (by omega) (by rw[Y];omega) i;exact⟨f,((3,(a:Int),(e:Int),u,())::g)++m,l,o,by simp_all,Z,by simp_all,by omega,f5,by grind,(stop b y z).2.app f6.2 (ae _) (ai ..)⟩
  cases hs:fD F e [59,38]with
  |true=>
   have A:=gW hs;have ab:=xG (F:=F) (e+1);have j:=yI (F:=F) (a:=e+1) (by omega);rw[nG hs];simp only[aa];rw[nM hF (e+1) _ u d (by omega),bD];simp only;rw[CQ hF _ _ u d (by omega),bD];simp only;cases i:qx F (ln F (e+1)) d with
   |false=>
    refine⟨ln F (e+1),e,_,_,rfl,s, ?_,by omega,j,stop _ (by omega) j⟩;rw[zx,Np,je e _ u d [59,38] (by simp),bD,hs];simp only[aa];rw[dh,show(e:Int)+1=((e+1:Nat):Int) by omega,mG hF (e+1) _ u d (by omega),bD]
    grind [Ia,bD]
   |true=>
    obtain⟨f,m,l,o,g1,g2,g3,g4,g5,g6⟩:=next _ (by omega) j i (by omega)
    refine⟨f,e,m,_,g1,s, ?_,g4,g5,g6⟩;rw[zx,Np,je e _ u d [59,38] (by simp),bD,hs];simp only[aa];rw[dh,show(e:Int)+1=((e+1:Nat):Int) by omega,mG hF (e+1) _ u d (by omega),bD];simp only;rw[Ia _ _ u d (by omega),bD,i];simp_all [bD]
  |false=>
   have ab:=xG (F:=F) e;have j:=yI (F:=F) x;have B:zx (gz q') (N+1) v F (iO F) (e:Int) u d (L++(3,(a:Int),(e:Int),u,())::g)=
     (bif bT (((ln F e:Nat):Int)-e) 0 then(a6 (.inl ((v,()),((),()),((F,iO F,((ln F e:Nat):Int),u,d,()),L++(3,(a:Int),(e:Int),u,())::g,()))):Option (aan.den⊕aaX.den))
     else bif !qx F (ln F e) d then a6 (.inl ((v,()),((),()),((F,iO F,((ln F e:Nat):Int),u,d,()),L++(3,(a:Int),(e:Int),u,())::g,())))
      else bF ((gz q').q75 F (iO F) (L++(3,(a:Int),(e:Int),u,())::g) ((ln F e:Nat):Int) u d) fun p=>zx (gz q') N v p.1.1 p.1.2.1 p.1.2.2.2.1 p.1.2.2.2.2.1 p.1.2.2.2.2.2.1 p.1.2.2.1):=by
    rw[zx,Np,je e _ u d [59,38] (by simp),bD,hs];simp only[ac];rw[mG hF e _ u d x,bD];simp only;cases bT (((ln F e:Nat):Int)-e) 0 with
    |true=>rfl
    |false=>
     simp only[ac]
     grind [Ia,bD]
   rw[xU hs];simp only[ac];rw[nM hF e _ u d x,bD];simp only;cases hln:fD F e [110]with
   |false=>
    have ad:ln F e=e:=by rw[JV,hln];rfl
    rw[ad]at B ⊢;refine⟨e,e,_,_,rfl,s, ?_,S,x,stop _ (ae _) x⟩;simp_all [fO]
   |true=>
    have A:e<ln F e:=by simp_all [aG3]
    simp only[ay,ac];rw[dG (dR)]at B;rw[CQ hF _ _ u d (by omega),bD];simp only;cases i:qx F (ln F e) d with
    |false=>
     refine⟨ln F e,e,_,_,rfl,s, ?_,by omega,j,stop _ (by omega) j⟩;rw[B,i];rfl
    |true=>
     obtain⟨f,m,l,o,g1,g2,g3,g4,g5,g6⟩:=next _ (by omega) j i A
     refine⟨f,e,m,_,g1,s, ?_,g4,g5,g6⟩;simp_all [bD]
theorem amZ {n:Nat} (h:All F n) (a:Nat) (l:List Nd) (u d:Int) (r g:Nat) (D:16*(F.length-a)+12<n+1) (E:n+1<=r) (G:n+1<=g) (hp:Ja F a l d 110) (hb:qx F a d=true):
  ∃(e:Nat) (m:List Nd),(dW r).q108 F (a:Int) (bM l [opn 2 a u]) (bG l) d=a6 (PR F e (bM l [opn 2 a u]++m) (bG l) d,())/\
   (gz g).q36 F (iO F) l (a:Int) u d=a6 (RR F e (l++(2,(a:Int),(e:Int),u,())::m) u d,())/\a<e/\e<=F.length/\m.length+1<=16*(e-a)/\Tr F a e (bG l) (l.length+1) m:=by
 obtain⟨v,I,i,x⟩:=hp;have J:=hF.len;obtain⟨q,rfl⟩: ∃q,r=q+1:=⟨r-1,by omega⟩;obtain⟨f,rfl⟩: ∃f,g=f+1:=⟨g-1,by omega⟩;have j:(bM l [opn 2 a u]).length=l.length+1:=by unfold bM;simp
 have y:bM l [opn 2 a u]=l++[(2,(a:Int),0,u,())]:=rfl;obtain⟨e,K,m,L,z,o,p,A,B,s⟩:=Wx hF h (q:=q) (q':=f) (by omega) (by omega) (bG l) d u ⟨i,x⟩ bJ a (bM l [opn 2 a u]) (dH) v (by omega) (by rw[j];omega) hb;refine⟨e,m, ?_, ?_,A,B,s.1,j▸s.2⟩
 .show aqA (dW q) F (a:Int) _ _ d=_;rw[aqA,z,bD];rfl
 .show aBz (gz f) F (iO F) l (a:Int) u d=_;rw[aBz,lI a l u d (by omega) (by omega) (by omega) i (by omega),bD];simp only[show jv 2=false from rfl,ah,if_false];rw[y]at o p;rw[show((l.length:Nat):Int)=bG l from rfl,o,bD];simp only;rw[p,bD];simp only[dL];rw[show bG l=((l.length:Nat):Int) from rfl,uZ e _ u d l.length (by simp) (oK l _ 2 _ _) (by omega) (by omega) i (by omega),bD];simp only[oG,show jv 2=false from rfl,ah,if_false]
end
section
open Bool renaming and_eq_true → af, not_true → ay, not_false → aB
open Nat renaming lt_of_lt_of_le → aZ
open Go.RowKit
theorem adC {s:List UInt8} (d:s.length<1000000):RN s 0=some (((nl s:Nat):Int),()):=by
 have:=aoG (aZ d (by omega)) (a:=0) (Nat.zero_le _);simpa using this
theorem Oe {s:List UInt8} (d:s.length<1000000):aq5 s=some (decide (nl s≠0/\nl s=s.length),()):=by
 rw[aq5];by_cases h0:s=[]
 .subst h0;rfl
 have f:0<s.length:=List.length_pos_iff.2 h0;rw[VR h0];simp only[aB,aa];rw[adC d,bD];congr 2;by_cases h:nl s=s.length
 .rw[fO (by rw[bI];omega),decide_eq_true ⟨by omega,h⟩]
 .rw[dR (by rw[bI];omega),decide_eq_false (fun e=>h e.2)]
def jk (s:bW):Bool:=decide (nl s≠0/\nl s<s.length)&&decide (s.getD (nl s) 0=61)
theorem abZ {s:List UInt8} (f:s.length<1000000): ∃x y,ahY s=some (x,(y,(jk s,()))):=by
 have g:nl s<=s.length:=by unfold nl;split;omega;exact LH Wj s
 rw[ahY,adC f,bD];simp only;by_cases h0:nl s=0
 .exact⟨[],[],by rw[bU (fO),jk,decide_eq_false (fun h=>h.1 h0)];rfl⟩
 rw[dG (dR)];by_cases h1:nl s=s.length
 .exact⟨[],[],by rw[bU (fO (by rw[bI];omega)),jk,decide_eq_false (fun h=>by omega)];rfl⟩
 have d:nl s<s.length:=by omega
 rw[dG (dR (by rw[bI];omega)),bU (dU),byte_at d];have e:s.getD (nl s) 0=s[nl s]:=by rw[List.getD_eq_getElem?_getD,List.getElem?_eq_getElem d];rfl
 by_cases h3:s[nl s]=61
 .rw[h3,show bT ((61:UInt8).toNat:Int) 61=true from rfl];simp only[ay,ac];rw[dh,bU (fV (by omega) (by omega) (by rw[bI];omega)),bU (fV (by omega) (by rw[bI];omega) (by omega))];exact⟨_,_,by rw[jk,decide_eq_true ⟨h0,d⟩,e,decide_eq_true h3];rfl⟩
 .rw[dR (fun h=>h3 (UInt8.toNat_inj.1 (by have:((61:UInt8).toNat:Int)=61:=rfl;omega)))];exact⟨[],[],by rw[jk,e,decide_eq_false h3,Bool.and_false];rfl⟩
theorem aD8 (s:bW) (i:Nat):sub s 0 (i:Int)=s.take i:=by simp[sub]
theorem asN {s:List UInt8} {i:Nat} (hi:i<s.length) (m:s[i]=61):(nl (s.take i)≠0/\nl (s.take i)=(s.take i).length)↔(nl s≠0/\nl s=i):=by
 have o:Wj (61:UInt8)=false:=by decide
 have q:isL (61:UInt8)=false:=by decide
 have u:(s.take i).length=i:=by simp;omega
 have g: ∀p:UInt8->Bool,p 61=false->(((s.take i).takeWhile p).length=i↔(s.takeWhile p).length=i)/\((((s.take i).takeWhile p).length=0)↔((s.takeWhile p).length=0)):=by
  intro p v;have x:(s.takeWhile p).length<=i:=by
   by_cases c:(s.takeWhile p).length<=i
   .exact c
   .have:=ES p s i hi (by omega);rw[m,v]at this;cases this
  have e:((s.take i).takeWhile p).length=(s.takeWhile p).length:=by
   refine aIn p _ _ (by omega) (fun j y h=> ?_) fun h=> ?_
   .rw[List.getElem_take];exact ES p s j (by omega) h
   .rw[List.getElem_take];exact Ac p s (by omega)
  rw[e];exact⟨Iff.rfl,Iff.rfl⟩
 have f:=g Wj o;have l:=g isL q;unfold nl GR runN;rw[u];by_cases h:(s.takeWhile isL).length=0
 .rw[am h,am (l.2.2 h)]
 .rw[aq h,aq (fun d=>h (l.2.1 d))];constructor
  .rintro ⟨a,b⟩;exact⟨fun d=>a (f.2.2 d),f.1.1 b⟩
  .rintro ⟨a,b⟩;exact⟨fun d=>a (f.2.1 d),f.1.2 b⟩
theorem yh {s:List UInt8} (g:s.length<1000000): ∀(N k:Nat),s.length-k<N->1<=k->k<=s.length->(jk s=true->k<=nl s)->
  ∃r,Cc N s (k:Int)=some r/\(jk s=true-> ∃n:Nat,r=.inr (((n:Int),()),())/\0<n/\n=nl s)/\(jk s=false->r=.inl ((),()))
 |0,k,h,_,_,_=>by omega
 |N+1,k,h,p,hk,f=>by
  rw[Cc,Qs];by_cases h1:k<s.length
  .have o:bZ .i64 (k:Int) 1=((k+1:Nat):Int):=by rw[dh];rfl
   rw[bU (eQ (by rw[bI];omega)),bU (dU),byte_at h1,o];have i:s.getD k 0=s[k]:=by rw[List.getD_eq_getElem?_getD,List.getElem?_eq_getElem h1];rfl
   by_cases h2:s[k]=61
   .rw[h2,show bT ((61:UInt8).toNat:Int) 61=true from rfl];simp only[aa];rw[bU (fV (by omega) (by omega) (by rw[bI];omega)),aD8,xB (by simp;omega),bD];simp only;have j:=asN h1 h2;by_cases h3:nl s≠0/\nl s=k
    .rw[decide_eq_true (j.2 h3)];refine⟨_,rfl,fun _=>⟨k,rfl,by omega,h3.2.symm⟩,fun l=> ?_⟩;have:jk s=true:=by rw[jk,decide_eq_true ⟨h3.1,by omega⟩,h3.2,i,decide_eq_true h2];rfl
     rw[this]at l;cases l
    .rw[decide_eq_false (fun d=>h3 (j.1 d))];refine yh g N (k+1) (by omega) (by omega) (by omega) fun d=> ?_;have m:=f d;unfold jk at d;simp only[af,decide_eq_true_eq]at d;omega
   .rw[dR (fun h=>h2 (UInt8.toNat_inj.1 (by have:((61:UInt8).toNat:Int)=61:=rfl;omega)))];refine yh g N (k+1) (by omega) (by omega) (by omega) fun d=> ?_;have m:=f d;unfold jk at d;simp only[af,decide_eq_true_eq]at d;by_cases e:k=nl s
    .subst e;rw[i]at d;exact absurd d.2 h2
    .omega
  .rw[dG (gK (by rw[bI];omega))];refine⟨_,rfl,fun d=> ?_,fun _=>rfl⟩;have m:=f d;unfold jk at d;simp only[af,decide_eq_true_eq]at d;omega
theorem aFh {s:List UInt8} (d:s.length<1000000):V7 s=some (if jk s=true then(nl s:Int)else 0,()):=by
 rw[V7];by_cases h0:s=[]
 .subst h0;rfl
 have l:0<s.length:=List.length_pos_iff.2 h0;obtain⟨r,f,g,i⟩:=yh d bJ 1 (dH) (by omega) (by omega) (fun h=>by
  unfold jk at h;simp only[af,decide_eq_true_eq]at h;omega)
 rw[show Cc bJ s 1=_ from f];cases ha:jk s with
 |true=>
  obtain⟨n,e,m,j⟩:=g ha;subst e j;rfl
 |false=>
  have e:=i ha;subst e;rfl
theorem aeT {s:List UInt8} (d:s.length<1000000): ∃n:Int,V7 s=some (n,())/\iq 0 n=jk s/\bT n 0= !jk s:=by
 rw[V7];by_cases h0:s=[]
 .subst h0;exact⟨0,rfl,rfl,rfl⟩
 have j:0<s.length:=List.length_pos_iff.2 h0;obtain⟨r,f,g,i⟩:=yh d bJ 1 (dH) (by omega) (by omega) (fun h=>by
  unfold jk at h;simp only[af,decide_eq_true_eq]at h;omega)
 rw[show Cc bJ s 1=_ from f];cases ha:jk s with
 |true=>
  obtain⟨n,e,l,_⟩:=g ha;subst e;exact⟨n,rfl,eQ,dR⟩
 |false=>
  have e:=i ha;subst e;exact⟨0,rfl,rfl,rfl⟩
theorem alu {s:List UInt8} (d:s.length<1000000):aiq s=some (jk s,()):=by
 obtain⟨x,y,h⟩:=abZ d;rw[aiq,h,bD]
end
section
open Bool renaming false_eq_true → ah, and_true → ax, not_true → ay, not_false → aB, true_and → aU
open List renaming append_assoc → ag, length_append → ai, getElem_mem → aJ
open Nat renaming le_refl → ae
open Go.RowKit
variable {F:List Lf} (hF:U2 F)
include hF
omit hF in
theorem TA {a:Nat} {c:UInt8} (h:fD F a [c]=true):DD F a=c:=by
 simp_all [fD]
omit hF in
theorem Ul {a:Nat} {c:UInt8} (d:c≠0) (h:DD F a=c):fD F a [c]=true:=by
 grind [KT,fD]
def NL (F:List Lf) (a:Nat) (u:Int):Nd:=if BQ F a=true then(7,(a:Int),((a+1:Nat):Int),u,())else(18,(a:Int),(a:Int),u,())
omit hF in
theorem I7 (a:Nat) (l:List Nd) (u:Int):wdL F a l u=l++[NL F a u]:=by grind [wdL,NL]
omit hF in
theorem aFe (a:Nat):a<=Dw F a/\(a<=F.length->Dw F a<=F.length):=by
 unfold Dw;split
 .grind [Yz]
 omega
omit hF in
theorem UT {a b c:Nat} {u:Int} {k:Nat} (d:a<=c) (h2:Dw F c<=b):Tr F a b u k [NL F c u]:=by
 unfold Dw at h2;unfold NL;split at h2
 .rename_i h;rw[am h];exact .lf d h2 (by omega) (fun _=>by simpa [BQ] using h)
 .rename_i h;rw[aq h];exact .mis d h2
theorem OD (a:Nat) (l:List Nd) (u d:Int) (G:a<=F.length) (hl:l.length<100000000) (hd:0<=d) (I:d<1000000) (h:DC F a=true):
  ∃(g:Nat) (m:List Nd),AA F (a:Int) l u d=some (PR F g (l++m) u d,(true,()))/\acL F (iO F) l (a:Int) u d=some (RR F g (l++m) u d,())/\a<g/\g<=F.length/\m.length=2/\Tr F a g u l.length m:=by
 have J:=hF.len;obtain⟨q,_,_⟩:=kX l (opn 8 a u) (by omega);have s:(bM l [opn 8 a u]).length=l.length+1:=by unfold bM;simp
 obtain⟨b,v,x,y,i,j⟩: ∃b:Nat,a<b/\b<=F.length/\tk F (tk F a [35]) [60]=b/\(if fD F a [35]=true then a+2 else a+1)=b/\((b=a+1\/b=a+2/\fD F a [35]=true)/\fD F (b-1) [60]=true):=by
  cases h35:fD F a [35]with
  |true=>
   have K:=TA h35;unfold DC at h;have z:fD F a [60]=false:=by
    simp_all [fD]
   rw[z,h35,Bool.false_or,aU,decide_eq_true_eq]at h;have o:=Ul (by decide) h;exact⟨a+2,by omega,gW o,by grind [nG],by simp,.inr ⟨rfl,rfl⟩,o⟩
  |false=>
   unfold DC at h;rw[h35,Bool.false_and,Bool.or_false]at h;exact⟨a+1,by omega,gW h,by rw[xU h35,nG h],by simp,.inl rfl,h⟩
 have L:tk F a [35]<=F.length:=by
  grind [tk]
 obtain⟨M,A⟩:=aFe (F:=F) b;obtain⟨B,D⟩:=qw l [NL F b (bG l)] (opn 8 a u);have N:bM l [opn 8 a u]=l++[(8,(a:Int),0,u,())]:=rfl;refine⟨Dw F b,[(8,(a:Int),((Dw F b:Nat):Int),u,()),NL F b (bG l)], ?_, ?_,by omega,A x,rfl,Tr.one (UT (Nat.le_of_lt v) (ae _)) (ae _) (ae _) (by omega) rfl (fun _=>by
  obtain⟨p,rfl⟩: ∃p,b=p+1:=⟨b-1,by omega⟩;refine⟨p,(by
   rcases j.1 with h|⟨h,E⟩
   .exact .inl (by omega)
   .exact .inr ⟨by omega,E⟩),j.2, ?_⟩
  unfold NL Dw;split
  .exact .inl ⟨rfl,_,rfl⟩
  .exact .inr ⟨rfl,_,rfl⟩)⟩
 .rw[AA,EK hF a l u d (by omega),bD,h];simp only[ay,ac,eH,ax,aa,q];rw[mV hF a _ _ d (by omega) [35] rfl,bD];simp only;rw[mV hF _ _ _ d (by omega) [60] rfl,bD,y];simp only;rw[UV b _ _ d (by omega) (by rw[s];omega),bD];simp only[I7,B,D,aa,lK]
 .rw[acL,lI a l u d (by omega) (by omega) (by omega) hd (by omega),bD];simp only[show jv 8=false from rfl,ah,if_false];rw[je a _ _ d [35] (by simp),bD];simp only;have O:bF (xx F (iO F) (l++[(8,(a:Int),0,u,())]) (b:Int) ((l.length:Nat):Int) d) (fun e=>bF (pz e.1.1 e.1.2.1 e.1.2.2.1 e.1.2.2.2.1 e.1.2.2.2.2.1 e.1.2.2.2.2.2.1 u) fun f=>
    some ((f.1.1,(f.1.2.1,(f.1.2.2.1,(f.1.2.2.2.1,(f.1.2.2.2.2.1,(f.1.2.2.2.2.2.1,())))))),()))=some (RR F (Dw F b) (l++[(8,(a:Int),((Dw F b:Nat):Int),u,()),NL F b (bG l)]) u d,()):=by
   rw[abT b _ _ d (by omega) (by grind) hd (by omega),bD];simp only[I7];rw[uZ (Dw F b) _ u d l.length (by simp) (oK l _ 8 _ _) (by omega) (by omega) hd (by omega),bD];simp only[oG,show jv 8=false from rfl,ah,if_false];rfl
  cases h35:fD F a [35]with
  |true=>
   rw[h35,am rfl]at i;simp only[aa]
   grind [dh]
  |false=>
   rw[h35,aq (by simp)]at i;simp only[ac]
   grind [dh]
theorem oq (a:Nat) (l:List Nd) (u d:Int) (e:a<=F.length) (h:DC F a=false):AA F (a:Int) l u d=some (PR F a l u d,(false,())):=by
 have f:=hF.len;rw[AA,EK hF a l u d (by omega),bD,h];rfl
theorem EM {q':iR} (u d v:Int) (hd:0<=d/\d<=201): ∀(N a:Nat) (L:List Nd) (i:Bool) (w:Int),F.length-a<N->a<=F.length->L.length<=16*a+1000->0<=w->w<=a->(i=true↔w≠0)->
  ∃(f:Nat) (m:List Nd),FU N i F (a:Int) u d L=some (.inl ((),((),()),((F,(f:Int),u,d,()),L++m,())))/\
   AQ q' N v w F (iO F) (a:Int) u d L=some (.inl ((v,()),((),()),((F,iO F,(f:Int),u,d,()),L++m,())))/\a<=f/\f<=F.length/\(m.length<=2*(f-a)/\Tr F a f u L.length m)/\((DC F a||BQ F a)=true->a<f)
 |0,a,L,i,w,J,_,_,_,_,_=>by omega
 |N+1,a,L,i,w,J,l,hL,z,af,A=>by
  have aj:=hF.len;rw[FU,Qx,AQ,KZ,zo a L u d (by omega),bD];simp only;cases hr:DC F a with
  |true=>
   obtain⟨K,B,M,O,e3,S,U⟩:=OD hF a L u d l (by omega) hd.1 (by omega) hr;rw[M,bD];simp only[aa];rw[O,bD];simp only;obtain⟨f,m,V,o,W,p,q,_⟩:=EM u d v hd N K (L++B) i w (by omega) S (by grind) z (by omega) A;exact⟨f,B++m,by simp_all,by rw[o,ag],by omega,p,⟨by grind,U.2.app q.2 (ae _) (ai ..)⟩,fun _=>by omega⟩
  |false=>
   rw[oq hF a L u d l hr,bD];simp only[ac];rw[AC a L u d,bD];simp only;cases hi:BQ F a with
   |false=>
    refine⟨a,[],by simp, ?_,ae _,l,⟨by simp,.nil (ae _)⟩,fun h=>by simp at h⟩;by_cases h:a<F.length
    .have x:F[a].1≠6:=by
      simp_all [BQ]
     simp_all [dU,AO,dR]
    simp_all [gK,bI]
   |true=>
    have h:=Yz hi;have x:F[a].1=6:=by
     simp_all [BQ]
    have X:gm F (a:Int)=true:=dU;have hg:=hF.txt _ (aJ h);obtain⟨y,Y,Z,y3⟩:=aeT (s:=F[a].2.1) (by omega);simp only[ay,ac];rw[bU (eQ (by rw[bI];omega)),X];simp only[aa,AO h,fO x];rw[alu (by omega),bD,Y,bD];simp only[Z];have go: ∀(k:Int) (j:Bool) (g:Int),k=6\/k=7->0<=g->g<=((a+1:Nat):Int)->(j=true↔g≠0)-> ∃(f:Nat) (m:List Nd),
      FU N j F ((a+1:Nat):Int) u d (L++[(k,(a:Int),((a+1:Nat):Int),u,())])=some (.inl ((),((),()),((F,(f:Int),u,d,()),L++m,())))/\
      AQ q' N v g F (iO F) ((a+1:Nat):Int) u d (L++[(k,(a:Int),((a+1:Nat):Int),u,())])=some (.inl ((v,()),((),()),((F,iO F,(f:Int),u,d,()),L++m,())))/\a<=f/\f<=F.length/\(m.length<=2*(f-a)/\Tr F a f u L.length m)/\((false||true)=true->a<f):=fun k j g hk h1 h2 h3=>by
     obtain⟨f,m,V,o,W,p,q,_⟩:=EM u d v hd N (a+1) (L++[(k,(a:Int),((a+1:Nat):Int),u,())]) j g (by omega) (by omega) (by grind) h1 h2 h3;exact⟨f,[(k,(a:Int),((a+1:Nat):Int),u,())]++m,by simp_all,by rw[o,ag],by omega,p,⟨by grind,(Tr.lf (ae _) (ae _) (by omega) (fun _=>⟨h,x⟩)).app q.2 (ae _) (ai ..)⟩,fun _=>by omega⟩
    have D:bZ .i64 w 1=w+1:=dh;have E: ∀g,g=w+1->(true=true↔g≠0):=fun g e=>⟨fun _=>by omega,fun _=>rfl⟩;have l6:=Iy (F:=F) a L u d 6 (by omega) (by omega);have G:=Iy (F:=F) a L u d 7 (by omega) (by omega);have o6:=Ov (F:=F) a L u d (k:=6) (by omega) (by omega) rfl (by omega) (by omega) hd.1 (by omega);have I:=Ov (F:=F) a L u d (k:=7) (by omega) (by omega) rfl (by omega) (by omega) hd.1 (by omega);by_cases hw:w=0
    .have ab:i=false:=by
      simp_all
     subst ab;rw[fO hw];simp only[aB,aa];cases jk F[a].2.1 with
     |true=>
      simp only[aa];rw[l6,o6,bD,bD];exact go 6 false w (.inl rfl) z (by omega) ⟨fun h=>(by cases h),fun h=>absurd hw h⟩
     |false=>
      simp only[ac];rw[G,I,bD,bD];simp only[D];exact go 7 true (w+1) (.inr rfl) (by omega) (by omega) (E _ rfl)
    .have ad:i=true:=A.2 hw;subst ad;rw[dR hw];simp only[ay,ac];rw[G,I,bD,bD];simp only[D];exact go 7 true (w+1) (.inr rfl) (by omega) (by omega) (E _ rfl)
end
section
open Bool renaming and_eq_true → af, true_and → aU
open List renaming append_assoc → ag, getElem_mem → aJ
open Nat renaming le_refl → ae
open Go.RowKit
variable {F:List Lf} (hF:U2 F)
include hF
def fnB (F:List Lf) (a:Nat) (d:Int):Bool:=fD F a [120]&&(decide (DD F (a+1)=40)&&(decide (d<200)&&(if h:a<F.length then decide (nl F[a].2.1≠0/\nl F[a].2.1=F[a].2.1.length)else false)))
omit hF in
theorem ag6 (a:Nat) (c:UInt8):bT ((DD F a).toNat:Int) (c.toNat:Int)=decide (DD F a=c):=by
 rw[gZ,decide_eq_decide]
 grind [UInt8.toNat_inj]
theorem afC (a:Nat) (l:List Nd) (u d:Int) (e:a<=F.length):ain F (a:Int) l u d=some (PR F a l u d,(fnB F a d,())):=by
 have f:=hF.len;rw[ain,oO hF a l u d (by omega),bD];simp only;rw[show bT ((DD F a).toNat:Int) 120=fD F a [120] from WZ a 120 (by decide)];unfold fnB;cases hx:fD F a [120]with
 |false=>rfl
 |true=>
  have h:=gW hx;simp only[aa,aU];rw[akQ hF a l u d (by omega),bD];simp only;rw[show bT ((DD F (a+1)).toNat:Int) 40=decide (DD F (a+1)=40) from ag6 (a+1) 40];cases decide (DD F (a+1)=40)with
  |false=>rfl
  |true=>
   simp only[aa,aU];by_cases hd:d<200
   .rw[bU (eQ hd),bU (dU),AO h,Oe (by have:=hF.txt _ (aJ h);omega),bD,dif_pos h,decide_eq_true hd,aU]
   simp_all [gK,decide_eq_false]
omit hF in
theorem H8 (a:Nat) (o:bW):a<=ql F a o/\(a<=F.length->ql F a o<=F.length):=by
 unfold ql tk;split
 .grind [gW]
 omega
def uS (F:List Lf) (a:Nat) (o:bW) (u:Int):List Nd:=if fD F a o=true then []else [(18,(a:Int),(a:Int),u,())]
omit hF in
theorem lX (a:Nat) (o:bW) (l:List Nd) (u:Int):wnL F a o l u=l++uS F a o u:=by
 grind [wnL,uS]
omit hF in
theorem xY {a b c:Nat} {o:List UInt8} {u:Int} {k:Nat} (d:a<=c) (h2:c<=b):Tr F a b u k (uS F c o u):=by
 unfold uS;split
 .exact .nil (by omega)
 .exact .mis d h2
omit hF in
theorem ug (a:Nat) (o:bW) (u:Int):(uS F a o u).length<=1:=by grind [uS]
theorem alH {n:Nat} (h:All F n) (z:All F (n-1)) (a:Nat) (l:List Nd) (u d:Int) (q q':Nat) (Y:16*(F.length-a)+9<n+1) (Z:n<=q) (ab:n<=q') (hp:Ja F a l d 113) (hb:fnB F a d=true):
  ∃(e:Nat) (m:List Nd),(dW q).q266 F (a:Int) (bM l [opn 16 a u]) (bG l) (d+1)=some (PR F e (bM l [opn 16 a u]++m) (bG l) (d+1),())/\
   (bF (Dz F (iO F) l (a:Int) u d 16) fun j=>
    bF (L9 j.1.1 j.1.2.1 j.1.2.2.1 j.1.2.2.2.1 j.1.2.2.2.2.1 j.1.2.2.2.2.2.1 7) fun o=>
     bF (mW o.1.1 o.1.2.1 o.1.2.2.1 (bZ .i64 o.1.2.2.2.1 1) o.1.2.2.2.2.1 o.1.2.2.2.2.2.1 [41]) fun p=>
      bF (rP p.1.1 p.1.2.1 p.1.2.2.1 p.1.2.2.2.1 p.1.2.2.2.2.1 p.1.2.2.2.2.2.1) fun s=>
       bF (RJ s.1.1 s.1.2.1 s.1.2.2.1 s.1.2.2.2.1 s.1.2.2.2.2.1 s.1.2.2.2.2.2.1) fun g=>
        bif g.2.1 then
         bF ((gz q').q214 g.1.1 g.1.2.1 g.1.2.2.1 g.1.2.2.2.1 g.1.2.2.2.2.1 g.1.2.2.2.2.2.1) fun i=>
          bF (pz i.1.1 i.1.2.1 i.1.2.2.1 i.1.2.2.2.1 i.1.2.2.2.2.1 i.1.2.2.2.2.2.1 j.2.1) fun f=>
           some ((f.1.1,(f.1.2.1,(f.1.2.2.1,(f.1.2.2.2.1,(f.1.2.2.2.2.1,(f.1.2.2.2.2.2.1,())))))),())
        else
        bF (uA g.1.1 g.1.2.1 g.1.2.2.1 g.1.2.2.2.1 g.1.2.2.2.2.1 g.1.2.2.2.2.2.1) fun i=>
         bF (pz i.1.1 i.1.2.1 i.1.2.2.1 i.1.2.2.2.1 i.1.2.2.2.2.1 i.1.2.2.2.2.2.1 j.2.1) fun f=>
          some ((f.1.1,(f.1.2.1,(f.1.2.2.1,(f.1.2.2.2.1,(f.1.2.2.2.2.1,(f.1.2.2.2.2.2.1,())))))),()))=some (RR F e (l++(16,(a:Int),(e:Int),u,())::m) u d,())/\a<e/\e<=F.length/\m.length+4<=16*(e-a)/\Tr F a e (bG l) (l.length+1) m:=by
 obtain⟨p1,p2,M,p4⟩:=hp;have ad:=hF.len;unfold fnB at hb;simp only[af,decide_eq_true_eq]at hb;obtain⟨B,N,b3,_⟩:=hb;have x:=gW B;have D:BQ F a=true:=by
  unfold BQ;rw[dif_pos x];have z:=TA B;rw[Uh x]at z;exact decide_eq_true (az8 (hF.txt _ (aJ x)) z)
 have E:=Ul (F:=F) (a:=a+1) (c:=40) (by decide) N;have ah:=gW E;obtain⟨y,rfl⟩: ∃y,q=y+1:=⟨q-1,by omega⟩;have O:bM l [opn 16 a u]=l++[(16,(a:Int),0,u,())]:=rfl;have S:(bM l [opn 16 a u]).length=l.length+1:=by unfold bM;simp
 have G:=H8 (F:=F) (a+2) [41];have A:=G.2 (by omega);have ai:=ug (F:=F) (a+2) [41] (bG l);have U:=xG (F:=F) (ql F (a+2) [41]);have I:=yI (F:=F) A;have J: ∀(e:Nat) (m:List Nd),bF (pz F (iO F) ((l++[(16,(a:Int),0,u,())])++m) (e:Int) ((l.length:Nat):Int) (d+1) u) (fun f=>some ((f.1.1,(f.1.2.1,(f.1.2.2.1,(f.1.2.2.2.1,(f.1.2.2.2.2.1,(f.1.2.2.2.2.2.1,())))))),()))=some (RR F e (l++(16,(a:Int),(e:Int),u,())::m) u d,()):=fun e m=>by
  rw[uZ e _ u (d+1) l.length (by simp) (oK l _ 16 _ _) (by omega) (by omega) (by omega) (by omega),bD];simp only[oG,show jv 16=true from rfl,if_true,show d+1-1=d by omega]
 have V: ∃(e:Nat) (m:List Nd),(bif Ij F (ln F (ql F (a+2) [41])) (d+1)then
    (dW y).q263 F ((ln F (ql F (a+2) [41]):Nat):Int) ((bM l [opn 16 a u]++[(7,(a:Int),((a+1:Nat):Int),bG l,())])++uS F (a+2) [41] (bG l)) (bG l) (d+1)
   else yC F ((ln F (ql F (a+2) [41]):Nat):Int) ((bM l [opn 16 a u]++[(7,(a:Int),((a+1:Nat):Int),bG l,())])++uS F (a+2) [41] (bG l)) (bG l) (d+1))=some (PR F e (((bM l [opn 16 a u]++[(7,(a:Int),((a+1:Nat):Int),bG l,())])++uS F (a+2) [41] (bG l))++m) (bG l) (d+1),())/\
   (bif Ij F (ln F (ql F (a+2) [41])) (d+1)then
    (gz q').q214 F (iO F) ((bM l [opn 16 a u]++[(7,(a:Int),((a+1:Nat):Int),bG l,())])++uS F (a+2) [41] (bG l)) ((ln F (ql F (a+2) [41]):Nat):Int) (bG l) (d+1)
   else uA F (iO F) ((bM l [opn 16 a u]++[(7,(a:Int),((a+1:Nat):Int),bG l,())])++uS F (a+2) [41] (bG l)) ((ln F (ql F (a+2) [41]):Nat):Int) (bG l) (d+1))=some (RR F e (((bM l [opn 16 a u]++[(7,(a:Int),((a+1:Nat):Int),bG l,())])++uS F (a+2) [41] (bG l))++m) (bG l) (d+1),())/\ln F (ql F (a+2) [41])<=e/\e<=F.length/\m.length<=16*(e-ln F (ql F (a+2) [41]))+1/\Tr F (ln F (ql F (a+2) [41])) e (bG l) ((bM l [opn 16 a u]++[(7,(a:Int),((a+1:Nat):Int),bG l,())])++uS F (a+2) [41] (bG l)).length m:=by
  have aj:((bM l [opn 16 a u]++[(7,(a:Int),((a+1:Nat):Int),bG l,())])++uS F (a+2) [41] (bG l)).length<=l.length+3:=by
   simp_all
  cases hc:Ij F (ln F (ql F (a+2) [41])) (d+1)with
  |true=>
   obtain⟨e,m,W,v,X,K,L⟩:=z.compound (ln F (ql F (a+2) [41])) ((bM l [opn 16 a u]++[(7,(a:Int),((a+1:Nat):Int),bG l,())])++uS F (a+2) [41] (bG l)) (bG l) (d+1) y q' (by omega) (by omega) (by omega) ⟨I,by omega,by omega,by omega⟩ hc
   grind
  |false=>
   refine⟨ln F (ql F (a+2) [41]),[(18,((ln F (ql F (a+2) [41]):Nat):Int),((ln F (ql F (a+2) [41]):Nat):Int),bG l,())], ?_, ?_,ae _,I,by simp,.mis (ae _) (ae _)⟩
   .rw[ac,ny _ ((bM l [opn 16 a u]++[(7,(a:Int),((a+1:Nat):Int),bG l,())])++uS F (a+2) [41] (bG l)) _ _ (by omega)]
   .rw[ac,xI _ ((bM l [opn 16 a u]++[(7,(a:Int),((a+1:Nat):Int),bG l,())])++uS F (a+2) [41] (bG l)) _ _ (by omega) (by omega) (by omega)]
 obtain⟨e,m,W,v,X,K,L⟩:=V;refine⟨e,[(7,(a:Int),((a+1:Nat):Int),bG l,())]++uS F (a+2) [41] (bG l)++m, ?_, ?_,by omega,K,by grind,((Tr.lf (ae a) (ae _) (by omega) (fun _=>⟨x,by simpa [BQ,x] using D⟩)).app (xY (a:=a+1) (by omega) G.1) (ae _) rfl).app L.2 U (by grind)⟩
 .show aqJ (dW y) F (a:Int) _ _ _=_;rw[aqJ,UV a _ _ _ (by omega) (by rw[S];omega),bD];simp only[wdL,Dw,D,if_true];rw[mV hF (a+1) _ _ _ (by omega) [40] rfl,nG E,bD];simp only;rw[show a+1+1=a+2 from rfl,Ad hF (a+2) _ _ _ (by omega) (by grind) [41] rfl,bD];simp only[lX];rw[nM hF _ _ _ _ A,bD];simp only;rw[DK hF _ _ _ _ (by omega),bD];simp only;cases hc:Ij F (ln F (ql F (a+2) [41])) (d+1)with
  |true=>
   simp_all [bD]
  |false=>
   simp_all [bD]
 .rw[lI a l u d (by omega) (by omega) (by omega) M (by omega),bD];simp only[show jv 16=true from rfl,if_true];rw[Ov a _ _ _ (k:=7) (by omega) (by omega) rfl (by omega) (by grind) (by omega) (by omega),bD];simp only;rw[dh,show((a+1:Nat):Int)+1=((a+2:Nat):Int) by omega,Ae (a+2) _ _ _ (by omega) (by grind) (by omega) (by omega) [41] (by simp),bD];simp only[lX];rw[mG hF _ _ _ _ A,bD];simp only;rw[wZ,bD];simp only;rw[O]at v;rw[show((l.length:Nat):Int)=bG l from rfl];cases hc:Ij F (ln F (ql F (a+2) [41])) (d+1)with
  |true=>
   rw[hc,aa]at v;rw[aa,v,bD];simp only;rw[ag,ag,show bG l=((l.length:Nat):Int) from rfl,J];rfl
  |false=>
   rw[hc,ac]at v;rw[ac,v,bD];simp only;rw[ag,ag,show bG l=((l.length:Nat):Int) from rfl,J];rfl
end
section
open Bool renaming and_eq_true → af, false_eq_true → ah, and_true → ax, not_true → ay, not_false → aB
open List renaming getElem_mem → aJ
open Nat renaming le_refl → ae
open Go.RowKit
variable {F:List Lf} (hF:U2 F)
include hF
theorem anr {q':iR} (a:Nat) (l:List Nd) (u d:Int) (hp:Ja F a l d 113) (p:Ij F a d=false) (hb:Jk F a d=true):
  ∃(e:Nat) (m:List Nd),aio F (a:Int) (bM l [opn 5 a u]) (bG l) d=some (PR F e (bM l [opn 5 a u]++m) (bG l) d,())/\
   mM q' F (iO F) (a:Int) u d l=some (.inl ((),((),()),((F,iO F,(e:Int),u,d,()),l++(5,(a:Int),(e:Int),u,())::m,())))/\a<e/\e<=F.length/\m.length+4<=16*(e-a)/\Tr F a e (bG l) (l.length+1) m:=by
 obtain⟨q,B,g,D⟩:=hp;have E:=hF.len;have i:(bM l [opn 5 a u]).length=l.length+1:=by unfold bM;simp
 have s:bM l [opn 5 a u]=l++[(5,(a:Int),0,u,())]:=rfl;have v:(DC F a||BQ F a)=true:=by
  unfold Jk at hb;rw[p,Bool.or_false]at hb;cases hr:DC F a with
  |true=>rfl
  |false=>
   rw[hr,Bool.or_false]at hb;have f:=gW hb;have j:=TA hb;rw[Uh f]at j;rw[Bool.false_or];unfold BQ;rw[dif_pos f];exact decide_eq_true (az8 (hF.txt _ (aJ f)) j)
 obtain⟨e,m,x,o,G,y,z,A⟩:=EM hF (q':=q') (bG l) d u ⟨g,by omega⟩ bJ a (bM l [opn 5 a u]) false 0 (dH) q (by rw[i];omega) (by omega) (by omega) ⟨fun h=>(by cases h),fun h=>absurd rfl h⟩;have f:=A v;refine⟨e,m, ?_, ?_,f,y,by omega,i▸z.2⟩
 .rw[aio,x,bD];rfl
 .rw[mM,wI,lI a l u d (by omega) (by omega) (by omega) g (by omega),bD];simp only[show jv 5=false from rfl,ah,if_false];rw[s]at o;rw[show((l.length:Nat):Int)=bG l from rfl,o,bD];simp only[dL];rw[show bG l=((l.length:Nat):Int) from rfl,uZ e _ u d l.length (by simp) (oK l _ 5 _ _) (by omega) (by omega) g (by omega),bD];simp only[oG,show jv 5=false from rfl,ah,if_false]
theorem XW {n:Nat} (h:All F n) (G:All F (n-1)) (a:Nat) (l:List Nd) (u d:Int) (r s:Nat) (I:16*(F.length-a)+9<n+1) (N:n+1<=r) (O:n+1<=s) (hp:Ja F a l d 113):
  ∃(e:Nat) (m:List Nd),(dW r).q239 F (a:Int) l u d=some (PR F e (l++m) u d,())/\
   (gz s).q163 F (iO F) l (a:Int) u d=some (RR F e (l++m) u d,())/\a<=e/\e<=F.length/\(m.length<=16*(e-a)+1/\Tr F a e u l.length m)/\(Jk F a d=true->a<e/\m.length+3<=16*(e-a)):=by
 have x:=hp;obtain⟨A,S,J,U⟩:=hp;have V:=hF.len;obtain⟨q,rfl⟩: ∃q,r=q+1:=⟨r-1,by omega⟩;obtain⟨f,rfl⟩: ∃f,s=f+1:=⟨s-1,by omega⟩;show ∃(e:Nat) (m:List Nd),aqE (dW q) F (a:Int) l u d=_/\aqD (gz f) F (iO F) l (a:Int) u d=_/\_
 (rewrite [aqE,aqD];delta Fb;rw[DK hF a l u d (by omega),VA a l u d (by omega),bD,bD])
 simp only;cases hc:Ij F a d with
 |true=>
  have v:Jk F a d=true:=by grind [Jk]
  obtain⟨e,m,y,z,o,p,g⟩:=h.compound a l u d q f (by omega) (by omega) (by omega) x hc;refine⟨e,m, ?_, ?_,by omega,p,⟨by omega,g.2⟩,fun _=>⟨o,g.1⟩⟩
  .simp_all [bD]
  simp_all [wZ,bD]
 |false=>
  simp only[ac];rw[afC hF a l u d A,bD];simp only;cases hf:fnB F a d with
  |true=>
   have v:Jk F a d=true:=by
    simp_all [fnB,Jk]
   obtain⟨e,m,y,z,o,p,g⟩:=alH hF h G a l u d q f I (by omega) (by omega) x hf;obtain⟨B,_,_⟩:=kX l (opn 16 a u) (by omega);obtain⟨D,E⟩:=qw l m (opn 16 a u);refine⟨e,(16,(a:Int),(e:Int),u,())::m, ?_, ?_,by omega,p,⟨by grind,g.2.one (ae _) (ae _) (by omega) rfl⟩,fun _=>⟨o,by simp_all⟩⟩
   .simp only[eH,ax,aa,B];rw[dh,y,bD];simp only[D,E,aa,lK]
    grind [iy]
   .unfold fnB at hf;simp only[af,decide_eq_true_eq]at hf;obtain⟨g1,g2,g3,g4⟩:=hf;have i:=gW g1;have K:=gW (Ul (F:=F) (a:=a+1) (c:=40) (by decide) g2);rw[dif_pos i]at g4;rw[v];simp only[ay,ac];rw[wZ a l u d,bD,hc];simp only[ac];rw[je a l u d [120] (by simp),bD,g1];simp only[aa];rw[dh,show(a:Int)+1=((a+1:Nat):Int) by omega,bU (eQ (by grind [bI])),bU (dU (by omega) (by grind)),zZ K,
     show bT ((DD F (a+1)).toNat:Int) 40=decide (DD F (a+1)=40) from ag6 (a+1) 40,decide_eq_true g2,aa,bU (eQ g3),bU (dU),AO i,xB (by have:=hF.txt _ (aJ i);omega),bD,g4]
    assumption
  |false=>
   simp only[ac];rw[Rj hF a l u d (by omega),bD];simp only;cases v:Jk F a d with
   |false=>
    simp only[aB,aa,ac];rw[ny a l u d (by omega),xI a l u d (by omega) J (by omega),bD,bD];exact⟨a,[(18,(a:Int),(a:Int),u,())],rfl,rfl,ae _,A,⟨by simp,.mis (ae _) (ae _)⟩,fun h=>by cases h⟩
   |true=>
    obtain⟨e,m,y,z,o,p,g⟩:=anr hF (q':=gz f) a l u d x hc v;obtain⟨B,_,_⟩:=kX l (opn 5 a u) (by omega);obtain⟨D,E⟩:=qw l m (opn 5 a u);refine⟨e,(5,(a:Int),(e:Int),u,())::m, ?_, ?_,by omega,p,⟨by grind,g.2.one (ae _) (ae _) (by omega) rfl⟩,fun _=>⟨o,by simp_all⟩⟩
    .simp_all [eH,bD,lK]
    .simp only[ay,ac];rw[wZ a l u d,bD,hc];simp only[ac];rw[je a l u d [120] (by simp),bD];simp only;have L:bF (mM (gz f) F (iO F) (a:Int) u d l) (fun M=>dL M (fun j=>
       some ((j.2.2.1.1,(j.2.2.1.2.1,(j.2.2.2.1,(j.2.2.1.2.2.1,(j.2.2.1.2.2.2.1,(j.2.2.1.2.2.2.2.1,())))))),())) (fun W=>none))=some (RR F e (l++(5,(a:Int),(e:Int),u,())::m) u d,()):=by
      rw[z,bD];rfl
     cases hx:fD F a [120]with
     |false=>assumption
     |true=>
      have i:=gW hx;simp only[aa];rw[dh,show(a:Int)+1=((a+1:Nat):Int) by omega];by_cases hl2:a+1<F.length
      .rw[bU (eQ (by grind [bI])),bU (dU (by omega) (by grind)),zZ hl2,show bT ((DD F (a+1)).toNat:Int) 40=decide (DD F (a+1)=40) from ag6 (a+1) 40];by_cases h40:DD F (a+1)=40
       .rw[decide_eq_true h40,aa];by_cases hd2:d<200
        .rw[bU (eQ hd2),bU (dU),AO i,xB (by have:=hF.txt _ (aJ i);omega),bD];have X:decide (nl F[a].2.1≠0/\nl F[a].2.1=F[a].2.1.length)=false:=by
          simp_all [fnB]
         grind
        simp_all [gK]
       simp_all
      .rw[dG (gK (by grind [bI]))];exact L
end
section
open Option renaming some → a6, none → a7
open List renaming append_assoc → ag
open Nat renaming le_refl → ae
open Go.RowKit
variable {F:List Lf} (hF:U2 F)
include hF
theorem IR {q':iR} (u d w:Int) (hd:0<=d/\d<=201) (P:Nat->Nat->List Nd->Option (Nat×List Nd)->Prop)
  (i: ∀N a L,DC F a=false->P (N+1) a L (a6 (a,L)))
  (j: ∀N a L f g x,DC F a=true->f<=F.length->AA F (a:Int) L u d=a6 (PR F f (L++g) u d,(true,()))->P N f (L++g) x->P (N+1) a L x):
  ∀(N a:Nat) (L:List Nd),F.length-a<N->a<=F.length->L.length<=16*a+1000->
  ∃(e:Nat) (m:List Nd),P N a L (a6 (e,L++m))/\jd q' N w F (iO F) (a:Int) u d L=a6 (.inl ((w,()),((),()),((F,iO F,(e:Int),u,d,()),L++m,())))/\a<=e/\e<=F.length/\m.length<=2*(e-a)/\Tr F a e u L.length m
 |0,a,L,l,_,_=>by omega
 |N+1,a,L,l,h,z=>by
  have A:=hF.len;rw[jd,Ld,zo a L u d (by omega),bD];simp only;cases hr:DC F a with
  |false=>exact⟨a,[],by simp_all,by simp,ae _,h,by simp,.nil (ae _)⟩
  |true=>
   obtain⟨f,g,B,o,D,p,q⟩:=OD hF a L u d h (by omega) hd.1 (by omega) hr;simp only[aa];rw[o,bD];simp only;obtain⟨e,m,E,s,G,v,y⟩:=IR u d w hd P i j N f (L++g) (by omega) p (by grind);exact⟨e,g++m,by grind,by rw[s,ag],by omega,v,by grind,q.2.ap y.2⟩
theorem aJa {q:ed} {q':iR} (u d w f g h i j l:Int) (hd:0<=d/\d<=201) (a:Nat) (L:List Nd) (o:a<=F.length) (v:L.length<=16*a+1000):
  ∃(e:Nat) (m:List Nd),og q bJ f g h i j l L F (a:Int) u d=a6 (.inl ((),((f,g,()),(h,i,()),(j,l,()),(),()),((),(),L++m,(F,(e:Int),u,d,()),())))/\
   jd q' bJ w F (iO F) (a:Int) u d L=a6 (.inl ((w,()),((),()),((F,iO F,(e:Int),u,d,()),L++m,())))/\a<=e/\e<=F.length/\m.length<=2*(e-a)/\Tr F a e u L.length m:=by
 have D:=hF.len;obtain⟨e,m,E,G,I,J,K⟩:=IR hF (q':=q') u d w hd (fun N a L x=>a<=F.length-> ∀y,x=a6 y->og q N f g h i j l L F (a:Int) u d=a6 (.inl ((),((f,g,()),(h,i,()),(j,l,()),(),()),((),(),y.2,(F,(y.1:Int),u,d,()),()))))
  (fun N a L s o y p=>by
   cases p;rw[og,uM,oq hF a L u d o s,bD];rfl)
  (fun N a L M O x s z A B o y p=>by
   rw[og,uM,A,bD];simp only[aa];exact B z y p) bJ a L (dH) o v
 grind
theorem aDY {q:ed} {q':iR} (u d w f g h i j l:Int) (hd:0<=d/\d<=201) (a:Nat) (L:List Nd) (o:a<=F.length) (v:L.length<=16*a+1000):
  ∃(e:Nat) (m:List Nd),kZ q bJ f g h i j l L F (a:Int) u d=a6 (.inl ((),((f,g,()),(h,i,()),(j,l,()),(),()),((),(),L++m,(F,(e:Int),u,d,()),())))/\
   jd q' bJ w F (iO F) (a:Int) u d L=a6 (.inl ((w,()),((),()),((F,iO F,(e:Int),u,d,()),L++m,())))/\a<=e/\e<=F.length/\m.length<=2*(e-a)/\Tr F a e u L.length m:=by
 have D:=hF.len;obtain⟨e,m,E,G,I,J,K⟩:=IR hF (q':=q') u d w hd (fun N a L x=>a<=F.length-> ∀y,x=a6 y->kZ q N f g h i j l L F (a:Int) u d=a6 (.inl ((),((f,g,()),(h,i,()),(j,l,()),(),()),((),(),y.2,(F,(y.1:Int),u,d,()),()))))
  (fun N a L s o y p=>by
   cases p;rw[kZ,pM,oq hF a L u d o s,bD];rfl)
  (fun N a L M O x s z A B o y p=>by
   rw[kZ,pM,A,bD];simp only[aa];exact B z y p) bJ a L (dH) o v
 grind
theorem aDZ {q:ed} {q':iR} (u d w f g h i j l:Int) (hd:0<=d/\d<=201) (a:Nat) (L:List Nd) (o:a<=F.length) (v:L.length<=16*a+1000):
  ∃(e:Nat) (m:List Nd),lg q bJ f g h i j l L F (a:Int) u d=a6 (.inl ((),((f,g,()),(h,i,()),(j,l,()),(),()),((),(),L++m,(F,(e:Int),u,d,()),())))/\
   jd q' bJ w F (iO F) (a:Int) u d L=a6 (.inl ((w,()),((),()),((F,iO F,(e:Int),u,d,()),L++m,())))/\a<=e/\e<=F.length/\m.length<=2*(e-a)/\Tr F a e u L.length m:=by
 have D:=hF.len;obtain⟨e,m,E,G,I,J,K⟩:=IR hF (q':=q') u d w hd (fun N a L x=>a<=F.length-> ∀y,x=a6 y->lg q N f g h i j l L F (a:Int) u d=a6 (.inl ((),((f,g,()),(h,i,()),(j,l,()),(),()),((),(),y.2,(F,(y.1:Int),u,d,()),()))))
  (fun N a L s o y p=>by
   cases p;rw[lg,pO,oq hF a L u d o s,bD];rfl)
  (fun N a L M O x s z A B o y p=>by
   rw[lg,pO,A,bD];simp only[aa];exact B z y p) bJ a L (dH) o v
 grind
theorem aD0 {q:ed} {q':iR} (u d w f g h i j l:Int) (hd:0<=d/\d<=201) (a:Nat) (L:List Nd) (o:a<=F.length) (v:L.length<=16*a+1000):
  ∃(e:Nat) (m:List Nd),lm q bJ f g h i j l L F (a:Int) u d=a6 (.inl ((),((f,g,()),(h,i,()),(j,l,()),(),()),((),(),L++m,(F,(e:Int),u,d,()),())))/\
   jd q' bJ w F (iO F) (a:Int) u d L=a6 (.inl ((w,()),((),()),((F,iO F,(e:Int),u,d,()),L++m,())))/\a<=e/\e<=F.length/\m.length<=2*(e-a)/\Tr F a e u L.length m:=by
 have D:=hF.len;obtain⟨e,m,E,G,I,J,K⟩:=IR hF (q':=q') u d w hd (fun N a L x=>a<=F.length-> ∀y,x=a6 y->lm q N f g h i j l L F (a:Int) u d=a6 (.inl ((),((f,g,()),(h,i,()),(j,l,()),(),()),((),(),y.2,(F,(y.1:Int),u,d,()),()))))
  (fun N a L s o y p=>by
   cases p;rw[lm,pU,oq hF a L u d o s,bD];rfl)
  (fun N a L M O x s z A B o y p=>by
   rw[lm,pU,A,bD];simp only[aa];exact B z y p) bJ a L (dH) o v
 grind
theorem aD1 {q:ed} {q':iR} (u d w f g h i j l:Int) (hd:0<=d/\d<=201) (a:Nat) (L:List Nd) (o:a<=F.length) (v:L.length<=16*a+1000):
  ∃(e:Nat) (m:List Nd),lq q bJ f g h i j l L F (a:Int) u d=a6 (.inl ((),((f,g,()),(h,i,()),(j,l,()),(),()),((),(),L++m,(F,(e:Int),u,d,()),())))/\
   jd q' bJ w F (iO F) (a:Int) u d L=a6 (.inl ((w,()),((),()),((F,iO F,(e:Int),u,d,()),L++m,())))/\a<=e/\e<=F.length/\m.length<=2*(e-a)/\Tr F a e u L.length m:=by
 have D:=hF.len;obtain⟨e,m,E,G,I,J,K⟩:=IR hF (q':=q') u d w hd (fun N a L x=>a<=F.length-> ∀y,x=a6 y->lq q N f g h i j l L F (a:Int) u d=a6 (.inl ((),((f,g,()),(h,i,()),(j,l,()),(),()),((),(),y.2,(F,(y.1:Int),u,d,()),()))))
  (fun N a L s o y p=>by
   cases p;rw[lq,pV,oq hF a L u d o s,bD];rfl)
  (fun N a L M O x s z A B o y p=>by
   rw[lq,pV,A,bD];simp only[aa];exact B z y p) bJ a L (dH) o v
 grind
theorem aD2 {q:ed} {q':iR} (u d w f g h i j l:Int) (hd:0<=d/\d<=201) (a:Nat) (L:List Nd) (o:a<=F.length) (v:L.length<=16*a+1000):
  ∃(e:Nat) (m:List Nd),lu q bJ f g h i j l L F (a:Int) u d=a6 (.inl ((),((f,g,()),(h,i,()),(j,l,()),(),()),((),(),L++m,(F,(e:Int),u,d,()),())))/\
   jd q' bJ w F (iO F) (a:Int) u d L=a6 (.inl ((w,()),((),()),((F,iO F,(e:Int),u,d,()),L++m,())))/\a<=e/\e<=F.length/\m.length<=2*(e-a)/\Tr F a e u L.length m:=by
 have D:=hF.len;obtain⟨e,m,E,G,I,J,K⟩:=IR hF (q':=q') u d w hd (fun N a L x=>a<=F.length-> ∀y,x=a6 y->lu q N f g h i j l L F (a:Int) u d=a6 (.inl ((),((f,g,()),(h,i,()),(j,l,()),(),()),((),(),y.2,(F,(y.1:Int),u,d,()),()))))
  (fun N a L s o y p=>by
   cases p;rw[lu,pW,oq hF a L u d o s,bD];rfl)
  (fun N a L M O x s z A B o y p=>by
   rw[lu,pW,A,bD];simp only[aa];exact B z y p) bJ a L (dH) o v
 grind
end
section
open List renaming append_assoc → ag, length_append → ai
open Nat renaming le_refl → ae
open Go.RowKit
variable {F:List Lf} (hF:U2 F)
include hF
theorem E5 {k:Nat} (h:All F k) (a:Nat) (l:List Nd) (u d:Int) (r g:Nat) (G:16*(F.length-a)+13<k) (I:k+1<=r) (J:k+1<=g) (hp:Ja F a l d 105):
  ∃(f:Nat) (m:List Nd),(dW r).q286 F (a:Int) l u d=some (PR F f (l++m) u d,())/\
   (gz g).q247 F (iO F) l (a:Int) u d=some (RR F f (l++m) u d,())/\a<=f/\f<=F.length/\m.length<=16*(f-a)+3/\Tr F a f u l.length m:=by
 obtain⟨o,K,j,p⟩:=hp;have L:=hF.len;obtain⟨q,rfl⟩: ∃q,r=q+1:=⟨r-1,by omega⟩;obtain⟨i,rfl⟩: ∃i,g=i+1:=⟨g-1,by omega⟩;obtain⟨M,s⟩:=H8 (F:=F) a [100];have v:=s o;have N:=ug (F:=F) a [100] u;obtain⟨e,x,y,z,O,A,B⟩:=h.body (ql F a [100]) (l++uS F a [100] u) u d q i (by omega) (by omega) (by omega) ⟨v,by rw[ai];omega,j,p⟩;obtain⟨S,D⟩:=H8 (F:=F) e [103];have E:=D A;have U:=ug (F:=F) e [103] u;refine⟨ql F e [103],uS F a [100] u++x++uS F e [103] u, ?_, ?_,by omega,E,by simp only[ai];omega,((xY (ae a) (ae a)).ap B.2).apA fun _=>xY (ae e) (by omega)⟩
 .show aqQ (dW q) F (a:Int) l u d=_;rw[aqQ,Ad hF a l u d (by omega) (by omega) [100] rfl,bD];simp only[lX];rw[y,bD];simp only;rw[Ad hF e _ u d (by omega) (by simp only[ai];omega) [103] rfl,bD];simp only[lX,ag]
 .show aqG (gz i) F (iO F) l (a:Int) u d=_;rw[aqG,Ae a l u d (by omega) (by omega) j (by omega) [100] (by simp),bD];simp only[lX];rw[z,bD];simp only;rw[Ae e _ u d (by omega) (by simp only[ai];omega) j (by omega) [103] (by simp),bD];simp only[lX,ag]
theorem abd {k:Nat} (h:All F k) (a:Nat) (l:List Nd) (u d:Int) (q q':Nat) (o:bW) (s:o.contains 0=false) (v:o.length<1000000) (L:16*(F.length-a)+13<k) (M:k<=q) (N:k<=q') (hp:Ja F a l d 105):
  ∃(f:Nat) (m:List Nd),(bF ((dW q).q285 F (a:Int) l u d) fun i=>bF (rG i.1.1 i.1.2.1 i.1.2.2.1 i.1.2.2.2.1 i.1.2.2.2.2.1 o) fun j=>
    some ((j.1.1,(j.1.2.1,(j.1.2.2.1,(j.1.2.2.2.1,(j.1.2.2.2.2.1,()))))),()))=some (PR F f (l++m) u d,())/\
   (∀{x:Type} (K:(List Lf×List UInt8×List Nd×Int×Int×Int×Unit)×Unit->Option x),(bF ((gz q').q246 F (iO F) l (a:Int) u d) fun g=>bF (mW g.1.1 g.1.2.1 g.1.2.2.1 g.1.2.2.2.1 g.1.2.2.2.2.1 g.1.2.2.2.2.2.1 o) K)=K (RR F f (l++m) u d,()))/\a<=f/\f<=F.length/\m.length<=16*(f-a)+2/\Tr F a f u l.length m:=by
 obtain⟨y,O,p,z⟩:=hp;have S:=hF.len;obtain⟨e,A,B,D,U,E,G⟩:=h.body a l u d q q' (by omega) (by omega) (by omega) ⟨y,by omega,p,z⟩;obtain⟨V,I⟩:=H8 (F:=F) e o;have J:=I E;have W:=ug (F:=F) e o u;refine⟨ql F e o,A++uS F e o u, ?_,fun K=> ?_,by omega,J,by simp only[ai];omega,G.2.apA fun _=>xY (ae e) (by omega)⟩
 .rw[B,bD];simp only;rw[Ad hF e _ u d (by omega) (by simp only[ai];omega) o s,bD];simp only[lX,ag]
 .rw[D,bD];simp only;rw[Ae e _ u d (by omega) (by simp only[ai];omega) p (by omega) o v,bD];simp only[lX,ag]
end
section
open Nat renaming le_refl → ae
open Go.RowKit
variable {F:List Lf} (hF:U2 F)
include hF
theorem VP {k:Nat} (h:All F k) {q q':Nat} (g:k<=q) (i:k<=q') (u d v:Int) (hd:0<=d/\d<=200): ∀(N a:Nat) (L:List Nd),F.length-a<N->a<=F.length->16*(F.length-a)+2<k->L.length<=16*a+110->
  ∃(f:Nat) (m:List Nd),J8 (dW q) N F (a:Int) u d L=some (.inl ((),((),()),((F,(f:Int),u,d,()),L++m,())))/\
   AV (gz q') N v F (iO F) (a:Int) u d L=some (.inl ((v,()),((),()),((F,iO F,(f:Int),u,d,()),L++m,())))/\a<=f/\f<=F.length/\m.length<=16*(f-a)/\Tr F a f u L.length m
 |0,a,L,o,_,_,_=>by omega
 |N+1,a,L,o,p,G,I=>by
  have J:=hF.len;rw[J8,Qz,AV,Lc,mV hF a L u d (by omega) [101] rfl,je a L u d [101] (by simp),bD,bD];simp only;cases hb:fD F a [101]with
  |false=>
   rw[xU hb];exact⟨a,[],by simp,by simp,ae _,p,by simp,.nil (ae _)⟩
  |true=>
   have K:=gW hb;rw[nG hb];simp only[aa];rw[dh,show(a:Int)+1=((a+1:Nat):Int) by omega];obtain⟨e,j,s,M,O,x,y⟩:=h.body (a+1) L u d q q' (by omega) g i ⟨by omega,by omega,hd.1,hd.2⟩;obtain⟨S,z⟩:=H8 (F:=F) e [116];have A:=z x;have U:=ug (F:=F) e [116] u;obtain⟨B,l,V,W,X,D,E⟩:=h.body (ql F e [116]) (L++j++uS F e [116] u) u d q q' (by omega) g i ⟨A,by grind,hd.1,hd.2⟩;obtain⟨f,m,g1,g2,g3,g4,g5⟩:=VP h g i u d v hd N B (L++j++uS F e [116] u++l) (by omega) D (by omega) (by grind);refine⟨f,j++uS F e [116] u++l++m, ?_, ?_,by omega,g4,by grind,(((y.2.wide (by omega) (ae _)).apA fun _=>xY (ae e) (ae e)).ap E.2).ap g5.2⟩
   .rw[s,bD];simp only;rw[Ad hF e _ u d (by omega) (by grind) [116] rfl,bD];simp_all [lX,bD]
   grind [bD,Ae,lX]
theorem aGN {k:Nat} (h:All F k) (a:Nat) (l:List Nd) (u d v:Int) (r q':Nat) (hm:16*(F.length-a)+13<k) (hr:k+1<=r) (G:k<=q') (hp:Ja F a l d 105):
  ∃(j:Nat) (m:List Nd),(dW r).q274 F (a:Int) l u d=some (PR F j (l++m) u d,())/\
   (∀{J:Type} (K:Int->(List Lf×List UInt8×List Nd×Int×Int×Int×Unit)×Unit->Option J),
    (bF ((gz q').q246 F (iO F) l (a:Int) u d) fun A=>
       bF (mW A.1.1 A.1.2.1 A.1.2.2.1 A.1.2.2.2.1 A.1.2.2.2.2.1 A.1.2.2.2.2.2.1 [116]) fun B=>
        bF ((gz q').q246 B.1.1 B.1.2.1 B.1.2.2.1 B.1.2.2.2.1 B.1.2.2.2.2.1 B.1.2.2.2.2.2.1) fun g=>
         bF (AV (gz q') bJ v g.1.1 g.1.2.1 g.1.2.2.2.1 g.1.2.2.2.2.1 g.1.2.2.2.2.2.1 g.1.2.2.1) fun o=>
          dL o (fun y=>
           bF (nP y.2.2.1.1 y.2.2.1.2.1 y.2.2.2.1 y.2.2.1.2.2.1 y.2.2.1.2.2.2.1 y.2.2.1.2.2.2.2.1 [108]) fun e=>
            bif e.2.1 then
             bF ((gz q').q246 e.1.1 e.1.2.1 e.1.2.2.1 (bZ .i64 e.1.2.2.2.1 1) e.1.2.2.2.2.1 e.1.2.2.2.2.2.1) fun p=>
              bF (mW p.1.1 p.1.2.1 p.1.2.2.1 p.1.2.2.2.1 p.1.2.2.2.2.1 p.1.2.2.2.2.2.1 [102]) (K y.1.1)
            else
            bF (mW e.1.1 e.1.2.1 e.1.2.2.1 e.1.2.2.2.1 e.1.2.2.2.2.1 e.1.2.2.2.2.2.1 [102]) (K y.1.1)) (fun b7=>none))=K v (RR F j (l++m) u d,()))/\a<=j/\j<=F.length/\m.length<=16*(j-a)+5/\Tr F a j u l.length m:=by
 obtain⟨U,p2,D,I⟩:=hp;have ad:=hF.len;obtain⟨q,rfl⟩: ∃q,r=q+1:=⟨r-1,by omega⟩;obtain⟨i,s,V,W,e3,X,Y⟩:=h.body a l u d q q' (by omega) (by omega) G ⟨U,by omega,D,I⟩;obtain⟨w1,Z⟩:=H8 (F:=F) i [116];have w3:=Z X;have w4:=ug (F:=F) i [116] u;obtain⟨a2,x,f1,f2,f3,f4,f5⟩:=h.body (ql F i [116]) (l++s++uS F i [116] u) u d q q' (by omega) (by omega) G ⟨w3,by grind,D,I⟩;obtain⟨f,z,g1,g2,g3,g4,g5⟩:=VP hF h (q:=q) (q':=q') (by omega) G u d v ⟨D,I⟩ bJ a2 (l++s++uS F i [116] u++x) (dH) f4 (by omega) (by grind);have ab: ∃(j:Nat) (m:List Nd),(bF (lD F (f:Int) (l++s++uS F i [116] u++x++z) u d [108]) fun g=>
       bif g.2.1 then
        bF ((dW q).q285 g.1.1 g.1.2.1 g.1.2.2.1 g.1.2.2.2.1 g.1.2.2.2.2.1) fun o=>
         bF (rG o.1.1 o.1.2.1 o.1.2.2.1 o.1.2.2.2.1 o.1.2.2.2.2.1 [102]) fun E=>
          some ((E.1.1,(E.1.2.1,(E.1.2.2.1,(E.1.2.2.2.1,(E.1.2.2.2.2.1,()))))),())
       else
       bF (rG g.1.1 g.1.2.1 g.1.2.2.1 g.1.2.2.2.1 g.1.2.2.2.2.1 [102]) fun o=>
        some ((o.1.1,(o.1.2.1,(o.1.2.2.1,(o.1.2.2.2.1,(o.1.2.2.2.2.1,()))))),()))=some (PR F j (l++s++uS F i [116] u++x++z++m) u d,())/\
   (∀{J:Type} (K:(List Lf×List UInt8×List Nd×Int×Int×Int×Unit)×Unit->Option J),(bF (nP F (iO F) (l++s++uS F i [116] u++x++z) (f:Int) u d [108]) fun e=>
            bif e.2.1 then
             bF ((gz q').q246 e.1.1 e.1.2.1 e.1.2.2.1 (bZ .i64 e.1.2.2.2.1 1) e.1.2.2.2.2.1 e.1.2.2.2.2.2.1) fun p=>
              bF (mW p.1.1 p.1.2.1 p.1.2.2.1 p.1.2.2.2.1 p.1.2.2.2.2.1 p.1.2.2.2.2.2.1 [102]) K
            else
            bF (mW e.1.1 e.1.2.1 e.1.2.2.1 e.1.2.2.2.1 e.1.2.2.2.2.1 e.1.2.2.2.2.2.1 [102]) K)=K (RR F j (l++s++uS F i [116] u++x++z++m) u d,()))/\f<=j/\j<=F.length/\m.length<=16*(j-f)+2/\Tr F f j u (l++s++uS F i [116] u++x++z).length m:=by
  have hL:(l++s++uS F i [116] u++x++z).length<=16*f+108:=by grind
  generalize l++s++uS F i [116] u++x++z=L at hL;rw[mV hF f L u d (by omega) [108] rfl,bD];cases hb:fD F f [108]with
  |true=>
   have af:=gW hb;obtain⟨b1,n1,s1,O,s3,M,N⟩:=abd hF h (f+1) L u d q q' [102] rfl (by simp) (by omega) (by omega) G ⟨by omega,by omega,D,I⟩;refine⟨b1,n1, ?_,fun K=> ?_,by omega,M,by omega,N.2.wide (by omega) (ae _)⟩
   .simp_all [nG]
   .rw[je f L u d [108] (by simp),bD,hb];simp only[aa];rw[dh,show(f:Int)+1=((f+1:Nat):Int) by omega];exact O K
  |false=>
   obtain⟨S,x2⟩:=H8 (F:=F) f [102];have x3:=x2 g4;have x4:=ug (F:=F) f [102] u;refine⟨ql F f [102],uS F f [102] u, ?_,fun K=> ?_,S,x3,by omega,xY (ae f) S⟩
   .rw[xU hb];simp only[ac];rw[Ad hF f L u d (by omega) (by omega) [102] rfl,bD];simp only[lX]
   .rw[je f L u d [108] (by simp),bD,hb];simp only[ac]
    grind [Ae,bD,lX]
 obtain⟨j,m,s1,O,s3,M,N⟩:=ab;refine⟨j,s++uS F i [116] u++x++z++m, ?_,fun K=> ?_,by omega,M,by grind,(((Y.2.apA fun _=>xY (ae i) (ae i)).ap f5.2).ap g5.2).ap N.2⟩
 .show aqM (dW q) F (a:Int) l u d=_;rw[aqM,V,bD];simp only;rw[Ad hF i _ u d (by omega) (by grind) [116] rfl,bD];simp_all [lX,bD,dL]
 .rw[W,bD];simp only;rw[Ae i _ u d (by omega) (by grind) D (by omega) [116] (by simp),bD];simp_all [lX,bD,dL]
theorem avC {k:Nat} (h:All F k) (a:Nat) (l:List Nd) (u d:Int) (r q':Nat) (A:16*(F.length-a)+13<k) (B:k+2<=r) (D:k+1<=q') (hp:Ja F a l d 104):
  ∃(e:Nat) (m:List Nd),(dW r).q275 F (a:Int) l u d=some (PR F e (l++m) u d,())/\
   (∀{o:Type} (K:(List Lf×List UInt8×List Nd×Int×Int×Int×Unit)×Unit->Option o),
    (bF ((gz q').q246 F (iO F) l (a:Int) u d) fun f=>
       bF ((gz q').q247 f.1.1 f.1.2.1 f.1.2.2.1 f.1.2.2.2.1 f.1.2.2.2.2.1 f.1.2.2.2.2.2.1) K)=K (RR F e (l++m) u d,()))/\a<=e/\e<=F.length/\m.length<=16*(e-a)+4/\Tr F a e u l.length m:=by
 obtain⟨p,E,g,i⟩:=hp;have G:=hF.len;obtain⟨q,rfl⟩: ∃q,r=q+1:=⟨r-1,by omega⟩;obtain⟨s,j,I,J,L,v,x⟩:=h.body a l u d q q' (by omega) (by omega) (by omega) ⟨p,by omega,g,i⟩;obtain⟨e,m,M,N,O,y,z⟩:=E5 hF h s (l++j) u d q q' (by omega) (by omega) (by omega) ⟨v,by grind,g,i⟩;refine⟨e,j++m, ?_,fun K=> ?_,by omega,y,by grind,x.2.ap z.2⟩
 .simp_all [azr,dW,bD]
 simp_all [bD]
end
section
open Option renaming some → a6, none → a7
open Bool renaming not_true → ay, not_false → aB
open List renaming append_assoc → ag, getElem_mem → aJ
open Nat renaming le_refl → ae
open Go.RowKit
variable {F:List Lf} (hF:U2 F)
include hF
omit hF in
theorem aBU {a:Nat} (h:fD F a [110]=true):bT (((ln F a:Nat):Int)-(a:Int)) 0=false:=by
 have:a+1<=ln F a:=by
  simp_all [ln,lnF,afQ]
 exact dR
omit hF in
theorem aG4 {a:Nat} (h:fD F a [110]=false):bT (((ln F a:Nat):Int)-(a:Int)) 0=true:=by
 simp_all [ln,lnF,fO]
theorem UW {q:ed} {q':iR} (u d:Int) (hd:0<=d/\d<=200): ∀(N a:Nat) (L:List Nd),F.length-a<N->a<=F.length->L.length<=16*a+200->
  ∃(e:Nat) (m:List Nd),FX q N F (a:Int) u d L=a6 (.inl ((),((),()),((F,(e:Int),u,d,()),L++m,())))/\
   FT q' N F (iO F) (a:Int) u d L=a6 (.inl ((),((),()),((F,iO F,(e:Int),u,d,()),L++m,())))/\a<=e/\e<=F.length/\m.length<=e-a/\Tr F a e u L.length m
 |0,a,L,h,_,_=>by omega
 |N+1,a,L,h,g,i=>by
  have j:=hF.len;rw[FX,QA,FT,Qv,AC a L u d,bD];simp only;by_cases hlt:a<F.length
  .rw[bU (b:=iq (a:Int) (bG F)) (eQ (by rw[bI];omega)),bU (b:=gm F (a:Int)) (dU),AO hlt];by_cases h6:F[a].1=6
   .have f:BQ F a=true:=by simp_all [BQ]
    rw[bU (b:=bT F[a].1 6) (fO h6),f];simp only[aa];rw[Iy a L u d 7 (by omega) (by omega),Ov a L u d (by omega) (by omega) rfl (by omega) (by omega) hd.1 (by omega),bD,bD];simp only;obtain⟨e,m,g1,g2,g3,g4,g5⟩:=UW u d hd N (a+1) (L++[(7,(a:Int),((a+1:Nat):Int),u,())]) (by omega) (by omega) (by grind);exact⟨e,[(7,(a:Int),((a+1:Nat):Int),u,())]++m,by rw[g1,ag],by rw[g2,ag],by omega,g4,by grind,(Tr.lf (ae a) (ae _) (by omega) (fun _=>⟨hlt,h6⟩)).ap g5.2⟩
   .have f:BQ F a=false:=by simp_all [BQ]
    rw[dG (b:=bT F[a].1 6) (dR h6),f];exact⟨a,[],by simp,by simp,ae _,g,by simp,.nil (ae _)⟩
  .have f:BQ F a=false:=by unfold BQ;rw[dif_neg hlt]
   rw[dG (b:=iq (a:Int) (bG F)) (gK (by rw[bI];omega)),f];exact⟨a,[],by simp,by simp,ae _,g,by simp,.nil (ae _)⟩
theorem acP {k:Nat} (h:All F k) (a:Nat) (l:List Nd) (u d:Int) (q q':Nat) (X:16*(F.length-a)+13<k) (Y:k+1<=q) (Z:k+1<=q') (hp:Ja F a l d 102):
  ∃(s:Nat) (m:List Nd),(bF (lD F (a:Int) l u d [59]) fun j=>
    bif j.2.1 then
     bF (pq j.1.1 j.1.2.1 j.1.2.2.1 j.1.2.2.2.1 j.1.2.2.2.2.1) fun f=>
      bF ((dW q).q286 f.1.1 f.1.2.1 f.1.2.2.1 f.1.2.2.2.1 f.1.2.2.2.2.1) fun i=>
       a6 ((i.1.1,(i.1.2.1,(i.1.2.2.1,(i.1.2.2.2.1,(i.1.2.2.2.2.1,()))))),())
    else
    bF (pq j.1.1 j.1.2.1 j.1.2.2.1 j.1.2.2.2.1 j.1.2.2.2.2.1) fun f=>
     bF (lD f.1.1 f.1.2.1 f.1.2.2.1 f.1.2.2.2.1 f.1.2.2.2.2.1 [107]) fun i=>
      bif i.2.1 then
       bF (FX (dW q) bJ i.1.1 i.1.2.1 i.1.2.2.2.1 i.1.2.2.2.2.1 i.1.2.2.1) fun E=>
        dL E (fun K=>
         bF (lD K.2.2.1.1 K.2.2.1.2.1 K.2.2.2.1 K.2.2.1.2.2.1 K.2.2.1.2.2.2.1 [59]) fun g=>
          bF (pq g.1.1 g.1.2.1 g.1.2.2.1 g.1.2.2.2.1 g.1.2.2.2.2.1) fun e=>
           bif(!e.2.1)then
            bif(!g.2.1)then
             bF (yC e.1.1 e.1.2.1 e.1.2.2.1 e.1.2.2.2.1 e.1.2.2.2.2.1) fun o=>
              bF ((dW q).q286 o.1.1 o.1.2.1 o.1.2.2.1 o.1.2.2.2.1 o.1.2.2.2.2.1) fun L=>
               a6 ((L.1.1,(L.1.2.1,(L.1.2.2.1,(L.1.2.2.2.1,(L.1.2.2.2.2.1,()))))),())
            else
            bF ((dW q).q286 e.1.1 e.1.2.1 e.1.2.2.1 e.1.2.2.2.1 e.1.2.2.2.2.1) fun o=>
             a6 ((o.1.1,(o.1.2.1,(o.1.2.2.1,(o.1.2.2.2.1,(o.1.2.2.2.2.1,()))))),())
           else
           bF ((dW q).q286 e.1.1 e.1.2.1 e.1.2.2.1 e.1.2.2.2.1 e.1.2.2.2.2.1) fun o=>
            a6 ((o.1.1,(o.1.2.1,(o.1.2.2.1,(o.1.2.2.2.1,(o.1.2.2.2.2.1,()))))),())) (fun b6=>
         a7)
      else
      bF ((dW q).q286 i.1.1 i.1.2.1 i.1.2.2.1 i.1.2.2.2.1 i.1.2.2.2.2.1) fun E=>
       a6 ((E.1.1,(E.1.2.1,(E.1.2.2.1,(E.1.2.2.2.1,(E.1.2.2.2.2.1,()))))),()))=a6 (PR F s (l++m) u d,())/\
   (bF (nP F (iO F) l (a:Int) u d [59]) fun x=>
   bif x.2.1 then
    bF (rP x.1.1 x.1.2.1 x.1.2.2.1 (bZ .i64 x.1.2.2.2.1 1) x.1.2.2.2.2.1 x.1.2.2.2.2.2.1) fun j=>
     bF ((gz q').q247 j.1.1 j.1.2.1 j.1.2.2.1 j.1.2.2.2.1 j.1.2.2.2.2.1 j.1.2.2.2.2.2.1) fun f=>
      a6 ((f.1.1,(f.1.2.1,(f.1.2.2.1,(f.1.2.2.2.1,(f.1.2.2.2.2.1,(f.1.2.2.2.2.2.1,())))))),())
   else
   bF (rP x.1.1 x.1.2.1 x.1.2.2.1 x.1.2.2.2.1 x.1.2.2.2.2.1 x.1.2.2.2.2.2.1) fun j=>
    bF (nP j.1.1 j.1.2.1 j.1.2.2.1 j.1.2.2.2.1 j.1.2.2.2.2.1 j.1.2.2.2.2.2.1 [107]) fun f=>
     bif f.2.1 then
      bF (FT (gz q') bJ f.1.1 f.1.2.1 (bZ .i64 f.1.2.2.2.1 1) f.1.2.2.2.2.1 f.1.2.2.2.2.2.1 f.1.2.2.1) fun i=>
       dL i (fun I=>
        bF (nP I.2.2.1.1 I.2.2.1.2.1 I.2.2.2.1 I.2.2.1.2.2.1 I.2.2.1.2.2.2.1 I.2.2.1.2.2.2.2.1 [59]) fun y=>
         bif y.2.1 then
          bF (rP y.1.1 y.1.2.1 y.1.2.2.1 (bZ .i64 y.1.2.2.2.1 1) y.1.2.2.2.2.1 y.1.2.2.2.2.2.1) fun g=>
           bF ((gz q').q247 g.1.1 g.1.2.1 g.1.2.2.1 g.1.2.2.2.1 g.1.2.2.2.2.1 g.1.2.2.2.2.2.1) fun e=>
            a6 ((e.1.1,(e.1.2.1,(e.1.2.2.1,(e.1.2.2.2.1,(e.1.2.2.2.2.1,(e.1.2.2.2.2.2.1,())))))),())
         else
         bF (rP y.1.1 y.1.2.1 y.1.2.2.1 y.1.2.2.2.1 y.1.2.2.2.2.1 y.1.2.2.2.2.2.1) fun g=>
          bif(bT g.2.1 0)then
           bF (uA g.1.1 g.1.2.1 g.1.2.2.1 g.1.2.2.2.1 g.1.2.2.2.2.1 g.1.2.2.2.2.2.1) fun e=>
            bF ((gz q').q247 e.1.1 e.1.2.1 e.1.2.2.1 e.1.2.2.2.1 e.1.2.2.2.2.1 e.1.2.2.2.2.2.1) fun o=>
             a6 ((o.1.1,(o.1.2.1,(o.1.2.2.1,(o.1.2.2.2.1,(o.1.2.2.2.2.1,(o.1.2.2.2.2.2.1,())))))),())
          else
          bF ((gz q').q247 g.1.1 g.1.2.1 g.1.2.2.1 g.1.2.2.2.1 g.1.2.2.2.2.1 g.1.2.2.2.2.2.1) fun e=>
           a6 ((e.1.1,(e.1.2.1,(e.1.2.2.1,(e.1.2.2.2.1,(e.1.2.2.2.2.1,(e.1.2.2.2.2.2.1,())))))),())) (fun b5=>
        a7)
     else
     bF ((gz q').q247 f.1.1 f.1.2.1 f.1.2.2.1 f.1.2.2.2.1 f.1.2.2.2.2.1 f.1.2.2.2.2.2.1) fun i=>
      a6 ((i.1.1,(i.1.2.1,(i.1.2.2.1,(i.1.2.2.2.1,(i.1.2.2.2.2.1,(i.1.2.2.2.2.2.1,())))))),()))=a6 (RR F s (l++m) u d,())/\a<=s/\s<=F.length/\m.length<=16*(s-a)+4/\Tr F a s u l.length m:=by
 obtain⟨O,p2,G,J⟩:=hp;have ab:=hF.len;rw[mV hF a l u d (by omega) [59] rfl,je a l u d [59] (by simp),bD,bD];simp only;cases hb:fD F a [59]with
 |true=>
  have U:=gW hb;rw[nG hb];simp only[aa];have V:=xG (F:=F) (a+1);have S:=yI (F:=F) (a:=a+1) (by omega);rw[dh,show(a:Int)+1=((a+1:Nat):Int) by omega,nM hF (a+1) l u d (by omega),mG hF (a+1) l u d (by omega),bD,bD];simp only;obtain⟨s,m,z,A,M,B,D⟩:=E5 hF h (ln F (a+1)) l u d q q' (by omega) (by omega) (by omega) ⟨S,by omega,G,J⟩;rw[z,A,bD,bD];exact⟨s,m,rfl,rfl,by omega,B,by omega,D.2.wide (by omega) (ae _)⟩
 |false=>
  rw[xU hb];simp only[ac];have V:=xG (F:=F) a;have S:=yI (F:=F) O;rw[nM hF a l u d O,mG hF a l u d O,bD,bD];simp only;rw[mV hF (ln F a) l u d (by omega) [107] rfl,je (ln F a) l u d [107] (by simp),bD,bD];simp only;cases hb2:fD F (ln F a) [107]with
  |false=>
   rw[xU hb2];simp only[ac];obtain⟨s,m,z,A,M,B,D⟩:=E5 hF h (ln F a) l u d q q' (by omega) (by omega) (by omega) ⟨S,by omega,G,J⟩;rw[z,A,bD,bD];exact⟨s,m,rfl,rfl,by omega,B,by omega,D.2.wide (by omega) (ae _)⟩
  |true=>
   have U:=gW hb2;rw[nG hb2];simp only[aa];obtain⟨p,v,g1,g2,g3,g4,g5⟩:=UW hF (q:=dW q) (q':=gz q') u d ⟨G,J⟩ bJ (ln F a+1) l (dH) (by omega) (by omega);rw[dh,show((ln F a:Nat):Int)+1=((ln F a+1:Nat):Int) by omega,g1,g2,bD,bD];simp only[dL];have hL:(l++v).length<=16*p+90:=by grind
   rw[mV hF p (l++v) u d (by omega) [59] rfl,je p (l++v) u d [59] (by simp),bD,bD];simp only;cases hb3:fD F p [59]with
   |true=>
    have ad:=gW hb3;rw[nG hb3];simp only[aa,ay,ac];have W:=xG (F:=F) (p+1);have N:=yI (F:=F) (a:=p+1) (by omega);rw[dh,show(p:Int)+1=((p+1:Nat):Int) by omega,nM hF (p+1) (l++v) u d (by omega),mG hF (p+1) (l++v) u d (by omega),bD,bD];simp only;obtain⟨s,m,z,A,M,B,D⟩:=E5 hF h (ln F (p+1)) (l++v) u d q q' (by omega) (by omega) (by omega) ⟨N,by omega,G,J⟩;rw[z,A,bD,bD];refine⟨s,v++m, ?_,by simp,by omega,B,by grind,(g5.2.wide (by omega) (ae _)).ap D.2⟩;simp
   |false=>
    rw[xU hb3];simp only[aB,aa,ac];have W:=xG (F:=F) p;have N:=yI (F:=F) g4;rw[nM hF p (l++v) u d g4,mG hF p (l++v) u d g4,bD,bD];simp only;cases hb4:fD F p [110]with
    |true=>
     rw[aBU hb4];simp only[ay,ac];obtain⟨s,m,z,A,M,B,D⟩:=E5 hF h (ln F p) (l++v) u d q q' (by omega) (by omega) (by omega) ⟨N,by omega,G,J⟩;rw[z,A,bD,bD];exact⟨s,v++m,by simp,by simp,by omega,B,by grind,(g5.2.wide (by omega) (ae _)).ap D.2⟩
    |false=>
     rw[aG4 hb4];simp only[aB,aa];rw[ny (ln F p) (l++v) u d (by omega),xI (ln F p) (l++v) u d (by omega) G (by omega),bD,bD];simp only;obtain⟨s,m,z,A,M,B,D⟩:=E5 hF h (ln F p) (l++v++[(18,((ln F p:Nat):Int),((ln F p:Nat):Int),u,())]) u d q q' (by omega) (by omega) (by omega) ⟨N,by grind,G,J⟩;rw[z,A,bD,bD];exact⟨s,v++[(18,((ln F p:Nat):Int),((ln F p:Nat):Int),u,())]++m,by simp,by simp,by omega,B,by grind,((g5.2.wide (by omega) (ae _)).apA fun _=>Tr.mis (ae (ln F p)) (ae _)).ap D.2⟩
theorem av2 {k:Nat} (h:All F k) (a:Nat) (l:List Nd) (u d:Int) (r j:Nat) (E:16*(F.length-a)+13<k) (G:k+2<=r) (I:k+2<=j) (hp:Ja F a l d 101):
  ∃(e:Nat) (m:List Nd),(dW r).q276 F (a:Int) l u d=a6 (PR F e (l++m) u d,())/\
   (gz j).q248 F (iO F) l (a:Int) u d=a6 (RR F e (l++m) u d,())/\a<=e/\e<=F.length/\m.length<=16*(e-a)+5/\Tr F a e u l.length m:=by
 obtain⟨y,J,f,x⟩:=hp;have K:=hF.len;obtain⟨q,rfl⟩: ∃q,r=q+1:=⟨r-1,by omega⟩;obtain⟨g,rfl⟩: ∃g,j=g+1:=⟨j-1,by omega⟩;obtain⟨o,p,L,M,N,s,v⟩:=acP hF h a (l++[(18,(a:Int),(a:Int),u,())]) u d q g (by omega) (by omega) (by omega) ⟨y,by simp_all,f,x⟩;show ∃(e:Nat) (m:List Nd),aqN (dW q) F (a:Int) l u d=_/\aqH (gz g) F (iO F) l (a:Int) u d=_/\_
 (rewrite [aqN,aqH];delta Pi JA Jz;rw[AC a l u d,bD])
 simp only;by_cases hlt:a<F.length
 .rw[bU (b:=iq (a:Int) (bG F)) (eQ (by rw[bI];omega))];simp only[show gm F (a:Int)=true from dU,aa];rw[AO hlt];by_cases h6:F[a].1=6
  .have i:BQ F a=true:=by simp_all [BQ]
   rw[bU (b:=bT F[a].1 6) (fO h6),i];simp only[aa];rw[Oe (by have:=hF.txt _ (aJ hlt);omega),xB (by have:=hF.txt _ (aJ hlt);omega),bD,bD];simp only;cases decide (nl F[a].2.1≠0/\nl F[a].2.1=F[a].2.1.length)with
   |true=>
    simp only[aa];rw[Iy a l u d 7 (by omega) (by omega),Ov a l u d (by omega) (by omega) rfl (by omega) (by omega) f (by omega),bD,bD];obtain⟨z,A,O,S,U,B,D⟩:=acP hF h (a+1) (l++[(7,(a:Int),((a+1:Nat):Int),u,())]) u d q g (by omega) (by omega) (by omega) ⟨by omega,by grind,f,x⟩;exact⟨z,[(7,(a:Int),((a+1:Nat):Int),u,())]++A,by simp_all,by simp_all,by omega,B,by grind,(Tr.lf (ae a) (ae _) (by omega) (fun _=>⟨hlt,h6⟩)).ap D.2⟩
   |false=>
    simp only[ac];rw[ny a l u d (by omega),xI a l u d (by omega) f (by omega),bD,bD];exact⟨o,[(18,(a:Int),(a:Int),u,())]++p,by simp_all,by simp_all,by omega,s,by simp_all,(Tr.mis (ae a) (ae a)).ap v.2⟩
  .have i:BQ F a=false:=by simp_all [BQ]
   rw[dG (b:=bT F[a].1 6) (dR h6),i];simp only[ac];rw[ny a l u d (by omega),xI a l u d (by omega) f (by omega),bD,bD];exact⟨o,[(18,(a:Int),(a:Int),u,())]++p,by simp_all,by simp_all,by omega,s,by simp_all,(Tr.mis (ae a) (ae a)).ap v.2⟩
 .have i:BQ F a=false:=by unfold BQ;rw[dif_neg hlt]
  rw[dG (b:=iq (a:Int) (bG F)) (gK (by rw[bI];omega)),i];simp only[ac];rw[ny a l u d (by omega),xI a l u d (by omega) f (by omega),bD,bD];exact⟨o,[(18,(a:Int),(a:Int),u,())]++p,by simp_all,by simp_all,by omega,s,by simp_all,(Tr.mis (ae a) (ae a)).ap v.2⟩
end
section
open Bool renaming false_eq_true → ah
open List renaming append_assoc → ag, append_nil → aV
open Nat renaming le_refl → ae
open Go.RowKit
variable {F:List Lf} (hF:U2 F)
include hF
omit hF in
theorem NK (a:Nat):a<=Dw F a/\(a<=F.length->Dw F a<=F.length)/\(BQ F a=true->Dw F a=a+1):=by
 unfold Dw;cases h:BQ F a with
 |true=>have:=Yz h;grind
 |false=>simp
theorem abY {q:ed} {q':iR} (u d v:Int) (hd:0<=d/\d<=200): ∀(N a:Nat) (L:List Nd),F.length-a<N->a<=F.length->L.length<=16*a+200->
  ∃(e:Nat) (m:List Nd),J9 q N F (a:Int) u d L=some (.inl ((),((),()),((F,(e:Int),u,d,()),L++m,())))/\
   uD q' N v F (iO F) (a:Int) u d L=some (.inl ((v,()),((),()),((F,iO F,(e:Int),u,d,()),L++m,())))/\a<=e/\e<=F.length/\m.length<=e-a/\Tr F a e u L.length m
 |0,a,L,f,_,_=>by omega
 |N+1,a,L,f,g,j=>by
  have l:=hF.len;rw[J9,QC,uD,Lh,mV hF a L u d (by omega) [124] rfl,je a L u d [124] (by simp),bD,bD];simp only;cases hb:fD F a [124]with
  |false=>
   rw[xU hb];exact⟨a,[],by simp,by simp,ae _,g,by simp,.nil (ae _)⟩
  |true=>
   have o:=gW hb;rw[nG hb];simp only[aa];rw[dh,show(a:Int)+1=((a+1:Nat):Int) by omega];obtain⟨p,h,_⟩:=NK (F:=F) (a+1);have i:=h (by omega);rw[UV (a+1) L u d (by omega) (by omega),abT (a+1) L u d (by omega) (by omega) hd.1 (by omega),bD,bD];simp only[I7];obtain⟨e,m,g1,g2,g3,g4,g5⟩:=abY u d v hd N (Dw F (a+1)) (L++[NL F (a+1) u]) (by omega) i (by grind);exact⟨e,[NL F (a+1) u]++m,by rw[g1,ag],by rw[g2,ag],by omega,g4,by grind,(UT (by omega) (ae _)).ap g5.2⟩
theorem awG {k:Nat} (h:All F k) (a:Nat) (L:List Nd) (u d:Int) (q q':Nat) (hm:16*(F.length-a)+13<k) (hr:k+1<=q) (N:k<=q') (hp:Ja F a L d 104) (ab:fD F a [40]=true\/BQ F a=true):
  ∃(g:Nat) (m:List Nd),(dW q).q287 F (a:Int) (bM L [opn 15 a u]) (bG L) d=some (PR F g (bM L [opn 15 a u]++m) (bG L) d,())/\
   (∀{z:Type} (K:(List Lf×List UInt8×List Nd×Int×Int×Int×Unit)×Unit->Option z) (B:Option z),
    (bF (Dz F (iO F) L (a:Int) u d 15) fun x=>
     bF (nP x.1.1 x.1.2.1 x.1.2.2.1 x.1.2.2.2.1 x.1.2.2.2.2.1 x.1.2.2.2.2.2.1 [40]) fun v=>
      bif v.2.1 then
       bF (xx v.1.1 v.1.2.1 v.1.2.2.1 (bZ .i64 v.1.2.2.2.1 1) v.1.2.2.2.2.1 v.1.2.2.2.2.2.1) fun j=>
        bF (uD (gz q') bJ x.2.1 j.1.1 j.1.2.1 j.1.2.2.2.1 j.1.2.2.2.2.1 j.1.2.2.2.2.2.1 j.1.2.2.1) fun A=>
         dL A (fun i=>
          bF (mW i.2.2.1.1 i.2.2.1.2.1 i.2.2.2.1 i.2.2.1.2.2.1 i.2.2.1.2.2.2.1 i.2.2.1.2.2.2.2.1 [41]) fun l=>
           bF (rP l.1.1 l.1.2.1 l.1.2.2.1 l.1.2.2.2.1 l.1.2.2.2.2.1 l.1.2.2.2.2.2.1) fun o=>
            bF (OY o.1.1 o.1.2.1 o.1.2.2.1 o.1.2.2.2.1 o.1.2.2.2.2.1 o.1.2.2.2.2.2.1) fun f=>
             bif f.2.1 then
              bF ((gz q').q36 f.1.1 f.1.2.1 f.1.2.2.1 f.1.2.2.2.1 f.1.2.2.2.2.1 f.1.2.2.2.2.2.1) fun p=>
               bF (pz p.1.1 p.1.2.1 p.1.2.2.1 p.1.2.2.2.1 p.1.2.2.2.2.1 p.1.2.2.2.2.2.1 i.1.1) K
             else
             bF (pz f.1.1 f.1.2.1 f.1.2.2.1 f.1.2.2.2.1 f.1.2.2.2.2.1 f.1.2.2.2.2.2.1 i.1.1) K) (fun G=>B)
      else
      bF (xx v.1.1 v.1.2.1 v.1.2.2.1 v.1.2.2.2.1 v.1.2.2.2.2.1 v.1.2.2.2.2.2.1) fun j=>
       bF (uD (gz q') bJ x.2.1 j.1.1 j.1.2.1 j.1.2.2.2.1 j.1.2.2.2.2.1 j.1.2.2.2.2.2.1 j.1.2.2.1) fun A=>
        dL A (fun i=>
         bF (mW i.2.2.1.1 i.2.2.1.2.1 i.2.2.2.1 i.2.2.1.2.2.1 i.2.2.1.2.2.2.1 i.2.2.1.2.2.2.2.1 [41]) fun l=>
          bF (rP l.1.1 l.1.2.1 l.1.2.2.1 l.1.2.2.2.1 l.1.2.2.2.2.1 l.1.2.2.2.2.2.1) fun o=>
           bF (OY o.1.1 o.1.2.1 o.1.2.2.1 o.1.2.2.2.1 o.1.2.2.2.2.1 o.1.2.2.2.2.2.1) fun f=>
            bif f.2.1 then
             bF ((gz q').q36 f.1.1 f.1.2.1 f.1.2.2.1 f.1.2.2.2.1 f.1.2.2.2.2.1 f.1.2.2.2.2.2.1) fun p=>
              bF (pz p.1.1 p.1.2.1 p.1.2.2.1 p.1.2.2.2.1 p.1.2.2.2.2.1 p.1.2.2.2.2.2.1 i.1.1) K
            else
            bF (pz f.1.1 f.1.2.1 f.1.2.2.1 f.1.2.2.2.1 f.1.2.2.2.2.1 f.1.2.2.2.2.2.1 i.1.1) K) (fun G=>B))=K (RR F g (L++(15,(a:Int),(g:Int),u,())::m) u d,()))/\a<g/\g<=F.length/\m.length+4<=16*(g-a)/\Tr F a g (bG L) (L.length+1) m:=by
 obtain⟨p1,p2,y,I⟩:=hp;have ad:=hF.len;obtain⟨q,rfl⟩: ∃O,q=O+1:=⟨q-1,by omega⟩;have J:(bM L [opn 15 a u]).length=L.length+1:=by unfold bM;simp
 have M:bM L [opn 15 a u]=L++[(15,(a:Int),0,u,())]:=rfl;have S:a<=tk F a [40]/\tk F a [40]<=F.length:=by
  unfold tk;split
  .rename_i D;have:=gW D;omega
  .omega
 obtain⟨w1,U,w3⟩:=NK (F:=F) (tk F a [40]);have V:=U S.2;have af:a+1<=Dw F (tk F a [40]):=by
  cases D:fD F a [40]with
  |true=>simp_all [nG]
  |false=>
   grind
 obtain⟨e,s,g1,g2,g3,g4,g5⟩:=abY hF (q:=dW q) (q':=gz q') (bG L) d u ⟨y,I⟩ bJ (Dw F (tk F a [40])) (bM L [opn 15 a u]++[NL F (tk F a [40]) (bG L)]) (dH) V (by grind);obtain⟨x1,W⟩:=H8 (F:=F) e [41];have E:=W g4;have x4:=ug (F:=F) e [41] (bG L);have ai:=xG (F:=F) (ql F e [41]);have X:=yI (F:=F) E;have hM:(bM L [opn 15 a u]++[NL F (tk F a [40]) (bG L)]++s++uS F e [41] (bG L)).length<=L.length+3+(e-Dw F (tk F a [40])):=by
  grind
 have aj: ∀(g:Nat) (m:List Nd) {z:Type} (K:(List Lf×List UInt8×List Nd×Int×Int×Int×Unit)×Unit->Option z),bF (pz F (iO F) (bM L [opn 15 a u]++m) (g:Int) (bG L) d u) K=K (RR F g (L++(15,(a:Int),(g:Int),u,())::m) u d,()):=fun g m z K=>by
  rw[M,show bG L=((L.length:Nat):Int) from rfl,uZ g _ u d L.length (by simp) (oK L _ 15 _ _) (by omega) (by omega) y (by omega),bD];simp only[oG,show jv 15=false from rfl,ah,if_false]
 have Y: ∃(g:Nat) (m:List Nd),∃(ak:qx F (ln F (ql F e [41])) d=true->(dW q).q108 F ((ln F (ql F e [41]):Nat):Int) (bM (bM L [opn 15 a u]++[NL F (tk F a [40]) (bG L)]++s++uS F e [41] (bG L)) [opn 2 (ln F (ql F e [41])) (bG L)]) (bG (bM L [opn 15 a u]++[NL F (tk F a [40]) (bG L)]++s++uS F e [41] (bG L))) d=some (PR F g (bM (bM L [opn 15 a u]++[NL F (tk F a [40]) (bG L)]++s++uS F e [41] (bG L)) [opn 2 (ln F (ql F e [41])) (bG L)]++m) (bG (bM L [opn 15 a u]++[NL F (tk F a [40]) (bG L)]++s++uS F e [41] (bG L))) d,())/\
   (gz q').q36 F (iO F) (bM L [opn 15 a u]++[NL F (tk F a [40]) (bG L)]++s++uS F e [41] (bG L)) ((ln F (ql F e [41]):Nat):Int) (bG L) d=some (RR F g ((bM L [opn 15 a u]++[NL F (tk F a [40]) (bG L)]++s++uS F e [41] (bG L))++(2,((ln F (ql F e [41]):Nat):Int),(g:Int),(bG L),())::m) (bG L) d,())),
   ln F (ql F e [41])<=g/\g<=F.length/\(qx F (ln F (ql F e [41])) d=true->m.length+1<=16*(g-ln F (ql F e [41])))/\(qx F (ln F (ql F e [41])) d=false->g=ln F (ql F e [41]))/\(qx F (ln F (ql F e [41])) d=true->Tr F (ln F (ql F e [41])) g (bG (bM L [opn 15 a u]++[NL F (tk F a [40]) (bG L)]++s++uS F e [41] (bG L))) ((bM L [opn 15 a u]++[NL F (tk F a [40]) (bG L)]++s++uS F e [41] (bG L)).length+1) m):=by
  cases hb:qx F (ln F (ql F e [41])) d with
  |true=>
   obtain⟨g,m,e1,e2,e3,e4,e5⟩:=h.list (ln F (ql F e [41])) (bM L [opn 15 a u]++[NL F (tk F a [40]) (bG L)]++s++uS F e [41] (bG L)) (bG L) d q q' (by omega) (by omega) N ⟨X,by omega,y,I⟩ hb
   grind
  |false=>simp_all
 obtain⟨g,m,f1,f2,Z,f4,f5,f6⟩:=Y;refine⟨g,[NL F (tk F a [40]) (bG L)]++s++uS F e [41] (bG L)++(if qx F (ln F (ql F e [41])) d=true then(2,((ln F (ql F e [41]):Nat):Int),(g:Int),(bG L),())::m else []), ?_,fun K B=> ?_,by omega,Z, ?_⟩
 .show aqR (dW q) F (a:Int) _ _ d=_;rw[aqR,mV hF a _ (bG L) d (by omega) [40] rfl,bD];simp only;rw[UV (tk F a [40]) _ _ d (by omega) (by rw[J];omega),bD];simp only[I7];rw[g1,bD];simp only[dL];rw[Ad hF e _ (bG L) d (by omega) (by grind) [41] rfl,bD];simp only[lX];rw[nM hF (ql F e [41]) _ (bG L) d E,bD];simp only;rw[CQ hF (ln F (ql F e [41])) _ (bG L) d (by omega),bD];simp only;cases hb:qx F (ln F (ql F e [41])) d with
  |true=>
   have n1:=(kX (bM L [opn 15 a u]++[NL F (tk F a [40]) (bG L)]++s++uS F e [41] (bG L)) (opn 2 (ln F (ql F e [41])) (bG L)) (by omega)).1;obtain⟨c1,c2⟩:=qw (bM L [opn 15 a u]++[NL F (tk F a [40]) (bG L)]++s++uS F e [41] (bG L)) m (opn 2 (ln F (ql F e [41])) (bG L));simp_all [eH,bD,lK]
  |false=>
   simp_all
 .rw[lI a L u d (by omega) (by omega) (by omega) y (by omega),bD];simp only[show jv 15=false from rfl,ah,if_false];rw[show((L.length:Nat):Int)=bG L from rfl,<-M,je a _ (bG L) d [40] (by simp),bD];simp only;have al: ∀(b:Nat),b=tk F a [40]->(bF (xx F (iO F) (bM L [opn 15 a u]) (b:Int) (bG L) d) fun j=>
        bF (uD (gz q') bJ u j.1.1 j.1.2.1 j.1.2.2.2.1 j.1.2.2.2.2.1 j.1.2.2.2.2.2.1 j.1.2.2.1) fun A=>
         dL A (fun i=>
          bF (mW i.2.2.1.1 i.2.2.1.2.1 i.2.2.2.1 i.2.2.1.2.2.1 i.2.2.1.2.2.2.1 i.2.2.1.2.2.2.2.1 [41]) fun l=>
           bF (rP l.1.1 l.1.2.1 l.1.2.2.1 l.1.2.2.2.1 l.1.2.2.2.2.1 l.1.2.2.2.2.2.1) fun o=>
            bF (OY o.1.1 o.1.2.1 o.1.2.2.1 o.1.2.2.2.1 o.1.2.2.2.2.1 o.1.2.2.2.2.2.1) fun f=>
             bif f.2.1 then
              bF ((gz q').q36 f.1.1 f.1.2.1 f.1.2.2.1 f.1.2.2.2.1 f.1.2.2.2.2.1 f.1.2.2.2.2.2.1) fun p=>
               bF (pz p.1.1 p.1.2.1 p.1.2.2.1 p.1.2.2.2.1 p.1.2.2.2.2.1 p.1.2.2.2.2.2.1 i.1.1) K
             else
             bF (pz f.1.1 f.1.2.1 f.1.2.2.1 f.1.2.2.2.1 f.1.2.2.2.2.1 f.1.2.2.2.2.2.1 i.1.1) K) (fun G=>B))=K (RR F g (L++(15,(a:Int),(g:Int),u,())::([NL F (tk F a [40]) (bG L)]++s++uS F e [41] (bG L)++(if qx F (ln F (ql F e [41])) d=true then(2,((ln F (ql F e [41]):Nat):Int),(g:Int),(bG L),())::m else []))) u d,()):=by
   rintro b rfl;rw[abT (tk F a [40]) _ _ d (by omega) (by rw[J];omega) y (by omega),bD];simp only[I7];rw[g2,bD];simp only[dL];rw[Ae e _ (bG L) d (by omega) (by grind) y (by omega) [41] (by simp),bD];simp only[lX];rw[mG hF (ql F e [41]) _ (bG L) d E,bD];simp only;rw[Ia (ln F (ql F e [41])) _ (bG L) d (by omega),bD];simp only;cases hb:qx F (ln F (ql F e [41])) d with
   |true=>
    simp_all [bD]
   |false=>
    simp_all
  cases D:fD F a [40]with
  |true=>
   simp only[aa]
   grind [dh,nG]
  |false=>
   simp_all [xU]
 .cases hb:qx F (ln F (ql F e [41])) d with
  |true=>
   have:=f4 hb;rw[am rfl];exact⟨by grind,(((UT (by omega) (ae _)).ap g5.2).apA fun _=>xY (ae e) (ae _)).ap (Tr.one (f6 hb) (ae _) (ae _) (by omega) rfl)⟩
  |false=>
   have:=f5 hb;rw[aq (by simp),aV];exact⟨by grind,((UT (by omega) (ae _)).ap g5.2).apA fun _=>xY (ae e) (by omega)⟩
end
section
open Bool renaming not_true → ay, not_false → aB
open List renaming length_append → ai
open Nat renaming le_refl → ae
open Go.RowKit
variable {F:List Lf} (hF:U2 F)
include hF
theorem Rh {k:Nat} (h:All F k) {q q':Nat} (z:k+1<=q) (A:k<=q') (u d:Int) (hd:0<=d/\d<=200): ∀(N o a:Nat) (L:List Nd),F.length-a<N->F.length-a+1<o->a<=F.length->16*(F.length-a)+13<k->L.length<=16*a+104->
  ∃(f:Nat) (m:List Nd),FY (dW q) N F (a:Int) u d L=some (.inl ((),((),()),((F,(f:Int),u,d,()),L++m,())))/\
   yL (gz q') o true F (iO F) (a:Int) u d L=some (.inl ((),((),()),((F,iO F,(f:Int),u,d,()),L++m,())))/\a<=f/\f<=F.length/\m.length<=16*(f-a)/\Tr F a f u L.length m
 |0,_,a,L,x,_,_,_,_=>by omega
 |N+1,0,a,L,_,x,_,_,_=>by omega
 |N+1,1,a,L,_,x,_,_,_=>by omega
 |N+1,o+2,a,L,x,V,B,W,G=>by
  have X:=hF.len
  (rewrite [FY,QB,yL,Lj];delta sN;rw[XV hF a L u d (by omega) [40] rfl,je a L u d [40] (by simp),bD,aa,bD])
  simp only;have Y:bT ((DD F a).toNat:Int) 122=fD F a [122]:=WZ a 122 (by decide);by_cases hgo:fD F a [40]=true\/(BQ F a=true/\fD F a [122]=false)
  .obtain⟨e,l,Z,e2,e3,I,D⟩:=awG hF h a L u d q q' (by omega) z A ⟨B,G,hd.1,hd.2⟩ (hgo.imp id And.left);obtain⟨n1,_,_⟩:=kX L (opn 15 a u) (by omega);obtain⟨c1,c2⟩:=qw L l (opn 15 a u);have ab:(L++(15,(a:Int),(e:Int),u,())::l).length<=16*e+104:=by grind
   have J: ∃(f:Nat) (m:List Nd),(bF (lD F (e:Int) (L++(15,(a:Int),(e:Int),u,())::l) u d [121]) fun j=>
      bif(!j.2.1)then
       some (.inl ((),((),()),((j.1.1,j.1.2.1,j.1.2.2.2.1,j.1.2.2.2.2.1,()),j.1.2.2.1,())))
      else
      bF (pq j.1.1 j.1.2.1 j.1.2.2.1 j.1.2.2.2.1 j.1.2.2.2.2.1) fun s=>
       FY (dW q) N s.1.1 s.1.2.1 s.1.2.2.2.1 s.1.2.2.2.2.1 s.1.2.2.1)=some (.inl ((),((),()),((F,(f:Int),u,d,()),L++m,())))/\
     (bF (nP F (iO F) (L++(15,(a:Int),(e:Int),u,())::l) (e:Int) u d [121]) fun i=>
      bif i.2.1 then
       bF (rP i.1.1 i.1.2.1 i.1.2.2.1 (bZ .i64 i.1.2.2.2.1 1) i.1.2.2.2.2.1 i.1.2.2.2.2.2.1) fun p=>
        yL (gz q') (o+1) i.2.1 p.1.1 p.1.2.1 p.1.2.2.2.1 p.1.2.2.2.2.1 p.1.2.2.2.2.2.1 p.1.2.2.1
      else
      yL (gz q') (o+1) i.2.1 i.1.1 i.1.2.1 i.1.2.2.2.1 i.1.2.2.2.2.1 i.1.2.2.2.2.2.1 i.1.2.2.1)=some (.inl ((),((),()),((F,iO F,(f:Int),u,d,()),L++m,())))/\a<=f/\f<=F.length/\m.length<=16*(f-a)/\Tr F a f u L.length m:=by
    rw[mV hF e _ u d (by omega) [121] rfl,je e _ u d [121] (by simp),bD,bD];simp only;cases hb:fD F e [121]with
    |false=>
     rw[xU hb];simp only[aB,aa,ac]
     (rewrite [yL,Lj];delta sN;rw[ac])
     exact⟨e,(15,(a:Int),(e:Int),u,())::l,rfl,rfl,by omega,I,by grind,D.2.one (ae _) (ae _) (by omega) rfl⟩
    |true=>
     have v:=gW hb;rw[nG hb];simp only[ay,aa,ac];have ad:=xG (F:=F) (e+1);have K:=yI (F:=F) (a:=e+1) (by omega);rw[dh,show(e:Int)+1=((e+1:Nat):Int) by omega,nM hF (e+1) _ u d (by omega),mG hF (e+1) _ u d (by omega),bD,bD];simp only;obtain⟨f,m,g1,g2,g3,g4,g5⟩:=Rh h z A u d hd N (o+1) (ln F (e+1)) (L++(15,(a:Int),(e:Int),u,())::l) (by omega) (by omega) K (by omega) (by omega);exact⟨f,((15,(a:Int),(e:Int),u,())::l)++m,by simp_all,by simp_all,by omega,g4,by grind,(D.2.one (ae _) (ae _) (by omega) rfl).app g5.2 (by omega) (ai ..)⟩
   obtain⟨f,m,s1,s2,M,O,S⟩:=J;refine⟨f,m, ?_, ?_,M,O,S⟩
   .cases y:fD F a [40]with
    |true=>
     simp_all [eH,bD,lK]
    |false=>
     rcases hgo with g|⟨g1,g2⟩
     .simp_all
     .rw[AC a L u d,g1];simp only[ac,aa,bD];rw[oO hF a L u d (by omega),bD];simp_all [eH,bD,lK]
   .cases y:fD F a [40]with
    |true=>
     simp_all
    |false=>
     rcases hgo with g|⟨g1,g2⟩
     .simp_all
     .have v:=Yz g1;have E:F[a].1=6:=by
       simp_all [BQ]
      rw[ac,bU (b:=iq (a:Int) (bG F)) (eQ (by rw[bI];omega)),bU (b:=gm F (a:Int)) (dU),AO v,bU (b:=bT F[a].1 6) (fO E),je a L u d [122] (by simp),bD,g2];simp_all
  .have y:fD F a [40]=false:=by
    simp_all
   rw[y];simp only[ac];refine⟨a,[], ?_, ?_,ae _,B,by simp,.nil (ae _)⟩
   .rw[AC a L u d,bD];simp only;cases U:BQ F a with
    |false=>simp
    |true=>
     have h2:fD F a [122]=true:=by
      simp_all
     simp only[aa]
     grind [oO,bD]
   .by_cases v:a<F.length
    .rw[bU (b:=iq (a:Int) (bG F)) (eQ (by rw[bI];omega)),bU (b:=gm F (a:Int)) (dU),AO v];by_cases E:F[a].1=6
     .have U:BQ F a=true:=by simp_all [BQ]
      simp_all [je,bD]
     simp_all [dG,dR]
    simp_all [dG,gK,bI]
theorem apy {k:Nat} (h:All F k) (a:Nat) (l:List Nd) (u d:Int) (r i:Nat) (G:16*(F.length-a)+13<k) (I:k+2<=r) (J:k+1<=i) (hp:Ja F a l d 100):
  ∃(e:Nat) (m:List Nd),(dW r).q277 F (a:Int) l u d=some (PR F e (l++m) u d,())/\
   (gz i).q249 F (iO F) l (a:Int) u d=some (RR F e (l++m) u d,())/\a<=e/\e<=F.length/\m.length<=16*(e-a)+3/\Tr F a e u l.length m:=by
 obtain⟨s,K,j,v⟩:=hp;have L:=hF.len;obtain⟨q,rfl⟩: ∃q,r=q+1:=⟨r-1,by omega⟩;obtain⟨g,rfl⟩: ∃g,i=g+1:=⟨i-1,by omega⟩;obtain⟨M,x,N⟩:=NK (F:=F) a;have o:=x s;have O:=xG (F:=F) (Dw F a);have y:=yI (F:=F) o;obtain⟨S,z⟩:=H8 (F:=F) (ln F (Dw F a)) [107];have p:=z y;have U:=ug (F:=F) (ln F (Dw F a)) [107] u;have V:=xG (F:=F) (ql F (ln F (Dw F a)) [107]);have A:=yI (F:=F) p;obtain⟨f,B,g1,g2,g3,g4,g5⟩:=Rh hF h (q:=q) (q':=g) (by omega) (by omega) u d ⟨j,v⟩ bJ bJ (ln F (ql F (ln F (Dw F a)) [107])) (l++[NL F a u]++uS F (ln F (Dw F a)) [107] u) (dH) (dH) A (by omega) (by grind);obtain⟨W,D⟩:=H8 (F:=F) f [122];have E:=D g4;have X:=ug (F:=F) f [122] u;refine⟨ql F f [122],[NL F a u]++uS F (ln F (Dw F a)) [107] u++B++uS F f [122] u, ?_, ?_,by omega,E,by grind,(((UT (ae a) (ae _)).apA fun _=>xY (ae (ln F (Dw F a))) (ae _)).ap g5.2).apA fun _=>xY (ae f) (by omega)⟩
 .show aqO (dW q) F (a:Int) l u d=_;rw[aqO,UV a l u d (by omega) (by omega),bD];simp only[I7];rw[nM hF (Dw F a) _ u d o,bD];simp only;rw[Ad hF (ln F (Dw F a)) _ u d (by omega) (by grind) [107] rfl,bD];simp only[lX];rw[nM hF (ql F (ln F (Dw F a)) [107]) _ u d p,bD];simp only;rw[g1,bD];simp only[dL];rw[Ad hF f _ u d (by omega) (by grind) [122] rfl,bD];simp_all [lX]
 .show aqI (gz g) F (iO F) l (a:Int) u d=_;rw[aqI,abT a l u d (by omega) (by omega) j (by omega),bD];simp only[I7];rw[mG hF (Dw F a) _ u d o,bD];simp only;rw[Ae (ln F (Dw F a)) _ u d (by omega) (by grind) j (by omega) [107] (by simp),bD];simp only[lX];rw[mG hF (ql F (ln F (Dw F a)) [107]) _ u d p,bD]
  grind [bD,dL,Ae,lX]
end
section
open Option renaming some → a6, none → a7
open Bool renaming and_eq_true → af, and_true → ax
open List renaming append_assoc → ag
open Nat renaming le_refl → ae
open Go.RowKit
theorem aBO (q':iR) (F:List Lf) (S:bW) (a u d:Int) (l:List Nd):vP q' bJ 123 9 0 F S a u d l=a6 (.inl ((9,()),((),()),((F,S,a,u,d,()),l,()))):=by kernel_rfl
theorem awM (q':iR) (F:List Lf) (S:bW) (a u d:Int) (l:List Nd):vP q' bJ 40 9 0 F S a u d l=a6 (.inl ((10,()),((),()),((F,S,a,u,d,()),l,()))):=by kernel_rfl
theorem awN (q':iR) (F:List Lf) (S:bW) (a u d:Int) (l:List Nd):vP q' bJ 105 9 0 F S a u d l=a6 (.inl ((11,()),((),()),((F,S,a,u,d,()),l,()))):=by kernel_rfl
theorem awO (q':iR) (F:List Lf) (S:bW) (a u d:Int) (l:List Nd):vP q' bJ 119 9 0 F S a u d l=a6 (.inl ((12,()),((),()),((F,S,a,u,d,()),l,()))):=by kernel_rfl
theorem awP (q':iR) (F:List Lf) (S:bW) (a u d:Int) (l:List Nd):vP q' bJ 114 9 0 F S a u d l=a6 (.inl ((13,()),((),()),((F,S,a,u,d,()),l,()))):=by kernel_rfl
theorem awQ (q':iR) (F:List Lf) (S:bW) (a u d:Int) (l:List Nd):vP q' bJ 99 9 0 F S a u d l=a6 (.inl ((14,()),((),()),((F,S,a,u,d,()),l,()))):=by kernel_rfl
variable {F:List Lf} (hF:U2 F)
include hF
theorem aGe {n:Nat} (h2:All F (n-2)) (a:Nat) (l:List Nd) (u d:Int) (q q':Nat) (M:16*(F.length-a)+8<n+1) (N:n<=q) (O:n<=q') (hp:Ja F a l d 113) (s:a<F.length) (hd:d<200) (i:DD F a=123):
  ∃(e:Nat) (m:List Nd),Aw (dW q) F (a:Int) l u d=a6 (PR F e (l++m) u d,())/\
   Au (gz q') F (iO F) l (a:Int) u d=a6 (RR F e (l++m) u d,())/\a<e/\e<=F.length/\m.length+3<=16*(e-a)/\Tr F a e u l.length m:=by
 obtain⟨S,U,v,V⟩:=hp;have W:=hF.len;obtain⟨f,rfl⟩: ∃f,q=f+1:=⟨q-1,by omega⟩;have j:(bM l [opn 9 a u]).length=l.length+1:=by unfold bM;simp
 have o:bM l [opn 9 a u]=l++[(9,(a:Int),0,u,())]:=rfl;obtain⟨x,_,_⟩:=kX l (opn 9 a u) (by omega);obtain⟨y,g,z,A,X,B,D⟩:=abd hF h2 (a+1) (bM l [opn 9 a u]) (bG l) (d+1) f q' [125] rfl (by simp) (by omega) (by omega) (by omega) ⟨by omega,by rw[j];omega,by omega,by omega⟩;obtain⟨h,p,E,G,Y,I,J⟩:=aD2 hF (q:=dW (f+1)) (q':=gz q') (bG l) (d+1) u (bG l) u 9 9 9 9 ⟨by omega,by omega⟩ y (bM l [opn 9 a u]++g) B (by grind);obtain⟨K,L⟩:=qw l (g++p) (opn 9 a u);refine⟨h,(9,(a:Int),(h:Int),u,())::(g++p), ?_, ?_,by omega,I,by grind,Tr.one (((j▸D.2).wide (by omega) (ae _)).ap J.2) (ae _) (ae _) (by omega) rfl⟩
 .rw[Aw];simp only[eH,gU,ax,aa,bD];rw[oO hF a l u d (by omega),bD];simp only[i,show bT (((123:UInt8).toNat:Nat):Int) 40=false from by kernel_rfl,show bT (((123:UInt8).toNat:Nat):Int) 105=false from by kernel_rfl,show bT (((123:UInt8).toNat:Nat):Int) 119=false from by kernel_rfl,show bT (((123:UInt8).toNat:Nat):Int) 114=false from by kernel_rfl,show bT (((123:UInt8).toNat:Nat):Int) 99=false from by kernel_rfl,aa,ac,x];rw[dh,dh,show(a:Int)+1=((a+1:Nat):Int) by omega];show bF (aqK (dW f) F ((a+1:Nat):Int) _ _ _) _=_;rw[aqK,z,bD];simp only;rw[E,bD];simp only[dL];rw[ag,iy];simp only[K,L,aa,lK,show d+1-1=d by omega]
 ·(rewrite [Au];delta nJ;rw[bU (b:=gm (iO F) (a:Int)) (dU (by omega) (by simp_all)),zZ s,i,show(((123:UInt8).toNat:Nat):Int)=123 from by kernel_rfl,aBO,bD])
  simp only[dL];rw[lI a l u d (by omega) (by omega) (by omega) v (by omega),bD];simp only[show jv 9=true from by kernel_rfl,if_true,show bT (9:Int) 9=true from by kernel_rfl,aa,ac];rw[show((l.length:Nat):Int)=bG l from rfl,<-o,dh,show(a:Int)+1=((a+1:Nat):Int) by omega];refine(A _).trans ?_;simp only;rw[G,bD];simp only[dL];rw[ag,o,show bG l=((l.length:Nat):Int) from rfl,uZ h _ u (d+1) l.length (by simp) (oK l _ 9 _ _) (by omega) (by omega) (by omega) (by omega),bD];simp only[oG,show jv 9=true from by kernel_rfl,if_true,show d+1-1=d by omega]
theorem aBc {n:Nat} (h2:All F (n-2)) (a:Nat) (l:List Nd) (u d:Int) (q q':Nat) (M:16*(F.length-a)+8<n+1) (N:n<=q) (O:n<=q') (hp:Ja F a l d 113) (s:a<F.length) (hd:d<200) (i:DD F a=40):
  ∃(e:Nat) (m:List Nd),Aw (dW q) F (a:Int) l u d=a6 (PR F e (l++m) u d,())/\
   Au (gz q') F (iO F) l (a:Int) u d=a6 (RR F e (l++m) u d,())/\a<e/\e<=F.length/\m.length+3<=16*(e-a)/\Tr F a e u l.length m:=by
 obtain⟨S,U,v,V⟩:=hp;have W:=hF.len;obtain⟨f,rfl⟩: ∃f,q=f+1:=⟨q-1,by omega⟩;have j:(bM l [opn 10 a u]).length=l.length+1:=by unfold bM;simp
 have o:bM l [opn 10 a u]=l++[(10,(a:Int),0,u,())]:=rfl;obtain⟨x,_,_⟩:=kX l (opn 10 a u) (by omega);obtain⟨y,g,z,A,X,B,D⟩:=abd hF h2 (a+1) (bM l [opn 10 a u]) (bG l) (d+1) f q' [41] rfl (by simp) (by omega) (by omega) (by omega) ⟨by omega,by rw[j];omega,by omega,by omega⟩;obtain⟨h,p,E,G,Y,I,J⟩:=aJa hF (q:=dW (f+1)) (q':=gz q') (bG l) (d+1) u (bG l) u 10 10 10 10 ⟨by omega,by omega⟩ y (bM l [opn 10 a u]++g) B (by grind);obtain⟨K,L⟩:=qw l (g++p) (opn 10 a u);refine⟨h,(10,(a:Int),(h:Int),u,())::(g++p), ?_, ?_,by omega,I,by grind,Tr.one (((j▸D.2).wide (by omega) (ae _)).ap J.2) (ae _) (ae _) (by omega) rfl⟩
 .rw[Aw];simp only[eH,gU,ax,aa,bD];rw[oO hF a l u d (by omega),bD];simp only[i,show bT (((40:UInt8).toNat:Nat):Int) 40=true from by kernel_rfl,aa,ac,x];rw[dh,dh,show(a:Int)+1=((a+1:Nat):Int) by omega];show bF (aqL (dW f) F ((a+1:Nat):Int) _ _ _) _=_;rw[aqL,z,bD];simp only;rw[E,bD];simp only[dL];rw[ag,iy];simp only[K,L,aa,lK,show d+1-1=d by omega]
 ·(rewrite [Au];delta nJ;rw[bU (b:=gm (iO F) (a:Int)) (dU (by omega) (by simp_all)),zZ s,i,show(((40:UInt8).toNat:Nat):Int)=40 from by kernel_rfl,awM,bD])
  simp only[dL];rw[lI a l u d (by omega) (by omega) (by omega) v (by omega),bD];simp only[show jv 10=true from by kernel_rfl,if_true,show bT (10:Int) 9=false from by kernel_rfl,show bT (10:Int) 10=true from by kernel_rfl,aa,ac];rw[show((l.length:Nat):Int)=bG l from rfl,<-o,dh,show(a:Int)+1=((a+1:Nat):Int) by omega];refine(A _).trans ?_;simp only;rw[G,bD];simp only[dL];rw[ag,o,show bG l=((l.length:Nat):Int) from rfl,uZ h _ u (d+1) l.length (by simp) (oK l _ 10 _ _) (by omega) (by omega) (by omega) (by omega),bD];simp only[oG,show jv 10=true from by kernel_rfl,if_true,show d+1-1=d by omega]
theorem aBd {n:Nat} (h2:All F (n-2)) (a:Nat) (l:List Nd) (u d:Int) (q q':Nat) (U:16*(F.length-a)+8<n+1) (V:n<=q) (W:n<=q') (hp:Ja F a l d 113) (x:a<F.length) (hd:d<200) (o:DD F a=105):
  ∃(f:Nat) (m:List Nd),Aw (dW q) F (a:Int) l u d=a6 (PR F f (l++m) u d,())/\
   Au (gz q') F (iO F) l (a:Int) u d=a6 (RR F f (l++m) u d,())/\a<f/\f<=F.length/\m.length+3<=16*(f-a)/\Tr F a f u l.length m:=by
 obtain⟨X,Y,z,Z⟩:=hp;have ab:=hF.len;obtain⟨h,rfl⟩: ∃h,q=h+1:=⟨q-1,by omega⟩;have p:(bM l [opn 11 a u]).length=l.length+1:=by unfold bM;simp
 have s:bM l [opn 11 a u]=l++[(11,(a:Int),0,u,())]:=rfl;obtain⟨A,_,_⟩:=kX l (opn 11 a u) (by omega);obtain⟨B,i,D,E,e3,G,I⟩:=aGN hF h2 (a+1) (bM l [opn 11 a u]) (bG l) (d+1) u (h+1) q' (by omega) (by omega) (by omega) ⟨by omega,by rw[p];omega,by omega,by omega⟩;obtain⟨j,v,J,K,f3,L,M⟩:=aDY hF (q:=dW (h+1)) (q':=gz q') (bG l) (d+1) u (bG l) u 11 11 11 11 ⟨by omega,by omega⟩ B (bM l [opn 11 a u]++i) G (by grind);obtain⟨N,O⟩:=qw l (i++v) (opn 11 a u);refine⟨j,(11,(a:Int),(j:Int),u,())::(i++v), ?_, ?_,by omega,L,by grind,Tr.one (((p▸I.2).wide (by omega) (ae _)).ap M.2) (ae _) (ae _) (by omega) rfl⟩
 .rw[Aw];simp only[eH,gU,ax,aa,bD];rw[oO hF a l u d (by omega),bD];simp only[o,show bT (((105:UInt8).toNat:Nat):Int) 40=false from by kernel_rfl,show bT (((105:UInt8).toNat:Nat):Int) 105=true from by kernel_rfl,aa,ac,A];rw[dh,dh,show(a:Int)+1=((a+1:Nat):Int) by omega];rw[D,bD];simp only;rw[J,bD];simp only[dL];rw[ag,iy];simp only[N,O,aa,lK,show d+1-1=d by omega]
 ·(rewrite [Au];delta nJ;rw[bU (b:=gm (iO F) (a:Int)) (dU (by omega) (by simp_all)),zZ x,o,show(((105:UInt8).toNat:Nat):Int)=105 from by kernel_rfl,awN,bD])
  simp only[dL];rw[lI a l u d (by omega) (by omega) (by omega) z (by omega),bD];simp only[show jv 11=true from by kernel_rfl,if_true,show bT (11:Int) 9=false from by kernel_rfl,show bT (11:Int) 10=false from by kernel_rfl,show bT (11:Int) 11=true from by kernel_rfl,aa,ac];rw[show((l.length:Nat):Int)=bG l from rfl,<-s,dh,show(a:Int)+1=((a+1:Nat):Int) by omega];refine(E (fun w y=>bF (jd (gz q') bJ w y.1.1 y.1.2.1 y.1.2.2.2.1 y.1.2.2.2.2.1 y.1.2.2.2.2.2.1 y.1.2.2.1) fun S=>
   dL S (fun e=>
    bF (pz e.2.2.1.1 e.2.2.1.2.1 e.2.2.2.1 e.2.2.1.2.2.1 e.2.2.1.2.2.2.1 e.2.2.1.2.2.2.2.1 e.1.1) fun g=>
     a6 ((g.1.1,(g.1.2.1,(g.1.2.2.1,(g.1.2.2.2.1,(g.1.2.2.2.2.1,(g.1.2.2.2.2.2.1,())))))),())) (fun b6=>a7))).trans ?_
  simp only;rw[K,bD];simp only[dL];rw[ag,s,show bG l=((l.length:Nat):Int) from rfl,uZ j _ u (d+1) l.length (by simp) (oK l _ 11 _ _) (by omega) (by omega) (by omega) (by omega),bD];simp only[oG,show jv 11=true from by kernel_rfl,if_true,show d+1-1=d by omega]
theorem aBe {n:Nat} (h2:All F (n-2)) (a:Nat) (l:List Nd) (u d:Int) (q q':Nat) (M:16*(F.length-a)+8<n+1) (N:n<=q) (O:n<=q') (hp:Ja F a l d 113) (s:a<F.length) (hd:d<200) (i:DD F a=119):
  ∃(e:Nat) (m:List Nd),Aw (dW q) F (a:Int) l u d=a6 (PR F e (l++m) u d,())/\
   Au (gz q') F (iO F) l (a:Int) u d=a6 (RR F e (l++m) u d,())/\a<e/\e<=F.length/\m.length+3<=16*(e-a)/\Tr F a e u l.length m:=by
 obtain⟨S,U,v,V⟩:=hp;have W:=hF.len;obtain⟨f,rfl⟩: ∃f,q=f+1:=⟨q-1,by omega⟩;have j:(bM l [opn 12 a u]).length=l.length+1:=by unfold bM;simp
 have o:bM l [opn 12 a u]=l++[(12,(a:Int),0,u,())]:=rfl;obtain⟨x,_,_⟩:=kX l (opn 12 a u) (by omega);obtain⟨y,g,z,A,X,B,D⟩:=avC hF h2 (a+1) (bM l [opn 12 a u]) (bG l) (d+1) (f+1) q' (by omega) (by omega) (by omega) ⟨by omega,by rw[j];omega,by omega,by omega⟩;obtain⟨h,p,E,G,Y,I,J⟩:=aDZ hF (q:=dW (f+1)) (q':=gz q') (bG l) (d+1) u (bG l) u 12 12 12 12 ⟨by omega,by omega⟩ y (bM l [opn 12 a u]++g) B (by grind);obtain⟨K,L⟩:=qw l (g++p) (opn 12 a u);refine⟨h,(12,(a:Int),(h:Int),u,())::(g++p), ?_, ?_,by omega,I,by grind,Tr.one (((j▸D.2).wide (by omega) (ae _)).ap J.2) (ae _) (ae _) (by omega) rfl⟩
 .rw[Aw];simp only[eH,gU,ax,aa,bD];rw[oO hF a l u d (by omega),bD];simp only[i,show bT (((119:UInt8).toNat:Nat):Int) 40=false from by kernel_rfl,show bT (((119:UInt8).toNat:Nat):Int) 105=false from by kernel_rfl,show bT (((119:UInt8).toNat:Nat):Int) 119=true from by kernel_rfl,aa,ac,x];rw[dh,dh,show(a:Int)+1=((a+1:Nat):Int) by omega];rw[z,bD];simp only;rw[E,bD];simp only[dL];rw[ag,iy];simp only[K,L,aa,lK,show d+1-1=d by omega]
 ·(rewrite [Au];delta nJ;rw[bU (b:=gm (iO F) (a:Int)) (dU (by omega) (by simp_all)),zZ s,i,show(((119:UInt8).toNat:Nat):Int)=119 from by kernel_rfl,awO,bD])
  simp only[dL];rw[lI a l u d (by omega) (by omega) (by omega) v (by omega),bD];simp only[show jv 12=true from by kernel_rfl,if_true,show bT (12:Int) 9=false from by kernel_rfl,show bT (12:Int) 10=false from by kernel_rfl,show bT (12:Int) 11=false from by kernel_rfl,show bT (12:Int) 12=true from by kernel_rfl,aa,ac];rw[show((l.length:Nat):Int)=bG l from rfl,<-o,dh,show(a:Int)+1=((a+1:Nat):Int) by omega];refine(A _).trans ?_;simp only;rw[G,bD];simp only[dL];rw[ag,o,show bG l=((l.length:Nat):Int) from rfl,uZ h _ u (d+1) l.length (by simp) (oK l _ 12 _ _) (by omega) (by omega) (by omega) (by omega),bD];simp only[oG,show jv 12=true from by kernel_rfl,if_true,show d+1-1=d by omega]
theorem aBf {n:Nat} (h2:All F (n-2)) (a:Nat) (l:List Nd) (u d:Int) (q q':Nat) (M:16*(F.length-a)+8<n+1) (N:n<=q) (O:n<=q') (hp:Ja F a l d 113) (s:a<F.length) (hd:d<200) (i:DD F a=114):
  ∃(e:Nat) (m:List Nd),Aw (dW q) F (a:Int) l u d=a6 (PR F e (l++m) u d,())/\
   Au (gz q') F (iO F) l (a:Int) u d=a6 (RR F e (l++m) u d,())/\a<e/\e<=F.length/\m.length+3<=16*(e-a)/\Tr F a e u l.length m:=by
 obtain⟨S,U,v,V⟩:=hp;have W:=hF.len;obtain⟨f,rfl⟩: ∃f,q=f+1:=⟨q-1,by omega⟩;have j:(bM l [opn 13 a u]).length=l.length+1:=by unfold bM;simp
 have o:bM l [opn 13 a u]=l++[(13,(a:Int),0,u,())]:=rfl;obtain⟨x,_,_⟩:=kX l (opn 13 a u) (by omega);obtain⟨y,g,z,A,X,B,D⟩:=av2 hF h2 (a+1) (bM l [opn 13 a u]) (bG l) (d+1) (f+1) q' (by omega) (by omega) (by omega) ⟨by omega,by rw[j];omega,by omega,by omega⟩;obtain⟨h,p,E,G,Y,I,J⟩:=aD0 hF (q:=dW (f+1)) (q':=gz q') (bG l) (d+1) u (bG l) u 13 13 13 13 ⟨by omega,by omega⟩ y (bM l [opn 13 a u]++g) B (by grind);obtain⟨K,L⟩:=qw l (g++p) (opn 13 a u);refine⟨h,(13,(a:Int),(h:Int),u,())::(g++p), ?_, ?_,by omega,I,by grind,Tr.one (((j▸D.2).wide (by omega) (ae _)).ap J.2) (ae _) (ae _) (by omega) rfl⟩
 .rw[Aw];simp only[eH,gU,ax,aa,bD];rw[oO hF a l u d (by omega),bD];simp only[i,show bT (((114:UInt8).toNat:Nat):Int) 40=false from by kernel_rfl,show bT (((114:UInt8).toNat:Nat):Int) 105=false from by kernel_rfl,show bT (((114:UInt8).toNat:Nat):Int) 119=false from by kernel_rfl,show bT (((114:UInt8).toNat:Nat):Int) 114=true from by kernel_rfl,aa,ac,x];rw[dh,dh,show(a:Int)+1=((a+1:Nat):Int) by omega];rw[z,bD];simp only;rw[E,bD];simp only[dL];rw[ag,iy];simp only[K,L,aa,lK,show d+1-1=d by omega]
 ·(rewrite [Au];delta nJ;rw[bU (b:=gm (iO F) (a:Int)) (dU (by omega) (by simp_all)),zZ s,i,show(((114:UInt8).toNat:Nat):Int)=114 from by kernel_rfl,awP,bD])
  simp only[dL];rw[lI a l u d (by omega) (by omega) (by omega) v (by omega),bD];simp only[show jv 13=true from by kernel_rfl,if_true,show bT (13:Int) 9=false from by kernel_rfl,show bT (13:Int) 10=false from by kernel_rfl,show bT (13:Int) 11=false from by kernel_rfl,show bT (13:Int) 12=false from by kernel_rfl,show bT (13:Int) 13=true from by kernel_rfl,aa,ac];rw[show((l.length:Nat):Int)=bG l from rfl,<-o,dh,show(a:Int)+1=((a+1:Nat):Int) by omega];rw[A,bD];simp only;rw[G,bD];simp only[dL];rw[ag,o,show bG l=((l.length:Nat):Int) from rfl,uZ h _ u (d+1) l.length (by simp) (oK l _ 13 _ _) (by omega) (by omega) (by omega) (by omega),bD];simp only[oG,show jv 13=true from by kernel_rfl,if_true,show d+1-1=d by omega]
theorem aBg {n:Nat} (h2:All F (n-2)) (a:Nat) (l:List Nd) (u d:Int) (q q':Nat) (M:16*(F.length-a)+8<n+1) (N:n<=q) (O:n<=q') (hp:Ja F a l d 113) (s:a<F.length) (hd:d<200) (i:DD F a=99):
  ∃(e:Nat) (m:List Nd),Aw (dW q) F (a:Int) l u d=a6 (PR F e (l++m) u d,())/\
   Au (gz q') F (iO F) l (a:Int) u d=a6 (RR F e (l++m) u d,())/\a<e/\e<=F.length/\m.length+3<=16*(e-a)/\Tr F a e u l.length m:=by
 obtain⟨S,U,v,V⟩:=hp;have W:=hF.len;obtain⟨f,rfl⟩: ∃f,q=f+1:=⟨q-1,by omega⟩;have j:(bM l [opn 14 a u]).length=l.length+1:=by unfold bM;simp
 have o:bM l [opn 14 a u]=l++[(14,(a:Int),0,u,())]:=rfl;obtain⟨x,_,_⟩:=kX l (opn 14 a u) (by omega);obtain⟨y,g,z,A,X,B,D⟩:=apy hF h2 (a+1) (bM l [opn 14 a u]) (bG l) (d+1) (f+1) q' (by omega) (by omega) (by omega) ⟨by omega,by rw[j];omega,by omega,by omega⟩;obtain⟨h,p,E,G,Y,I,J⟩:=aD1 hF (q:=dW (f+1)) (q':=gz q') (bG l) (d+1) u (bG l) u 14 14 14 14 ⟨by omega,by omega⟩ y (bM l [opn 14 a u]++g) B (by grind);obtain⟨K,L⟩:=qw l (g++p) (opn 14 a u);refine⟨h,(14,(a:Int),(h:Int),u,())::(g++p), ?_, ?_,by omega,I,by grind,Tr.one (((j▸D.2).wide (by omega) (ae _)).ap J.2) (ae _) (ae _) (by omega) rfl⟩
 .rw[Aw];simp only[eH,gU,ax,aa,bD];rw[oO hF a l u d (by omega),bD];simp only[i,show bT (((99:UInt8).toNat:Nat):Int) 40=false from by kernel_rfl,show bT (((99:UInt8).toNat:Nat):Int) 105=false from by kernel_rfl,show bT (((99:UInt8).toNat:Nat):Int) 119=false from by kernel_rfl,show bT (((99:UInt8).toNat:Nat):Int) 114=false from by kernel_rfl,show bT (((99:UInt8).toNat:Nat):Int) 99=true from by kernel_rfl,aa,ac,x];rw[dh,dh,show(a:Int)+1=((a+1:Nat):Int) by omega];rw[z,bD];simp only;rw[E,bD];simp only[dL];rw[ag,iy];simp only[K,L,aa,lK,show d+1-1=d by omega]
 ·(rewrite [Au];delta nJ;rw[bU (b:=gm (iO F) (a:Int)) (dU (by omega) (by simp_all)),zZ s,i,show(((99:UInt8).toNat:Nat):Int)=99 from by kernel_rfl,awQ,bD])
  simp only[dL];rw[lI a l u d (by omega) (by omega) (by omega) v (by omega),bD];simp only[show jv 14=true from by kernel_rfl,if_true,show bT (14:Int) 9=false from by kernel_rfl,show bT (14:Int) 10=false from by kernel_rfl,show bT (14:Int) 11=false from by kernel_rfl,show bT (14:Int) 12=false from by kernel_rfl,show bT (14:Int) 13=false from by kernel_rfl,show bT (14:Int) 14=true from by kernel_rfl,aa,ac];rw[show((l.length:Nat):Int)=bG l from rfl,<-o,dh,show(a:Int)+1=((a+1:Nat):Int) by omega];rw[A,bD];simp only;rw[G,bD];simp only[dL];rw[ag,o,show bG l=((l.length:Nat):Int) from rfl,uZ h _ u (d+1) l.length (by simp) (oK l _ 14 _ _) (by omega) (by omega) (by omega) (by omega),bD];simp only[oG,show jv 14=true from by kernel_rfl,if_true,show d+1-1=d by omega]
theorem U3 {n:Nat} (h2:All F (n-2)) (a:Nat) (l:List Nd) (u d:Int) (r j:Nat) (g:16*(F.length-a)+8<n+1) (s:n+1<=r) (v:n+1<=j) (hp:Ja F a l d 113) (p:Ij F a d=true):
  ∃(h:Nat) (m:List Nd),(dW r).q263 F (a:Int) l u d=a6 (PR F h (l++m) u d,())/\
   (gz j).q214 F (iO F) l (a:Int) u d=a6 (RR F h (l++m) u d,())/\a<h/\h<=F.length/\m.length+3<=16*(h-a)/\Tr F a h u l.length m:=by
 obtain⟨q,rfl⟩: ∃q,r=q+1:=⟨r-1,by omega⟩;obtain⟨f,rfl⟩: ∃f,j=f+1:=⟨j-1,by omega⟩;unfold Ij at p;simp only[af,decide_eq_true_eq]at p;obtain⟨hd,o⟩:=p;have i:=gW o;unfold fD at o;simp only[af,decide_eq_true_eq,List.contains_eq_mem,List.mem_cons,List.not_mem_nil,or_false]at o;rcases o.2 with e|e|e|e|e|e
 .exact aGe hF h2 a l u d q f g (by omega) (by omega) hp i hd e
 .exact aBc hF h2 a l u d q f g (by omega) (by omega) hp i hd e
 .exact aBd hF h2 a l u d q f g (by omega) (by omega) hp i hd e
 .exact aBe hF h2 a l u d q f g (by omega) (by omega) hp i hd e
 .exact aBf hF h2 a l u d q f g (by omega) (by omega) hp i hd e
 .exact aBg hF h2 a l u d q f g (by omega) (by omega) hp i hd e
end
section
open Bool renaming false_eq_true → ah, and_true → ax, not_true → ay, not_false → aB
open List renaming length_append → ai, nil_append → aA, getElem_mem → aJ, length_nil → aX
open Nat renaming le_refl → ae
open Go.RowKit
variable {F:List Lf} (hF:U2 F)
include hF
theorem aAS (n:Nat):All F n:=by
 induction n using Nat.strongRecOn with
 |_ n o=>
  cases n with
  |zero=>exact⟨fun a l u d r e h=>by omega,fun a l u d r e h=>by omega,fun a l u d r e h=>by omega,fun a l u d r h=>by omega,fun a l u d r e h=>by omega,fun a l u d r e h=>by omega,fun a l u d r e h=>by omega⟩
  |succ n=>
   have h:=o n (by omega);have p:=o (n-1) (by omega);have q:=o (n-2) (by omega);exact⟨fun a l u d r e i f j g m=>amZ hF h a l u d r e i f j g m,
    fun a l u d r e i f j g m=>aeP hF h a l u d r e i f j g m,
    fun a l u d r e i f j g m=>anf hF h a l u d r e i f j g m,
    fun a l u d r i f g m=>adF hF a l u d r f g m,
    fun a l u d r e i f j g=>XW hF h p a l u d r e i f j g,
    fun a l u d r e i f j g m=>U3 hF q a l u d r e i f j g m,
    fun a l u d r e i f j g=>alA hF h a l u d r e i f j g⟩
theorem Um: ∀(N a:Nat),F.length-a<N->a<=F.length->
  MJ N F ((iO F).take a) (a:Int)=some (.inl ((F,iO F,()),()))
 |0,a,h,_=>by omega
 |N+1,a,g,i=>by
  have j:=hF.len;rw[MJ,abk];by_cases h:a<F.length
  .rw[bU (b:=iq (a:Int) (bG F)) (eQ (by rw[bI];omega)),bU (b:=gm F (a:Int)) (dU),AO h];have d:lY F[a]=some ([O6 F[a]],()):=(aud (hF.txt _ (aJ h))).2;rw[d,bD];have e:iD ((iO F).take a) [O6 F[a]]=true:=by
    unfold iD jO
    grind
   simp only[e,aa];rw[dh,show(a:Int)+1=((a+1:Nat):Int) by omega];have f:bM ((iO F).take a) [O6 F[a]]=(iO F).take (a+1):=by
    simp_all [bM,List.take_add_one]
   rw[f];exact Um N (a+1) (by omega) (by omega)
  simp_all [dG,gK,bI,List.take_of_length_le]
theorem LD (w:Int): ∀(N a:Nat) (L:List Nd) (b:Bool) (v:Int),F.length-a<N->a<=F.length->L.length<=16*a+1->bT v 2=b->
  ∃m,ML N b F (a:Int) 0 0 L=some (.inl ((),((),()),((F,((F.length:Nat):Int),0,0,()),L++m,())))/\
   IA N F w v L F (iO F) (a:Int) 0 0=some (.inl ((w,()),(L++m,(F,iO F,((F.length:Nat):Int),0,0,()),())))/\m.length<=16*(F.length-a)/\Tr F a F.length 0 L.length m
 |0,a,L,b,v,i,_,_,_=>by omega
 |N+1,a,L,b,v,i,j,u,f=>by
  have x:=hF.len;rw[ML,abt,IA,abl];by_cases h:a<F.length
  .rw[bU (b:=iq (a:Int) (bG F)) (eQ (by rw[bI];omega)),bU (b:=iq (a:Int) (bG F)) (eQ (by rw[bI];omega)),mV hF a L 0 0 (by omega) [110] rfl,je a L 0 0 [110] (by simp),bD,bD];simp only;have g: ∃m,ML N false F ((a+1:Nat):Int) 0 0 (L++[(17,(a:Int),((a+1:Nat):Int),0,())])=some (.inl ((),((),()),((F,((F.length:Nat):Int),0,0,()),L++m,())))/\
     IA N F w 17 (L++[(17,(a:Int),((a+1:Nat):Int),0,())]) F (iO F) ((a+1:Nat):Int) 0 0=some (.inl ((w,()),(L++m,(F,iO F,((F.length:Nat):Int),0,0,()),())))/\m.length<=16*(F.length-a)/\Tr F a F.length 0 L.length m:=by
    obtain⟨m,g1,g2,g3⟩:=LD w N (a+1) (L++[(17,(a:Int),((a+1:Nat):Int),0,())]) false 17 (by omega) (by omega) (by grind) rfl;exact⟨[(17,(a:Int),((a+1:Nat):Int),0,())]++m,by simp_all,by simp_all,by grind,(Tr.lf (ae a) (ae _) (by omega) (fun h=>by exfalso;omega)).ap g3.2⟩
   cases hb:fD F a [110]with
   |true=>
    rw[nG hb,dh,show(a:Int)+1=((a+1:Nat):Int) by omega];simp only[aa];obtain⟨m,g1,g2,g3⟩:=LD w N (a+1) L b v (by omega) (by omega) (by omega) f;exact⟨m,g1,g2,by omega,g3.2.wide (by omega) (ae _)⟩
   |false=>
    rw[xU hb,f];simp only[ac];cases b with
    |true=>
     simp only[ay,ac];rw[Iy a L 0 0 17 (by omega) (by omega),Ov a L 0 0 (by omega) (by omega) rfl (by omega) (by omega) (by omega) (by omega),bD,bD];exact g
    |false=>
     simp only[aB,aa];rw[CQ hF a L 0 0 (by omega),Ia a L 0 0 (by omega),bD,bD];simp only;cases hp:qx F a 0 with
     |true=>
      obtain⟨y,_,_⟩:=kX L (opn 2 a 0) (by omega);obtain⟨d,e,l,o,z,p,q⟩:=(aAS hF (16*F.length+13)).list a L 0 0 bJ bJ (by omega) (Nat.le_of_lt (dH)) (Nat.le_of_lt (dH)) ⟨j,by omega,by omega,by omega⟩ hp;obtain⟨A,B⟩:=qw L e (opn 2 a 0);have D:aqX F (a:Int) (bM L [opn 2 a 0]) (bG L) 0=some (PR F d (bM L [opn 2 a 0]++e) (bG L) 0,()):=l;have E:aBB F (iO F) L (a:Int) 0 0=some (RR F d (L++(2,(a:Int),(d:Int),0,())::e) 0 0,()):=o;obtain⟨m,g1,g2,g3⟩:=LD w N d (L++(2,(a:Int),(d:Int),0,())::e) true 2 (by omega) p (by grind) rfl;refine⟨((2,(a:Int),(d:Int),0,())::e)++m, ?_, ?_,by grind,(q.2.one (ae _) (ae _) (by omega) rfl).app g3.2 (ae _) (ai ..)⟩
      .simp_all [eH,bD,lK]
      simp_all [bD]
     |false=>
      simp only[ac];rw[Iy a L 0 0 17 (by omega) (by omega),Ov a L 0 0 (by omega) (by omega) rfl (by omega) (by omega) (by omega) (by omega),bD,bD];exact g
  .have s:a=F.length:=by omega
   rw[dG (b:=iq (a:Int) (bG F)) (gK (by rw[bI];omega)),dG (b:=iq (a:Int) (bG F)) (gK (by rw[bI];omega)),s];exact⟨[],by simp,by simp,by simp,.nil (ae _)⟩
theorem atd: ∃l,amK F=some (l,())/\amJ F=some (l,())/\l.length<=16*F.length+1/\ ∃m,l=(1,0,(F.length:Int),-1,())::m/\Tr F 0 F.length 0 1 m:=by
 have e:=hF.len;obtain⟨m,g1,g2,g3⟩:=LD hF (-1) bJ 0 [(1,0,0,-1,())] false 0 (dH) (by omega) (by simp) rfl;refine⟨acj ([(1,0,0,-1,())]++m) 0 ((F.length:Nat):Int), ?_, ?_,by simp_all [apI],m,rfl,g3.2⟩
 .rw[amK];have d:dV [((1:Int),((0:Int),((0:Int),((-1:Int),()))))] 32=true:=by kernel_rfl
  simp only[eH,ax,aa,d];rw[aBC,show((0:Int))=((0:Nat):Int) from rfl];simp only[Int.ofNat_zero]at g1 ⊢;rw[g1,bD];simp only[dL,bD];rw[bU (dU (by omega) (by simp)),bU (pJ (by simp[dw]))];rfl
 .rw[amJ,show MJ bJ F [] 0=some (.inl ((F,iO F,()),())) from Um hF bJ 0 (dH) (by omega),bD];simp only[dL];rw[show Dz F (iO F) [] 0 (-1) 0 1=_ from lI 0 [] (-1) 0 (by omega) (by omega) (by simp) (by omega) (by omega),bD];simp only[show jv 1=false from by kernel_rfl,ah,if_false,aA,aX];rw[show IA bJ F (-1) 0 [(1,((0:Nat):Int),0,-1,())] F (iO F) ((0:Nat):Int) ((0:Nat):Int) 0=_ from g2,bD];simp only[dL];rw[show pz F (iO F) _ ((F.length:Nat):Int) 0 0 (-1)=_ from uZ F.length ([(1,0,0,-1,())]++m) (-1) 0 0 (by simp) (k:=1) rfl (by omega) (by omega) (by omega) (by omega),bD]
end
end Go.Proofs.YtkichehglnecnaaGreatDoor
