/- Parts of the proof, joined and shortened by a program: the plain machine, the functions as it prints them, and the mathematics over them. -/
import Derived.Test.YtdfhjhkcjecmlaaGreatDoorZ3
import Derived.Test.YtdfhjhkcjecmlaaGreatDoorZ4
import Derived.Test.YtdfhjhkcjecmlaaGreatDoorZ6
set_option linter.unusedVariables false
set_option linter.unusedSimpArgs false
set_option maxRecDepth 100000
set_option maxHeartbeats 4000000
namespace Go.Proofs.YtdfhjhkcjecmlaaGreatDoor
section
open Option renaming some → a6, none → a7
open Bool renaming not_true → ak, not_false → az
open Nat renaming le_trans → aQ
open Go.RowKit
theorem aCM {a b:List UInt8}:gm a b=true↔a=b:=by simp[gm]
theorem FZ {a b:List UInt8} (h:a≠b):gm a b=false:=by simp[gm];exact h
theorem aMQ {a b:List UInt8} (h:a=b):gm a b=true:=aCM.2 h
def O5:List bU:=[[33],[123],[125],[99,97,115,101],[100,111],[100,111,110,101],[101,108,105,102],[101,108,115,101],[101,115,97,99],[102,105],[102,111,114],[105,102],[105,110],[116,104,101,110],[117,110,116,105,108],[119,104,105,108,101]]
def ahB:bU:=[32,33,32,123,32,125,32,99,97,115,101,32,100,111,32,100,111,110,101,32,101,108,105,102,32,101,108,115,101,32,101,115,97,99,32,102,105,32,102,111,114,32,105,102,32,105,110,32,116,104,101,110,32,117,110,116,105,108,32,119,104,105,108,101,32]
theorem akm: ∀i:Fin 66,∀n:Fin 66,(sub ahB (i.val:Int) ((i.val:Int)+((n.val:Int)+2))).getD 0 0=32->
  (sub ahB (i.val:Int) ((i.val:Int)+((n.val:Int)+2))).getD (n.val+1) 0=32->
  (((sub ahB (i.val:Int) ((i.val:Int)+((n.val:Int)+2))).drop 1).take n.val).contains 32=false->n.val≠0->i.val+n.val+2<=65->
  O5.contains (((sub ahB (i.val:Int) ((i.val:Int)+((n.val:Int)+2))).drop 1).take n.val)=true:=by decide+kernel
theorem anv (x:bU) (hx:x.length<=3000000): ∀(n k:Nat),k<=x.length->x.length-k<n->
  EJ n 32 x (k:Int)=a6 (.inl ((),()))/\(∀j,k<=j->j<x.length->cO x (j:Int)≠32)\/EJ n 32 x (k:Int)=a6 (.inr ((true,()),()))
 |0,k,d,e=>by omega
 |n+1,k,d,e=>by
  rw[EJ];unfold Yl;by_cases hk:k<x.length
  .rw[bW (eX (by rw[bP];omega)),bW (ed)];by_cases hb:cO x (k:Int)=32
   .simp_all [dW]
   .rw[dD (dJ hb),dC];rcases anv x hx n (k+1) (by omega) (by omega)with ⟨h,h'⟩|h
    all_goals grind
  .rw[dD (gB (by rw[bP];omega))]
   grind
theorem azc {x:List UInt8} (h: ∀j,0<=j->j<x.length->cO x ((j:Nat):Int)≠32):x.contains 32=false:=by
 rw[Bool.eq_false_iff];intro d;rw[List.contains_iff_mem]at d;obtain⟨j,e,f⟩:=List.mem_iff_getElem.1 d;refine h j (by omega) e ?_;simp_all [cO]
theorem aik (x:bU) (hx:x.length<=3000000) (f:x.length≠0) (hb:x.contains 32=false) (g:O5.contains x=false): ∀(n i:Nat),i<=66->66-i<n->
  Xh n (cu (cu [32] x) [32]) (i:Int)=a6 (.inl ((),()))
 |0,i,h,j=>by omega
 |n+1,i,h,j=>by
  have d:(cu (cu [32] x) [32]).length=x.length+2:=by simp[cu]
  rw[Xh];unfold afr;by_cases hi:i+x.length+2<=65
  .rw[bW (lL (by grind [bP,dC]))];rw[bW (eU (by omega) (by grind [bP,dC]) (by rw[bP,bP,d,dC];show _<=(65:Int);omega))];rw[dD (FZ ?_)]
   .rw[dC];exact aik x hx f hb g n (i+1) (by omega) (by omega)
   .intro e;rw[bP,d,dC]at e;change sub ahB _ _=_ at e;have:=akm ⟨i,by omega⟩ ⟨x.length,by omega⟩;simp_all [cu]
  .rw[dD (xB (by grind [bP,dC]))]
theorem ae0 (x:bU) (hx:x.length<=3000000) (d:O5.contains x=false):arT x=a6 (false,()):=by
 unfold arT;by_cases h0:x.length=0
 .simp_all [dW,bP]
 rw[dD (dJ (by rw[bP];omega))];unfold Dl;rcases anv x hx bV 0 (by omega) (dI)with ⟨h,h'⟩|h
 .rw[show(0:Int)=((0:Nat):Int) from rfl,h];simp only[bJ,azo,ac];rw[bW (show gG [32] x=true by unfold gG mD;grind)];rw[bW (show gG (cu [32] x) [32]=true by unfold gG mD cu;grind)];rw[aik x hx h0 (azc h') d bV 0 (by omega) (dI)];rfl
 .rw[show(0:Int)=((0:Nat):Int) from rfl,h];rfl
theorem ah7: ∀k:Fin 17,am9 ((k.val:Int)+1)=a6 (MS.getD k.val [],())/\NL ((k.val:Int)+1)=a6 (MS.getD k.val [],()):=by
 intro k
 match k with
 |⟨0,_⟩=>exact⟨by kernel_rfl,by kernel_rfl⟩
 |⟨1,_⟩=>exact⟨by kernel_rfl,by kernel_rfl⟩
 |⟨2,_⟩=>exact⟨by kernel_rfl,by kernel_rfl⟩
 |⟨3,_⟩=>exact⟨by kernel_rfl,by kernel_rfl⟩
 |⟨4,_⟩=>exact⟨by kernel_rfl,by kernel_rfl⟩
 |⟨5,_⟩=>exact⟨by kernel_rfl,by kernel_rfl⟩
 |⟨6,_⟩=>exact⟨by kernel_rfl,by kernel_rfl⟩
 |⟨7,_⟩=>exact⟨by kernel_rfl,by kernel_rfl⟩
 |⟨8,_⟩=>exact⟨by kernel_rfl,by kernel_rfl⟩
 |⟨9,_⟩=>exact⟨by kernel_rfl,by kernel_rfl⟩
 |⟨10,_⟩=>exact⟨by kernel_rfl,by kernel_rfl⟩
 |⟨11,_⟩=>exact⟨by kernel_rfl,by kernel_rfl⟩
 |⟨12,_⟩=>exact⟨by kernel_rfl,by kernel_rfl⟩
 |⟨13,_⟩=>exact⟨by kernel_rfl,by kernel_rfl⟩
 |⟨14,_⟩=>exact⟨by kernel_rfl,by kernel_rfl⟩
 |⟨15,_⟩=>exact⟨by kernel_rfl,by kernel_rfl⟩
 |⟨16,_⟩=>exact⟨by kernel_rfl,by kernel_rfl⟩
 |⟨n+17,h⟩=>omega
theorem aG1 {x:List UInt8} (d:MS.contains x=false) {k:Nat} (hk:k<17):MS.getD k []≠x:=by
 rintro rfl;rw[Bool.eq_false_iff]at d;apply d;rw[List.contains_iff_mem,List.getD_eq_getElem?_getD,List.getElem?_eq_getElem (show k<MS.length from hk)];simp
theorem aaW (x:bU) (d:MS.contains x=false): ∀(n k:Nat),k<=17->17-k<n->EF n x ((k:Int)+1)=a6 (.inl ((),()))
 |0,k,e,f=>by omega
 |n+1,k,e,f=>by
  rw[EF];unfold Pm;by_cases hk:k<17
  .rw[bW (lL),(ah7 ⟨k,hk⟩).1,bJ,dD (FZ (aG1 d hk)),dC];exact aaW x d n (k+1) (by omega) (by omega)
  .rw[dD (xB)]
theorem afc (x:bU) (d:MS.contains x=false) (a b c:Int): ∀(n k:Nat),k<=17->17-k<n->Xm n ((k:Int)+1) a x b c=a6 (.inl ((),()))
 |0,k,e,f=>by omega
 |n+1,k,e,f=>by
  rw[Xm];unfold afK;by_cases hk:k<17
  .rw[bW (lL),(ah7 ⟨k,hk⟩).2,bJ,dD (FZ (aG1 d hk)),dC];exact afc x d a b c n (k+1) (by omega) (by omega)
  .rw[dD (xB)]
theorem Uk {x:List UInt8} (h:O5.contains x=true):x=[33]\/x=[123]\/x=[125]\/x=[99,97,115,101]\/x=[100,111]\/x=[100,111,110,101]\/x=[101,108,105,102]\/x=[101,108,115,101]\/x=[101,115,97,99]\/x=[102,105]\/x=[102,111,114]\/x=[105,102]\/x=[105,110]\/x=[116,104,101,110]\/x=[117,110,116,105,108]\/x=[119,104,105,108,101]:=by
 simp_all [O5]
theorem ay6 {x:List UInt8} (h:MS.contains x=true):x=[38,38]\/x=[124,124]\/x=[59,59]\/x=[60,60]\/x=[60,60,45]\/x=[62,62]\/x=[60,38]\/x=[62,38]\/x=[60,62]\/x=[62,124]\/x=[60]\/x=[62]\/x=[38]\/x=[59]\/x=[124]\/x=[40]\/x=[41]:=by
 simp_all [MS]
theorem atJ (x:bU) (hx:x.length<=10000) (a b:Int): ∃c:UInt8,ann x=a6 ((c.toNat:Int),())/\oI (6,(x,(a,(b,()))))=a6 ([c],()):=by
 cases hw:O5.contains x with
 |true=>
  rcases Uk hw with h|h|h|h|h|h|h|h|h|h|h|h|h|h|h|h
  .subst h;exact⟨33,by kernel_rfl,by kernel_rfl⟩
  .subst h;exact⟨123,by kernel_rfl,by kernel_rfl⟩
  .subst h;exact⟨125,by kernel_rfl,by kernel_rfl⟩
  .subst h;exact⟨99,by kernel_rfl,by kernel_rfl⟩
  .subst h;exact⟨100,by kernel_rfl,by kernel_rfl⟩
  .subst h;exact⟨103,by kernel_rfl,by kernel_rfl⟩
  .subst h;exact⟨101,by kernel_rfl,by kernel_rfl⟩
  .subst h;exact⟨108,by kernel_rfl,by kernel_rfl⟩
  .subst h;exact⟨122,by kernel_rfl,by kernel_rfl⟩
  .subst h;exact⟨102,by kernel_rfl,by kernel_rfl⟩
  .subst h;exact⟨114,by kernel_rfl,by kernel_rfl⟩
  .subst h;exact⟨105,by kernel_rfl,by kernel_rfl⟩
  .subst h;exact⟨107,by kernel_rfl,by kernel_rfl⟩
  .subst h;exact⟨116,by kernel_rfl,by kernel_rfl⟩
  .subst h;exact⟨119,by kernel_rfl,by kernel_rfl⟩
  .subst h;exact⟨119,by kernel_rfl,by kernel_rfl⟩
 |false=>
  refine⟨120, ?_, ?_⟩
  .have e: ∀l,O5.contains l=true->gm x l=false:=fun l d=>FZ fun f=>by simp_all
   (unfold ann;delta Ue ack)
   simp only[e [33] rfl,e [123] rfl,e [125] rfl,e [99,97,115,101] rfl,e [100,111] rfl,e [100,111,110,101] rfl,e [101,108,105,102] rfl,e [101,108,115,101] rfl,e [101,115,97,99] rfl,e [102,105] rfl,e [102,111,114] rfl,e [105,102] rfl,e [105,110] rfl,e [116,104,101,110] rfl,e [117,110,116,105,108] rfl,e [119,104,105,108,101] rfl,ac];rfl
  .unfold oI;simp only[show bZ 6 2=false from rfl,show bZ 6 5=false from rfl,show bZ 6 4=false from rfl,show bZ 6 6=true from rfl,ak,ac,ae0 x (aQ hx (by omega)) hw,bJ,az,aa]
theorem asy (x:bU) (hx:x.length<=10000) (a b:Int): ∃c:UInt8,anm x=a6 ((c.toNat:Int),())/\oI (4,(x,(a,(b,()))))=a6 ([c],())/\c≠120:=by
 cases hw:MS.contains x with
 |true=>
  rcases ay6 hw with h|h|h|h|h|h|h|h|h|h|h|h|h|h|h|h|h
  .subst h;exact⟨97,by kernel_rfl,by kernel_rfl,by decide⟩
  .subst h;exact⟨111,by kernel_rfl,by kernel_rfl,by decide⟩
  .subst h;exact⟨121,by kernel_rfl,by kernel_rfl,by decide⟩
  .subst h;exact⟨60,by kernel_rfl,by kernel_rfl,by decide⟩
  .subst h;exact⟨60,by kernel_rfl,by kernel_rfl,by decide⟩
  .subst h;exact⟨60,by kernel_rfl,by kernel_rfl,by decide⟩
  .subst h;exact⟨60,by kernel_rfl,by kernel_rfl,by decide⟩
  .subst h;exact⟨60,by kernel_rfl,by kernel_rfl,by decide⟩
  .subst h;exact⟨60,by kernel_rfl,by kernel_rfl,by decide⟩
  .subst h;exact⟨60,by kernel_rfl,by kernel_rfl,by decide⟩
  .subst h;exact⟨60,by kernel_rfl,by kernel_rfl,by decide⟩
  .subst h;exact⟨60,by kernel_rfl,by kernel_rfl,by decide⟩
  .subst h;exact⟨38,by kernel_rfl,by kernel_rfl,by decide⟩
  .subst h;exact⟨59,by kernel_rfl,by kernel_rfl,by decide⟩
  .subst h;exact⟨124,by kernel_rfl,by kernel_rfl,by decide⟩
  .subst h;exact⟨40,by kernel_rfl,by kernel_rfl,by decide⟩
  .subst h;exact⟨41,by kernel_rfl,by kernel_rfl,by decide⟩
 |false=>
  refine⟨63, ?_, ?_,by decide⟩
  .unfold anm;have:NK x=a6 (0,()):=by
    unfold NK;by_cases h0:x=[]
    .rw[bW (aMQ h0)]
    .rw[dD (FZ h0),show(1:Int)=((0:Nat):Int)+1 from rfl,aaW x hw bV 0 (by omega) (dI)];rfl
   rw[this];rfl
  .unfold oI;simp only[show bZ 4 2=false from rfl,show bZ 4 5=false from rfl,show bZ 4 4=true from rfl,ac,aa];rw[show(1:Int)=((0:Nat):Int)+1 from rfl,afc x hw 4 a b bV 0 (by omega) (dI)];rfl
theorem aG6 (k:Int) (x:bU) (hx:x.length<=10000) (a b:Int): ∃c:UInt8,WG (k,(x,(a,(b,()))))=a6 ((c.toNat:Int),())/\oI (k,(x,(a,(b,()))))=a6 ([c],())/\(c=120->k=6):=by
 by_cases h2:k=2
 .subst h2;exact⟨110,rfl,rfl,fun h=>absurd h (by decide)⟩
 by_cases h5:k=5
 .subst h5;exact⟨35,rfl,rfl,fun h=>absurd h (by decide)⟩
 by_cases h4:k=4
 .subst h4;obtain⟨c,h,d,f⟩:=asy x hx a b;refine⟨c, ?_,d,fun e=>absurd e f⟩;unfold WG;simp only[show bZ 4 2=false from rfl,show bZ 4 4=true from rfl,ac,aa,h,bJ]
 by_cases h6:k=6
 .subst h6;obtain⟨c,h,d⟩:=atJ x hx a b;refine⟨c, ?_,d,fun _=>rfl⟩;unfold WG;simp only[show bZ 6 2=false from rfl,show bZ 6 4=false from rfl,show bZ 6 5=false from rfl,show bZ 6 6=true from rfl,ac,aa,h,bJ]
 refine⟨63, ?_, ?_,fun h=>absurd h (by decide)⟩
 .unfold WG;simp only[dJ h2,dJ h4,dJ h5,dJ h6,ac];rfl
 .unfold oI;simp only[dJ h2,dJ h4,dJ h5,dJ h6,ac,az,aa]
abbrev Lf:=Int×List UInt8×Int×Int×Unit
def dLf:Lf:=(0,([],(0,(0,()))))
def Y0 (f:Lf):UInt8:=match oI f with
 |some ([c],_)=>c
 |_=>0
theorem aAn {f:Lf} (h:f.2.1.length<=10000):WG f=a6 (((Y0 f).toNat:Int),())/\oI f=a6 ([Y0 f],()):=by
 obtain⟨k,x,a,b,u⟩:=f;obtain⟨c,d,e,_⟩:=aG6 k x h a b;simp_all [Y0]
theorem aG5 {f:Lf} (h:f.2.1.length<=10000) (hx:Y0 f=120):f.1=6:=by
 obtain⟨k,x,a,b,u⟩:=f;obtain⟨c,d,e,g⟩:=aG6 k x h a b;simp_all [Y0]
end
section
open Option renaming some → a6, none → a7
open Bool renaming not_true → ak, not_false → az, and_true → aA, true_and → aG, false_or → aW
open List renaming getElem_mem → aF
open Nat renaming le_refl → ae
open Go.RowKit
abbrev Nd:=Int×Int×Int×Int×Unit
def uI:Nd:=(0,(0,(0,(0,()))))
structure Vy (F:List Lf):Prop where
 len:F.length<=10000
 txt: ∀f∈F,f.2.1.length<=10000
def Gm (F:List Lf) (a:Nat):UInt8:=if h:a<F.length then Y0 F[a]else 0
def gq (F:List Lf) (a:Nat) (o:bU):Bool:=decide (a<F.length)&&o.contains (Gm F a)
theorem Yf {F:List Lf} {a:Nat} (h:a<F.length):Gm F a=Y0 F[a]:=by simp_all [Gm]
theorem Ph {F:List Lf} {a:Nat} (h:F.length<=a:=by omega):Gm F a=0:=by simp_all [Gm,dif_neg]
theorem iG {F:List Lf} {a:Nat} {o:List UInt8} (h:gq F a o=true):a<F.length:=by
 simp_all [gq]
theorem Du {F:List Lf} {a:Nat} (h:a<F.length):dQ F (0,([],(0,(0,())))) (a:Int)=F[a]:=by
 simp_all [dQ]
theorem aGs {d:Type} {l:List d} {k:Nat} (h:l.length*k<=140737488355328):eH l k=true:=by
 grind [eH,mD]
variable {F:List Lf} (hF:Vy F)
include hF
theorem aAu (a k:Nat) (l:List Nd) (u d:Int) (e:a+k<1000000000):Ah F (a:Int) l u d (k:Int)=a6 ((F,((a:Int),(l,(u,(d,()))))),(((Gm F (a+k)).toNat:Int),())):=by
 have:=hF.len;rw[Ah,dC,show(a:Int)+(k:Int)=((a+k:Nat):Int) by omega];by_cases h:a+k<F.length
 .rw[dD (xB (by rw[bP];omega)),bW (ed),Du h,(aAn (hF.txt _ (aF h))).1,bJ,Yf h]
 .rw[bW (lL (by rw[bP];omega)),Ph];rfl
theorem qw (a:Nat) (l:List Nd) (u d:Int) (e:a<100000000):Ah F (a:Int) l u d 0=a6 ((F,((a:Int),(l,(u,(d,()))))),(((Gm F a).toNat:Int),())):=aAu hF a 0 l u d (by omega)
theorem ap7 (a:Nat) (l:List Nd) (u d:Int) (e:a<100000000):Ah F (a:Int) l u d 1=a6 ((F,((a:Int),(l,(u,(d,()))))),(((Gm F (a+1)).toNat:Int),())):=aAu hF a 1 l u d (by omega)
omit hF in
theorem aDs (S:bU) (c:UInt8):leI 0 (ibW S (c.toNat:Int))=S.contains c:=by
 have:ibW S (c.toNat:Int)=Lib.indexByte S c:=by unfold ibW;congr 1;simp
 rw[this,axx];by_cases h:(S.takeWhile (· !=c)).length<S.length
 .rw[am h,lL];have:=CO (· !=c) S h
  grind
 .rw[aq h,xB];have e: ∀x∈S,x≠c:=fun x d=>by
   obtain⟨i,f,rfl⟩:=List.getElem_of_mem d
   grind [Iu]
  grind
theorem abR (a:Nat) (l:List Nd) (u d:Int) (f:a<100000000) (o:bU) (g:o.contains 0=false):aag F (a:Int) l u d o=a6 ((F,((a:Int),(l,(u,(d,()))))),(gq F a o,())):=by
 rw[aag,qw hF a l u d f,bJ];simp only;unfold gq;by_cases h:Gm F a=0
 .rw[h,show(!bZ (((0:UInt8).toNat:Nat):Int) 0)=false from rfl,ac,g,Bool.and_false]
 .have i:a<F.length:=by
   grind [Ph]
  rw[dJ fun e=>h (UInt8.toNat_inj.1 (by simp_all))];simp only[az,aa];rw[ag1,anl,bJ,bJ];simp only[aDs,decide_eq_true i,aG]
def tk (F:List Lf) (a:Nat) (o:bU):Nat:=if gq F a o=true then a+1 else a
theorem nZ (a:Nat) (l:List Nd) (u d:Int) (e:a<100000000) (o:bU) (f:o.contains 0=false):mi F (a:Int) l u d o=a6 ((F,(((tk F a o:Nat):Int),(l,(u,(d,()))))),(gq F a o,())):=by
 rw[mi,abR hF a l u d e o f,bJ];simp only;unfold tk;cases h:gq F a o with
 |false=>rfl
 |true=>
  simp only[ak,ac,if_true]
  grind [dC]
def lnF (F:List Lf):Nat->Nat->Nat
 |0,a=>a
 |n+1,a=>if gq F a [110]=true then lnF F n (a+1)else a
def ln (F:List Lf) (a:Nat):Nat:=lnF F (F.length+1) a
omit hF in
theorem ahD: ∀(n m a:Nat),F.length<n+a->F.length<m+a->lnF F n a=lnF F m a
 |0,0,a,_,_=>rfl
 |0,m+1,a,h,_=>by
  rw[lnF,lnF,aq];intro d;have:=iG d;omega
 |n+1,0,a,_,h=>by
  rw[lnF,lnF,aq];intro d;have:=iG d;omega
 |n+1,m+1,a,e,f=>by
  rw[lnF,lnF];split
  .exact ahD n m (a+1) (by omega) (by omega)
  .rfl
omit hF in
theorem Og (a:Nat):ln F a=if gq F a [110]=true then ln F (a+1)else a:=by
 grind [ln,lnF,ahD]
omit hF in
theorem akn: ∀(n a:Nat),a<=lnF F n a
 |0,a=>ae _
 |n+1,a=>by
  rw[lnF];split
  .have:=akn n (a+1);omega
  omega
omit hF in
theorem zy (a:Nat):a<=ln F a:=akn _ _
omit hF in
theorem ayn: ∀(n a:Nat),a<=F.length->lnF F n a<=F.length
 |0,a,h=>h
 |n+1,a,h=>by
  rw[lnF];split
  .rename_i d
   exact ayn n (a+1) (iG d)
  .exact h
omit hF in
theorem Au {a:Nat} (h:a<=F.length):ln F a<=F.length:=ayn _ _ h
theorem Xd (l:List Nd) (u d:Int) (v:Bool): ∀(N a:Nat),F.length+1-a<N->a<=F.length->
  Oy N v F (a:Int) u d l=a6 (.inl ((v,()),((),()),((F,((ln F a:Nat):Int),u,d,()),l,())))
 |0,a,h,_=>by omega
 |N+1,a,h,e=>by
  have:=hF.len;rw[Oy,Vd,nZ hF a l u d (by omega) [110] rfl,bJ,Og];simp only;unfold tk;cases h':gq F a [110]with
  |false=>rfl
  |true=>
   simp only[aa,if_true];exact Xd l u d v N (a+1) (by omega) (iG h')
theorem oP (a:Nat) (l:List Nd) (u d:Int) (e:a<=F.length):qO F (a:Int) l u d=a6 ((F,(((ln F a:Nat):Int),(l,(u,(d,()))))),(gq F a [110],())):=by
 have:=hF.len;rw[qO,nZ hF a l u d (by omega) [110] rfl,bJ];simp only;have f:tk F a [110]<=F.length:=by
  unfold tk;split
  .rename_i h;exact iG h
  .exact e
 rw[Xd hF l u d _ bV (tk F a [110]) (dI) f,bJ];simp only[dO];have:ln F (tk F a [110])=ln F a:=by
  unfold tk;split
  .rename_i h;rw[Og a,am h]
  .rfl
 rw[this]
omit hF in
theorem ahR (l:List Nd) (k a u t:Int):iL (cu l [(k,(a,(0,(u,()))))]) (dL (bM l)) ((dU (cu l [(k,(a,(0,(u,()))))]) (0,(0,(0,(0,())))) (dL (bM l))).1,((dU (cu l [(k,(a,(0,(u,()))))]) (0,(0,(0,(0,())))) (dL (bM l))).2.1,(t,((dU (cu l [(k,(a,(0,(u,()))))]) (0,(0,(0,(0,())))) (dL (bM l))).2.2.2.1,()))))=l++[(k,a,t,u,())]:=by
 simp_all [dL,bP,iL,cu,dU]
omit hF in
theorem lU (l:List Nd) (x:Nd) (hl:l.length<1000000000):eH (cu l [x]) 32=true/\fO (cu l [x]) (bM l)=true/\pW (dL (bM l)) (cu l [x])=true:=
 ⟨aGs (by grind [cu]),ed (by rw[bP];omega) (by grind [bP,cu]),sN (by unfold cu;simp[dL,bP])⟩
omit hF in
theorem Lu (a:Nat) (l:List Nd) (u d k:Int) (h:a<100000000) (hl:l.length<1000000000):Gz F (a:Int) l u d k=a6 ((F,(((a+1:Nat):Int),(l++[(k,(a:Int),((a+1:Nat):Int),u,())],(u,(d,()))))),()):=by
 obtain⟨e,f,g⟩:=lU l (k,((a:Int),(0,(u,())))) hl;rw[Gz];simp only[fD,aA,aa,e,f,g,ahR]
 grind [dC]
omit hF in
theorem oz (a:Nat) (l:List Nd) (u d:Int) (hl:l.length<1000000000):Ai F (a:Int) l u d=a6 ((F,((a:Int),(l++[(18,(a:Int),(a:Int),u,())],(u,(d,()))))),()):=by
 obtain⟨e,f,g⟩:=lU l (18,((a:Int),(0,(u,())))) hl;rw[Ai];simp only[fD,aA,aa,e,f,g,ahR]
def rH (F:List Lf) (a:Nat) (o:bU):Nat:=tk F a o
def wnL (F:List Lf) (a:Nat) (o:bU) (l:List Nd) (u:Int):List Nd:=if gq F a o=true then l else l++[(18,(a:Int),(a:Int),u,())]
theorem CP (a:Nat) (l:List Nd) (u d:Int) (e:a<100000000) (hl:l.length<1000000000) (o:bU) (f:o.contains 0=false):uD F (a:Int) l u d o=a6 ((F,(((rH F a o:Nat):Int),(wnL F a o l u,(u,(d,()))))),()):=by
 rw[uD,nZ hF a l u d e o f,bJ];unfold rH wnL tk;cases h:gq F a o with
 |true=>rfl
 |false=>
  simp_all [oz,bJ]
def Ey (F:List Lf) (a:Nat):Bool:=if h:a<F.length then decide (F[a].1=6)else false
omit hF in
theorem acy {a:Nat} (h:Ey F a=true):a<F.length:=by
 grind [Ey]
omit hF in
theorem Dp (a:Nat) (l:List Nd) (u d:Int):RS F (a:Int) l u d=a6 ((F,((a:Int),(l,(u,(d,()))))),(Ey F a,())):=by
 rw[RS];unfold Ey;by_cases h:a<F.length
 .simp_all [eX,bP,ed,Du,iJ]
 simp_all [gB,bP,dif_neg]
def Gf (F:List Lf) (a:Nat):Nat:=if Ey F a=true then a+1 else a
def wdL (F:List Lf) (a:Nat) (l:List Nd) (u:Int):List Nd:=if Ey F a=true then l++[(7,(a:Int),((a+1:Nat):Int),u,())]else l++[(18,(a:Int),(a:Int),u,())]
omit hF in
theorem YV (a:Nat) (l:List Nd) (u d:Int) (e:a<100000000) (hl:l.length<1000000000):RQ F (a:Int) l u d=a6 ((F,(((Gf F a:Nat):Int),(wdL F a l u,(u,(d,()))))),()):=by
 rw[RQ,Dp a l u d,bJ];unfold Gf wdL;cases h:Ey F a with
 |true=>
  simp_all [Lu,bJ]
 |false=>
  simp_all [oz,bJ]
def Gl (F:List Lf) (a:Nat):Bool:=gq F a [60]||gq F a [35]&&decide (Gm F (a+1)=60)
def KZ (F:List Lf) (a:Nat) (d:Int):Bool:=decide (d<200)&&gq F a [123,40,105,119,114,99]
def Nj (F:List Lf) (a:Nat) (d:Int):Bool:=gq F a [120]||(Gl F a||KZ F a d)
def rZ (F:List Lf) (a:Nat) (d:Int):Bool:=gq F a [33]||Nj F a d
omit hF in
theorem aaV (a:Nat) (c:UInt8) (d:c≠0):bZ ((Gm F a).toNat:Int) (c.toNat:Int)=gq F a [c]:=by
 unfold gq;rw[iJ];by_cases h:a<F.length
 .rw[decide_eq_true h,aG,Bool.eq_iff_iff,decide_eq_true_eq];simp only[List.contains_cons,List.contains_nil,Bool.or_false,beq_iff_eq]
  grind [UInt8.toNat_inj]
 .rw[decide_eq_false h,Bool.false_and,Ph];refine decide_eq_false fun e=>d (UInt8.toNat_inj.1 ?_);omega
theorem Ia (a:Nat) (l:List Nd) (u d:Int) (f:a<10000000):ag2 F (a:Int) l u d=a6 ((F,((a:Int),(l,(u,(d,()))))),(Gl F a,())):=by
 rw[ag2,qw hF a l u d (by omega),bJ];simp only;rw[show bZ ((Gm F a).toNat:Int) 60=gq F a [60] from aaV a 60 (by decide),show bZ ((Gm F a).toNat:Int) 35=gq F a [35] from aaV a 35 (by decide)];unfold Gl;cases gq F a [60]with
 |true=>rfl
 |false=>
  cases gq F a [35]with
  |false=>rfl
  |true=>
   simp only[aa,ac,aW,aG];rw[ap7 hF a l u d (by omega),bJ];simp only[iJ];congr 3;rw[decide_eq_decide];constructor
   .intro e;exact UInt8.toNat_inj.1 (by grind)
   simp_all
theorem Gu (a:Nat) (l:List Nd) (u d:Int) (e:a<10000000):aah F (a:Int) l u d=a6 ((F,((a:Int),(l,(u,(d,()))))),(KZ F a d,())):=by
 rw[aah];unfold KZ;by_cases h:d<200
 .rw[bW (eX h),abR hF a l u d (by omega) _ rfl,bJ,decide_eq_true h,aG]
 simp_all [gB,decide_eq_false]
theorem V3 (a:Nat) (l:List Nd) (u d:Int) (e:a<10000000):ag0 F (a:Int) l u d=a6 ((F,((a:Int),(l,(u,(d,()))))),(Nj F a d,())):=by
 rw[ag0,qw hF a l u d (by omega),bJ];simp only;rw[show bZ ((Gm F a).toNat:Int) 120=gq F a [120] from aaV a 120 (by decide)];unfold Nj;cases gq F a [120]with
 |true=>rfl
 |false=>
  simp only[ac,aW];rw[Ia hF a l u d e,bJ];simp only;cases Gl F a with
  |true=>rfl
  |false=>
   simp_all [Gu,bJ]
theorem Ff (a:Nat) (l:List Nd) (u d:Int) (e:a<10000000):NP F (a:Int) l u d=a6 ((F,((a:Int),(l,(u,(d,()))))),(rZ F a d,())):=by
 rw[NP,qw hF a l u d (by omega),bJ];simp only;rw[show bZ ((Gm F a).toNat:Int) 33=gq F a [33] from aaV a 33 (by decide)];unfold rZ;cases gq F a [33]with
 |true=>rfl
 |false=>
  simp_all [V3,bJ]
end
section
open Option renaming some → a6, none → a7
open Bool renaming false_eq_true → ag, and_true → aA, true_and → aG, false_or → aW
open List renaming drop_eq_getElem_cons → ay, drop_of_length_le → aB, drop_zero → aJ
open Go.RowKit
theorem ahh (c:UInt8) (o:bU) (d:o.length<1000000): ∀(N k:Nat),o.length-k<N->k<=o.length->
  EJ N (c.toNat:Int) o (k:Int)=a6 (if(o.drop k).contains c=true then .inr ((true,()),())else .inl ((),()))
 |0,k,h,_=>by omega
 |N+1,k,h,hk=>by
  rw[EJ,Yl];by_cases e:k<o.length
  .rw[bW (eX (by rw[bP];omega)),bW (ed),byte_at e,ay e];by_cases h1:o[k]=c
   .simp_all [dW]
   .rw[dD (dJ fun h=>h1 (UInt8.toNat_inj.1 (by omega))),dC,show(k:Int)+1=((k+1:Nat):Int) by omega,ahh c o d N (k+1) (by omega) (by omega)]
    grind
  simp_all [gB,bP,aB]
theorem aPg (c:UInt8) (o:bU) (d:o.length<1000000):Dl (c.toNat:Int) o=a6 (o.contains c,()):=by
 have h:=ahh c o d bV 0 (dI) (by omega);rw[Dl,show EJ bV (c.toNat:Int) o 0=_ from h,bJ,aJ];cases o.contains c with
 |true=>rfl
 |false=>rfl
abbrev jc (F:List Lf):bU:=F.map Y0
variable {F:List Lf} (hF:Vy F)
include hF
omit hF in
theorem CE {a:Nat} (h:a<F.length):cO (jc F) (a:Int)=((Gm F a).toNat:Int):=by
 simp_all [byte_at,Yf]
omit hF in
theorem jF (a:Nat) (l:List Nd) (u d:Int) (o:bU) (e:o.length<1000000):oW F (jc F) l (a:Int) u d o=a6 ((F,(jc F,(l,((a:Int),(u,(d,())))))),(gq F a o,())):=by
 rw[oW];unfold gq;by_cases h:a<F.length
 .rw[bW (eX (by simp_all [bP])),bW (ed (by omega) (by simp_all)),CE h,aPg _ o e,bJ,decide_eq_true h,aG]
 simp_all [gB,bP,decide_eq_false]
theorem Oe (l:List Nd) (u d:Int): ∀(N a:Nat) (v:Int),F.length+1-a<N->a<=F.length->0<=v->v<=a->
  ∃e:Int,Oq N v F (jc F) (a:Int) u d l=a6 (.inl ((e,()),((),()),((F,jc F,((ln F a:Nat):Int),u,d,()),l,())))/\e=v+((ln F a:Nat):Int)-a
 |0,a,v,h,_,_,_=>by omega
 |N+1,a,v,h,f,g,i=>by
  have:=hF.len;rw[Oq,U4,jF a l u d [110] (by simp),bJ,Og];simp only;cases h':gq F a [110]with
  |false=>simp
  |true=>
   simp only[aa,if_true];rw[dC,dC,show(a:Int)+1=((a+1:Nat):Int) by omega];obtain⟨e,j,m⟩:=Oe l u d N (a+1) (v+1) (by omega) (iG h') (by omega) (by omega)
   grind
omit hF in
theorem aNb (a:Nat):gq F a [110]=decide (a<ln F a):=by
 rw[Og];cases h:gq F a [110]with
 |false=>simp
 |true=>
  have:=zy (F:=F) (a+1)
  grind
theorem nT (a:Nat) (l:List Nd) (u d:Int) (e:a<=F.length):mY F (jc F) l (a:Int) u d=a6 ((F,(jc F,(l,(((ln F a:Nat):Int),(u,(d,())))))),(((ln F a:Nat):Int)-a,())):=by
 have:=hF.len;rw[mY];obtain⟨f,g,h⟩:=Oe hF l u d bV a 0 (dI) e (by omega) (by omega);simp_all [bJ,dO]
def jS (k:Int):Bool:=decide (9<=k)&&decide (k<=14)||decide (k=16)
omit hF in
theorem aoy {k:Int} (d:1<=k) (h2:k<=18):agP k=a6 (jS k,()):=by
 have: ∀n:Fin 19,n.val≠0->agP ((n.val:Nat):Int)=a6 (jS ((n.val:Nat):Int),()):=by decide+kernel
 have:=this ⟨k.toNat,by omega⟩ (by simp only;omega)
 grind
omit hF in
theorem mM (a:Nat) (l:List Nd) (u d:Int) {k:Int} (e:1<=k) (h2:k<=18) (hl:l.length<1000000000) (hd:0<=d) (h:d<1000000000):
  Gi F (jc F) l (a:Int) u d k=a6 ((F,(jc F,(l++[(k,(a:Int),0,u,())],((a:Int),(((l.length:Nat):Int),((if jS k=true then d+1 else d),())))))),(u,())):=by
 have f:eH (cu l [(k,((a:Int),(0,(u,()))))]) 32=true:=aGs (by grind [cu]);have g:dV .i64 (bM (cu l [(k,((a:Int),(0,(u,()))))])) 1=((l.length:Nat):Int):=by
  grind [cu,bP,fV]
 rw[Gi];simp only[fD,aA,aa,f,aoy e h2,bJ,g];cases jS k with
 |true=>
  simp only[aa,if_true];rw[dC];rfl
 |false=>rfl
def agA (l:List Nd) (i:Nat) (t:Int):List Nd:=iL l i ((dU l uI i).1,(dU l uI i).2.1,t,(dU l uI i).2.2.2.1,())
omit hF in
theorem avb (l:List Nd) (i:Nat) (t:Int):(agA l i t).length=l.length:=yl
omit hF in
theorem xy (a:Nat) (l:List Nd) (u d:Int) (i:Nat) (hi:i<l.length) {k:Int} (hk:(dU l uI i).1=k) (f:1<=k) (h2:k<=18) (hd:0<=d) (m:d<1000000000):
  qP F (jc F) l (a:Int) ((i:Nat):Int) d u=a6 ((F,(jc F,(agA l i (a:Int),((a:Int),(u,((if jS k=true then d-1 else d),())))))),()):=by
 have g:dL ((i:Nat):Int)=i:=by simp[dL]
 have h: ∀x,fO (iL l i x) ((i:Nat):Int)=true:=fun x=>ed (by omega) (by rw[yl];omega);have j: ∀x,pW i (iL l i x)=true:=fun x=>sN (by rw[yl];exact hi);have jB: ∀x,dU (iL l i x) (0,(0,(0,(0,())))) i=x:=fun x=>Jk hi
 (rewrite [qP];delta Qk;rw[bW (ed),g,bW (sN hi)])
 simp only[h,j,jB,aa];have e:(dU l (0,(0,(0,(0,())))) i).1=k:=hk;rw[e,aoy f h2,bJ];simp only;unfold agA;rw[show uI=(0,(0,(0,(0,())))) from rfl,e];cases jS k with
 |true=>
  simp only[aa,if_true]
  grind [fV]
 |false=>rfl
omit hF in
theorem XG (l:List Nd) (x:Nd):dU (l++[x]) uI l.length=x:=by
 simp_all [dU]
omit hF in
theorem ZX (l:List Nd) (k a u t:Int):agA (l++[(k,a,0,u,())]) l.length t=l++[(k,a,t,u,())]:=by
 grind [agA,XG,iL]
omit hF in
theorem zB (a:Nat) (l:List Nd) (u d:Int) (hl:l.length<1000000000) (hd:0<=d) (e:d<1000000000):
  wS F (jc F) l (a:Int) u d=a6 ((F,(jc F,(l++[(18,(a:Int),(a:Int),u,())],((a:Int),(u,(d,())))))),()):=by
 rw[wS,mM a l u d (by omega) (by omega) hl hd e,bJ];simp only;rw[show jS 18=false from rfl,aq (by simp),xy a _ u d l.length (by simp) (by rw[XG]) (by omega) (by omega) hd e,bJ];simp only[ZX,show jS 18=false from rfl,ag,if_false]
omit hF in
theorem SX (a:Nat) (l:List Nd) (u d:Int) {k:Int} (e:1<=k) (h2:k<=18) (g:jS k=false) (h:a<100000000) (hl:l.length<1000000000) (hd:0<=d) (f:d<1000000000):
  Qj F (jc F) l (a:Int) u d k=a6 ((F,(jc F,(l++[(k,(a:Int),((a+1:Nat):Int),u,())],(((a+1:Nat):Int),(u,(d,())))))),()):=by
 rw[Qj,mM a l u d e h2 hl hd f,bJ];simp only;rw[g,aq (by simp),dC,show(a:Int)+1=((a+1:Nat):Int) by omega,xy (a+1) _ u d l.length (by simp) (by rw[XG]) e h2 hd f,bJ];simp_all [ZX]
omit hF in
theorem CQ (a:Nat) (l:List Nd) (u d:Int) (f:a<100000000) (hl:l.length<1000000000) (hd:0<=d) (g:d<1000000000) (o:bU) (e:o.length<1000000):
  oh F (jc F) l (a:Int) u d o=a6 ((F,(jc F,(wnL F a o l u,(((rH F a o:Nat):Int),(u,(d,())))))),()):=by
 rw[oh,jF a l u d o e,bJ];unfold rH wnL tk;cases h:gq F a o with
 |true=>
  simp only[aa,if_true]
  grind [dC]
 |false=>
  simp_all [zB,bJ]
omit hF in
theorem af1 (a:Nat) (l:List Nd) (u d:Int) (e:a<100000000) (hl:l.length<1000000000) (hd:0<=d) (f:d<1000000000):
  zi F (jc F) l (a:Int) u d=a6 ((F,(jc F,(wdL F a l u,(((Gf F a:Nat):Int),(u,(d,())))))),()):=by
 rw[zi];unfold wdL Gf Ey;by_cases h:a<F.length
 .rw[bW (eX (by rw[bP];omega)),bW (ed),Du h];simp only[dif_pos h,decide_eq_true_eq];by_cases h6:F[a].1=6
  .rw[bW (dW h6),SX a l u d (by omega) (by omega) rfl e hl hd f,bJ,am h6,am h6]
  simp_all [dJ,zB,bJ]
 simp_all [gB,bP,zB,bJ,dif_neg]
omit hF in
theorem BA (a:Nat) (l:List Nd) (u d:Int) (f:a<10000000):aaf F (jc F) l (a:Int) u d=a6 ((F,(jc F,(l,((a:Int),(u,(d,())))))),(Gl F a,())):=by
 rw[aaf,jF a l u d [60] (by simp),bJ];unfold Gl;simp only;cases gq F a [60]with
 |true=>rfl
 |false=>
  simp only[ac,aW];rw[jF a l u d [35] (by simp),bJ];simp only;cases gq F a [35]with
  |false=>rfl
  |true=>
   simp only[aa,aG];rw[dC,show(a:Int)+1=((a+1:Nat):Int) by omega];by_cases h:a+1<F.length
   .rw[bW (eX (by grind [bP])),bW (ed (by omega) (by grind)),CE h];simp only[iJ];congr 3;rw[decide_eq_decide];constructor
    .intro e;exact UInt8.toNat_inj.1 (by grind)
    simp_all
   .rw[dD (gB (by grind [bP])),Ph];rfl
omit hF in
theorem yQ (a:Nat) (l:List Nd) (u d:Int):WE F (jc F) l (a:Int) u d=a6 ((F,(jc F,(l,((a:Int),(u,(d,())))))),(KZ F a d,())):=by
 rw[WE,jF a l u d _ (by simp),bJ]
 grind [KZ,gU]
omit hF in
theorem ZB (a:Nat) (l:List Nd) (u d:Int) (e:a<10000000):agQ F (jc F) l (a:Int) u d=a6 ((F,(jc F,(l,((a:Int),(u,(d,())))))),(Nj F a d,())):=by
 rw[agQ,jF a l u d [120] (by simp),bJ];unfold Nj;simp only;cases gq F a [120]with
 |true=>rfl
 |false=>
  simp only[ac,aW];rw[BA a l u d e,bJ];simp only;cases Gl F a with
  |true=>rfl
  |false=>
   simp_all [yQ,bJ]
omit hF in
theorem KR (a:Nat) (l:List Nd) (u d:Int) (e:a<10000000):TP F (jc F) l (a:Int) u d=a6 ((F,(jc F,(l,((a:Int),(u,(d,())))))),(rZ F a d,())):=by
 rw[TP,jF a l u d [33] (by simp),bJ];unfold rZ;simp only;cases gq F a [33]with
 |true=>rfl
 |false=>
  simp_all [ZB,bJ]
end
section
open Option renaming some → a6, none → a7
open List renaming append_assoc → ah
open Nat renaming le_refl → ae
open Go.RowKit
abbrev opn (k:Int) (a:Nat) (u:Int):Nd:=(k,((a:Int),(0,(u,()))))
abbrev PR (F:List Lf) (a:Nat) (l:List Nd) (u d:Int):List Lf×Int×List Nd×Int×Int×Unit:=(F,((a:Int),(l,(u,(d,())))))
abbrev RR (F:List Lf) (a:Nat) (l:List Nd) (u d:Int):List Lf×List UInt8×List Nd×Int×Int×Int×Unit:=(F,(jc F,(l,((a:Int),(u,(d,()))))))
theorem mP (l m:List Nd) (k a u t:Int):iL (cu l [(k,(a,(0,(u,()))))]++m) (dL (bM l)) ((dU (cu l [(k,(a,(0,(u,()))))]++m) (0,(0,(0,(0,())))) (dL (bM l))).1,((dU (cu l [(k,(a,(0,(u,()))))]++m) (0,(0,(0,(0,())))) (dL (bM l))).2.1,(t,((dU (cu l [(k,(a,(0,(u,()))))]++m) (0,(0,(0,(0,())))) (dL (bM l))).2.2.2.1,()))))=l++(k,a,t,u,())::m:=by
 have d:dL (bM l)=l.length:=by simp[dL,bP]
 simp_all [dU,cu,iL]
theorem rX (l m:List Nd) (x:Nd):fO (cu l [x]++m) (bM l)=true/\pW (dL (bM l)) (cu l [x]++m)=true:=
 ⟨ed (by rw[bP];omega) (by grind [bP,cu]),sN (by unfold cu;simp[dL,bP])⟩
theorem qc (l m:List Nd) (k a u t:Int):agA ((l++[(k,a,0,u,())])++m) l.length t=l++(k,a,t,u,())::m:=by
 unfold agA;simp_all [dU,iL]
theorem ql (l m:List Nd) (k a u:Int):(dU ((l++[(k,a,0,u,())])++m) uI l.length).1=k:=by
 simp_all [dU]
def LfG (F:List Lf) (d:Int) (f:Nat):Prop:=d=6\/d=7-> ∃h:f<F.length,F[f].1=6
def RdG (F:List Lf) (f t:Nat) (m:List Nd):Prop:= ∃p,(p=f\/p=f+1/\gq F f [35]=true)/\gq F p [60]=true/\((t=p+2/\ ∃u,m=[(7,((p+1:Nat):Int),((p+2:Nat):Int),u,())])\/(t=p+1/\ ∃u,m=[(18,((p+1:Nat):Int),((p+1:Nat):Int),u,())]))
inductive Tr (F:List Lf):Nat->Nat->Int->Nat->List Nd->Prop
 |nil {a b:Nat} {u:Int} {k:Nat} (h:a<=b):Tr F a b u k []
 |leaf {a b f t:Nat} {u:Int} {k:Nat} {kd:Int} {m:List Nd} (h1:a<=f) (hk:kd=18/\t=f\/(kd=6\/kd=7\/kd=17)/\t=f+1) (hf:LfG F kd f) (h2:Tr F t b u (k+1) m):Tr F a b u k ((kd,(f:Int),(t:Int),u,())::m)
 |node {a b f t:Nat} {u:Int} {k:Nat} {kd:Int} {m n:List Nd} (h1:a<=f) (hk:2<=kd/\kd<=16/\kd≠6/\kd≠7) (h8:kd=8->RdG F f t m) (h:Tr F f t (k:Int) (k+1) m) (h2:Tr F t b u (k+1+m.length) n):Tr F a b u k ((kd,(f:Int),(t:Int),u,())::(m++n))
section
variable {F:List Lf}
theorem Tr.le {a b:Nat} {u:Int} {k:Nat} {m:List Nd} (h:Tr F a b u k m):a<=b:=by
 induction h with
 |nil h=>exact h
 |leaf h1 hk _ _ d=>omega
 |node h1 _ _ _ _ ih1 e=>omega
theorem Tr.wide {a b:Nat} {u:Int} {k:Nat} {m:List Nd} (h:Tr F a b u k m): ∀{e f:Nat},e<=a->b<=f->Tr F e f u k m:=by
 induction h with
 |nil h=>exact fun g o=>.nil (by omega)
 |leaf g hk hf _ i=>exact fun j d=>.leaf (by omega) hk hf (i (ae _) d)
 |node g hk h8 h _ _ l=>exact fun j d=>.node (by omega) hk h8 h (l (ae _) d)
theorem Tr.app {a b:Nat} {u:Int} {k:Nat} {m:List Nd} (h:Tr F a b u k m): ∀{c e j:Nat} {n:List Nd},Tr F c e u j n->b<=c->j=k+m.length->Tr F a e u k (m++n):=by
 induction h with
 |nil h=>exact fun d q g=>by subst g;exact d.wide (by omega) (ae _)
 |leaf d hk hf _ l=>exact fun g i o=>.leaf d hk hf (l g i (by grind))
 | @node a b f t u k kd m n' d hk h8 h _ _ p=>
  intro c e j n g i o;rw[List.cons_append,ah];exact .node d hk h8 h (p g i (by grind))
theorem Tr.ap {a b c e:Nat} {u:Int} {k j:Nat} {m n:List Nd} (h:Tr F a b u k m) (h2:Tr F c e u j n) (d:b<=c:=by omega) (f:j=k+m.length:=by first|omega|grind):Tr F a e u k (m++n):=h.app h2 d f
theorem Tr.apA {a b c e:Nat} {u:Int} {k:Nat} {m n:List Nd} (h:Tr F a b u k m) (h2: ∀j,Tr F c e u j n) (d:b<=c:=by omega):Tr F a e u k (m++n):=h.app (h2 _) d rfl
theorem Tr.one {a b f t:Nat} {u:Int} {k j:Nat} {d:Int} {m:List Nd} (h:Tr F f t (j:Int) (j+1) m) (e:a<=f) (h2:t<=b) (hk:2<=d/\d<=16/\d≠6/\d≠7) (g:j=k) (i:d=8->RdG F f t m:=by intro h;exfalso;omega):Tr F a b u k ((d,(f:Int),(t:Int),u,())::m):=by
 subst g;have:=Tr.node (n:=[]) (u:=u) e hk i h (.nil h2);simp_all
theorem Tr.mis {a b f:Nat} {u:Int} {k:Nat} (d:a<=f) (h2:f<=b):Tr F a b u k [(18,(f:Int),(f:Int),u,())]:=.leaf d (.inl ⟨rfl,rfl⟩) (fun h=>by exfalso;omega) (.nil h2)
theorem Tr.lf {a b f:Nat} {u:Int} {k:Nat} {d:Int} (e:a<=f) (h2:f+1<=b) (hk:d=6\/d=7\/d=17) (hf:LfG F d f):Tr F a b u k [(d,(f:Int),((f+1:Nat):Int),u,())]:=.leaf e (.inr ⟨hk,rfl⟩) hf (.nil h2)
end
structure MR (F:List Lf) (a:Nat) (l:List Nd) (d:Int) (K:Nat):Prop where
 len:a<=F.length
 nod:l.length<=16*a+K
 d0:0<=d
 d1:d<=200
structure All (F:List Lf) (n:Nat):Prop where
 list: ∀(a:Nat) (l:List Nd) (u d:Int) (r r':Nat),16*(F.length-a)+12<n->n<=r->n<=r'->MR F a l d 110->rZ F a d=true->
  ∃(a':Nat) (m:List Nd),(fJ r).q160 F (a:Int) (cu l [opn 2 a u]) (bM l) d=a6 (PR F a' (cu l [opn 2 a u]++m) (bM l) d,())/\
   (iC r').q95 F (jc F) l (a:Int) u d=a6 (RR F a' (l++(2,(a:Int),(a':Int),u,())::m) u d,())/\a<a'/\a'<=F.length/\m.length+1<=16*(a'-a)/\Tr F a a' (bM l) (l.length+1) m
 andor: ∀(a:Nat) (l:List Nd) (u d:Int) (r r':Nat),16*(F.length-a)+11<n->n<=r->n<=r'->MR F a l d 111->rZ F a d=true->
  ∃(a':Nat) (m:List Nd),(fJ r).q187 F (a:Int) (cu l [opn 3 a u]) (bM l) d=a6 (PR F a' (cu l [opn 3 a u]++m) (bM l) d,())/\
   (iC r').q137 F (jc F) l (a:Int) u d=a6 (RR F a' (l++(3,(a:Int),(a':Int),u,())::m) u d,())/\a<a'/\a'<=F.length/\m.length+2<=16*(a'-a)/\Tr F a a' (bM l) (l.length+1) m
 pipe: ∀(a:Nat) (l:List Nd) (u d:Int) (r r':Nat),16*(F.length-a)+10<n->n<=r->n<=r'->MR F a l d 112->rZ F a d=true->
  ∃(a':Nat) (m:List Nd),(fJ r).q204 F (a:Int) l u d=a6 (PR F a' (l++m) u d,())/\
   (iC r').q170 F (jc F) l (a:Int) u d=a6 (RR F a' (l++m) u d,())/\a<a'/\a'<=F.length/\m.length+2<=16*(a'-a)/\Tr F a a' u l.length m
 nopipe: ∀(a:Nat) (l:List Nd) (u d:Int) (r:Nat),10<n->n<=r->MR F a l d 130->rZ F a d=false->
  (fJ r).q204 F (a:Int) l u d=a6 (PR F a (l++[(18,(a:Int),(a:Int),u,())]) u d,())
 command: ∀(a:Nat) (l:List Nd) (u d:Int) (r r':Nat),16*(F.length-a)+9<n->n<=r->n<=r'->MR F a l d 113->
  ∃(a':Nat) (m:List Nd),(fJ r).q223 F (a:Int) l u d=a6 (PR F a' (l++m) u d,())/\
   (iC r').q195 F (jc F) l (a:Int) u d=a6 (RR F a' (l++m) u d,())/\a<=a'/\a'<=F.length/\(m.length<=16*(a'-a)+1/\Tr F a a' u l.length m)/\(Nj F a d=true->a<a'/\m.length+3<=16*(a'-a))
 compound: ∀(a:Nat) (l:List Nd) (u d:Int) (r r':Nat),16*(F.length-a)+8<n->n<=r->n<=r'->MR F a l d 113->KZ F a d=true->
  ∃(a':Nat) (m:List Nd),(fJ r).q238 F (a:Int) l u d=a6 (PR F a' (l++m) u d,())/\
   (iC r').q210 F (jc F) l (a:Int) u d=a6 (RR F a' (l++m) u d,())/\a<a'/\a'<=F.length/\m.length+3<=16*(a'-a)/\Tr F a a' u l.length m
 body: ∀(a:Nat) (l:List Nd) (u d:Int) (r r':Nat),16*(F.length-a)+13<n->n<=r->n<=r'->MR F a l d 110->
  ∃(a':Nat) (m:List Nd),(fJ r).q258 F (a:Int) l u d=a6 (PR F a' (l++m) u d,())/\
   (iC r').q228 F (jc F) l (a:Int) u d=a6 (RR F a' (l++m) u d,())/\a<=a'/\a'<=F.length/\m.length<=16*(a'-a)+1/\Tr F a a' u l.length m
variable {F:List Lf} (hF:Vy F)
include hF
theorem aqO {n:Nat} (h:All F n) (a:Nat) (l:List Nd) (u d:Int) (r f:Nat) (y:16*(F.length-a)+13<n+1) (z:n+1<=r) (A:n+1<=f) (hp:MR F a l d 110):
  ∃(e:Nat) (m:List Nd),(fJ r).q258 F (a:Int) l u d=a6 (PR F e (l++m) u d,())/\
   (iC f).q228 F (jc F) l (a:Int) u d=a6 (RR F e (l++m) u d,())/\a<=e/\e<=F.length/\m.length<=16*(e-a)+1/\Tr F a e u l.length m:=by
 obtain⟨i,B,p,s⟩:=hp;have D:=hF.len;obtain⟨q,rfl⟩: ∃q,r=q+1:=⟨r-1,by omega⟩;obtain⟨g,rfl⟩: ∃g,f=g+1:=⟨f-1,by omega⟩;have j:=zy (F:=F) a;have o:=Au (F:=F) i;show ∃(e:Nat) (m:List Nd),awW (fJ q) F (a:Int) l u d=_/\awM (iC g) F (jc F) l (a:Int) u d=_/\_;rw[awW,awM,oP hF a l u d i,nT hF a l u d i,bJ,bJ];simp only;rw[Ff hF (ln F a) l u d (by omega),KR (ln F a) l u d (by omega),bJ,bJ];simp only;cases hb:rZ F (ln F a) d with
 |true=>
  obtain⟨E,G,I⟩:=lU l (opn 2 (ln F a) u) (by omega);obtain⟨e,m,J,K,L,v,x⟩:=h.list (ln F a) l u d q g (by omega) (by omega) (by omega) ⟨o,by omega,p,s⟩ hb;obtain⟨M,N⟩:=rX l m (opn 2 (ln F a) u);refine⟨e,(2,((ln F a:Nat):Int),(e:Int),u,())::m, ?_, ?_,by omega,v,by grind,x.2.one j (ae _) (by omega) rfl⟩
  .simp_all [fD,bJ,mP]
  simp_all [bJ]
 |false=>
  refine⟨ln F a,[(18,((ln F a:Nat):Int),((ln F a:Nat):Int),u,())], ?_, ?_,j,o,by simp,.mis j (ae _)⟩
  .simp only[ac]
   grind [oz,bJ]
  .simp only[ac]
   grind [zB,bJ]
end
section
open Bool renaming false_eq_true → ag
open List renaming append_assoc → ah, length_append → ai, length_singleton → aI
open Nat renaming le_refl → ae
open Go.RowKit
variable {F:List Lf} (hF:Vy F)
include hF
omit hF in
theorem oK {a:Nat} {o:List UInt8} (h:gq F a o=true):tk F a o=a+1:=by unfold tk;rw[am h]
omit hF in
theorem zO {a:Nat} {o:List UInt8} (h:gq F a o=false):tk F a o=a:=by unfold tk;rw[aq (by rw[h];simp)]
theorem KU {n:Nat} (h:All F n) {q q':Nat} (f:n<=q) (g:n<=q') (u d v:Int) (hd:0<=d/\d<=200): ∀(N a:Nat) (L:List Nd),F.length-a<N->a<=F.length->16*(F.length-a)+10<n->L.length<=16*a+112->
  ∃(e:Nat) (m:List Nd),Ox (fJ q) N F (a:Int) u d L=some (.inl ((),((),()),((F,(e:Int),u,d,()),L++m,())))/\
   Oo (iC q') N v F (jc F) (a:Int) u d L=some (.inl ((v,()),((),()),((F,jc F,(e:Int),u,d,()),L++m,())))/\a<=e/\e<=F.length/\m.length<=16*(e-a)/\Tr F a e u L.length m
 |0,a,L,x,_,_,_=>by omega
 |N+1,a,L,x,y,I,J=>by
  have K:=hF.len;rw[Ox,Vb,Oo,U3,nZ hF a L u d (by omega) [97,111] rfl,jF a L u d [97,111] (by simp),bJ,bJ];simp only;cases hb:gq F a [97,111]with
  |false=>
   rw[zO hb];exact⟨a,[],by simp,by simp,ae _,y,by simp,.nil (ae _)⟩
  |true=>
   have M:=iG hb;have O:=zy (F:=F) (a+1);have i:=Au (F:=F) (a:=a+1) (by omega);rw[oK hb];simp only[aa];rw[dC,show(a:Int)+1=((a+1:Nat):Int) by omega,oP hF (a+1) L u d (by omega),nT hF (a+1) L u d (by omega),bJ,bJ];simp only;rw[KR (ln F (a+1)) L u d (by omega),bJ];simp only;cases hp:rZ F (ln F (a+1)) d with
   |true=>
    obtain⟨z,s,A,B,S,D,E⟩:=h.pipe (ln F (a+1)) L u d q q' (by omega) f g ⟨i,by omega,hd.1,hd.2⟩ hp;rw[A,bJ];simp only[aa];rw[B,bJ];simp only;obtain⟨e,m,j,l,G,o,p⟩:=KU h f g u d v hd N z (L++s) (by omega) D (by omega) (by rw[ai];omega);exact⟨e,s++m,by rw[j,ah],by rw[l,ah],by omega,o,by rw[ai];omega,(E.2.wide (by omega) (ae _)).app p.2 (ae _) (ai ..)⟩
   |false=>
    rw[h.nopipe (ln F (a+1)) L u d q (by omega) f ⟨i,by omega,hd.1,hd.2⟩ hp,bJ];simp only[ac];rw[zB (ln F (a+1)) L u d (by omega) hd.1 (by omega),bJ];simp only;obtain⟨e,m,j,l,G,o,p⟩:=KU h f g u d v hd N (ln F (a+1)) (L++[(18,((ln F (a+1):Nat):Int),((ln F (a+1):Nat):Int),u,())]) (by omega) i (by omega) (by rw[ai,aI];omega);exact⟨e,[(18,((ln F (a+1):Nat):Int),((ln F (a+1):Nat):Int),u,())]++m,by rw[j,ah],by rw[l,ah],by omega,o,by rw[ai,aI];omega,(Tr.mis (by omega) (ae _)).app p.2 (ae _) (ai ..)⟩
theorem ai9 {n:Nat} (h:All F n) (a:Nat) (l:List Nd) (u d:Int) (r g:Nat) (J:16*(F.length-a)+11<n+1) (K:n+1<=r) (L:n+1<=g) (hp:MR F a l d 111) (hb:rZ F a d=true):
  ∃(e:Nat) (m:List Nd),(fJ r).q187 F (a:Int) (cu l [opn 3 a u]) (bM l) d=some (PR F e (cu l [opn 3 a u]++m) (bM l) d,())/\
   (iC g).q137 F (jc F) l (a:Int) u d=some (RR F e (l++(3,(a:Int),(e:Int),u,())::m) u d,())/\a<e/\e<=F.length/\m.length+2<=16*(e-a)/\Tr F a e (bM l) (l.length+1) m:=by
 obtain⟨x,M,i,o⟩:=hp;have N:=hF.len;obtain⟨q,rfl⟩: ∃q,r=q+1:=⟨r-1,by omega⟩;obtain⟨f,rfl⟩: ∃f,g=f+1:=⟨g-1,by omega⟩;show ∃(e:Nat) (m:List Nd),awJ (fJ q) F (a:Int) _ _ d=_/\awG (iC f) F (jc F) l (a:Int) u d=_/\_;have j:(cu l [opn 3 a u]).length=l.length+1:=by unfold cu;simp
 obtain⟨y,p,z,s,O,A,B⟩:=h.pipe a (cu l [opn 3 a u]) (bM l) d q f (by omega) (by omega) (by omega) ⟨x,by rw[j];omega,i,o⟩ hb;obtain⟨e,m,D,v,S,E,G⟩:=KU hF h (q:=q) (q':=f) (by omega) (by omega) (bM l) d u ⟨i,o⟩ bV y (cu l [opn 3 a u]++p) (dI) A (by omega) (by rw[ai,j];omega);have I:cu l [opn 3 a u]=l++[(3,(a:Int),0,u,())]:=rfl;refine⟨e,p++m, ?_, ?_,by omega,E,by rw[ai];omega,(j▸B.2).app G.2 (ae _) (by rw[ai,j])⟩
 .rw[awJ,z,bJ];simp only;rw[D,bJ];simp only[dO,ah]
 .rw[awG,mM a l u d (by omega) (by omega) (by omega) i (by omega),bJ];simp only[show jS 3=false from rfl,ag,if_false];rw[I]at s v;rw[show((l.length:Nat):Int)=bM l from rfl,s,bJ];simp only;rw[v,bJ];simp only[dO];rw[ah (l++_),show bM l=((l.length:Nat):Int) from rfl,xy e _ u d l.length (by simp only[ai,aI];omega) (ql l _ 3 _ _) (by omega) (by omega) i (by omega),bJ];simp only[qc,show jS 3=false from rfl,ag,if_false]
end
section
open Option renaming some → a6, none → a7
open Bool renaming false_eq_true → ag, not_true → ak, not_false → az, and_true → aA
open List renaming append_assoc → ah, length_append → ai
open Nat renaming le_refl → ae
open Go.RowKit
variable {F:List Lf} (hF:Vy F)
include hF
theorem aaL {n:Nat} (h:All F n) {q q':Nat} (i:n<=q) (j:n<=q') (u d v f g:Int) (hd:0<=d/\d<=200): ∀(N a:Nat) (L:List Nd),F.length-a<N->a<=F.length->16*(F.length-a)+9<n+16->L.length<=16*a+114->
  ∃(e:Nat) (m:List Nd),wV (fJ q) N f g F (a:Int) u d L=a6 (.inl ((),((f,g,()),(),(),()),((),(F,(e:Int),u,d,()),L++m,())))/\
   EH (iC q') N v F (jc F) (a:Int) u d L=a6 (.inl ((v,()),((),()),((F,jc F,(e:Int),u,d,()),L++m,())))/\a<=e/\e<=F.length/\m.length<=16*(e-a)/\Tr F a e u L.length m
 |0,a,L,o,_,_,_=>by omega
 |N+1,a,L,o,p,G,I=>by
  have J:=hF.len;rw[wV,Bj,EH,U6,nZ hF a L u d (by omega) [124] rfl,jF a L u d [124] (by simp),bJ,bJ];simp only;cases hb:gq F a [124]with
  |false=>
   rw[zO hb];exact⟨a,[],by simp,by simp,ae _,p,by simp,.nil (ae _)⟩
  |true=>
   have K:=iG hb;have M:=zy (F:=F) (a+1);have s:=Au (F:=F) (a:=a+1) (by omega);rw[oK hb];simp only[aa];rw[dC,show(a:Int)+1=((a+1:Nat):Int) by omega,oP hF (a+1) L u d (by omega),nT hF (a+1) L u d (by omega),bJ,bJ];simp only;obtain⟨x,l,y,z,O,A,B,_⟩:=h.command (ln F (a+1)) L u d q q' (by omega) i j ⟨s,by omega,hd.1,hd.2⟩;rw[y,z,bJ,bJ];simp only;obtain⟨e,m,S,U,V,D,E⟩:=aaL h i j u d v f g hd N x (L++l) (by omega) A (by omega) (by grind);exact⟨e,l++m,by simp_all,by simp_all,by omega,D,by grind,(B.2.wide (by omega) (ae _)).app E.2 (ae _) (ai ..)⟩
theorem ahS {n:Nat} (a:Nat) (l:List Nd) (u d:Int) (r:Nat) (e:n+1<=r) (hp:MR F a l d 130) (hb:rZ F a d=false):
  (fJ r).q204 F (a:Int) l u d=a6 (PR F a (l++[(18,(a:Int),(a:Int),u,())]) u d,()):=by
 obtain⟨f,g,h,i⟩:=hp;have j:=hF.len;obtain⟨q,rfl⟩: ∃q,r=q+1:=⟨r-1,by omega⟩;show agI (fJ q) F (a:Int) l u d=_;rw[agI,Ff hF a l u d (by omega),bJ,hb];simp only[az,aa]
 grind [oz,bJ]
theorem asC {n:Nat} (h:All F n) (a:Nat) (l:List Nd) (u d:Int) (r p:Nat) (V:16*(F.length-a)+10<n+1) (W:n+1<=r) (X:n+1<=p) (hp:MR F a l d 112) (hb:rZ F a d=true):
  ∃(e:Nat) (m:List Nd),(fJ r).q204 F (a:Int) l u d=a6 (PR F e (l++m) u d,())/\
   (iC p).q170 F (jc F) l (a:Int) u d=a6 (RR F e (l++m) u d,())/\a<e/\e<=F.length/\m.length+2<=16*(e-a)/\Tr F a e u l.length m:=by
 obtain⟨Y,Z,s,x⟩:=hp;have ab:=hF.len;obtain⟨q,rfl⟩: ∃q,r=q+1:=⟨r-1,by omega⟩;obtain⟨f,rfl⟩: ∃f,p=f+1:=⟨p-1,by omega⟩;have y:(cu l [opn 4 a u]).length=l.length+1:=by unfold cu;simp
 have D:cu l [opn 4 a u]=l++[(4,(a:Int),0,u,())]:=rfl;obtain⟨E,_,_⟩:=lU l (opn 4 a u) (by omega);have z:tk F a [33]<=F.length/\a<=tk F a [33]:=by
  unfold tk;split
  .rename_i G;exact⟨iG G,by omega⟩
  omega
 obtain⟨v,i,I,o,e3,J,K,e6⟩:=h.command (tk F a [33]) (cu l [opn 4 a u]) (bM l) d q f (by omega) (by omega) (by omega) ⟨z.1,by rw[y];omega,s,x⟩;have ad:a<v/\i.length+1+2<=16*(v-a):=by
  cases h33:gq F a [33]with
  |true=>grind [oK]
  |false=>
   simp_all [zO,rZ]
 obtain⟨e,m,L,A,f3,M,N⟩:=aaL hF h (q:=q) (q':=f) (by omega) (by omega) (bM l) d u (bM l) u ⟨s,x⟩ bV v (cu l [opn 4 a u]++i) (dI) J (by omega) (by grind);obtain⟨O,S⟩:=rX l (i++m) (opn 4 a u);refine⟨e,(4,(a:Int),(e:Int),u,())::(i++m), ?_, ?_,by omega,M,by grind,Tr.one (((y▸K.2).wide z.2 (ae _)).app N.2 (ae _) (by grind)) (ae _) (ae _) (by omega) rfl⟩
 .show agI (fJ q) F (a:Int) l u d=_;rw[agI,Ff hF a l u d (by omega),bJ,hb];simp only[ak,ac,fD,aA,aa,E];rw[nZ hF a _ _ d (by omega) [33] rfl,bJ];simp only;rw[I,bJ];simp only;rw[L,bJ];simp only[dO,ah,O,S,aa,mP]
 .show awI (iC f) F (jc F) l (a:Int) u d=_;rw[awI,mM a l u d (by omega) (by omega) (by omega) s (by omega),bJ];simp only[show jS 4=false from rfl,ag,if_false];rw[jF a _ _ d [33] (by simp),bJ];simp only;rw[D]at o A;have B:bK (EH (iC f) bV u F (jc F) (v:Int) (bM l) d (l++[(4,(a:Int),0,u,())]++i)) (fun U=>dO U (fun g=>
    bK (qP g.2.2.1.1 g.2.2.1.2.1 g.2.2.2.1 g.2.2.1.2.2.1 g.2.2.1.2.2.2.1 g.2.2.1.2.2.2.2.1 g.1.1) fun j=>
     a6 ((j.1.1,(j.1.2.1,(j.1.2.2.1,(j.1.2.2.2.1,(j.1.2.2.2.2.1,(j.1.2.2.2.2.2.1,())))))),())) (fun b4=>a7))=a6 (RR F e (l++(4,(a:Int),(e:Int),u,())::(i++m)) u d,()):=by
   rw[A,bJ];simp only[dO];rw[ah (l++_),show bM l=((l.length:Nat):Int) from rfl,xy e _ u d l.length (by simp) (ql l _ 4 _ _) (by omega) (by omega) s (by omega),bJ];simp only[qc,show jS 4=false from rfl,ag,if_false]
  cases h33:gq F a [33]with
  |true=>
   rw[oK h33]at o;simp only[aa];rw[dC,show(a:Int)+1=((a+1:Nat):Int) by omega,show((l.length:Nat):Int)=bM l from rfl,o,bJ];exact B
  |false=>
   rw[zO h33]at o;simp only[ac];rw[show((l.length:Nat):Int)=bM l from rfl,o,bJ];exact B
theorem aau {n:Nat} (h:All F n) {q q':Nat} (D:n<=q) (E:n<=q') (u d v:Int) (hd:0<=d/\d<=200): ∀(N a:Nat) (L:List Nd),F.length-a<N->a<=F.length->16*(F.length-a)+11<n->L.length<=16*a+111->rZ F a d=true->
  ∃(f e:Nat) (m g:List Nd),Az (fJ q) N F (a:Int) u d L=a6 (.inl ((),((),()),((F,(f:Int),u,d,()),L++m,())))/\
   (iC q').q137 F (jc F) L (a:Int) u d=a6 (RR F e (L++g) u d,())/\
   BG (iC q') N v F (jc F) (e:Int) u d (L++g)=a6 (.inl ((v,()),((),()),((F,jc F,(f:Int),u,d,()),L++m,())))/\a<f/\f<=F.length/\m.length+1<=16*(f-a)/\Tr F a f u L.length m
 |0,a,L,G,_,_,_,_=>by omega
 |N+1,a,L,G,I,J,hL,M=>by
  have af:=hF.len;obtain⟨e,g,O,s,S,x,U⟩:=h.andor a L u d q q' J D E ⟨I,by omega,hd.1,hd.2⟩ M;obtain⟨V,_,_⟩:=lU L (opn 3 a u) (by omega);obtain⟨W,X⟩:=rX L g (opn 3 a u);have hP: ∀K:Option _,Az (fJ q) (N+1) F (a:Int) u d L=K->Az (fJ q) (N+1) F (a:Int) u d L=K:=fun _ h=>h;rw[Az,U5];simp only[fD,aA,aa,V];rw[O,bJ];simp only[W,X,aa,mP];rw[nZ hF e _ u d (by omega) [59,38] rfl,bJ];simp only;have Y:(L++(3,(a:Int),(e:Int),u,())::g).length=L.length+1+g.length:=by grind
  have stop: ∀b:Nat,e<=b->b<=F.length->((3,(a:Int),(e:Int),u,())::g).length+1<=16*(b-a)/\Tr F a b u L.length ((3,(a:Int),(e:Int),u,())::g):=fun b y z=>⟨by grind,U.2.one (ae _) y (by omega) rfl⟩;have next: ∀b:Nat,e<=b->b<=F.length->rZ F b d=true->e<b-> ∃(f:Nat) (m:List Nd) (l:Nat) (o:List Nd),
    Az (fJ q) N F (b:Int) u d (L++(3,(a:Int),(e:Int),u,())::g)=a6 (.inl ((),((),()),((F,(f:Int),u,d,()),L++m,())))/\
    (iC q').q137 F (jc F) (L++(3,(a:Int),(e:Int),u,())::g) (b:Int) u d=a6 (RR F l ((L++(3,(a:Int),(e:Int),u,())::g)++o) u d,())/\
    BG (iC q') N v F (jc F) (l:Int) u d ((L++(3,(a:Int),(e:Int),u,())::g)++o)=a6 (.inl ((v,()),((),()),((F,jc F,(f:Int),u,d,()),L++m,())))/\a<f/\f<=F.length/\m.length+1<=16*(f-a)/\Tr F a f u L.length m:=fun b y z i A=>by
   obtain⟨f,l,m,o,f1,Z,f3,f4,f5,f6⟩:=aau h D E u d v hd N b (L++(3,(a:Int),(e:Int),u,())::g) (by omega) z (by omega) (by rw[Y];omega) i;exact⟨f,((3,(a:Int),(e:Int),u,())::g)++m,l,o,by simp_all,Z,by simp_all,by omega,f5,by grind,(stop b y z).2.app f6.2 (ae _) (ai ..)⟩
  cases hs:gq F e [59,38]with
  |true=>
   have A:=iG hs;have ab:=zy (F:=F) (e+1);have j:=Au (F:=F) (a:=e+1) (by omega);rw[oK hs];simp only[aa];rw[oP hF (e+1) _ u d (by omega),bJ];simp only;rw[Ff hF _ _ u d (by omega),bJ];simp only;cases i:rZ F (ln F (e+1)) d with
   |false=>
    refine⟨ln F (e+1),e,_,_,rfl,s, ?_,by omega,j,stop _ (by omega) j⟩;rw[BG,Q8,jF e _ u d [59,38] (by simp),bJ,hs];simp only[aa];rw[dC,show(e:Int)+1=((e+1:Nat):Int) by omega,nT hF (e+1) _ u d (by omega),bJ]
    grind [KR,bJ]
   |true=>
    obtain⟨f,m,l,o,g1,g2,g3,g4,g5,g6⟩:=next _ (by omega) j i (by omega)
    refine⟨f,e,m,_,g1,s, ?_,g4,g5,g6⟩;rw[BG,Q8,jF e _ u d [59,38] (by simp),bJ,hs];simp only[aa];rw[dC,show(e:Int)+1=((e+1:Nat):Int) by omega,nT hF (e+1) _ u d (by omega),bJ];simp only;rw[KR _ _ u d (by omega),bJ,i];simp_all [bJ]
  |false=>
   have ab:=zy (F:=F) e;have j:=Au (F:=F) x;have B:BG (iC q') (N+1) v F (jc F) (e:Int) u d (L++(3,(a:Int),(e:Int),u,())::g)=
     (bif bZ (((ln F e:Nat):Int)-e) 0 then(a6 (.inl ((v,()),((),()),((F,jc F,((ln F e:Nat):Int),u,d,()),L++(3,(a:Int),(e:Int),u,())::g,()))):Option (aem.den⊕aeW.den))
     else bif !rZ F (ln F e) d then a6 (.inl ((v,()),((),()),((F,jc F,((ln F e:Nat):Int),u,d,()),L++(3,(a:Int),(e:Int),u,())::g,())))
      else bK ((iC q').q137 F (jc F) (L++(3,(a:Int),(e:Int),u,())::g) ((ln F e:Nat):Int) u d) fun p=>BG (iC q') N v p.1.1 p.1.2.1 p.1.2.2.2.1 p.1.2.2.2.2.1 p.1.2.2.2.2.2.1 p.1.2.2.1):=by
    rw[BG,Q8,jF e _ u d [59,38] (by simp),bJ,hs];simp only[ac];rw[nT hF e _ u d x,bJ];simp only;cases bZ (((ln F e:Nat):Int)-e) 0 with
    |true=>rfl
    |false=>
     simp only[ac]
     grind [KR,bJ]
   rw[zO hs];simp only[ac];rw[oP hF e _ u d x,bJ];simp only;cases hln:gq F e [110]with
   |false=>
    have ad:ln F e=e:=by rw[Og,hln];rfl
    rw[ad]at B ⊢;refine⟨e,e,_,_,rfl,s, ?_,S,x,stop _ (ae _) x⟩;simp_all [dW]
   |true=>
    have A:e<ln F e:=by simp_all [aNb]
    simp only[ak,ac];rw[dD (dJ)]at B;rw[Ff hF _ _ u d (by omega),bJ];simp only;cases i:rZ F (ln F e) d with
    |false=>
     refine⟨ln F e,e,_,_,rfl,s, ?_,by omega,j,stop _ (by omega) j⟩;rw[B,i];rfl
    |true=>
     obtain⟨f,m,l,o,g1,g2,g3,g4,g5,g6⟩:=next _ (by omega) j i A
     refine⟨f,e,m,_,g1,s, ?_,g4,g5,g6⟩;simp_all [bJ]
theorem asb {n:Nat} (h:All F n) (a:Nat) (l:List Nd) (u d:Int) (r g:Nat) (D:16*(F.length-a)+12<n+1) (E:n+1<=r) (G:n+1<=g) (hp:MR F a l d 110) (hb:rZ F a d=true):
  ∃(e:Nat) (m:List Nd),(fJ r).q160 F (a:Int) (cu l [opn 2 a u]) (bM l) d=a6 (PR F e (cu l [opn 2 a u]++m) (bM l) d,())/\
   (iC g).q95 F (jc F) l (a:Int) u d=a6 (RR F e (l++(2,(a:Int),(e:Int),u,())::m) u d,())/\a<e/\e<=F.length/\m.length+1<=16*(e-a)/\Tr F a e (bM l) (l.length+1) m:=by
 obtain⟨v,I,i,x⟩:=hp;have J:=hF.len;obtain⟨q,rfl⟩: ∃q,r=q+1:=⟨r-1,by omega⟩;obtain⟨f,rfl⟩: ∃f,g=f+1:=⟨g-1,by omega⟩;have j:(cu l [opn 2 a u]).length=l.length+1:=by unfold cu;simp
 have y:cu l [opn 2 a u]=l++[(2,(a:Int),0,u,())]:=rfl;obtain⟨e,K,m,L,z,o,p,A,B,s⟩:=aau hF h (q:=q) (q':=f) (by omega) (by omega) (bM l) d u ⟨i,x⟩ bV a (cu l [opn 2 a u]) (dI) v (by omega) (by rw[j];omega) hb;refine⟨e,m, ?_, ?_,A,B,s.1,j▸s.2⟩
 .show awH (fJ q) F (a:Int) _ _ d=_;rw[awH,z,bJ];rfl
 .show aIU (iC f) F (jc F) l (a:Int) u d=_;rw[aIU,mM a l u d (by omega) (by omega) (by omega) i (by omega),bJ];simp only[show jS 2=false from rfl,ag,if_false];rw[y]at o p;rw[show((l.length:Nat):Int)=bM l from rfl,o,bJ];simp only;rw[p,bJ];simp only[dO];rw[show bM l=((l.length:Nat):Int) from rfl,xy e _ u d l.length (by simp) (ql l _ 2 _ _) (by omega) (by omega) i (by omega),bJ];simp only[qc,show jS 2=false from rfl,ag,if_false]
end
section
open Bool renaming and_eq_true → af, not_true → ak, not_false → az
open List renaming getElem_take → bu
open Nat renaming lt_of_lt_of_le → bz
open Go.RowKit
theorem XA {s:List UInt8} (d:s.length<1000000):Wx s 0=some (((nl s:Nat):Int),()):=by
 have:=atS (bz d (by omega)) (a:=0) (Nat.zero_le _);simpa using this
theorem GN {s:List UInt8} (d:s.length<1000000):WH s=some (decide (nl s≠0/\nl s=s.length),()):=by
 rw[WH];by_cases h0:s=[]
 .subst h0;rfl
 have f:0<s.length:=List.length_pos_iff.2 h0;rw[FZ h0];simp only[az,aa];rw[XA d,bJ];congr 2;by_cases h:nl s=s.length
 .rw[dW (by rw[bP];omega),decide_eq_true ⟨by omega,h⟩]
 .rw[dJ (by rw[bP];omega),decide_eq_false (fun e=>h e.2)]
def jr (s:bU):Bool:=decide (nl s≠0/\nl s<s.length)&&decide (s.getD (nl s) 0=61)
theorem aga {s:List UInt8} (f:s.length<1000000): ∃x y,WA s=some (x,(y,(jr s,()))):=by
 have g:nl s<=s.length:=by unfold nl;split;omega;exact F9 WS s
 rw[WA,XA f,bJ];simp only;by_cases h0:nl s=0
 .exact⟨[],[],by rw[bW (dW),jr,decide_eq_false (fun h=>h.1 h0)];rfl⟩
 rw[dD (dJ)];by_cases h1:nl s=s.length
 .exact⟨[],[],by rw[bW (dW (by rw[bP];omega)),jr,decide_eq_false (fun h=>by omega)];rfl⟩
 have d:nl s<s.length:=by omega
 rw[dD (dJ (by rw[bP];omega)),bW (ed),byte_at d];have e:s.getD (nl s) 0=s[nl s]:=by rw[List.getD_eq_getElem?_getD,List.getElem?_eq_getElem d];rfl
 by_cases h3:s[nl s]=61
 .rw[h3,show bZ ((61:UInt8).toNat:Int) 61=true from rfl];simp only[ak,ac];rw[dC,bW (eU (by omega) (by omega) (by rw[bP];omega)),bW (eU (by omega) (by rw[bP];omega) (by omega))];exact⟨_,_,by rw[jr,decide_eq_true ⟨h0,d⟩,e,decide_eq_true h3];rfl⟩
 .rw[dJ (fun h=>h3 (UInt8.toNat_inj.1 (by have:((61:UInt8).toNat:Int)=61:=rfl;omega)))];exact⟨[],[],by rw[jr,e,decide_eq_false h3,Bool.and_false];rfl⟩
theorem aLs (s:bU) (i:Nat):sub s 0 (i:Int)=s.take i:=by simp[sub]
theorem aza {s:List UInt8} {i:Nat} (hi:i<s.length) (m:s[i]=61):(nl (s.take i)≠0/\nl (s.take i)=(s.take i).length)↔(nl s≠0/\nl s=i):=by
 have o:WS (61:UInt8)=false:=by decide
 have q:isL (61:UInt8)=false:=by decide
 have u:(s.take i).length=i:=by simp;omega
 have g: ∀p:UInt8->Bool,p 61=false->(((s.take i).takeWhile p).length=i↔(s.takeWhile p).length=i)/\((((s.take i).takeWhile p).length=0)↔((s.takeWhile p).length=0)):=by
  intro p v;have x:(s.takeWhile p).length<=i:=by
   by_cases c:(s.takeWhile p).length<=i
   .exact c
   .have:=Iu p s i hi (by omega);rw[m,v]at this;cases this
  have e:((s.take i).takeWhile p).length=(s.takeWhile p).length:=by
   refine aOZ p _ _ (by omega) (fun j y h=> ?_) fun h=> ?_
   .rw[bu];exact Iu p s j (by omega) h
   .rw[bu];exact CO p s (by omega)
  rw[e];exact⟨Iff.rfl,Iff.rfl⟩
 have f:=g WS o;have l:=g isL q;unfold nl JY runN;rw[u];by_cases h:(s.takeWhile isL).length=0
 .rw[am h,am (l.2.2 h)]
 .rw[aq h,aq (fun d=>h (l.2.1 d))];constructor
  .rintro ⟨a,b⟩;exact⟨fun d=>a (f.2.2 d),f.1.1 b⟩
  .rintro ⟨a,b⟩;exact⟨fun d=>a (f.2.1 d),f.1.2 b⟩
theorem zX {s:List UInt8} (g:s.length<1000000): ∀(N k:Nat),s.length-k<N->1<=k->k<=s.length->(jr s=true->k<=nl s)->
  ∃r,LH N s (k:Int)=some r/\(jr s=true-> ∃n:Nat,r=.inr (((n:Int),()),())/\0<n/\n=nl s)/\(jr s=false->r=.inl ((),()))
 |0,k,h,_,_,_=>by omega
 |N+1,k,h,p,hk,f=>by
  rw[LH,afx];by_cases h1:k<s.length
  .have o:bY .i64 (k:Int) 1=((k+1:Nat):Int):=by rw[dC];rfl
   rw[bW (eX (by rw[bP];omega)),bW (ed),byte_at h1,o];have i:s.getD k 0=s[k]:=by rw[List.getD_eq_getElem?_getD,List.getElem?_eq_getElem h1];rfl
   by_cases h2:s[k]=61
   .rw[h2,show bZ ((61:UInt8).toNat:Int) 61=true from rfl];simp only[aa];rw[bW (eU (by omega) (by omega) (by rw[bP];omega)),aLs,rP (by simp;omega),bJ];simp only;have j:=aza h1 h2;by_cases h3:nl s≠0/\nl s=k
    .rw[decide_eq_true (j.2 h3)];refine⟨_,rfl,fun _=>⟨k,rfl,by omega,h3.2.symm⟩,fun l=> ?_⟩;have:jr s=true:=by rw[jr,decide_eq_true ⟨h3.1,by omega⟩,h3.2,i,decide_eq_true h2];rfl
     rw[this]at l;cases l
    .rw[decide_eq_false (fun d=>h3 (j.1 d))];refine zX g N (k+1) (by omega) (by omega) (by omega) fun d=> ?_;have m:=f d;unfold jr at d;simp only[af,decide_eq_true_eq]at d;omega
   .rw[dJ (fun h=>h2 (UInt8.toNat_inj.1 (by have:((61:UInt8).toNat:Int)=61:=rfl;omega)))];refine zX g N (k+1) (by omega) (by omega) (by omega) fun d=> ?_;have m:=f d;unfold jr at d;simp only[af,decide_eq_true_eq]at d;by_cases e:k=nl s
    .subst e;rw[i]at d;exact absurd d.2 h2
    .omega
  .rw[dD (gB (by rw[bP];omega))];refine⟨_,rfl,fun d=> ?_,fun _=>rfl⟩;have m:=f d;unfold jr at d;simp only[af,decide_eq_true_eq]at d;omega
theorem aqJ {s:List UInt8} (d:s.length<1000000):aj2 s=some (if jr s=true then(nl s:Int)else 0,()):=by
 rw[aj2];by_cases h0:s=[]
 .subst h0;rfl
 have l:0<s.length:=List.length_pos_iff.2 h0;obtain⟨r,f,g,i⟩:=zX d bV 1 (dI) (by omega) (by omega) (fun h=>by
  unfold jr at h;simp only[af,decide_eq_true_eq]at h;omega)
 rw[show LH bV s 1=_ from f];cases ha:jr s with
 |true=>
  obtain⟨n,e,m,j⟩:=g ha;subst e j;rfl
 |false=>
  have e:=i ha;subst e;rfl
theorem ajd {s:List UInt8} (d:s.length<1000000): ∃n:Int,aj2 s=some (n,())/\gU 0 n=jr s/\bZ n 0= !jr s:=by
 rw[aj2];by_cases h0:s=[]
 .subst h0;exact⟨0,rfl,rfl,rfl⟩
 have j:0<s.length:=List.length_pos_iff.2 h0;obtain⟨r,f,g,i⟩:=zX d bV 1 (dI) (by omega) (by omega) (fun h=>by
  unfold jr at h;simp only[af,decide_eq_true_eq]at h;omega)
 rw[show LH bV s 1=_ from f];cases ha:jr s with
 |true=>
  obtain⟨n,e,l,_⟩:=g ha;subst e;exact⟨n,rfl,eX,dJ⟩
 |false=>
  have e:=i ha;subst e;exact⟨0,rfl,rfl,rfl⟩
theorem aqK {s:List UInt8} (d:s.length<1000000):anq s=some (jr s,()):=by
 obtain⟨x,y,h⟩:=aga d;rw[anq,h,bJ]
end
section
open Bool renaming false_eq_true → ag, not_true → ak, not_false → az, and_true → aA, true_and → aG, false_or → aW
open List renaming append_assoc → ah, length_append → ai, getElem_mem → aF
open Nat renaming le_refl → ae
open Go.RowKit
variable {F:List Lf} (hF:Vy F)
include hF
omit hF in
theorem XH {a:Nat} {c:UInt8} (h:gq F a [c]=true):Gm F a=c:=by
 simp_all [gq]
omit hF in
theorem Yi {a:Nat} {c:UInt8} (d:c≠0) (h:Gm F a=c):gq F a [c]=true:=by
 grind [Ph,gq]
def Rx (F:List Lf) (a:Nat) (u:Int):Nd:=if Ey F a=true then(7,(a:Int),((a+1:Nat):Int),u,())else(18,(a:Int),(a:Int),u,())
omit hF in
theorem MO (a:Nat) (l:List Nd) (u:Int):wdL F a l u=l++[Rx F a u]:=by grind [wdL,Rx]
omit hF in
theorem aL8 (a:Nat):a<=Gf F a/\(a<=F.length->Gf F a<=F.length):=by
 unfold Gf;split
 .grind [acy]
 omega
omit hF in
theorem YS {a b c:Nat} {u:Int} {k:Nat} (d:a<=c) (h2:Gf F c<=b):Tr F a b u k [Rx F c u]:=by
 unfold Gf at h2;unfold Rx;split at h2
 .rename_i h;rw[am h];exact .lf d h2 (by omega) (fun _=>by simpa [Ey] using h)
 .rename_i h;rw[aq h];exact .mis d h2
theorem Tm (a:Nat) (l:List Nd) (u d:Int) (G:a<=F.length) (hl:l.length<100000000) (hd:0<=d) (I:d<1000000) (h:Gl F a=true):
  ∃(g:Nat) (m:List Nd),Dn F (a:Int) l u d=some (PR F g (l++m) u d,(true,()))/\ag3 F (jc F) l (a:Int) u d=some (RR F g (l++m) u d,())/\a<g/\g<=F.length/\m.length=2/\Tr F a g u l.length m:=by
 have J:=hF.len;obtain⟨q,_,_⟩:=lU l (opn 8 a u) (by omega);have s:(cu l [opn 8 a u]).length=l.length+1:=by unfold cu;simp
 obtain⟨b,v,x,y,i,j⟩: ∃b:Nat,a<b/\b<=F.length/\tk F (tk F a [35]) [60]=b/\(if gq F a [35]=true then a+2 else a+1)=b/\((b=a+1\/b=a+2/\gq F a [35]=true)/\gq F (b-1) [60]=true):=by
  cases h35:gq F a [35]with
  |true=>
   have K:=XH h35;unfold Gl at h;have z:gq F a [60]=false:=by
    simp_all [gq]
   rw[z,h35,aW,aG,decide_eq_true_eq]at h;have o:=Yi (by decide) h;exact⟨a+2,by omega,iG o,by grind [oK],by simp,.inr ⟨rfl,rfl⟩,o⟩
  |false=>
   unfold Gl at h;rw[h35,Bool.false_and,Bool.or_false]at h;exact⟨a+1,by omega,iG h,by rw[zO h35,oK h],by simp,.inl rfl,h⟩
 have L:tk F a [35]<=F.length:=by
  grind [tk]
 obtain⟨M,A⟩:=aL8 (F:=F) b;obtain⟨B,D⟩:=rX l [Rx F b (bM l)] (opn 8 a u);have N:cu l [opn 8 a u]=l++[(8,(a:Int),0,u,())]:=rfl;refine⟨Gf F b,[(8,(a:Int),((Gf F b:Nat):Int),u,()),Rx F b (bM l)], ?_, ?_,by omega,A x,rfl,Tr.one (YS (Nat.le_of_lt v) (ae _)) (ae _) (ae _) (by omega) rfl (fun _=>by
  obtain⟨p,rfl⟩: ∃p,b=p+1:=⟨b-1,by omega⟩;refine⟨p,(by
   rcases j.1 with h|⟨h,E⟩
   .exact .inl (by omega)
   .exact .inr ⟨by omega,E⟩),j.2, ?_⟩
  unfold Rx Gf;split
  .exact .inl ⟨rfl,_,rfl⟩
  .exact .inr ⟨rfl,_,rfl⟩)⟩
 .rw[Dn,Ia hF a l u d (by omega),bJ,h];simp only[ak,ac,fD,aA,aa,q];rw[nZ hF a _ _ d (by omega) [35] rfl,bJ];simp only;rw[nZ hF _ _ _ d (by omega) [60] rfl,bJ,y];simp only;rw[YV b _ _ d (by omega) (by rw[s];omega),bJ];simp only[MO,B,D,aa,mP]
 .rw[ag3,mM a l u d (by omega) (by omega) (by omega) hd (by omega),bJ];simp only[show jS 8=false from rfl,ag,if_false];rw[jF a _ _ d [35] (by simp),bJ];simp only;have O:bK (zi F (jc F) (l++[(8,(a:Int),0,u,())]) (b:Int) ((l.length:Nat):Int) d) (fun e=>bK (qP e.1.1 e.1.2.1 e.1.2.2.1 e.1.2.2.2.1 e.1.2.2.2.2.1 e.1.2.2.2.2.2.1 u) fun f=>
    some ((f.1.1,(f.1.2.1,(f.1.2.2.1,(f.1.2.2.2.1,(f.1.2.2.2.2.1,(f.1.2.2.2.2.2.1,())))))),()))=some (RR F (Gf F b) (l++[(8,(a:Int),((Gf F b:Nat):Int),u,()),Rx F b (bM l)]) u d,()):=by
   rw[af1 b _ _ d (by omega) (by grind) hd (by omega),bJ];simp only[MO];rw[xy (Gf F b) _ u d l.length (by simp) (ql l _ 8 _ _) (by omega) (by omega) hd (by omega),bJ];simp only[qc,show jS 8=false from rfl,ag,if_false];rfl
  cases h35:gq F a [35]with
  |true=>
   rw[h35,am rfl]at i;simp only[aa]
   grind [dC]
  |false=>
   rw[h35,aq (by simp)]at i;simp only[ac]
   grind [dC]
theorem pU (a:Nat) (l:List Nd) (u d:Int) (e:a<=F.length) (h:Gl F a=false):Dn F (a:Int) l u d=some (PR F a l u d,(false,())):=by
 have f:=hF.len;rw[Dn,Ia hF a l u d (by omega),bJ,h];rfl
theorem Ib {q':jh} (u d v:Int) (hd:0<=d/\d<=201): ∀(N a:Nat) (L:List Nd) (i:Bool) (w:Int),F.length-a<N->a<=F.length->L.length<=16*a+1000->0<=w->w<=a->(i=true↔w≠0)->
  ∃(f:Nat) (m:List Nd),Jb N i F (a:Int) u d L=some (.inl ((),((),()),((F,(f:Int),u,d,()),L++m,())))/\
   Dw q' N v w F (jc F) (a:Int) u d L=some (.inl ((v,()),((),()),((F,jc F,(f:Int),u,d,()),L++m,())))/\a<=f/\f<=F.length/\(m.length<=2*(f-a)/\Tr F a f u L.length m)/\((Gl F a||Ey F a)=true->a<f)
 |0,a,L,i,w,J,_,_,_,_,_=>by omega
 |N+1,a,L,i,w,J,l,hL,z,af,A=>by
  have aj:=hF.len;rw[Jb,Vg,Dw,Pq,BA a L u d (by omega),bJ];simp only;cases hr:Gl F a with
  |true=>
   obtain⟨K,B,M,O,e3,S,U⟩:=Tm hF a L u d l (by omega) hd.1 (by omega) hr;rw[M,bJ];simp only[aa];rw[O,bJ];simp only;obtain⟨f,m,V,o,W,p,q,_⟩:=Ib u d v hd N K (L++B) i w (by omega) S (by grind) z (by omega) A;exact⟨f,B++m,by simp_all,by rw[o,ah],by omega,p,⟨by grind,U.2.app q.2 (ae _) (ai ..)⟩,fun _=>by omega⟩
  |false=>
   rw[pU hF a L u d l hr,bJ];simp only[ac];rw[Dp a L u d,bJ];simp only;cases hi:Ey F a with
   |false=>
    refine⟨a,[],by simp, ?_,ae _,l,⟨by simp,.nil (ae _)⟩,fun h=>by simp at h⟩;by_cases h:a<F.length
    .have x:F[a].1≠6:=by
      simp_all [Ey]
     simp_all [ed,Du,dJ]
    simp_all [gB,bP]
   |true=>
    have h:=acy hi;have x:F[a].1=6:=by
     simp_all [Ey]
    have X:fO F (a:Int)=true:=ed;have hg:=hF.txt _ (aF h);obtain⟨y,Y,Z,y3⟩:=ajd (s:=F[a].2.1) (by omega);simp only[ak,ac];rw[bW (eX (by rw[bP];omega)),X];simp only[aa,Du h,dW x];rw[aqK (by omega),bJ,Y,bJ];simp only[Z];have go: ∀(k:Int) (j:Bool) (g:Int),k=6\/k=7->0<=g->g<=((a+1:Nat):Int)->(j=true↔g≠0)-> ∃(f:Nat) (m:List Nd),
      Jb N j F ((a+1:Nat):Int) u d (L++[(k,(a:Int),((a+1:Nat):Int),u,())])=some (.inl ((),((),()),((F,(f:Int),u,d,()),L++m,())))/\
      Dw q' N v g F (jc F) ((a+1:Nat):Int) u d (L++[(k,(a:Int),((a+1:Nat):Int),u,())])=some (.inl ((v,()),((),()),((F,jc F,(f:Int),u,d,()),L++m,())))/\a<=f/\f<=F.length/\(m.length<=2*(f-a)/\Tr F a f u L.length m)/\((false||true)=true->a<f):=fun k j g hk h1 h2 h3=>by
     obtain⟨f,m,V,o,W,p,q,_⟩:=Ib u d v hd N (a+1) (L++[(k,(a:Int),((a+1:Nat):Int),u,())]) j g (by omega) (by omega) (by grind) h1 h2 h3;exact⟨f,[(k,(a:Int),((a+1:Nat):Int),u,())]++m,by simp_all,by rw[o,ah],by omega,p,⟨by grind,(Tr.lf (ae _) (ae _) (by omega) (fun _=>⟨h,x⟩)).app q.2 (ae _) (ai ..)⟩,fun _=>by omega⟩
    have D:bY .i64 w 1=w+1:=dC;have E: ∀g,g=w+1->(true=true↔g≠0):=fun g e=>⟨fun _=>by omega,fun _=>rfl⟩;have l6:=Lu (F:=F) a L u d 6 (by omega) (by omega);have G:=Lu (F:=F) a L u d 7 (by omega) (by omega);have o6:=SX (F:=F) a L u d (k:=6) (by omega) (by omega) rfl (by omega) (by omega) hd.1 (by omega);have I:=SX (F:=F) a L u d (k:=7) (by omega) (by omega) rfl (by omega) (by omega) hd.1 (by omega);by_cases hw:w=0
    .have ab:i=false:=by
      simp_all
     subst ab;rw[dW hw];simp only[az,aa];cases jr F[a].2.1 with
     |true=>
      simp only[aa];rw[l6,o6,bJ,bJ];exact go 6 false w (.inl rfl) z (by omega) ⟨fun h=>(by cases h),fun h=>absurd hw h⟩
     |false=>
      simp only[ac];rw[G,I,bJ,bJ];simp only[D];exact go 7 true (w+1) (.inr rfl) (by omega) (by omega) (E _ rfl)
    .have ad:i=true:=A.2 hw;subst ad;rw[dJ hw];simp only[ak,ac];rw[G,I,bJ,bJ];simp only[D];exact go 7 true (w+1) (.inr rfl) (by omega) (by omega) (E _ rfl)
end
section
open Bool renaming and_eq_true → af, true_and → aG
open List renaming append_assoc → ah, getElem_mem → aF
open Nat renaming le_refl → ae
open Go.RowKit
variable {F:List Lf} (hF:Vy F)
include hF
def fnB (F:List Lf) (a:Nat) (d:Int):Bool:=gq F a [120]&&(decide (Gm F (a+1)=40)&&(decide (d<200)&&(if h:a<F.length then decide (nl F[a].2.1≠0/\nl F[a].2.1=F[a].2.1.length)else false)))
omit hF in
theorem al7 (a:Nat) (c:UInt8):bZ ((Gm F a).toNat:Int) (c.toNat:Int)=decide (Gm F a=c):=by
 rw[iJ,decide_eq_decide]
 grind [UInt8.toNat_inj]
theorem aj8 (a:Nat) (l:List Nd) (u d:Int) (e:a<=F.length):ano F (a:Int) l u d=some (PR F a l u d,(fnB F a d,())):=by
 have f:=hF.len;rw[ano,qw hF a l u d (by omega),bJ];simp only;rw[show bZ ((Gm F a).toNat:Int) 120=gq F a [120] from aaV a 120 (by decide)];unfold fnB;cases hx:gq F a [120]with
 |false=>rfl
 |true=>
  have h:=iG hx;simp only[aa,aG];rw[ap7 hF a l u d (by omega),bJ];simp only;rw[show bZ ((Gm F (a+1)).toNat:Int) 40=decide (Gm F (a+1)=40) from al7 (a+1) 40];cases decide (Gm F (a+1)=40)with
  |false=>rfl
  |true=>
   simp only[aa,aG];by_cases hd:d<200
   .rw[bW (eX hd),bW (ed),Du h,GN (by have:=hF.txt _ (aF h);omega),bJ,dif_pos h,decide_eq_true hd,aG]
   simp_all [gB,decide_eq_false]
omit hF in
theorem KP (a:Nat) (o:bU):a<=rH F a o/\(a<=F.length->rH F a o<=F.length):=by
 unfold rH tk;split
 .grind [iG]
 omega
def xn (F:List Lf) (a:Nat) (o:bU) (u:Int):List Nd:=if gq F a o=true then []else [(18,(a:Int),(a:Int),u,())]
omit hF in
theorem nJ (a:Nat) (o:bU) (l:List Nd) (u:Int):wnL F a o l u=l++xn F a o u:=by
 grind [wnL,xn]
omit hF in
theorem zS {a b c:Nat} {o:List UInt8} {u:Int} {k:Nat} (d:a<=c) (h2:c<=b):Tr F a b u k (xn F c o u):=by
 unfold xn;split
 .exact .nil (by omega)
 .exact .mis d h2
omit hF in
theorem wB (a:Nat) (o:bU) (u:Int):(xn F a o u).length<=1:=by grind [xn]
theorem aqU {n:Nat} (h:All F n) (z:All F (n-1)) (a:Nat) (l:List Nd) (u d:Int) (q q':Nat) (Y:16*(F.length-a)+9<n+1) (Z:n<=q) (ab:n<=q') (hp:MR F a l d 113) (hb:fnB F a d=true):
  ∃(e:Nat) (m:List Nd),(fJ q).q241 F (a:Int) (cu l [opn 16 a u]) (bM l) (d+1)=some (PR F e (cu l [opn 16 a u]++m) (bM l) (d+1),())/\
   (bK (Gi F (jc F) l (a:Int) u d 16) fun j=>
    bK (Qj j.1.1 j.1.2.1 j.1.2.2.1 j.1.2.2.2.1 j.1.2.2.2.2.1 j.1.2.2.2.2.2.1 7) fun o=>
     bK (oh o.1.1 o.1.2.1 o.1.2.2.1 (bY .i64 o.1.2.2.2.1 1) o.1.2.2.2.2.1 o.1.2.2.2.2.2.1 [41]) fun p=>
      bK (mY p.1.1 p.1.2.1 p.1.2.2.1 p.1.2.2.2.1 p.1.2.2.2.2.1 p.1.2.2.2.2.2.1) fun s=>
       bK (WE s.1.1 s.1.2.1 s.1.2.2.1 s.1.2.2.2.1 s.1.2.2.2.2.1 s.1.2.2.2.2.2.1) fun g=>
        bif g.2.1 then
         bK ((iC q').q210 g.1.1 g.1.2.1 g.1.2.2.1 g.1.2.2.2.1 g.1.2.2.2.2.1 g.1.2.2.2.2.2.1) fun i=>
          bK (qP i.1.1 i.1.2.1 i.1.2.2.1 i.1.2.2.2.1 i.1.2.2.2.2.1 i.1.2.2.2.2.2.1 j.2.1) fun f=>
           some ((f.1.1,(f.1.2.1,(f.1.2.2.1,(f.1.2.2.2.1,(f.1.2.2.2.2.1,(f.1.2.2.2.2.2.1,())))))),())
        else
        bK (wS g.1.1 g.1.2.1 g.1.2.2.1 g.1.2.2.2.1 g.1.2.2.2.2.1 g.1.2.2.2.2.2.1) fun i=>
         bK (qP i.1.1 i.1.2.1 i.1.2.2.1 i.1.2.2.2.1 i.1.2.2.2.2.1 i.1.2.2.2.2.2.1 j.2.1) fun f=>
          some ((f.1.1,(f.1.2.1,(f.1.2.2.1,(f.1.2.2.2.1,(f.1.2.2.2.2.1,(f.1.2.2.2.2.2.1,())))))),()))=some (RR F e (l++(16,(a:Int),(e:Int),u,())::m) u d,())/\a<e/\e<=F.length/\m.length+4<=16*(e-a)/\Tr F a e (bM l) (l.length+1) m:=by
 obtain⟨p1,p2,M,p4⟩:=hp;have ad:=hF.len;unfold fnB at hb;simp only[af,decide_eq_true_eq]at hb;obtain⟨B,N,b3,_⟩:=hb;have x:=iG B;have D:Ey F a=true:=by
  unfold Ey;rw[dif_pos x];have z:=XH B;rw[Yf x]at z;exact decide_eq_true (aG5 (hF.txt _ (aF x)) z)
 have E:=Yi (F:=F) (a:=a+1) (c:=40) (by decide) N;have ag:=iG E;obtain⟨y,rfl⟩: ∃y,q=y+1:=⟨q-1,by omega⟩;have O:cu l [opn 16 a u]=l++[(16,(a:Int),0,u,())]:=rfl;have S:(cu l [opn 16 a u]).length=l.length+1:=by unfold cu;simp
 have G:=KP (F:=F) (a+2) [41];have A:=G.2 (by omega);have ai:=wB (F:=F) (a+2) [41] (bM l);have U:=zy (F:=F) (rH F (a+2) [41]);have I:=Au (F:=F) A;have J: ∀(e:Nat) (m:List Nd),bK (qP F (jc F) ((l++[(16,(a:Int),0,u,())])++m) (e:Int) ((l.length:Nat):Int) (d+1) u) (fun f=>some ((f.1.1,(f.1.2.1,(f.1.2.2.1,(f.1.2.2.2.1,(f.1.2.2.2.2.1,(f.1.2.2.2.2.2.1,())))))),()))=some (RR F e (l++(16,(a:Int),(e:Int),u,())::m) u d,()):=fun e m=>by
  rw[xy e _ u (d+1) l.length (by simp) (ql l _ 16 _ _) (by omega) (by omega) (by omega) (by omega),bJ];simp only[qc,show jS 16=true from rfl,if_true,show d+1-1=d by omega]
 have V: ∃(e:Nat) (m:List Nd),(bif KZ F (ln F (rH F (a+2) [41])) (d+1)then
    (fJ y).q238 F ((ln F (rH F (a+2) [41]):Nat):Int) ((cu l [opn 16 a u]++[(7,(a:Int),((a+1:Nat):Int),bM l,())])++xn F (a+2) [41] (bM l)) (bM l) (d+1)
   else Ai F ((ln F (rH F (a+2) [41]):Nat):Int) ((cu l [opn 16 a u]++[(7,(a:Int),((a+1:Nat):Int),bM l,())])++xn F (a+2) [41] (bM l)) (bM l) (d+1))=some (PR F e (((cu l [opn 16 a u]++[(7,(a:Int),((a+1:Nat):Int),bM l,())])++xn F (a+2) [41] (bM l))++m) (bM l) (d+1),())/\
   (bif KZ F (ln F (rH F (a+2) [41])) (d+1)then
    (iC q').q210 F (jc F) ((cu l [opn 16 a u]++[(7,(a:Int),((a+1:Nat):Int),bM l,())])++xn F (a+2) [41] (bM l)) ((ln F (rH F (a+2) [41]):Nat):Int) (bM l) (d+1)
   else wS F (jc F) ((cu l [opn 16 a u]++[(7,(a:Int),((a+1:Nat):Int),bM l,())])++xn F (a+2) [41] (bM l)) ((ln F (rH F (a+2) [41]):Nat):Int) (bM l) (d+1))=some (RR F e (((cu l [opn 16 a u]++[(7,(a:Int),((a+1:Nat):Int),bM l,())])++xn F (a+2) [41] (bM l))++m) (bM l) (d+1),())/\ln F (rH F (a+2) [41])<=e/\e<=F.length/\m.length<=16*(e-ln F (rH F (a+2) [41]))+1/\Tr F (ln F (rH F (a+2) [41])) e (bM l) ((cu l [opn 16 a u]++[(7,(a:Int),((a+1:Nat):Int),bM l,())])++xn F (a+2) [41] (bM l)).length m:=by
  have aj:((cu l [opn 16 a u]++[(7,(a:Int),((a+1:Nat):Int),bM l,())])++xn F (a+2) [41] (bM l)).length<=l.length+3:=by
   simp_all
  cases hc:KZ F (ln F (rH F (a+2) [41])) (d+1)with
  |true=>
   obtain⟨e,m,W,v,X,K,L⟩:=z.compound (ln F (rH F (a+2) [41])) ((cu l [opn 16 a u]++[(7,(a:Int),((a+1:Nat):Int),bM l,())])++xn F (a+2) [41] (bM l)) (bM l) (d+1) y q' (by omega) (by omega) (by omega) ⟨I,by omega,by omega,by omega⟩ hc
   grind
  |false=>
   refine⟨ln F (rH F (a+2) [41]),[(18,((ln F (rH F (a+2) [41]):Nat):Int),((ln F (rH F (a+2) [41]):Nat):Int),bM l,())], ?_, ?_,ae _,I,by simp,.mis (ae _) (ae _)⟩
   .rw[ac,oz _ ((cu l [opn 16 a u]++[(7,(a:Int),((a+1:Nat):Int),bM l,())])++xn F (a+2) [41] (bM l)) _ _ (by omega)]
   .rw[ac,zB _ ((cu l [opn 16 a u]++[(7,(a:Int),((a+1:Nat):Int),bM l,())])++xn F (a+2) [41] (bM l)) _ _ (by omega) (by omega) (by omega)]
 obtain⟨e,m,W,v,X,K,L⟩:=V;refine⟨e,[(7,(a:Int),((a+1:Nat):Int),bM l,())]++xn F (a+2) [41] (bM l)++m, ?_, ?_,by omega,K,by grind,((Tr.lf (ae a) (ae _) (by omega) (fun _=>⟨x,by simpa [Ey,x] using D⟩)).app (zS (a:=a+1) (by omega) G.1) (ae _) rfl).app L.2 U (by grind)⟩
 .show awQ (fJ y) F (a:Int) _ _ _=_;rw[awQ,YV a _ _ _ (by omega) (by rw[S];omega),bJ];simp only[wdL,Gf,D,if_true];rw[nZ hF (a+1) _ _ _ (by omega) [40] rfl,oK E,bJ];simp only;rw[show a+1+1=a+2 from rfl,CP hF (a+2) _ _ _ (by omega) (by grind) [41] rfl,bJ];simp only[nJ];rw[oP hF _ _ _ _ A,bJ];simp only;rw[Gu hF _ _ _ _ (by omega),bJ];simp only;cases hc:KZ F (ln F (rH F (a+2) [41])) (d+1)with
  |true=>
   simp_all [bJ]
  |false=>
   simp_all [bJ]
 .rw[mM a l u d (by omega) (by omega) (by omega) M (by omega),bJ];simp only[show jS 16=true from rfl,if_true];rw[SX a _ _ _ (k:=7) (by omega) (by omega) rfl (by omega) (by grind) (by omega) (by omega),bJ];simp only;rw[dC,show((a+1:Nat):Int)+1=((a+2:Nat):Int) by omega,CQ (a+2) _ _ _ (by omega) (by grind) (by omega) (by omega) [41] (by simp),bJ];simp only[nJ];rw[nT hF _ _ _ _ A,bJ];simp only;rw[yQ,bJ];simp only;rw[O]at v;rw[show((l.length:Nat):Int)=bM l from rfl];cases hc:KZ F (ln F (rH F (a+2) [41])) (d+1)with
  |true=>
   rw[hc,aa]at v;rw[aa,v,bJ];simp only;rw[ah,ah,show bM l=((l.length:Nat):Int) from rfl,J];rfl
  |false=>
   rw[hc,ac]at v;rw[ac,v,bJ];simp only;rw[ah,ah,show bM l=((l.length:Nat):Int) from rfl,J];rfl
end
section
open Bool renaming and_eq_true → af, false_eq_true → ag, not_true → ak, not_false → az, and_true → aA, false_or → aW
open List renaming getElem_mem → aF
open Nat renaming le_refl → ae
open Go.RowKit
variable {F:List Lf} (hF:Vy F)
include hF
theorem asK {q':jh} (a:Nat) (l:List Nd) (u d:Int) (hp:MR F a l d 113) (p:KZ F a d=false) (hb:Nj F a d=true):
  ∃(e:Nat) (m:List Nd),anp F (a:Int) (cu l [opn 5 a u]) (bM l) d=some (PR F e (cu l [opn 5 a u]++m) (bM l) d,())/\
   nU q' F (jc F) (a:Int) u d l=some (.inl ((),((),()),((F,jc F,(e:Int),u,d,()),l++(5,(a:Int),(e:Int),u,())::m,())))/\a<e/\e<=F.length/\m.length+4<=16*(e-a)/\Tr F a e (bM l) (l.length+1) m:=by
 obtain⟨q,B,g,D⟩:=hp;have E:=hF.len;have i:(cu l [opn 5 a u]).length=l.length+1:=by unfold cu;simp
 have s:cu l [opn 5 a u]=l++[(5,(a:Int),0,u,())]:=rfl;have v:(Gl F a||Ey F a)=true:=by
  unfold Nj at hb;rw[p,Bool.or_false]at hb;cases hr:Gl F a with
  |true=>rfl
  |false=>
   rw[hr,Bool.or_false]at hb;have f:=iG hb;have j:=XH hb;rw[Yf f]at j;rw[aW];unfold Ey;rw[dif_pos f];exact decide_eq_true (aG5 (hF.txt _ (aF f)) j)
 obtain⟨e,m,x,o,G,y,z,A⟩:=Ib hF (q':=q') (bM l) d u ⟨g,by omega⟩ bV a (cu l [opn 5 a u]) false 0 (dI) q (by rw[i];omega) (by omega) (by omega) ⟨fun h=>(by cases h),fun h=>absurd rfl h⟩;have f:=A v;refine⟨e,m, ?_, ?_,f,y,by omega,i▸z.2⟩
 .rw[anp,x,bJ];rfl
 .rw[nU,yu,mM a l u d (by omega) (by omega) (by omega) g (by omega),bJ];simp only[show jS 5=false from rfl,ag,if_false];rw[s]at o;rw[show((l.length:Nat):Int)=bM l from rfl,o,bJ];simp only[dO];rw[show bM l=((l.length:Nat):Int) from rfl,xy e _ u d l.length (by simp) (ql l _ 5 _ _) (by omega) (by omega) g (by omega),bJ];simp only[qc,show jS 5=false from rfl,ag,if_false]
theorem abS {n:Nat} (h:All F n) (G:All F (n-1)) (a:Nat) (l:List Nd) (u d:Int) (r s:Nat) (I:16*(F.length-a)+9<n+1) (N:n+1<=r) (O:n+1<=s) (hp:MR F a l d 113):
  ∃(e:Nat) (m:List Nd),(fJ r).q223 F (a:Int) l u d=some (PR F e (l++m) u d,())/\
   (iC s).q195 F (jc F) l (a:Int) u d=some (RR F e (l++m) u d,())/\a<=e/\e<=F.length/\(m.length<=16*(e-a)+1/\Tr F a e u l.length m)/\(Nj F a d=true->a<e/\m.length+3<=16*(e-a)):=by
 have x:=hp;obtain⟨A,S,J,U⟩:=hp;have V:=hF.len;obtain⟨q,rfl⟩: ∃q,r=q+1:=⟨r-1,by omega⟩;obtain⟨f,rfl⟩: ∃f,s=f+1:=⟨s-1,by omega⟩;show ∃(e:Nat) (m:List Nd),awL (fJ q) F (a:Int) l u d=_/\awK (iC f) F (jc F) l (a:Int) u d=_/\_
 (rewrite [awL,awK];delta IP;rw[Gu hF a l u d (by omega),ZB a l u d (by omega),bJ,bJ])
 simp only;cases hc:KZ F a d with
 |true=>
  have v:Nj F a d=true:=by grind [Nj]
  obtain⟨e,m,y,z,o,p,g⟩:=h.compound a l u d q f (by omega) (by omega) (by omega) x hc;refine⟨e,m, ?_, ?_,by omega,p,⟨by omega,g.2⟩,fun _=>⟨o,g.1⟩⟩
  .simp_all [bJ]
  simp_all [yQ,bJ]
 |false=>
  simp only[ac];rw[aj8 hF a l u d A,bJ];simp only;cases hf:fnB F a d with
  |true=>
   have v:Nj F a d=true:=by
    simp_all [fnB,Nj]
   obtain⟨e,m,y,z,o,p,g⟩:=aqU hF h G a l u d q f I (by omega) (by omega) x hf;obtain⟨B,_,_⟩:=lU l (opn 16 a u) (by omega);obtain⟨D,E⟩:=rX l m (opn 16 a u);refine⟨e,(16,(a:Int),(e:Int),u,())::m, ?_, ?_,by omega,p,⟨by grind,g.2.one (ae _) (ae _) (by omega) rfl⟩,fun _=>⟨o,by simp_all⟩⟩
   .simp only[fD,aA,aa,B];rw[dC,y,bJ];simp only[D,E,aa,mP]
    grind [fV]
   .unfold fnB at hf;simp only[af,decide_eq_true_eq]at hf;obtain⟨g1,g2,g3,g4⟩:=hf;have i:=iG g1;have K:=iG (Yi (F:=F) (a:=a+1) (c:=40) (by decide) g2);rw[dif_pos i]at g4;rw[v];simp only[ak,ac];rw[yQ a l u d,bJ,hc];simp only[ac];rw[jF a l u d [120] (by simp),bJ,g1];simp only[aa];rw[dC,show(a:Int)+1=((a+1:Nat):Int) by omega,bW (eX (by grind [bP])),bW (ed (by omega) (by grind)),CE K,
     show bZ ((Gm F (a+1)).toNat:Int) 40=decide (Gm F (a+1)=40) from al7 (a+1) 40,decide_eq_true g2,aa,bW (eX g3),bW (ed),Du i,rP (by have:=hF.txt _ (aF i);omega),bJ,g4]
    assumption
  |false=>
   simp only[ac];rw[V3 hF a l u d (by omega),bJ];simp only;cases v:Nj F a d with
   |false=>
    simp only[az,aa,ac];rw[oz a l u d (by omega),zB a l u d (by omega) J (by omega),bJ,bJ];exact⟨a,[(18,(a:Int),(a:Int),u,())],rfl,rfl,ae _,A,⟨by simp,.mis (ae _) (ae _)⟩,fun h=>by cases h⟩
   |true=>
    obtain⟨e,m,y,z,o,p,g⟩:=asK hF (q':=iC f) a l u d x hc v;obtain⟨B,_,_⟩:=lU l (opn 5 a u) (by omega);obtain⟨D,E⟩:=rX l m (opn 5 a u);refine⟨e,(5,(a:Int),(e:Int),u,())::m, ?_, ?_,by omega,p,⟨by grind,g.2.one (ae _) (ae _) (by omega) rfl⟩,fun _=>⟨o,by simp_all⟩⟩
    .simp_all [fD,bJ,mP]
    .simp only[ak,ac];rw[yQ a l u d,bJ,hc];simp only[ac];rw[jF a l u d [120] (by simp),bJ];simp only;have L:bK (nU (iC f) F (jc F) (a:Int) u d l) (fun M=>dO M (fun j=>
       some ((j.2.2.1.1,(j.2.2.1.2.1,(j.2.2.2.1,(j.2.2.1.2.2.1,(j.2.2.1.2.2.2.1,(j.2.2.1.2.2.2.2.1,())))))),())) (fun W=>none))=some (RR F e (l++(5,(a:Int),(e:Int),u,())::m) u d,()):=by
      rw[z,bJ];rfl
     cases hx:gq F a [120]with
     |false=>assumption
     |true=>
      have i:=iG hx;simp only[aa];rw[dC,show(a:Int)+1=((a+1:Nat):Int) by omega];by_cases hl2:a+1<F.length
      .rw[bW (eX (by grind [bP])),bW (ed (by omega) (by grind)),CE hl2,show bZ ((Gm F (a+1)).toNat:Int) 40=decide (Gm F (a+1)=40) from al7 (a+1) 40];by_cases h40:Gm F (a+1)=40
       .rw[decide_eq_true h40,aa];by_cases hd2:d<200
        .rw[bW (eX hd2),bW (ed),Du i,rP (by have:=hF.txt _ (aF i);omega),bJ];have X:decide (nl F[a].2.1≠0/\nl F[a].2.1=F[a].2.1.length)=false:=by
          simp_all [fnB]
         grind
        simp_all [gB]
       simp_all
      .rw[dD (gB (by grind [bP]))];exact L
end
section
open Option renaming some → a6, none → a7
open List renaming append_assoc → ah
open Nat renaming le_refl → ae
open Go.RowKit
variable {F:List Lf} (hF:Vy F)
include hF
theorem MG {q':jh} (u d w:Int) (hd:0<=d/\d<=201) (P:Nat->Nat->List Nd->Option (Nat×List Nd)->Prop)
  (i: ∀N a L,Gl F a=false->P (N+1) a L (a6 (a,L)))
  (j: ∀N a L f g x,Gl F a=true->f<=F.length->Dn F (a:Int) L u d=a6 (PR F f (L++g) u d,(true,()))->P N f (L++g) x->P (N+1) a L x):
  ∀(N a:Nat) (L:List Nd),F.length-a<N->a<=F.length->L.length<=16*a+1000->
  ∃(e:Nat) (m:List Nd),P N a L (a6 (e,L++m))/\jE q' N w F (jc F) (a:Int) u d L=a6 (.inl ((w,()),((),()),((F,jc F,(e:Int),u,d,()),L++m,())))/\a<=e/\e<=F.length/\m.length<=2*(e-a)/\Tr F a e u L.length m
 |0,a,L,l,_,_=>by omega
 |N+1,a,L,l,h,z=>by
  have A:=hF.len;rw[jE,Px,BA a L u d (by omega),bJ];simp only;cases hr:Gl F a with
  |false=>exact⟨a,[],by simp_all,by simp,ae _,h,by simp,.nil (ae _)⟩
  |true=>
   obtain⟨f,g,B,o,D,p,q⟩:=Tm hF a L u d h (by omega) hd.1 (by omega) hr;simp only[aa];rw[o,bJ];simp only;obtain⟨e,m,E,s,G,v,y⟩:=MG u d w hd P i j N f (L++g) (by omega) p (by grind);exact⟨e,g++m,by grind,by rw[s,ah],by omega,v,by grind,q.2.ap y.2⟩
theorem aPx {q:fG} {q':jh} (u d w f g h i j l:Int) (hd:0<=d/\d<=201) (a:Nat) (L:List Nd) (o:a<=F.length) (v:L.length<=16*a+1000):
  ∃(e:Nat) (m:List Nd),pI q bV f g h i j l L F (a:Int) u d=a6 (.inl ((),((f,g,()),(h,i,()),(j,l,()),(),()),((),(),L++m,(F,(e:Int),u,d,()),())))/\
   jE q' bV w F (jc F) (a:Int) u d L=a6 (.inl ((w,()),((),()),((F,jc F,(e:Int),u,d,()),L++m,())))/\a<=e/\e<=F.length/\m.length<=2*(e-a)/\Tr F a e u L.length m:=by
 have D:=hF.len;obtain⟨e,m,E,G,I,J,K⟩:=MG hF (q':=q') u d w hd (fun N a L x=>a<=F.length-> ∀y,x=a6 y->pI q N f g h i j l L F (a:Int) u d=a6 (.inl ((),((f,g,()),(h,i,()),(j,l,()),(),()),((),(),y.2,(F,(y.1:Int),u,d,()),()))))
  (fun N a L s o y p=>by
   cases p;rw[pI,xm,pU hF a L u d o s,bJ];rfl)
  (fun N a L M O x s z A B o y p=>by
   rw[pI,xm,A,bJ];simp only[aa];exact B z y p) bV a L (dI) o v
 grind
theorem aLi {q:fG} {q':jh} (u d w f g h i j l:Int) (hd:0<=d/\d<=201) (a:Nat) (L:List Nd) (o:a<=F.length) (v:L.length<=16*a+1000):
  ∃(e:Nat) (m:List Nd),lX q bV f g h i j l L F (a:Int) u d=a6 (.inl ((),((f,g,()),(h,i,()),(j,l,()),(),()),((),(),L++m,(F,(e:Int),u,d,()),())))/\
   jE q' bV w F (jc F) (a:Int) u d L=a6 (.inl ((w,()),((),()),((F,jc F,(e:Int),u,d,()),L++m,())))/\a<=e/\e<=F.length/\m.length<=2*(e-a)/\Tr F a e u L.length m:=by
 have D:=hF.len;obtain⟨e,m,E,G,I,J,K⟩:=MG hF (q':=q') u d w hd (fun N a L x=>a<=F.length-> ∀y,x=a6 y->lX q N f g h i j l L F (a:Int) u d=a6 (.inl ((),((f,g,()),(h,i,()),(j,l,()),(),()),((),(),y.2,(F,(y.1:Int),u,d,()),()))))
  (fun N a L s o y p=>by
   cases p;rw[lX,qV,pU hF a L u d o s,bJ];rfl)
  (fun N a L M O x s z A B o y p=>by
   rw[lX,qV,A,bJ];simp only[aa];exact B z y p) bV a L (dI) o v
 grind
theorem aLj {q:fG} {q':jh} (u d w f g h i j l:Int) (hd:0<=d/\d<=201) (a:Nat) (L:List Nd) (o:a<=F.length) (v:L.length<=16*a+1000):
  ∃(e:Nat) (m:List Nd),lY q bV f g h i j l L F (a:Int) u d=a6 (.inl ((),((f,g,()),(h,i,()),(j,l,()),(),()),((),(),L++m,(F,(e:Int),u,d,()),())))/\
   jE q' bV w F (jc F) (a:Int) u d L=a6 (.inl ((w,()),((),()),((F,jc F,(e:Int),u,d,()),L++m,())))/\a<=e/\e<=F.length/\m.length<=2*(e-a)/\Tr F a e u L.length m:=by
 have D:=hF.len;obtain⟨e,m,E,G,I,J,K⟩:=MG hF (q':=q') u d w hd (fun N a L x=>a<=F.length-> ∀y,x=a6 y->lY q N f g h i j l L F (a:Int) u d=a6 (.inl ((),((f,g,()),(h,i,()),(j,l,()),(),()),((),(),y.2,(F,(y.1:Int),u,d,()),()))))
  (fun N a L s o y p=>by
   cases p;rw[lY,qW,pU hF a L u d o s,bJ];rfl)
  (fun N a L M O x s z A B o y p=>by
   rw[lY,qW,A,bJ];simp only[aa];exact B z y p) bV a L (dI) o v
 grind
theorem aLk {q:fG} {q':jh} (u d w f g h i j l:Int) (hd:0<=d/\d<=201) (a:Nat) (L:List Nd) (o:a<=F.length) (v:L.length<=16*a+1000):
  ∃(e:Nat) (m:List Nd),lZ q bV f g h i j l L F (a:Int) u d=a6 (.inl ((),((f,g,()),(h,i,()),(j,l,()),(),()),((),(),L++m,(F,(e:Int),u,d,()),())))/\
   jE q' bV w F (jc F) (a:Int) u d L=a6 (.inl ((w,()),((),()),((F,jc F,(e:Int),u,d,()),L++m,())))/\a<=e/\e<=F.length/\m.length<=2*(e-a)/\Tr F a e u L.length m:=by
 have D:=hF.len;obtain⟨e,m,E,G,I,J,K⟩:=MG hF (q':=q') u d w hd (fun N a L x=>a<=F.length-> ∀y,x=a6 y->lZ q N f g h i j l L F (a:Int) u d=a6 (.inl ((),((f,g,()),(h,i,()),(j,l,()),(),()),((),(),y.2,(F,(y.1:Int),u,d,()),()))))
  (fun N a L s o y p=>by
   cases p;rw[lZ,qX,pU hF a L u d o s,bJ];rfl)
  (fun N a L M O x s z A B o y p=>by
   rw[lZ,qX,A,bJ];simp only[aa];exact B z y p) bV a L (dI) o v
 grind
theorem aLl {q:fG} {q':jh} (u d w f g h i j l:Int) (hd:0<=d/\d<=201) (a:Nat) (L:List Nd) (o:a<=F.length) (v:L.length<=16*a+1000):
  ∃(e:Nat) (m:List Nd),l9 q bV f g h i j l L F (a:Int) u d=a6 (.inl ((),((f,g,()),(h,i,()),(j,l,()),(),()),((),(),L++m,(F,(e:Int),u,d,()),())))/\
   jE q' bV w F (jc F) (a:Int) u d L=a6 (.inl ((w,()),((),()),((F,jc F,(e:Int),u,d,()),L++m,())))/\a<=e/\e<=F.length/\m.length<=2*(e-a)/\Tr F a e u L.length m:=by
 have D:=hF.len;obtain⟨e,m,E,G,I,J,K⟩:=MG hF (q':=q') u d w hd (fun N a L x=>a<=F.length-> ∀y,x=a6 y->l9 q N f g h i j l L F (a:Int) u d=a6 (.inl ((),((f,g,()),(h,i,()),(j,l,()),(),()),((),(),y.2,(F,(y.1:Int),u,d,()),()))))
  (fun N a L s o y p=>by
   cases p;rw[l9,qY,pU hF a L u d o s,bJ];rfl)
  (fun N a L M O x s z A B o y p=>by
   rw[l9,qY,A,bJ];simp only[aa];exact B z y p) bV a L (dI) o v
 grind
theorem aLm {q:fG} {q':jh} (u d w f g h i j l:Int) (hd:0<=d/\d<=201) (a:Nat) (L:List Nd) (o:a<=F.length) (v:L.length<=16*a+1000):
  ∃(e:Nat) (m:List Nd),mf q bV f g h i j l L F (a:Int) u d=a6 (.inl ((),((f,g,()),(h,i,()),(j,l,()),(),()),((),(),L++m,(F,(e:Int),u,d,()),())))/\
   jE q' bV w F (jc F) (a:Int) u d L=a6 (.inl ((w,()),((),()),((F,jc F,(e:Int),u,d,()),L++m,())))/\a<=e/\e<=F.length/\m.length<=2*(e-a)/\Tr F a e u L.length m:=by
 have D:=hF.len;obtain⟨e,m,E,G,I,J,K⟩:=MG hF (q':=q') u d w hd (fun N a L x=>a<=F.length-> ∀y,x=a6 y->mf q N f g h i j l L F (a:Int) u d=a6 (.inl ((),((f,g,()),(h,i,()),(j,l,()),(),()),((),(),y.2,(F,(y.1:Int),u,d,()),()))))
  (fun N a L s o y p=>by
   cases p;rw[mf,qZ,pU hF a L u d o s,bJ];rfl)
  (fun N a L M O x s z A B o y p=>by
   rw[mf,qZ,A,bJ];simp only[aa];exact B z y p) bV a L (dI) o v
 grind
end
section
open List renaming append_assoc → ah, length_append → ai
open Nat renaming le_refl → ae
open Go.RowKit
variable {F:List Lf} (hF:Vy F)
include hF
theorem IK {k:Nat} (h:All F k) (a:Nat) (l:List Nd) (u d:Int) (r g:Nat) (G:16*(F.length-a)+13<k) (I:k+1<=r) (J:k+1<=g) (hp:MR F a l d 105):
  ∃(f:Nat) (m:List Nd),(fJ r).q259 F (a:Int) l u d=some (PR F f (l++m) u d,())/\
   (iC g).q229 F (jc F) l (a:Int) u d=some (RR F f (l++m) u d,())/\a<=f/\f<=F.length/\m.length<=16*(f-a)+3/\Tr F a f u l.length m:=by
 obtain⟨o,K,j,p⟩:=hp;have L:=hF.len;obtain⟨q,rfl⟩: ∃q,r=q+1:=⟨r-1,by omega⟩;obtain⟨i,rfl⟩: ∃i,g=i+1:=⟨g-1,by omega⟩;obtain⟨M,s⟩:=KP (F:=F) a [100];have v:=s o;have N:=wB (F:=F) a [100] u;obtain⟨e,x,y,z,O,A,B⟩:=h.body (rH F a [100]) (l++xn F a [100] u) u d q i (by omega) (by omega) (by omega) ⟨v,by rw[ai];omega,j,p⟩;obtain⟨S,D⟩:=KP (F:=F) e [103];have E:=D A;have U:=wB (F:=F) e [103] u;refine⟨rH F e [103],xn F a [100] u++x++xn F e [103] u, ?_, ?_,by omega,E,by simp only[ai];omega,((zS (ae a) (ae a)).ap B.2).apA fun _=>zS (ae e) (by omega)⟩
 .show awX (fJ q) F (a:Int) l u d=_;rw[awX,CP hF a l u d (by omega) (by omega) [100] rfl,bJ];simp only[nJ];rw[y,bJ];simp only;rw[CP hF e _ u d (by omega) (by simp only[ai];omega) [103] rfl,bJ];simp only[nJ,ah]
 .show awN (iC i) F (jc F) l (a:Int) u d=_;rw[awN,CQ a l u d (by omega) (by omega) j (by omega) [100] (by simp),bJ];simp only[nJ];rw[z,bJ];simp only;rw[CQ e _ u d (by omega) (by simp only[ai];omega) j (by omega) [103] (by simp),bJ];simp only[nJ,ah]
theorem afb {k:Nat} (h:All F k) (a:Nat) (l:List Nd) (u d:Int) (q q':Nat) (o:bU) (s:o.contains 0=false) (v:o.length<1000000) (L:16*(F.length-a)+13<k) (M:k<=q) (N:k<=q') (hp:MR F a l d 105):
  ∃(f:Nat) (m:List Nd),(bK ((fJ q).q258 F (a:Int) l u d) fun i=>bK (uD i.1.1 i.1.2.1 i.1.2.2.1 i.1.2.2.2.1 i.1.2.2.2.2.1 o) fun j=>
    some ((j.1.1,(j.1.2.1,(j.1.2.2.1,(j.1.2.2.2.1,(j.1.2.2.2.2.1,()))))),()))=some (PR F f (l++m) u d,())/\
   (∀{x:Type} (K:(List Lf×List UInt8×List Nd×Int×Int×Int×Unit)×Unit->Option x),(bK ((iC q').q228 F (jc F) l (a:Int) u d) fun g=>bK (oh g.1.1 g.1.2.1 g.1.2.2.1 g.1.2.2.2.1 g.1.2.2.2.2.1 g.1.2.2.2.2.2.1 o) K)=K (RR F f (l++m) u d,()))/\a<=f/\f<=F.length/\m.length<=16*(f-a)+2/\Tr F a f u l.length m:=by
 obtain⟨y,O,p,z⟩:=hp;have S:=hF.len;obtain⟨e,A,B,D,U,E,G⟩:=h.body a l u d q q' (by omega) (by omega) (by omega) ⟨y,by omega,p,z⟩;obtain⟨V,I⟩:=KP (F:=F) e o;have J:=I E;have W:=wB (F:=F) e o u;refine⟨rH F e o,A++xn F e o u, ?_,fun K=> ?_,by omega,J,by simp only[ai];omega,G.2.apA fun _=>zS (ae e) (by omega)⟩
 .rw[B,bJ];simp only;rw[CP hF e _ u d (by omega) (by simp only[ai];omega) o s,bJ];simp only[nJ,ah]
 .rw[D,bJ];simp only;rw[CQ e _ u d (by omega) (by simp only[ai];omega) p (by omega) o v,bJ];simp only[nJ,ah]
end
section
open Nat renaming le_refl → ae
open Go.RowKit
variable {F:List Lf} (hF:Vy F)
include hF
theorem ZV {k:Nat} (h:All F k) {q q':Nat} (g:k<=q) (i:k<=q') (u d v:Int) (hd:0<=d/\d<=200): ∀(N a:Nat) (L:List Nd),F.length-a<N->a<=F.length->16*(F.length-a)+2<k->L.length<=16*a+110->
  ∃(f:Nat) (m:List Nd),OA (fJ q) N F (a:Int) u d L=some (.inl ((),((),()),((F,(f:Int),u,d,()),L++m,())))/\
   Dx (iC q') N v F (jc F) (a:Int) u d L=some (.inl ((v,()),((),()),((F,jc F,(f:Int),u,d,()),L++m,())))/\a<=f/\f<=F.length/\m.length<=16*(f-a)/\Tr F a f u L.length m
 |0,a,L,o,_,_,_=>by omega
 |N+1,a,L,o,p,G,I=>by
  have J:=hF.len;rw[OA,Vh,Dx,Pv,nZ hF a L u d (by omega) [101] rfl,jF a L u d [101] (by simp),bJ,bJ];simp only;cases hb:gq F a [101]with
  |false=>
   rw[zO hb];exact⟨a,[],by simp,by simp,ae _,p,by simp,.nil (ae _)⟩
  |true=>
   have K:=iG hb;rw[oK hb];simp only[aa];rw[dC,show(a:Int)+1=((a+1:Nat):Int) by omega];obtain⟨e,j,s,M,O,x,y⟩:=h.body (a+1) L u d q q' (by omega) g i ⟨by omega,by omega,hd.1,hd.2⟩;obtain⟨S,z⟩:=KP (F:=F) e [116];have A:=z x;have U:=wB (F:=F) e [116] u;obtain⟨B,l,V,W,X,D,E⟩:=h.body (rH F e [116]) (L++j++xn F e [116] u) u d q q' (by omega) g i ⟨A,by grind,hd.1,hd.2⟩;obtain⟨f,m,g1,g2,g3,g4,g5⟩:=ZV h g i u d v hd N B (L++j++xn F e [116] u++l) (by omega) D (by omega) (by grind);refine⟨f,j++xn F e [116] u++l++m, ?_, ?_,by omega,g4,by grind,(((y.2.wide (by omega) (ae _)).apA fun _=>zS (ae e) (ae e)).ap E.2).ap g5.2⟩
   .rw[s,bJ];simp only;rw[CP hF e _ u d (by omega) (by grind) [116] rfl,bJ];simp_all [nJ,bJ]
   grind [bJ,CQ,nJ]
theorem aMZ {k:Nat} (h:All F k) (a:Nat) (l:List Nd) (u d v:Int) (r q':Nat) (hm:16*(F.length-a)+13<k) (hr:k+1<=r) (G:k<=q') (hp:MR F a l d 105):
  ∃(j:Nat) (m:List Nd),(fJ r).q247 F (a:Int) l u d=some (PR F j (l++m) u d,())/\
   (∀{J:Type} (K:Int->(List Lf×List UInt8×List Nd×Int×Int×Int×Unit)×Unit->Option J),
    (bK ((iC q').q228 F (jc F) l (a:Int) u d) fun A=>
       bK (oh A.1.1 A.1.2.1 A.1.2.2.1 A.1.2.2.2.1 A.1.2.2.2.2.1 A.1.2.2.2.2.2.1 [116]) fun B=>
        bK ((iC q').q228 B.1.1 B.1.2.1 B.1.2.2.1 B.1.2.2.2.1 B.1.2.2.2.2.1 B.1.2.2.2.2.2.1) fun g=>
         bK (Dx (iC q') bV v g.1.1 g.1.2.1 g.1.2.2.2.1 g.1.2.2.2.2.1 g.1.2.2.2.2.2.1 g.1.2.2.1) fun o=>
          dO o (fun y=>
           bK (oW y.2.2.1.1 y.2.2.1.2.1 y.2.2.2.1 y.2.2.1.2.2.1 y.2.2.1.2.2.2.1 y.2.2.1.2.2.2.2.1 [108]) fun e=>
            bif e.2.1 then
             bK ((iC q').q228 e.1.1 e.1.2.1 e.1.2.2.1 (bY .i64 e.1.2.2.2.1 1) e.1.2.2.2.2.1 e.1.2.2.2.2.2.1) fun p=>
              bK (oh p.1.1 p.1.2.1 p.1.2.2.1 p.1.2.2.2.1 p.1.2.2.2.2.1 p.1.2.2.2.2.2.1 [102]) (K y.1.1)
            else
            bK (oh e.1.1 e.1.2.1 e.1.2.2.1 e.1.2.2.2.1 e.1.2.2.2.2.1 e.1.2.2.2.2.2.1 [102]) (K y.1.1)) (fun b7=>none))=K v (RR F j (l++m) u d,()))/\a<=j/\j<=F.length/\m.length<=16*(j-a)+5/\Tr F a j u l.length m:=by
 obtain⟨U,p2,D,I⟩:=hp;have ad:=hF.len;obtain⟨q,rfl⟩: ∃q,r=q+1:=⟨r-1,by omega⟩;obtain⟨i,s,V,W,e3,X,Y⟩:=h.body a l u d q q' (by omega) (by omega) G ⟨U,by omega,D,I⟩;obtain⟨w1,Z⟩:=KP (F:=F) i [116];have w3:=Z X;have w4:=wB (F:=F) i [116] u;obtain⟨a2,x,f1,f2,f3,f4,f5⟩:=h.body (rH F i [116]) (l++s++xn F i [116] u) u d q q' (by omega) (by omega) G ⟨w3,by grind,D,I⟩;obtain⟨f,z,g1,g2,g3,g4,g5⟩:=ZV hF h (q:=q) (q':=q') (by omega) G u d v ⟨D,I⟩ bV a2 (l++s++xn F i [116] u++x) (dI) f4 (by omega) (by grind);have ab: ∃(j:Nat) (m:List Nd),(bK (mi F (f:Int) (l++s++xn F i [116] u++x++z) u d [108]) fun g=>
       bif g.2.1 then
        bK ((fJ q).q258 g.1.1 g.1.2.1 g.1.2.2.1 g.1.2.2.2.1 g.1.2.2.2.2.1) fun o=>
         bK (uD o.1.1 o.1.2.1 o.1.2.2.1 o.1.2.2.2.1 o.1.2.2.2.2.1 [102]) fun E=>
          some ((E.1.1,(E.1.2.1,(E.1.2.2.1,(E.1.2.2.2.1,(E.1.2.2.2.2.1,()))))),())
       else
       bK (uD g.1.1 g.1.2.1 g.1.2.2.1 g.1.2.2.2.1 g.1.2.2.2.2.1 [102]) fun o=>
        some ((o.1.1,(o.1.2.1,(o.1.2.2.1,(o.1.2.2.2.1,(o.1.2.2.2.2.1,()))))),()))=some (PR F j (l++s++xn F i [116] u++x++z++m) u d,())/\
   (∀{J:Type} (K:(List Lf×List UInt8×List Nd×Int×Int×Int×Unit)×Unit->Option J),(bK (oW F (jc F) (l++s++xn F i [116] u++x++z) (f:Int) u d [108]) fun e=>
            bif e.2.1 then
             bK ((iC q').q228 e.1.1 e.1.2.1 e.1.2.2.1 (bY .i64 e.1.2.2.2.1 1) e.1.2.2.2.2.1 e.1.2.2.2.2.2.1) fun p=>
              bK (oh p.1.1 p.1.2.1 p.1.2.2.1 p.1.2.2.2.1 p.1.2.2.2.2.1 p.1.2.2.2.2.2.1 [102]) K
            else
            bK (oh e.1.1 e.1.2.1 e.1.2.2.1 e.1.2.2.2.1 e.1.2.2.2.2.1 e.1.2.2.2.2.2.1 [102]) K)=K (RR F j (l++s++xn F i [116] u++x++z++m) u d,()))/\f<=j/\j<=F.length/\m.length<=16*(j-f)+2/\Tr F f j u (l++s++xn F i [116] u++x++z).length m:=by
  have hL:(l++s++xn F i [116] u++x++z).length<=16*f+108:=by grind
  generalize l++s++xn F i [116] u++x++z=L at hL;rw[nZ hF f L u d (by omega) [108] rfl,bJ];cases hb:gq F f [108]with
  |true=>
   have af:=iG hb;obtain⟨b1,n1,s1,O,s3,M,N⟩:=afb hF h (f+1) L u d q q' [102] rfl (by simp) (by omega) (by omega) G ⟨by omega,by omega,D,I⟩;refine⟨b1,n1, ?_,fun K=> ?_,by omega,M,by omega,N.2.wide (by omega) (ae _)⟩
   .simp_all [oK]
   .rw[jF f L u d [108] (by simp),bJ,hb];simp only[aa];rw[dC,show(f:Int)+1=((f+1:Nat):Int) by omega];exact O K
  |false=>
   obtain⟨S,x2⟩:=KP (F:=F) f [102];have x3:=x2 g4;have x4:=wB (F:=F) f [102] u;refine⟨rH F f [102],xn F f [102] u, ?_,fun K=> ?_,S,x3,by omega,zS (ae f) S⟩
   .rw[zO hb];simp only[ac];rw[CP hF f L u d (by omega) (by omega) [102] rfl,bJ];simp only[nJ]
   .rw[jF f L u d [108] (by simp),bJ,hb];simp only[ac]
    grind [CQ,bJ,nJ]
 obtain⟨j,m,s1,O,s3,M,N⟩:=ab;refine⟨j,s++xn F i [116] u++x++z++m, ?_,fun K=> ?_,by omega,M,by grind,(((Y.2.apA fun _=>zS (ae i) (ae i)).ap f5.2).ap g5.2).ap N.2⟩
 .show awT (fJ q) F (a:Int) l u d=_;rw[awT,V,bJ];simp only;rw[CP hF i _ u d (by omega) (by grind) [116] rfl,bJ];simp_all [nJ,bJ,dO]
 .rw[W,bJ];simp only;rw[CQ i _ u d (by omega) (by grind) D (by omega) [116] (by simp),bJ];simp_all [nJ,bJ,dO]
theorem aCe {k:Nat} (h:All F k) (a:Nat) (l:List Nd) (u d:Int) (r q':Nat) (A:16*(F.length-a)+13<k) (B:k+2<=r) (D:k+1<=q') (hp:MR F a l d 104):
  ∃(e:Nat) (m:List Nd),(fJ r).q248 F (a:Int) l u d=some (PR F e (l++m) u d,())/\
   (∀{o:Type} (K:(List Lf×List UInt8×List Nd×Int×Int×Int×Unit)×Unit->Option o),
    (bK ((iC q').q228 F (jc F) l (a:Int) u d) fun f=>
       bK ((iC q').q229 f.1.1 f.1.2.1 f.1.2.2.1 f.1.2.2.2.1 f.1.2.2.2.2.1 f.1.2.2.2.2.2.1) K)=K (RR F e (l++m) u d,()))/\a<=e/\e<=F.length/\m.length<=16*(e-a)+4/\Tr F a e u l.length m:=by
 obtain⟨p,E,g,i⟩:=hp;have G:=hF.len;obtain⟨q,rfl⟩: ∃q,r=q+1:=⟨r-1,by omega⟩;obtain⟨s,j,I,J,L,v,x⟩:=h.body a l u d q q' (by omega) (by omega) (by omega) ⟨p,by omega,g,i⟩;obtain⟨e,m,M,N,O,y,z⟩:=IK hF h s (l++j) u d q q' (by omega) (by omega) (by omega) ⟨v,by grind,g,i⟩;refine⟨e,j++m, ?_,fun K=> ?_,by omega,y,by grind,x.2.ap z.2⟩
 .simp_all [aGq,fJ,bJ]
 simp_all [bJ]
end
section
open Option renaming some → a6, none → a7
open Bool renaming not_true → ak, not_false → az
open List renaming append_assoc → ah, getElem_mem → aF
open Nat renaming le_refl → ae
open Go.RowKit
variable {F:List Lf} (hF:Vy F)
include hF
omit hF in
theorem aJh {a:Nat} (h:gq F a [110]=true):bZ (((ln F a:Nat):Int)-(a:Int)) 0=false:=by
 have:a+1<=ln F a:=by
  simp_all [ln,lnF,akn]
 exact dJ
omit hF in
theorem aNc {a:Nat} (h:gq F a [110]=false):bZ (((ln F a:Nat):Int)-(a:Int)) 0=true:=by
 simp_all [ln,lnF,dW]
theorem YW {q:fG} {q':jh} (u d:Int) (hd:0<=d/\d<=200): ∀(N a:Nat) (L:List Nd),F.length-a<N->a<=F.length->L.length<=16*a+200->
  ∃(e:Nat) (m:List Nd),Jc q N F (a:Int) u d L=a6 (.inl ((),((),()),((F,(e:Int),u,d,()),L++m,())))/\
   Ja q' N F (jc F) (a:Int) u d L=a6 (.inl ((),((),()),((F,jc F,(e:Int),u,d,()),L++m,())))/\a<=e/\e<=F.length/\m.length<=e-a/\Tr F a e u L.length m
 |0,a,L,h,_,_=>by omega
 |N+1,a,L,h,g,i=>by
  have j:=hF.len;rw[Jc,Vj,Ja,Vf,Dp a L u d,bJ];simp only;by_cases hlt:a<F.length
  .rw[bW (b:=gU (a:Int) (bM F)) (eX (by rw[bP];omega)),bW (b:=fO F (a:Int)) (ed),Du hlt];by_cases h6:F[a].1=6
   .have f:Ey F a=true:=by simp_all [Ey]
    rw[bW (b:=bZ F[a].1 6) (dW h6),f];simp only[aa];rw[Lu a L u d 7 (by omega) (by omega),SX a L u d (by omega) (by omega) rfl (by omega) (by omega) hd.1 (by omega),bJ,bJ];simp only;obtain⟨e,m,g1,g2,g3,g4,g5⟩:=YW u d hd N (a+1) (L++[(7,(a:Int),((a+1:Nat):Int),u,())]) (by omega) (by omega) (by grind);exact⟨e,[(7,(a:Int),((a+1:Nat):Int),u,())]++m,by rw[g1,ah],by rw[g2,ah],by omega,g4,by grind,(Tr.lf (ae a) (ae _) (by omega) (fun _=>⟨hlt,h6⟩)).ap g5.2⟩
   .have f:Ey F a=false:=by simp_all [Ey]
    rw[dD (b:=bZ F[a].1 6) (dJ h6),f];exact⟨a,[],by simp,by simp,ae _,g,by simp,.nil (ae _)⟩
  .have f:Ey F a=false:=by unfold Ey;rw[dif_neg hlt]
   rw[dD (b:=gU (a:Int) (bM F)) (gB (by rw[bP];omega)),f];exact⟨a,[],by simp,by simp,ae _,g,by simp,.nil (ae _)⟩
theorem ag9 {k:Nat} (h:All F k) (a:Nat) (l:List Nd) (u d:Int) (q q':Nat) (X:16*(F.length-a)+13<k) (Y:k+1<=q) (Z:k+1<=q') (hp:MR F a l d 102):
  ∃(s:Nat) (m:List Nd),(bK (mi F (a:Int) l u d [59]) fun j=>
    bif j.2.1 then
     bK (qO j.1.1 j.1.2.1 j.1.2.2.1 j.1.2.2.2.1 j.1.2.2.2.2.1) fun f=>
      bK ((fJ q).q259 f.1.1 f.1.2.1 f.1.2.2.1 f.1.2.2.2.1 f.1.2.2.2.2.1) fun i=>
       a6 ((i.1.1,(i.1.2.1,(i.1.2.2.1,(i.1.2.2.2.1,(i.1.2.2.2.2.1,()))))),())
    else
    bK (qO j.1.1 j.1.2.1 j.1.2.2.1 j.1.2.2.2.1 j.1.2.2.2.2.1) fun f=>
     bK (mi f.1.1 f.1.2.1 f.1.2.2.1 f.1.2.2.2.1 f.1.2.2.2.2.1 [107]) fun i=>
      bif i.2.1 then
       bK (Jc (fJ q) bV i.1.1 i.1.2.1 i.1.2.2.2.1 i.1.2.2.2.2.1 i.1.2.2.1) fun E=>
        dO E (fun K=>
         bK (mi K.2.2.1.1 K.2.2.1.2.1 K.2.2.2.1 K.2.2.1.2.2.1 K.2.2.1.2.2.2.1 [59]) fun g=>
          bK (qO g.1.1 g.1.2.1 g.1.2.2.1 g.1.2.2.2.1 g.1.2.2.2.2.1) fun e=>
           bif(!e.2.1)then
            bif(!g.2.1)then
             bK (Ai e.1.1 e.1.2.1 e.1.2.2.1 e.1.2.2.2.1 e.1.2.2.2.2.1) fun o=>
              bK ((fJ q).q259 o.1.1 o.1.2.1 o.1.2.2.1 o.1.2.2.2.1 o.1.2.2.2.2.1) fun L=>
               a6 ((L.1.1,(L.1.2.1,(L.1.2.2.1,(L.1.2.2.2.1,(L.1.2.2.2.2.1,()))))),())
            else
            bK ((fJ q).q259 e.1.1 e.1.2.1 e.1.2.2.1 e.1.2.2.2.1 e.1.2.2.2.2.1) fun o=>
             a6 ((o.1.1,(o.1.2.1,(o.1.2.2.1,(o.1.2.2.2.1,(o.1.2.2.2.2.1,()))))),())
           else
           bK ((fJ q).q259 e.1.1 e.1.2.1 e.1.2.2.1 e.1.2.2.2.1 e.1.2.2.2.2.1) fun o=>
            a6 ((o.1.1,(o.1.2.1,(o.1.2.2.1,(o.1.2.2.2.1,(o.1.2.2.2.2.1,()))))),())) (fun b6=>
         a7)
      else
      bK ((fJ q).q259 i.1.1 i.1.2.1 i.1.2.2.1 i.1.2.2.2.1 i.1.2.2.2.2.1) fun E=>
       a6 ((E.1.1,(E.1.2.1,(E.1.2.2.1,(E.1.2.2.2.1,(E.1.2.2.2.2.1,()))))),()))=a6 (PR F s (l++m) u d,())/\
   (bK (oW F (jc F) l (a:Int) u d [59]) fun x=>
   bif x.2.1 then
    bK (mY x.1.1 x.1.2.1 x.1.2.2.1 (bY .i64 x.1.2.2.2.1 1) x.1.2.2.2.2.1 x.1.2.2.2.2.2.1) fun j=>
     bK ((iC q').q229 j.1.1 j.1.2.1 j.1.2.2.1 j.1.2.2.2.1 j.1.2.2.2.2.1 j.1.2.2.2.2.2.1) fun f=>
      a6 ((f.1.1,(f.1.2.1,(f.1.2.2.1,(f.1.2.2.2.1,(f.1.2.2.2.2.1,(f.1.2.2.2.2.2.1,())))))),())
   else
   bK (mY x.1.1 x.1.2.1 x.1.2.2.1 x.1.2.2.2.1 x.1.2.2.2.2.1 x.1.2.2.2.2.2.1) fun j=>
    bK (oW j.1.1 j.1.2.1 j.1.2.2.1 j.1.2.2.2.1 j.1.2.2.2.2.1 j.1.2.2.2.2.2.1 [107]) fun f=>
     bif f.2.1 then
      bK (Ja (iC q') bV f.1.1 f.1.2.1 (bY .i64 f.1.2.2.2.1 1) f.1.2.2.2.2.1 f.1.2.2.2.2.2.1 f.1.2.2.1) fun i=>
       dO i (fun I=>
        bK (oW I.2.2.1.1 I.2.2.1.2.1 I.2.2.2.1 I.2.2.1.2.2.1 I.2.2.1.2.2.2.1 I.2.2.1.2.2.2.2.1 [59]) fun y=>
         bif y.2.1 then
          bK (mY y.1.1 y.1.2.1 y.1.2.2.1 (bY .i64 y.1.2.2.2.1 1) y.1.2.2.2.2.1 y.1.2.2.2.2.2.1) fun g=>
           bK ((iC q').q229 g.1.1 g.1.2.1 g.1.2.2.1 g.1.2.2.2.1 g.1.2.2.2.2.1 g.1.2.2.2.2.2.1) fun e=>
            a6 ((e.1.1,(e.1.2.1,(e.1.2.2.1,(e.1.2.2.2.1,(e.1.2.2.2.2.1,(e.1.2.2.2.2.2.1,())))))),())
         else
         bK (mY y.1.1 y.1.2.1 y.1.2.2.1 y.1.2.2.2.1 y.1.2.2.2.2.1 y.1.2.2.2.2.2.1) fun g=>
          bif(bZ g.2.1 0)then
           bK (wS g.1.1 g.1.2.1 g.1.2.2.1 g.1.2.2.2.1 g.1.2.2.2.2.1 g.1.2.2.2.2.2.1) fun e=>
            bK ((iC q').q229 e.1.1 e.1.2.1 e.1.2.2.1 e.1.2.2.2.1 e.1.2.2.2.2.1 e.1.2.2.2.2.2.1) fun o=>
             a6 ((o.1.1,(o.1.2.1,(o.1.2.2.1,(o.1.2.2.2.1,(o.1.2.2.2.2.1,(o.1.2.2.2.2.2.1,())))))),())
          else
          bK ((iC q').q229 g.1.1 g.1.2.1 g.1.2.2.1 g.1.2.2.2.1 g.1.2.2.2.2.1 g.1.2.2.2.2.2.1) fun e=>
           a6 ((e.1.1,(e.1.2.1,(e.1.2.2.1,(e.1.2.2.2.1,(e.1.2.2.2.2.1,(e.1.2.2.2.2.2.1,())))))),())) (fun b5=>
        a7)
     else
     bK ((iC q').q229 f.1.1 f.1.2.1 f.1.2.2.1 f.1.2.2.2.1 f.1.2.2.2.2.1 f.1.2.2.2.2.2.1) fun i=>
      a6 ((i.1.1,(i.1.2.1,(i.1.2.2.1,(i.1.2.2.2.1,(i.1.2.2.2.2.1,(i.1.2.2.2.2.2.1,())))))),()))=a6 (RR F s (l++m) u d,())/\a<=s/\s<=F.length/\m.length<=16*(s-a)+4/\Tr F a s u l.length m:=by
 obtain⟨O,p2,G,J⟩:=hp;have ab:=hF.len;rw[nZ hF a l u d (by omega) [59] rfl,jF a l u d [59] (by simp),bJ,bJ];simp only;cases hb:gq F a [59]with
 |true=>
  have U:=iG hb;rw[oK hb];simp only[aa];have V:=zy (F:=F) (a+1);have S:=Au (F:=F) (a:=a+1) (by omega);rw[dC,show(a:Int)+1=((a+1:Nat):Int) by omega,oP hF (a+1) l u d (by omega),nT hF (a+1) l u d (by omega),bJ,bJ];simp only;obtain⟨s,m,z,A,M,B,D⟩:=IK hF h (ln F (a+1)) l u d q q' (by omega) (by omega) (by omega) ⟨S,by omega,G,J⟩;rw[z,A,bJ,bJ];exact⟨s,m,rfl,rfl,by omega,B,by omega,D.2.wide (by omega) (ae _)⟩
 |false=>
  rw[zO hb];simp only[ac];have V:=zy (F:=F) a;have S:=Au (F:=F) O;rw[oP hF a l u d O,nT hF a l u d O,bJ,bJ];simp only;rw[nZ hF (ln F a) l u d (by omega) [107] rfl,jF (ln F a) l u d [107] (by simp),bJ,bJ];simp only;cases hb2:gq F (ln F a) [107]with
  |false=>
   rw[zO hb2];simp only[ac];obtain⟨s,m,z,A,M,B,D⟩:=IK hF h (ln F a) l u d q q' (by omega) (by omega) (by omega) ⟨S,by omega,G,J⟩;rw[z,A,bJ,bJ];exact⟨s,m,rfl,rfl,by omega,B,by omega,D.2.wide (by omega) (ae _)⟩
  |true=>
   have U:=iG hb2;rw[oK hb2];simp only[aa];obtain⟨p,v,g1,g2,g3,g4,g5⟩:=YW hF (q:=fJ q) (q':=iC q') u d ⟨G,J⟩ bV (ln F a+1) l (dI) (by omega) (by omega);rw[dC,show((ln F a:Nat):Int)+1=((ln F a+1:Nat):Int) by omega,g1,g2,bJ,bJ];simp only[dO];have hL:(l++v).length<=16*p+90:=by grind
   rw[nZ hF p (l++v) u d (by omega) [59] rfl,jF p (l++v) u d [59] (by simp),bJ,bJ];simp only;cases hb3:gq F p [59]with
   |true=>
    have ad:=iG hb3;rw[oK hb3];simp only[aa,ak,ac];have W:=zy (F:=F) (p+1);have N:=Au (F:=F) (a:=p+1) (by omega);rw[dC,show(p:Int)+1=((p+1:Nat):Int) by omega,oP hF (p+1) (l++v) u d (by omega),nT hF (p+1) (l++v) u d (by omega),bJ,bJ];simp only;obtain⟨s,m,z,A,M,B,D⟩:=IK hF h (ln F (p+1)) (l++v) u d q q' (by omega) (by omega) (by omega) ⟨N,by omega,G,J⟩;rw[z,A,bJ,bJ];refine⟨s,v++m, ?_,by simp,by omega,B,by grind,(g5.2.wide (by omega) (ae _)).ap D.2⟩;simp
   |false=>
    rw[zO hb3];simp only[az,aa,ac];have W:=zy (F:=F) p;have N:=Au (F:=F) g4;rw[oP hF p (l++v) u d g4,nT hF p (l++v) u d g4,bJ,bJ];simp only;cases hb4:gq F p [110]with
    |true=>
     rw[aJh hb4];simp only[ak,ac];obtain⟨s,m,z,A,M,B,D⟩:=IK hF h (ln F p) (l++v) u d q q' (by omega) (by omega) (by omega) ⟨N,by omega,G,J⟩;rw[z,A,bJ,bJ];exact⟨s,v++m,by simp,by simp,by omega,B,by grind,(g5.2.wide (by omega) (ae _)).ap D.2⟩
    |false=>
     rw[aNc hb4];simp only[az,aa];rw[oz (ln F p) (l++v) u d (by omega),zB (ln F p) (l++v) u d (by omega) G (by omega),bJ,bJ];simp only;obtain⟨s,m,z,A,M,B,D⟩:=IK hF h (ln F p) (l++v++[(18,((ln F p:Nat):Int),((ln F p:Nat):Int),u,())]) u d q q' (by omega) (by omega) (by omega) ⟨N,by grind,G,J⟩;rw[z,A,bJ,bJ];exact⟨s,v++[(18,((ln F p:Nat):Int),((ln F p:Nat):Int),u,())]++m,by simp,by simp,by omega,B,by grind,((g5.2.wide (by omega) (ae _)).apA fun _=>Tr.mis (ae (ln F p)) (ae _)).ap D.2⟩
theorem aCH {k:Nat} (h:All F k) (a:Nat) (l:List Nd) (u d:Int) (r j:Nat) (E:16*(F.length-a)+13<k) (G:k+2<=r) (I:k+2<=j) (hp:MR F a l d 101):
  ∃(e:Nat) (m:List Nd),(fJ r).q249 F (a:Int) l u d=a6 (PR F e (l++m) u d,())/\
   (iC j).q230 F (jc F) l (a:Int) u d=a6 (RR F e (l++m) u d,())/\a<=e/\e<=F.length/\m.length<=16*(e-a)+5/\Tr F a e u l.length m:=by
 obtain⟨y,J,f,x⟩:=hp;have K:=hF.len;obtain⟨q,rfl⟩: ∃q,r=q+1:=⟨r-1,by omega⟩;obtain⟨g,rfl⟩: ∃g,j=g+1:=⟨j-1,by omega⟩;obtain⟨o,p,L,M,N,s,v⟩:=ag9 hF h a (l++[(18,(a:Int),(a:Int),u,())]) u d q g (by omega) (by omega) (by omega) ⟨y,by simp_all,f,x⟩;show ∃(e:Nat) (m:List Nd),awU (fJ q) F (a:Int) l u d=_/\awO (iC g) F (jc F) l (a:Int) u d=_/\_
 (rewrite [awU,awO];delta Uc NJ NI;rw[Dp a l u d,bJ])
 simp only;by_cases hlt:a<F.length
 .rw[bW (b:=gU (a:Int) (bM F)) (eX (by rw[bP];omega))];simp only[show fO F (a:Int)=true from ed,aa];rw[Du hlt];by_cases h6:F[a].1=6
  .have i:Ey F a=true:=by simp_all [Ey]
   rw[bW (b:=bZ F[a].1 6) (dW h6),i];simp only[aa];rw[GN (by have:=hF.txt _ (aF hlt);omega),rP (by have:=hF.txt _ (aF hlt);omega),bJ,bJ];simp only;cases decide (nl F[a].2.1≠0/\nl F[a].2.1=F[a].2.1.length)with
   |true=>
    simp only[aa];rw[Lu a l u d 7 (by omega) (by omega),SX a l u d (by omega) (by omega) rfl (by omega) (by omega) f (by omega),bJ,bJ];obtain⟨z,A,O,S,U,B,D⟩:=ag9 hF h (a+1) (l++[(7,(a:Int),((a+1:Nat):Int),u,())]) u d q g (by omega) (by omega) (by omega) ⟨by omega,by grind,f,x⟩;exact⟨z,[(7,(a:Int),((a+1:Nat):Int),u,())]++A,by simp_all,by simp_all,by omega,B,by grind,(Tr.lf (ae a) (ae _) (by omega) (fun _=>⟨hlt,h6⟩)).ap D.2⟩
   |false=>
    simp only[ac];rw[oz a l u d (by omega),zB a l u d (by omega) f (by omega),bJ,bJ];exact⟨o,[(18,(a:Int),(a:Int),u,())]++p,by simp_all,by simp_all,by omega,s,by simp_all,(Tr.mis (ae a) (ae a)).ap v.2⟩
  .have i:Ey F a=false:=by simp_all [Ey]
   rw[dD (b:=bZ F[a].1 6) (dJ h6),i];simp only[ac];rw[oz a l u d (by omega),zB a l u d (by omega) f (by omega),bJ,bJ];exact⟨o,[(18,(a:Int),(a:Int),u,())]++p,by simp_all,by simp_all,by omega,s,by simp_all,(Tr.mis (ae a) (ae a)).ap v.2⟩
 .have i:Ey F a=false:=by unfold Ey;rw[dif_neg hlt]
  rw[dD (b:=gU (a:Int) (bM F)) (gB (by rw[bP];omega)),i];simp only[ac];rw[oz a l u d (by omega),zB a l u d (by omega) f (by omega),bJ,bJ];exact⟨o,[(18,(a:Int),(a:Int),u,())]++p,by simp_all,by simp_all,by omega,s,by simp_all,(Tr.mis (ae a) (ae a)).ap v.2⟩
end
section
open Bool renaming false_eq_true → ag
open List renaming append_assoc → ah
open Nat renaming le_refl → ae
open Go.RowKit
variable {F:List Lf} (hF:Vy F)
include hF
omit hF in
theorem Rw (a:Nat):a<=Gf F a/\(a<=F.length->Gf F a<=F.length)/\(Ey F a=true->Gf F a=a+1):=by
 unfold Gf;cases h:Ey F a with
 |true=>have:=acy h;grind
 |false=>simp
theorem af9 {q:fG} {q':jh} (u d v:Int) (hd:0<=d/\d<=200): ∀(N a:Nat) (L:List Nd),F.length-a<N->a<=F.length->L.length<=16*a+200->
  ∃(e:Nat) (m:List Nd),OB q N F (a:Int) u d L=some (.inl ((),((),()),((F,(e:Int),u,d,()),L++m,())))/\
   wW q' N v F (jc F) (a:Int) u d L=some (.inl ((v,()),((),()),((F,jc F,(e:Int),u,d,()),L++m,())))/\a<=e/\e<=F.length/\m.length<=e-a/\Tr F a e u L.length m
 |0,a,L,f,_,_=>by omega
 |N+1,a,L,f,g,j=>by
  have l:=hF.len;rw[OB,Vm,wW,Py,nZ hF a L u d (by omega) [124] rfl,jF a L u d [124] (by simp),bJ,bJ];simp only;cases hb:gq F a [124]with
  |false=>
   rw[zO hb];exact⟨a,[],by simp,by simp,ae _,g,by simp,.nil (ae _)⟩
  |true=>
   have o:=iG hb;rw[oK hb];simp only[aa];rw[dC,show(a:Int)+1=((a+1:Nat):Int) by omega];obtain⟨p,h,_⟩:=Rw (F:=F) (a+1);have i:=h (by omega);rw[YV (a+1) L u d (by omega) (by omega),af1 (a+1) L u d (by omega) (by omega) hd.1 (by omega),bJ,bJ];simp only[MO];obtain⟨e,m,g1,g2,g3,g4,g5⟩:=af9 u d v hd N (Gf F (a+1)) (L++[Rx F (a+1) u]) (by omega) i (by grind);exact⟨e,[Rx F (a+1) u]++m,by rw[g1,ah],by rw[g2,ah],by omega,g4,by grind,(YS (by omega) (ae _)).ap g5.2⟩
theorem aDv {k:Nat} (h:All F k) (a:Nat) (L:List Nd) (u d:Int) (q q':Nat) (hm:16*(F.length-a)+13<k) (hr:k+1<=q) (N:k<=q') (hp:MR F a L d 104) (ab:gq F a [40]=true\/Ey F a=true):
  ∃(g:Nat) (m:List Nd),(fJ q).q260 F (a:Int) (cu L [opn 15 a u]) (bM L) d=some (PR F g (cu L [opn 15 a u]++m) (bM L) d,())/\
   (∀{z:Type} (K:(List Lf×List UInt8×List Nd×Int×Int×Int×Unit)×Unit->Option z) (B:Option z),
    (bK (Gi F (jc F) L (a:Int) u d 15) fun x=>
     bK (oW x.1.1 x.1.2.1 x.1.2.2.1 x.1.2.2.2.1 x.1.2.2.2.2.1 x.1.2.2.2.2.2.1 [40]) fun v=>
      bif v.2.1 then
       bK (zi v.1.1 v.1.2.1 v.1.2.2.1 (bY .i64 v.1.2.2.2.1 1) v.1.2.2.2.2.1 v.1.2.2.2.2.2.1) fun j=>
        bK (wW (iC q') bV x.2.1 j.1.1 j.1.2.1 j.1.2.2.2.1 j.1.2.2.2.2.1 j.1.2.2.2.2.2.1 j.1.2.2.1) fun A=>
         dO A (fun i=>
          bK (oh i.2.2.1.1 i.2.2.1.2.1 i.2.2.2.1 i.2.2.1.2.2.1 i.2.2.1.2.2.2.1 i.2.2.1.2.2.2.2.1 [41]) fun l=>
           bK (mY l.1.1 l.1.2.1 l.1.2.2.1 l.1.2.2.2.1 l.1.2.2.2.2.1 l.1.2.2.2.2.2.1) fun o=>
            bK (TP o.1.1 o.1.2.1 o.1.2.2.1 o.1.2.2.2.1 o.1.2.2.2.2.1 o.1.2.2.2.2.2.1) fun f=>
             bif f.2.1 then
              bK ((iC q').q95 f.1.1 f.1.2.1 f.1.2.2.1 f.1.2.2.2.1 f.1.2.2.2.2.1 f.1.2.2.2.2.2.1) fun p=>
               bK (qP p.1.1 p.1.2.1 p.1.2.2.1 p.1.2.2.2.1 p.1.2.2.2.2.1 p.1.2.2.2.2.2.1 i.1.1) K
             else
             bK (qP f.1.1 f.1.2.1 f.1.2.2.1 f.1.2.2.2.1 f.1.2.2.2.2.1 f.1.2.2.2.2.2.1 i.1.1) K) (fun G=>B)
      else
      bK (zi v.1.1 v.1.2.1 v.1.2.2.1 v.1.2.2.2.1 v.1.2.2.2.2.1 v.1.2.2.2.2.2.1) fun j=>
       bK (wW (iC q') bV x.2.1 j.1.1 j.1.2.1 j.1.2.2.2.1 j.1.2.2.2.2.1 j.1.2.2.2.2.2.1 j.1.2.2.1) fun A=>
        dO A (fun i=>
         bK (oh i.2.2.1.1 i.2.2.1.2.1 i.2.2.2.1 i.2.2.1.2.2.1 i.2.2.1.2.2.2.1 i.2.2.1.2.2.2.2.1 [41]) fun l=>
          bK (mY l.1.1 l.1.2.1 l.1.2.2.1 l.1.2.2.2.1 l.1.2.2.2.2.1 l.1.2.2.2.2.2.1) fun o=>
           bK (TP o.1.1 o.1.2.1 o.1.2.2.1 o.1.2.2.2.1 o.1.2.2.2.2.1 o.1.2.2.2.2.2.1) fun f=>
            bif f.2.1 then
             bK ((iC q').q95 f.1.1 f.1.2.1 f.1.2.2.1 f.1.2.2.2.1 f.1.2.2.2.2.1 f.1.2.2.2.2.2.1) fun p=>
              bK (qP p.1.1 p.1.2.1 p.1.2.2.1 p.1.2.2.2.1 p.1.2.2.2.2.1 p.1.2.2.2.2.2.1 i.1.1) K
            else
            bK (qP f.1.1 f.1.2.1 f.1.2.2.1 f.1.2.2.2.1 f.1.2.2.2.2.1 f.1.2.2.2.2.2.1 i.1.1) K) (fun G=>B))=K (RR F g (L++(15,(a:Int),(g:Int),u,())::m) u d,()))/\a<g/\g<=F.length/\m.length+4<=16*(g-a)/\Tr F a g (bM L) (L.length+1) m:=by
 obtain⟨p1,p2,y,I⟩:=hp;have ad:=hF.len;obtain⟨q,rfl⟩: ∃O,q=O+1:=⟨q-1,by omega⟩;have J:(cu L [opn 15 a u]).length=L.length+1:=by unfold cu;simp
 have M:cu L [opn 15 a u]=L++[(15,(a:Int),0,u,())]:=rfl;have S:a<=tk F a [40]/\tk F a [40]<=F.length:=by
  unfold tk;split
  .rename_i D;have:=iG D;omega
  .omega
 obtain⟨w1,U,w3⟩:=Rw (F:=F) (tk F a [40]);have V:=U S.2;have af:a+1<=Gf F (tk F a [40]):=by
  cases D:gq F a [40]with
  |true=>simp_all [oK]
  |false=>
   grind
 obtain⟨e,s,g1,g2,g3,g4,g5⟩:=af9 hF (q:=fJ q) (q':=iC q') (bM L) d u ⟨y,I⟩ bV (Gf F (tk F a [40])) (cu L [opn 15 a u]++[Rx F (tk F a [40]) (bM L)]) (dI) V (by grind);obtain⟨x1,W⟩:=KP (F:=F) e [41];have E:=W g4;have x4:=wB (F:=F) e [41] (bM L);have ai:=zy (F:=F) (rH F e [41]);have X:=Au (F:=F) E;have hM:(cu L [opn 15 a u]++[Rx F (tk F a [40]) (bM L)]++s++xn F e [41] (bM L)).length<=L.length+3+(e-Gf F (tk F a [40])):=by
  grind
 have aj: ∀(g:Nat) (m:List Nd) {z:Type} (K:(List Lf×List UInt8×List Nd×Int×Int×Int×Unit)×Unit->Option z),bK (qP F (jc F) (cu L [opn 15 a u]++m) (g:Int) (bM L) d u) K=K (RR F g (L++(15,(a:Int),(g:Int),u,())::m) u d,()):=fun g m z K=>by
  rw[M,show bM L=((L.length:Nat):Int) from rfl,xy g _ u d L.length (by simp) (ql L _ 15 _ _) (by omega) (by omega) y (by omega),bJ];simp only[qc,show jS 15=false from rfl,ag,if_false]
 have Y: ∃(g:Nat) (m:List Nd),∃(ak:rZ F (ln F (rH F e [41])) d=true->(fJ q).q160 F ((ln F (rH F e [41]):Nat):Int) (cu (cu L [opn 15 a u]++[Rx F (tk F a [40]) (bM L)]++s++xn F e [41] (bM L)) [opn 2 (ln F (rH F e [41])) (bM L)]) (bM (cu L [opn 15 a u]++[Rx F (tk F a [40]) (bM L)]++s++xn F e [41] (bM L))) d=some (PR F g (cu (cu L [opn 15 a u]++[Rx F (tk F a [40]) (bM L)]++s++xn F e [41] (bM L)) [opn 2 (ln F (rH F e [41])) (bM L)]++m) (bM (cu L [opn 15 a u]++[Rx F (tk F a [40]) (bM L)]++s++xn F e [41] (bM L))) d,())/\
   (iC q').q95 F (jc F) (cu L [opn 15 a u]++[Rx F (tk F a [40]) (bM L)]++s++xn F e [41] (bM L)) ((ln F (rH F e [41]):Nat):Int) (bM L) d=some (RR F g ((cu L [opn 15 a u]++[Rx F (tk F a [40]) (bM L)]++s++xn F e [41] (bM L))++(2,((ln F (rH F e [41]):Nat):Int),(g:Int),(bM L),())::m) (bM L) d,())),
   ln F (rH F e [41])<=g/\g<=F.length/\(rZ F (ln F (rH F e [41])) d=true->m.length+1<=16*(g-ln F (rH F e [41])))/\(rZ F (ln F (rH F e [41])) d=false->g=ln F (rH F e [41]))/\(rZ F (ln F (rH F e [41])) d=true->Tr F (ln F (rH F e [41])) g (bM (cu L [opn 15 a u]++[Rx F (tk F a [40]) (bM L)]++s++xn F e [41] (bM L))) ((cu L [opn 15 a u]++[Rx F (tk F a [40]) (bM L)]++s++xn F e [41] (bM L)).length+1) m):=by
  cases hb:rZ F (ln F (rH F e [41])) d with
  |true=>
   obtain⟨g,m,e1,e2,e3,e4,e5⟩:=h.list (ln F (rH F e [41])) (cu L [opn 15 a u]++[Rx F (tk F a [40]) (bM L)]++s++xn F e [41] (bM L)) (bM L) d q q' (by omega) (by omega) N ⟨X,by omega,y,I⟩ hb
   grind
  |false=>simp_all
 obtain⟨g,m,f1,f2,Z,f4,f5,f6⟩:=Y;refine⟨g,[Rx F (tk F a [40]) (bM L)]++s++xn F e [41] (bM L)++(if rZ F (ln F (rH F e [41])) d=true then(2,((ln F (rH F e [41]):Nat):Int),(g:Int),(bM L),())::m else []), ?_,fun K B=> ?_,by omega,Z, ?_⟩
 .show awY (fJ q) F (a:Int) _ _ d=_;rw[awY,nZ hF a _ (bM L) d (by omega) [40] rfl,bJ];simp only;rw[YV (tk F a [40]) _ _ d (by omega) (by rw[J];omega),bJ];simp only[MO];rw[g1,bJ];simp only[dO];rw[CP hF e _ (bM L) d (by omega) (by grind) [41] rfl,bJ];simp only[nJ];rw[oP hF (rH F e [41]) _ (bM L) d E,bJ];simp only;rw[Ff hF (ln F (rH F e [41])) _ (bM L) d (by omega),bJ];simp only;cases hb:rZ F (ln F (rH F e [41])) d with
  |true=>
   have n1:=(lU (cu L [opn 15 a u]++[Rx F (tk F a [40]) (bM L)]++s++xn F e [41] (bM L)) (opn 2 (ln F (rH F e [41])) (bM L)) (by omega)).1;obtain⟨c1,c2⟩:=rX (cu L [opn 15 a u]++[Rx F (tk F a [40]) (bM L)]++s++xn F e [41] (bM L)) m (opn 2 (ln F (rH F e [41])) (bM L));simp_all [fD,bJ,mP]
  |false=>
   simp_all
 .rw[mM a L u d (by omega) (by omega) (by omega) y (by omega),bJ];simp only[show jS 15=false from rfl,ag,if_false];rw[show((L.length:Nat):Int)=bM L from rfl,<-M,jF a _ (bM L) d [40] (by simp),bJ];simp only;have al: ∀(b:Nat),b=tk F a [40]->(bK (zi F (jc F) (cu L [opn 15 a u]) (b:Int) (bM L) d) fun j=>
        bK (wW (iC q') bV u j.1.1 j.1.2.1 j.1.2.2.2.1 j.1.2.2.2.2.1 j.1.2.2.2.2.2.1 j.1.2.2.1) fun A=>
         dO A (fun i=>
          bK (oh i.2.2.1.1 i.2.2.1.2.1 i.2.2.2.1 i.2.2.1.2.2.1 i.2.2.1.2.2.2.1 i.2.2.1.2.2.2.2.1 [41]) fun l=>
           bK (mY l.1.1 l.1.2.1 l.1.2.2.1 l.1.2.2.2.1 l.1.2.2.2.2.1 l.1.2.2.2.2.2.1) fun o=>
            bK (TP o.1.1 o.1.2.1 o.1.2.2.1 o.1.2.2.2.1 o.1.2.2.2.2.1 o.1.2.2.2.2.2.1) fun f=>
             bif f.2.1 then
              bK ((iC q').q95 f.1.1 f.1.2.1 f.1.2.2.1 f.1.2.2.2.1 f.1.2.2.2.2.1 f.1.2.2.2.2.2.1) fun p=>
               bK (qP p.1.1 p.1.2.1 p.1.2.2.1 p.1.2.2.2.1 p.1.2.2.2.2.1 p.1.2.2.2.2.2.1 i.1.1) K
             else
             bK (qP f.1.1 f.1.2.1 f.1.2.2.1 f.1.2.2.2.1 f.1.2.2.2.2.1 f.1.2.2.2.2.2.1 i.1.1) K) (fun G=>B))=K (RR F g (L++(15,(a:Int),(g:Int),u,())::([Rx F (tk F a [40]) (bM L)]++s++xn F e [41] (bM L)++(if rZ F (ln F (rH F e [41])) d=true then(2,((ln F (rH F e [41]):Nat):Int),(g:Int),(bM L),())::m else []))) u d,()):=by
   rintro b rfl;rw[af1 (tk F a [40]) _ _ d (by omega) (by rw[J];omega) y (by omega),bJ];simp only[MO];rw[g2,bJ];simp only[dO];rw[CQ e _ (bM L) d (by omega) (by grind) y (by omega) [41] (by simp),bJ];simp only[nJ];rw[nT hF (rH F e [41]) _ (bM L) d E,bJ];simp only;rw[KR (ln F (rH F e [41])) _ (bM L) d (by omega),bJ];simp only;cases hb:rZ F (ln F (rH F e [41])) d with
   |true=>
    simp_all [bJ]
   |false=>
    simp_all
  cases D:gq F a [40]with
  |true=>
   simp only[aa]
   grind [dC,oK]
  |false=>
   simp_all [zO]
 .cases hb:rZ F (ln F (rH F e [41])) d with
  |true=>
   have:=f4 hb;rw[am rfl];exact⟨by grind,(((YS (by omega) (ae _)).ap g5.2).apA fun _=>zS (ae e) (ae _)).ap (Tr.one (f6 hb) (ae _) (ae _) (by omega) rfl)⟩
  |false=>
   have:=f5 hb;rw[aq (by simp),List.append_nil];exact⟨by grind,((YS (by omega) (ae _)).ap g5.2).apA fun _=>zS (ae e) (by omega)⟩
end
section
open Bool renaming not_true → ak, not_false → az
open List renaming length_append → ai
open Nat renaming le_refl → ae
open Go.RowKit
variable {F:List Lf} (hF:Vy F)
include hF
theorem VY {k:Nat} (h:All F k) {q q':Nat} (z:k+1<=q) (A:k<=q') (u d:Int) (hd:0<=d/\d<=200): ∀(N o a:Nat) (L:List Nd),F.length-a<N->F.length-a+1<o->a<=F.length->16*(F.length-a)+13<k->L.length<=16*a+104->
  ∃(f:Nat) (m:List Nd),Je (fJ q) N F (a:Int) u d L=some (.inl ((),((),()),((F,(f:Int),u,d,()),L++m,())))/\
   AA (iC q') o true F (jc F) (a:Int) u d L=some (.inl ((),((),()),((F,jc F,(f:Int),u,d,()),L++m,())))/\a<=f/\f<=F.length/\m.length<=16*(f-a)/\Tr F a f u L.length m
 |0,_,a,L,x,_,_,_,_=>by omega
 |N+1,0,a,L,_,x,_,_,_=>by omega
 |N+1,1,a,L,_,x,_,_,_=>by omega
 |N+1,o+2,a,L,x,V,B,W,G=>by
  have X:=hF.len
  (rewrite [Je,Vl,AA,Pz];delta vz;rw[abR hF a L u d (by omega) [40] rfl,jF a L u d [40] (by simp),bJ,aa,bJ])
  simp only;have Y:bZ ((Gm F a).toNat:Int) 122=gq F a [122]:=aaV a 122 (by decide);by_cases hgo:gq F a [40]=true\/(Ey F a=true/\gq F a [122]=false)
  .obtain⟨e,l,Z,e2,e3,I,D⟩:=aDv hF h a L u d q q' (by omega) z A ⟨B,G,hd.1,hd.2⟩ (hgo.imp id And.left);obtain⟨n1,_,_⟩:=lU L (opn 15 a u) (by omega);obtain⟨c1,c2⟩:=rX L l (opn 15 a u);have ab:(L++(15,(a:Int),(e:Int),u,())::l).length<=16*e+104:=by grind
   have J: ∃(f:Nat) (m:List Nd),(bK (mi F (e:Int) (L++(15,(a:Int),(e:Int),u,())::l) u d [121]) fun j=>
      bif(!j.2.1)then
       some (.inl ((),((),()),((j.1.1,j.1.2.1,j.1.2.2.2.1,j.1.2.2.2.2.1,()),j.1.2.2.1,())))
      else
      bK (qO j.1.1 j.1.2.1 j.1.2.2.1 j.1.2.2.2.1 j.1.2.2.2.2.1) fun s=>
       Je (fJ q) N s.1.1 s.1.2.1 s.1.2.2.2.1 s.1.2.2.2.2.1 s.1.2.2.1)=some (.inl ((),((),()),((F,(f:Int),u,d,()),L++m,())))/\
     (bK (oW F (jc F) (L++(15,(a:Int),(e:Int),u,())::l) (e:Int) u d [121]) fun i=>
      bif i.2.1 then
       bK (mY i.1.1 i.1.2.1 i.1.2.2.1 (bY .i64 i.1.2.2.2.1 1) i.1.2.2.2.2.1 i.1.2.2.2.2.2.1) fun p=>
        AA (iC q') (o+1) i.2.1 p.1.1 p.1.2.1 p.1.2.2.2.1 p.1.2.2.2.2.1 p.1.2.2.2.2.2.1 p.1.2.2.1
      else
      AA (iC q') (o+1) i.2.1 i.1.1 i.1.2.1 i.1.2.2.2.1 i.1.2.2.2.2.1 i.1.2.2.2.2.2.1 i.1.2.2.1)=some (.inl ((),((),()),((F,jc F,(f:Int),u,d,()),L++m,())))/\a<=f/\f<=F.length/\m.length<=16*(f-a)/\Tr F a f u L.length m:=by
    rw[nZ hF e _ u d (by omega) [121] rfl,jF e _ u d [121] (by simp),bJ,bJ];simp only;cases hb:gq F e [121]with
    |false=>
     rw[zO hb];simp only[az,aa,ac]
     (rewrite [AA,Pz];delta vz;rw[ac])
     exact⟨e,(15,(a:Int),(e:Int),u,())::l,rfl,rfl,by omega,I,by grind,D.2.one (ae _) (ae _) (by omega) rfl⟩
    |true=>
     have v:=iG hb;rw[oK hb];simp only[ak,aa,ac];have ad:=zy (F:=F) (e+1);have K:=Au (F:=F) (a:=e+1) (by omega);rw[dC,show(e:Int)+1=((e+1:Nat):Int) by omega,oP hF (e+1) _ u d (by omega),nT hF (e+1) _ u d (by omega),bJ,bJ];simp only;obtain⟨f,m,g1,g2,g3,g4,g5⟩:=VY h z A u d hd N (o+1) (ln F (e+1)) (L++(15,(a:Int),(e:Int),u,())::l) (by omega) (by omega) K (by omega) (by omega);exact⟨f,((15,(a:Int),(e:Int),u,())::l)++m,by simp_all,by simp_all,by omega,g4,by grind,(D.2.one (ae _) (ae _) (by omega) rfl).app g5.2 (by omega) (ai ..)⟩
   obtain⟨f,m,s1,s2,M,O,S⟩:=J;refine⟨f,m, ?_, ?_,M,O,S⟩
   .cases y:gq F a [40]with
    |true=>
     simp_all [fD,bJ,mP]
    |false=>
     rcases hgo with g|⟨g1,g2⟩
     .simp_all
     .rw[Dp a L u d,g1];simp only[ac,aa,bJ];rw[qw hF a L u d (by omega),bJ];simp_all [fD,bJ,mP]
   .cases y:gq F a [40]with
    |true=>
     simp_all
    |false=>
     rcases hgo with g|⟨g1,g2⟩
     .simp_all
     .have v:=acy g1;have E:F[a].1=6:=by
       simp_all [Ey]
      rw[ac,bW (b:=gU (a:Int) (bM F)) (eX (by rw[bP];omega)),bW (b:=fO F (a:Int)) (ed),Du v,bW (b:=bZ F[a].1 6) (dW E),jF a L u d [122] (by simp),bJ,g2];simp_all
  .have y:gq F a [40]=false:=by
    simp_all
   rw[y];simp only[ac];refine⟨a,[], ?_, ?_,ae _,B,by simp,.nil (ae _)⟩
   .rw[Dp a L u d,bJ];simp only;cases U:Ey F a with
    |false=>simp
    |true=>
     have h2:gq F a [122]=true:=by
      simp_all
     simp only[aa]
     grind [qw,bJ]
   .by_cases v:a<F.length
    .rw[bW (b:=gU (a:Int) (bM F)) (eX (by rw[bP];omega)),bW (b:=fO F (a:Int)) (ed),Du v];by_cases E:F[a].1=6
     .have U:Ey F a=true:=by simp_all [Ey]
      simp_all [jF,bJ]
     simp_all [dD,dJ]
    simp_all [dD,gB,bP]
theorem auZ {k:Nat} (h:All F k) (a:Nat) (l:List Nd) (u d:Int) (r i:Nat) (G:16*(F.length-a)+13<k) (I:k+2<=r) (J:k+1<=i) (hp:MR F a l d 100):
  ∃(e:Nat) (m:List Nd),(fJ r).q250 F (a:Int) l u d=some (PR F e (l++m) u d,())/\
   (iC i).q231 F (jc F) l (a:Int) u d=some (RR F e (l++m) u d,())/\a<=e/\e<=F.length/\m.length<=16*(e-a)+3/\Tr F a e u l.length m:=by
 obtain⟨s,K,j,v⟩:=hp;have L:=hF.len;obtain⟨q,rfl⟩: ∃q,r=q+1:=⟨r-1,by omega⟩;obtain⟨g,rfl⟩: ∃g,i=g+1:=⟨i-1,by omega⟩;obtain⟨M,x,N⟩:=Rw (F:=F) a;have o:=x s;have O:=zy (F:=F) (Gf F a);have y:=Au (F:=F) o;obtain⟨S,z⟩:=KP (F:=F) (ln F (Gf F a)) [107];have p:=z y;have U:=wB (F:=F) (ln F (Gf F a)) [107] u;have V:=zy (F:=F) (rH F (ln F (Gf F a)) [107]);have A:=Au (F:=F) p;obtain⟨f,B,g1,g2,g3,g4,g5⟩:=VY hF h (q:=q) (q':=g) (by omega) (by omega) u d ⟨j,v⟩ bV bV (ln F (rH F (ln F (Gf F a)) [107])) (l++[Rx F a u]++xn F (ln F (Gf F a)) [107] u) (dI) (dI) A (by omega) (by grind);obtain⟨W,D⟩:=KP (F:=F) f [122];have E:=D g4;have X:=wB (F:=F) f [122] u;refine⟨rH F f [122],[Rx F a u]++xn F (ln F (Gf F a)) [107] u++B++xn F f [122] u, ?_, ?_,by omega,E,by grind,(((YS (ae a) (ae _)).apA fun _=>zS (ae (ln F (Gf F a))) (ae _)).ap g5.2).apA fun _=>zS (ae f) (by omega)⟩
 .show awV (fJ q) F (a:Int) l u d=_;rw[awV,YV a l u d (by omega) (by omega),bJ];simp only[MO];rw[oP hF (Gf F a) _ u d o,bJ];simp only;rw[CP hF (ln F (Gf F a)) _ u d (by omega) (by grind) [107] rfl,bJ];simp only[nJ];rw[oP hF (rH F (ln F (Gf F a)) [107]) _ u d p,bJ];simp only;rw[g1,bJ];simp only[dO];rw[CP hF f _ u d (by omega) (by grind) [122] rfl,bJ];simp_all [nJ]
 .show awP (iC g) F (jc F) l (a:Int) u d=_;rw[awP,af1 a l u d (by omega) (by omega) j (by omega),bJ];simp only[MO];rw[nT hF (Gf F a) _ u d o,bJ];simp only;rw[CQ (ln F (Gf F a)) _ u d (by omega) (by grind) j (by omega) [107] (by simp),bJ];simp only[nJ];rw[nT hF (rH F (ln F (Gf F a)) [107]) _ u d p,bJ]
  grind [bJ,dO,CQ,nJ]
end
section
open Option renaming some → a6, none → a7
open Bool renaming and_eq_true → af, and_true → aA
open List renaming append_assoc → ah
open Nat renaming le_refl → ae
open Go.RowKit
theorem aJa (q':jh) (F:List Lf) (S:bU) (a u d:Int) (l:List Nd):xK q' bV 123 9 0 F S a u d l=a6 (.inl ((9,()),((),()),((F,S,a,u,d,()),l,()))):=by kernel_rfl
theorem aDB (q':jh) (F:List Lf) (S:bU) (a u d:Int) (l:List Nd):xK q' bV 40 9 0 F S a u d l=a6 (.inl ((10,()),((),()),((F,S,a,u,d,()),l,()))):=by kernel_rfl
theorem aDC (q':jh) (F:List Lf) (S:bU) (a u d:Int) (l:List Nd):xK q' bV 105 9 0 F S a u d l=a6 (.inl ((11,()),((),()),((F,S,a,u,d,()),l,()))):=by kernel_rfl
theorem aDD (q':jh) (F:List Lf) (S:bU) (a u d:Int) (l:List Nd):xK q' bV 119 9 0 F S a u d l=a6 (.inl ((12,()),((),()),((F,S,a,u,d,()),l,()))):=by kernel_rfl
theorem aDE (q':jh) (F:List Lf) (S:bU) (a u d:Int) (l:List Nd):xK q' bV 114 9 0 F S a u d l=a6 (.inl ((13,()),((),()),((F,S,a,u,d,()),l,()))):=by kernel_rfl
theorem aDF (q':jh) (F:List Lf) (S:bU) (a u d:Int) (l:List Nd):xK q' bV 99 9 0 F S a u d l=a6 (.inl ((14,()),((),()),((F,S,a,u,d,()),l,()))):=by kernel_rfl
variable {F:List Lf} (hF:Vy F)
include hF
theorem aMJ {n:Nat} (h2:All F (n-2)) (a:Nat) (l:List Nd) (u d:Int) (q q':Nat) (M:16*(F.length-a)+8<n+1) (N:n<=q) (O:n<=q') (hp:MR F a l d 113) (s:a<F.length) (hd:d<200) (i:Gm F a=123):
  ∃(e:Nat) (m:List Nd),Di (fJ q) F (a:Int) l u d=a6 (PR F e (l++m) u d,())/\
   Dh (iC q') F (jc F) l (a:Int) u d=a6 (RR F e (l++m) u d,())/\a<e/\e<=F.length/\m.length+3<=16*(e-a)/\Tr F a e u l.length m:=by
 obtain⟨S,U,v,V⟩:=hp;have W:=hF.len;obtain⟨f,rfl⟩: ∃f,q=f+1:=⟨q-1,by omega⟩;have j:(cu l [opn 9 a u]).length=l.length+1:=by unfold cu;simp
 have o:cu l [opn 9 a u]=l++[(9,(a:Int),0,u,())]:=rfl;obtain⟨x,_,_⟩:=lU l (opn 9 a u) (by omega);obtain⟨y,g,z,A,X,B,D⟩:=afb hF h2 (a+1) (cu l [opn 9 a u]) (bM l) (d+1) f q' [125] rfl (by simp) (by omega) (by omega) (by omega) ⟨by omega,by rw[j];omega,by omega,by omega⟩;obtain⟨h,p,E,G,Y,I,J⟩:=aLm hF (q:=fJ (f+1)) (q':=iC q') (bM l) (d+1) u (bM l) u 9 9 9 9 ⟨by omega,by omega⟩ y (cu l [opn 9 a u]++g) B (by grind);obtain⟨K,L⟩:=rX l (g++p) (opn 9 a u);refine⟨h,(9,(a:Int),(h:Int),u,())::(g++p), ?_, ?_,by omega,I,by grind,Tr.one (((j▸D.2).wide (by omega) (ae _)).ap J.2) (ae _) (ae _) (by omega) rfl⟩
 .rw[Di];simp only[fD,iy,aA,aa,bJ];rw[qw hF a l u d (by omega),bJ];simp only[i,show bZ (((123:UInt8).toNat:Nat):Int) 40=false from by kernel_rfl,show bZ (((123:UInt8).toNat:Nat):Int) 105=false from by kernel_rfl,show bZ (((123:UInt8).toNat:Nat):Int) 119=false from by kernel_rfl,show bZ (((123:UInt8).toNat:Nat):Int) 114=false from by kernel_rfl,show bZ (((123:UInt8).toNat:Nat):Int) 99=false from by kernel_rfl,aa,ac,x];rw[dC,dC,show(a:Int)+1=((a+1:Nat):Int) by omega];show bK (awR (fJ f) F ((a+1:Nat):Int) _ _ _) _=_;rw[awR,z,bJ];simp only;rw[E,bJ];simp only[dO];rw[ah,fV];simp only[K,L,aa,mP,show d+1-1=d by omega]
 ·(rewrite [Dh];delta oN;rw[bW (b:=fO (jc F) (a:Int)) (ed (by omega) (by simp_all)),CE s,i,show(((123:UInt8).toNat:Nat):Int)=123 from by kernel_rfl,aJa,bJ])
  simp only[dO];rw[mM a l u d (by omega) (by omega) (by omega) v (by omega),bJ];simp only[show jS 9=true from by kernel_rfl,if_true,show bZ (9:Int) 9=true from by kernel_rfl,aa,ac];rw[show((l.length:Nat):Int)=bM l from rfl,<-o,dC,show(a:Int)+1=((a+1:Nat):Int) by omega];refine(A _).trans ?_;simp only;rw[G,bJ];simp only[dO];rw[ah,o,show bM l=((l.length:Nat):Int) from rfl,xy h _ u (d+1) l.length (by simp) (ql l _ 9 _ _) (by omega) (by omega) (by omega) (by omega),bJ];simp only[qc,show jS 9=true from by kernel_rfl,if_true,show d+1-1=d by omega]
theorem aIy {n:Nat} (h2:All F (n-2)) (a:Nat) (l:List Nd) (u d:Int) (q q':Nat) (M:16*(F.length-a)+8<n+1) (N:n<=q) (O:n<=q') (hp:MR F a l d 113) (s:a<F.length) (hd:d<200) (i:Gm F a=40):
  ∃(e:Nat) (m:List Nd),Di (fJ q) F (a:Int) l u d=a6 (PR F e (l++m) u d,())/\
   Dh (iC q') F (jc F) l (a:Int) u d=a6 (RR F e (l++m) u d,())/\a<e/\e<=F.length/\m.length+3<=16*(e-a)/\Tr F a e u l.length m:=by
 obtain⟨S,U,v,V⟩:=hp;have W:=hF.len;obtain⟨f,rfl⟩: ∃f,q=f+1:=⟨q-1,by omega⟩;have j:(cu l [opn 10 a u]).length=l.length+1:=by unfold cu;simp
 have o:cu l [opn 10 a u]=l++[(10,(a:Int),0,u,())]:=rfl;obtain⟨x,_,_⟩:=lU l (opn 10 a u) (by omega);obtain⟨y,g,z,A,X,B,D⟩:=afb hF h2 (a+1) (cu l [opn 10 a u]) (bM l) (d+1) f q' [41] rfl (by simp) (by omega) (by omega) (by omega) ⟨by omega,by rw[j];omega,by omega,by omega⟩;obtain⟨h,p,E,G,Y,I,J⟩:=aPx hF (q:=fJ (f+1)) (q':=iC q') (bM l) (d+1) u (bM l) u 10 10 10 10 ⟨by omega,by omega⟩ y (cu l [opn 10 a u]++g) B (by grind);obtain⟨K,L⟩:=rX l (g++p) (opn 10 a u);refine⟨h,(10,(a:Int),(h:Int),u,())::(g++p), ?_, ?_,by omega,I,by grind,Tr.one (((j▸D.2).wide (by omega) (ae _)).ap J.2) (ae _) (ae _) (by omega) rfl⟩
 .rw[Di];simp only[fD,iy,aA,aa,bJ];rw[qw hF a l u d (by omega),bJ];simp only[i,show bZ (((40:UInt8).toNat:Nat):Int) 40=true from by kernel_rfl,aa,ac,x];rw[dC,dC,show(a:Int)+1=((a+1:Nat):Int) by omega];show bK (awS (fJ f) F ((a+1:Nat):Int) _ _ _) _=_;rw[awS,z,bJ];simp only;rw[E,bJ];simp only[dO];rw[ah,fV];simp only[K,L,aa,mP,show d+1-1=d by omega]
 ·(rewrite [Dh];delta oN;rw[bW (b:=fO (jc F) (a:Int)) (ed (by omega) (by simp_all)),CE s,i,show(((40:UInt8).toNat:Nat):Int)=40 from by kernel_rfl,aDB,bJ])
  simp only[dO];rw[mM a l u d (by omega) (by omega) (by omega) v (by omega),bJ];simp only[show jS 10=true from by kernel_rfl,if_true,show bZ (10:Int) 9=false from by kernel_rfl,show bZ (10:Int) 10=true from by kernel_rfl,aa,ac];rw[show((l.length:Nat):Int)=bM l from rfl,<-o,dC,show(a:Int)+1=((a+1:Nat):Int) by omega];refine(A _).trans ?_;simp only;rw[G,bJ];simp only[dO];rw[ah,o,show bM l=((l.length:Nat):Int) from rfl,xy h _ u (d+1) l.length (by simp) (ql l _ 10 _ _) (by omega) (by omega) (by omega) (by omega),bJ];simp only[qc,show jS 10=true from by kernel_rfl,if_true,show d+1-1=d by omega]
theorem aIz {n:Nat} (h2:All F (n-2)) (a:Nat) (l:List Nd) (u d:Int) (q q':Nat) (U:16*(F.length-a)+8<n+1) (V:n<=q) (W:n<=q') (hp:MR F a l d 113) (x:a<F.length) (hd:d<200) (o:Gm F a=105):
  ∃(f:Nat) (m:List Nd),Di (fJ q) F (a:Int) l u d=a6 (PR F f (l++m) u d,())/\
   Dh (iC q') F (jc F) l (a:Int) u d=a6 (RR F f (l++m) u d,())/\a<f/\f<=F.length/\m.length+3<=16*(f-a)/\Tr F a f u l.length m:=by
 obtain⟨X,Y,z,Z⟩:=hp;have ab:=hF.len;obtain⟨h,rfl⟩: ∃h,q=h+1:=⟨q-1,by omega⟩;have p:(cu l [opn 11 a u]).length=l.length+1:=by unfold cu;simp
 have s:cu l [opn 11 a u]=l++[(11,(a:Int),0,u,())]:=rfl;obtain⟨A,_,_⟩:=lU l (opn 11 a u) (by omega);obtain⟨B,i,D,E,e3,G,I⟩:=aMZ hF h2 (a+1) (cu l [opn 11 a u]) (bM l) (d+1) u (h+1) q' (by omega) (by omega) (by omega) ⟨by omega,by rw[p];omega,by omega,by omega⟩;obtain⟨j,v,J,K,f3,L,M⟩:=aLi hF (q:=fJ (h+1)) (q':=iC q') (bM l) (d+1) u (bM l) u 11 11 11 11 ⟨by omega,by omega⟩ B (cu l [opn 11 a u]++i) G (by grind);obtain⟨N,O⟩:=rX l (i++v) (opn 11 a u);refine⟨j,(11,(a:Int),(j:Int),u,())::(i++v), ?_, ?_,by omega,L,by grind,Tr.one (((p▸I.2).wide (by omega) (ae _)).ap M.2) (ae _) (ae _) (by omega) rfl⟩
 .rw[Di];simp only[fD,iy,aA,aa,bJ];rw[qw hF a l u d (by omega),bJ];simp only[o,show bZ (((105:UInt8).toNat:Nat):Int) 40=false from by kernel_rfl,show bZ (((105:UInt8).toNat:Nat):Int) 105=true from by kernel_rfl,aa,ac,A];rw[dC,dC,show(a:Int)+1=((a+1:Nat):Int) by omega];rw[D,bJ];simp only;rw[J,bJ];simp only[dO];rw[ah,fV];simp only[N,O,aa,mP,show d+1-1=d by omega]
 ·(rewrite [Dh];delta oN;rw[bW (b:=fO (jc F) (a:Int)) (ed (by omega) (by simp_all)),CE x,o,show(((105:UInt8).toNat:Nat):Int)=105 from by kernel_rfl,aDC,bJ])
  simp only[dO];rw[mM a l u d (by omega) (by omega) (by omega) z (by omega),bJ];simp only[show jS 11=true from by kernel_rfl,if_true,show bZ (11:Int) 9=false from by kernel_rfl,show bZ (11:Int) 10=false from by kernel_rfl,show bZ (11:Int) 11=true from by kernel_rfl,aa,ac];rw[show((l.length:Nat):Int)=bM l from rfl,<-s,dC,show(a:Int)+1=((a+1:Nat):Int) by omega];refine(E (fun w y=>bK (jE (iC q') bV w y.1.1 y.1.2.1 y.1.2.2.2.1 y.1.2.2.2.2.1 y.1.2.2.2.2.2.1 y.1.2.2.1) fun S=>
   dO S (fun e=>
    bK (qP e.2.2.1.1 e.2.2.1.2.1 e.2.2.2.1 e.2.2.1.2.2.1 e.2.2.1.2.2.2.1 e.2.2.1.2.2.2.2.1 e.1.1) fun g=>
     a6 ((g.1.1,(g.1.2.1,(g.1.2.2.1,(g.1.2.2.2.1,(g.1.2.2.2.2.1,(g.1.2.2.2.2.2.1,())))))),())) (fun b6=>a7))).trans ?_
  simp only;rw[K,bJ];simp only[dO];rw[ah,s,show bM l=((l.length:Nat):Int) from rfl,xy j _ u (d+1) l.length (by simp) (ql l _ 11 _ _) (by omega) (by omega) (by omega) (by omega),bJ];simp only[qc,show jS 11=true from by kernel_rfl,if_true,show d+1-1=d by omega]
theorem aIA {n:Nat} (h2:All F (n-2)) (a:Nat) (l:List Nd) (u d:Int) (q q':Nat) (M:16*(F.length-a)+8<n+1) (N:n<=q) (O:n<=q') (hp:MR F a l d 113) (s:a<F.length) (hd:d<200) (i:Gm F a=119):
  ∃(e:Nat) (m:List Nd),Di (fJ q) F (a:Int) l u d=a6 (PR F e (l++m) u d,())/\
   Dh (iC q') F (jc F) l (a:Int) u d=a6 (RR F e (l++m) u d,())/\a<e/\e<=F.length/\m.length+3<=16*(e-a)/\Tr F a e u l.length m:=by
 obtain⟨S,U,v,V⟩:=hp;have W:=hF.len;obtain⟨f,rfl⟩: ∃f,q=f+1:=⟨q-1,by omega⟩;have j:(cu l [opn 12 a u]).length=l.length+1:=by unfold cu;simp
 have o:cu l [opn 12 a u]=l++[(12,(a:Int),0,u,())]:=rfl;obtain⟨x,_,_⟩:=lU l (opn 12 a u) (by omega);obtain⟨y,g,z,A,X,B,D⟩:=aCe hF h2 (a+1) (cu l [opn 12 a u]) (bM l) (d+1) (f+1) q' (by omega) (by omega) (by omega) ⟨by omega,by rw[j];omega,by omega,by omega⟩;obtain⟨h,p,E,G,Y,I,J⟩:=aLj hF (q:=fJ (f+1)) (q':=iC q') (bM l) (d+1) u (bM l) u 12 12 12 12 ⟨by omega,by omega⟩ y (cu l [opn 12 a u]++g) B (by grind);obtain⟨K,L⟩:=rX l (g++p) (opn 12 a u);refine⟨h,(12,(a:Int),(h:Int),u,())::(g++p), ?_, ?_,by omega,I,by grind,Tr.one (((j▸D.2).wide (by omega) (ae _)).ap J.2) (ae _) (ae _) (by omega) rfl⟩
 .rw[Di];simp only[fD,iy,aA,aa,bJ];rw[qw hF a l u d (by omega),bJ];simp only[i,show bZ (((119:UInt8).toNat:Nat):Int) 40=false from by kernel_rfl,show bZ (((119:UInt8).toNat:Nat):Int) 105=false from by kernel_rfl,show bZ (((119:UInt8).toNat:Nat):Int) 119=true from by kernel_rfl,aa,ac,x];rw[dC,dC,show(a:Int)+1=((a+1:Nat):Int) by omega];rw[z,bJ];simp only;rw[E,bJ];simp only[dO];rw[ah,fV];simp only[K,L,aa,mP,show d+1-1=d by omega]
 ·(rewrite [Dh];delta oN;rw[bW (b:=fO (jc F) (a:Int)) (ed (by omega) (by simp_all)),CE s,i,show(((119:UInt8).toNat:Nat):Int)=119 from by kernel_rfl,aDD,bJ])
  simp only[dO];rw[mM a l u d (by omega) (by omega) (by omega) v (by omega),bJ];simp only[show jS 12=true from by kernel_rfl,if_true,show bZ (12:Int) 9=false from by kernel_rfl,show bZ (12:Int) 10=false from by kernel_rfl,show bZ (12:Int) 11=false from by kernel_rfl,show bZ (12:Int) 12=true from by kernel_rfl,aa,ac];rw[show((l.length:Nat):Int)=bM l from rfl,<-o,dC,show(a:Int)+1=((a+1:Nat):Int) by omega];refine(A _).trans ?_;simp only;rw[G,bJ];simp only[dO];rw[ah,o,show bM l=((l.length:Nat):Int) from rfl,xy h _ u (d+1) l.length (by simp) (ql l _ 12 _ _) (by omega) (by omega) (by omega) (by omega),bJ];simp only[qc,show jS 12=true from by kernel_rfl,if_true,show d+1-1=d by omega]
theorem aIB {n:Nat} (h2:All F (n-2)) (a:Nat) (l:List Nd) (u d:Int) (q q':Nat) (M:16*(F.length-a)+8<n+1) (N:n<=q) (O:n<=q') (hp:MR F a l d 113) (s:a<F.length) (hd:d<200) (i:Gm F a=114):
  ∃(e:Nat) (m:List Nd),Di (fJ q) F (a:Int) l u d=a6 (PR F e (l++m) u d,())/\
   Dh (iC q') F (jc F) l (a:Int) u d=a6 (RR F e (l++m) u d,())/\a<e/\e<=F.length/\m.length+3<=16*(e-a)/\Tr F a e u l.length m:=by
 obtain⟨S,U,v,V⟩:=hp;have W:=hF.len;obtain⟨f,rfl⟩: ∃f,q=f+1:=⟨q-1,by omega⟩;have j:(cu l [opn 13 a u]).length=l.length+1:=by unfold cu;simp
 have o:cu l [opn 13 a u]=l++[(13,(a:Int),0,u,())]:=rfl;obtain⟨x,_,_⟩:=lU l (opn 13 a u) (by omega);obtain⟨y,g,z,A,X,B,D⟩:=aCH hF h2 (a+1) (cu l [opn 13 a u]) (bM l) (d+1) (f+1) q' (by omega) (by omega) (by omega) ⟨by omega,by rw[j];omega,by omega,by omega⟩;obtain⟨h,p,E,G,Y,I,J⟩:=aLk hF (q:=fJ (f+1)) (q':=iC q') (bM l) (d+1) u (bM l) u 13 13 13 13 ⟨by omega,by omega⟩ y (cu l [opn 13 a u]++g) B (by grind);obtain⟨K,L⟩:=rX l (g++p) (opn 13 a u);refine⟨h,(13,(a:Int),(h:Int),u,())::(g++p), ?_, ?_,by omega,I,by grind,Tr.one (((j▸D.2).wide (by omega) (ae _)).ap J.2) (ae _) (ae _) (by omega) rfl⟩
 .rw[Di];simp only[fD,iy,aA,aa,bJ];rw[qw hF a l u d (by omega),bJ];simp only[i,show bZ (((114:UInt8).toNat:Nat):Int) 40=false from by kernel_rfl,show bZ (((114:UInt8).toNat:Nat):Int) 105=false from by kernel_rfl,show bZ (((114:UInt8).toNat:Nat):Int) 119=false from by kernel_rfl,show bZ (((114:UInt8).toNat:Nat):Int) 114=true from by kernel_rfl,aa,ac,x];rw[dC,dC,show(a:Int)+1=((a+1:Nat):Int) by omega];rw[z,bJ];simp only;rw[E,bJ];simp only[dO];rw[ah,fV];simp only[K,L,aa,mP,show d+1-1=d by omega]
 ·(rewrite [Dh];delta oN;rw[bW (b:=fO (jc F) (a:Int)) (ed (by omega) (by simp_all)),CE s,i,show(((114:UInt8).toNat:Nat):Int)=114 from by kernel_rfl,aDE,bJ])
  simp only[dO];rw[mM a l u d (by omega) (by omega) (by omega) v (by omega),bJ];simp only[show jS 13=true from by kernel_rfl,if_true,show bZ (13:Int) 9=false from by kernel_rfl,show bZ (13:Int) 10=false from by kernel_rfl,show bZ (13:Int) 11=false from by kernel_rfl,show bZ (13:Int) 12=false from by kernel_rfl,show bZ (13:Int) 13=true from by kernel_rfl,aa,ac];rw[show((l.length:Nat):Int)=bM l from rfl,<-o,dC,show(a:Int)+1=((a+1:Nat):Int) by omega];rw[A,bJ];simp only;rw[G,bJ];simp only[dO];rw[ah,o,show bM l=((l.length:Nat):Int) from rfl,xy h _ u (d+1) l.length (by simp) (ql l _ 13 _ _) (by omega) (by omega) (by omega) (by omega),bJ];simp only[qc,show jS 13=true from by kernel_rfl,if_true,show d+1-1=d by omega]
theorem aIC {n:Nat} (h2:All F (n-2)) (a:Nat) (l:List Nd) (u d:Int) (q q':Nat) (M:16*(F.length-a)+8<n+1) (N:n<=q) (O:n<=q') (hp:MR F a l d 113) (s:a<F.length) (hd:d<200) (i:Gm F a=99):
  ∃(e:Nat) (m:List Nd),Di (fJ q) F (a:Int) l u d=a6 (PR F e (l++m) u d,())/\
   Dh (iC q') F (jc F) l (a:Int) u d=a6 (RR F e (l++m) u d,())/\a<e/\e<=F.length/\m.length+3<=16*(e-a)/\Tr F a e u l.length m:=by
 obtain⟨S,U,v,V⟩:=hp;have W:=hF.len;obtain⟨f,rfl⟩: ∃f,q=f+1:=⟨q-1,by omega⟩;have j:(cu l [opn 14 a u]).length=l.length+1:=by unfold cu;simp
 have o:cu l [opn 14 a u]=l++[(14,(a:Int),0,u,())]:=rfl;obtain⟨x,_,_⟩:=lU l (opn 14 a u) (by omega);obtain⟨y,g,z,A,X,B,D⟩:=auZ hF h2 (a+1) (cu l [opn 14 a u]) (bM l) (d+1) (f+1) q' (by omega) (by omega) (by omega) ⟨by omega,by rw[j];omega,by omega,by omega⟩;obtain⟨h,p,E,G,Y,I,J⟩:=aLl hF (q:=fJ (f+1)) (q':=iC q') (bM l) (d+1) u (bM l) u 14 14 14 14 ⟨by omega,by omega⟩ y (cu l [opn 14 a u]++g) B (by grind);obtain⟨K,L⟩:=rX l (g++p) (opn 14 a u);refine⟨h,(14,(a:Int),(h:Int),u,())::(g++p), ?_, ?_,by omega,I,by grind,Tr.one (((j▸D.2).wide (by omega) (ae _)).ap J.2) (ae _) (ae _) (by omega) rfl⟩
 .rw[Di];simp only[fD,iy,aA,aa,bJ];rw[qw hF a l u d (by omega),bJ];simp only[i,show bZ (((99:UInt8).toNat:Nat):Int) 40=false from by kernel_rfl,show bZ (((99:UInt8).toNat:Nat):Int) 105=false from by kernel_rfl,show bZ (((99:UInt8).toNat:Nat):Int) 119=false from by kernel_rfl,show bZ (((99:UInt8).toNat:Nat):Int) 114=false from by kernel_rfl,show bZ (((99:UInt8).toNat:Nat):Int) 99=true from by kernel_rfl,aa,ac,x];rw[dC,dC,show(a:Int)+1=((a+1:Nat):Int) by omega];rw[z,bJ];simp only;rw[E,bJ];simp only[dO];rw[ah,fV];simp only[K,L,aa,mP,show d+1-1=d by omega]
 ·(rewrite [Dh];delta oN;rw[bW (b:=fO (jc F) (a:Int)) (ed (by omega) (by simp_all)),CE s,i,show(((99:UInt8).toNat:Nat):Int)=99 from by kernel_rfl,aDF,bJ])
  simp only[dO];rw[mM a l u d (by omega) (by omega) (by omega) v (by omega),bJ];simp only[show jS 14=true from by kernel_rfl,if_true,show bZ (14:Int) 9=false from by kernel_rfl,show bZ (14:Int) 10=false from by kernel_rfl,show bZ (14:Int) 11=false from by kernel_rfl,show bZ (14:Int) 12=false from by kernel_rfl,show bZ (14:Int) 13=false from by kernel_rfl,show bZ (14:Int) 14=true from by kernel_rfl,aa,ac];rw[show((l.length:Nat):Int)=bM l from rfl,<-o,dC,show(a:Int)+1=((a+1:Nat):Int) by omega];rw[A,bJ];simp only;rw[G,bJ];simp only[dO];rw[ah,o,show bM l=((l.length:Nat):Int) from rfl,xy h _ u (d+1) l.length (by simp) (ql l _ 14 _ _) (by omega) (by omega) (by omega) (by omega),bJ];simp only[qc,show jS 14=true from by kernel_rfl,if_true,show d+1-1=d by omega]
theorem Y3 {n:Nat} (h2:All F (n-2)) (a:Nat) (l:List Nd) (u d:Int) (r j:Nat) (g:16*(F.length-a)+8<n+1) (s:n+1<=r) (v:n+1<=j) (hp:MR F a l d 113) (p:KZ F a d=true):
  ∃(h:Nat) (m:List Nd),(fJ r).q238 F (a:Int) l u d=a6 (PR F h (l++m) u d,())/\
   (iC j).q210 F (jc F) l (a:Int) u d=a6 (RR F h (l++m) u d,())/\a<h/\h<=F.length/\m.length+3<=16*(h-a)/\Tr F a h u l.length m:=by
 obtain⟨q,rfl⟩: ∃q,r=q+1:=⟨r-1,by omega⟩;obtain⟨f,rfl⟩: ∃f,j=f+1:=⟨j-1,by omega⟩;unfold KZ at p;simp only[af,decide_eq_true_eq]at p;obtain⟨hd,o⟩:=p;have i:=iG o;unfold gq at o;simp only[af,decide_eq_true_eq,List.contains_eq_mem,List.mem_cons,List.not_mem_nil,or_false]at o;rcases o.2 with e|e|e|e|e|e
 .exact aMJ hF h2 a l u d q f g (by omega) (by omega) hp i hd e
 .exact aIy hF h2 a l u d q f g (by omega) (by omega) hp i hd e
 .exact aIz hF h2 a l u d q f g (by omega) (by omega) hp i hd e
 .exact aIA hF h2 a l u d q f g (by omega) (by omega) hp i hd e
 .exact aIB hF h2 a l u d q f g (by omega) (by omega) hp i hd e
 .exact aIC hF h2 a l u d q f g (by omega) (by omega) hp i hd e
end
section
open Bool renaming false_eq_true → ag, not_true → ak, not_false → az, and_true → aA
open List renaming length_append → ai, getElem_mem → aF, nil_append → aH
open Nat renaming le_refl → ae
open Go.RowKit
variable {F:List Lf} (hF:Vy F)
include hF
theorem aIc (n:Nat):All F n:=by
 induction n using Nat.strongRecOn with
 |_ n o=>
  cases n with
  |zero=>exact⟨fun a l u d r e h=>by omega,fun a l u d r e h=>by omega,fun a l u d r e h=>by omega,fun a l u d r h=>by omega,fun a l u d r e h=>by omega,fun a l u d r e h=>by omega,fun a l u d r e h=>by omega⟩
  |succ n=>
   have h:=o n (by omega);have p:=o (n-1) (by omega);have q:=o (n-2) (by omega);exact⟨fun a l u d r e i f j g m=>asb hF h a l u d r e i f j g m,
    fun a l u d r e i f j g m=>ai9 hF h a l u d r e i f j g m,
    fun a l u d r e i f j g m=>asC hF h a l u d r e i f j g m,
    fun a l u d r i f g m=>ahS hF a l u d r f g m,
    fun a l u d r e i f j g=>abS hF h p a l u d r e i f j g,
    fun a l u d r e i f j g m=>Y3 hF q a l u d r e i f j g m,
    fun a l u d r e i f j g=>aqO hF h a l u d r e i f j g⟩
theorem Yj: ∀(N a:Nat),F.length-a<N->a<=F.length->
  QB N F ((jc F).take a) (a:Int)=some (.inl ((F,jc F,()),()))
 |0,a,h,_=>by omega
 |N+1,a,g,i=>by
  have j:=hF.len;rw[QB,afy];by_cases h:a<F.length
  .rw[bW (b:=gU (a:Int) (bM F)) (eX (by rw[bP];omega)),bW (b:=fO F (a:Int)) (ed),Du h];have d:oI F[a]=some ([Y0 F[a]],()):=(aAn (hF.txt _ (aF h))).2;rw[d,bJ];have e:gG ((jc F).take a) [Y0 F[a]]=true:=by
    unfold gG mD
    grind
   simp only[e,aa];rw[dC,show(a:Int)+1=((a+1:Nat):Int) by omega];have f:cu ((jc F).take a) [Y0 F[a]]=(jc F).take (a+1):=by
    simp_all [cu,List.take_add_one]
   rw[f];exact Yj N (a+1) (by omega) (by omega)
  simp_all [dD,gB,bP,List.take_of_length_le]
theorem PP (w:Int): ∀(N a:Nat) (L:List Nd) (b:Bool) (v:Int),F.length-a<N->a<=F.length->L.length<=16*a+1->bZ v 2=b->
  ∃m,I5 N b F (a:Int) 0 0 L=some (.inl ((),((),()),((F,((F.length:Nat):Int),0,0,()),L++m,())))/\
   LJ N F w v L F (jc F) (a:Int) 0 0=some (.inl ((w,()),(L++m,(F,jc F,((F.length:Nat):Int),0,0,()),())))/\m.length<=16*(F.length-a)/\Tr F a F.length 0 L.length m
 |0,a,L,b,v,i,_,_,_=>by omega
 |N+1,a,L,b,v,i,j,u,f=>by
  have x:=hF.len;rw[I5,UV,LJ,afz];by_cases h:a<F.length
  .rw[bW (b:=gU (a:Int) (bM F)) (eX (by rw[bP];omega)),bW (b:=gU (a:Int) (bM F)) (eX (by rw[bP];omega)),nZ hF a L 0 0 (by omega) [110] rfl,jF a L 0 0 [110] (by simp),bJ,bJ];simp only;have g: ∃m,I5 N false F ((a+1:Nat):Int) 0 0 (L++[(17,(a:Int),((a+1:Nat):Int),0,())])=some (.inl ((),((),()),((F,((F.length:Nat):Int),0,0,()),L++m,())))/\
     LJ N F w 17 (L++[(17,(a:Int),((a+1:Nat):Int),0,())]) F (jc F) ((a+1:Nat):Int) 0 0=some (.inl ((w,()),(L++m,(F,jc F,((F.length:Nat):Int),0,0,()),())))/\m.length<=16*(F.length-a)/\Tr F a F.length 0 L.length m:=by
    obtain⟨m,g1,g2,g3⟩:=PP w N (a+1) (L++[(17,(a:Int),((a+1:Nat):Int),0,())]) false 17 (by omega) (by omega) (by grind) rfl;exact⟨[(17,(a:Int),((a+1:Nat):Int),0,())]++m,by simp_all,by simp_all,by grind,(Tr.lf (ae a) (ae _) (by omega) (fun h=>by exfalso;omega)).ap g3.2⟩
   cases hb:gq F a [110]with
   |true=>
    rw[oK hb,dC,show(a:Int)+1=((a+1:Nat):Int) by omega];simp only[aa];obtain⟨m,g1,g2,g3⟩:=PP w N (a+1) L b v (by omega) (by omega) (by omega) f;exact⟨m,g1,g2,by omega,g3.2.wide (by omega) (ae _)⟩
   |false=>
    rw[zO hb,f];simp only[ac];cases b with
    |true=>
     simp only[ak,ac];rw[Lu a L 0 0 17 (by omega) (by omega),SX a L 0 0 (by omega) (by omega) rfl (by omega) (by omega) (by omega) (by omega),bJ,bJ];exact g
    |false=>
     simp only[az,aa];rw[Ff hF a L 0 0 (by omega),KR a L 0 0 (by omega),bJ,bJ];simp only;cases hp:rZ F a 0 with
     |true=>
      obtain⟨y,_,_⟩:=lU L (opn 2 a 0) (by omega);obtain⟨d,e,l,o,z,p,q⟩:=(aIc hF (16*F.length+13)).list a L 0 0 bV bV (by omega) (Nat.le_of_lt (dI)) (Nat.le_of_lt (dI)) ⟨j,by omega,by omega,by omega⟩ hp;obtain⟨A,B⟩:=rX L e (opn 2 a 0);have D:aw6 F (a:Int) (cu L [opn 2 a 0]) (bM L) 0=some (PR F d (cu L [opn 2 a 0]++e) (bM L) 0,()):=l;have E:aIX F (jc F) L (a:Int) 0 0=some (RR F d (L++(2,(a:Int),(d:Int),0,())::e) 0 0,()):=o;obtain⟨m,g1,g2,g3⟩:=PP w N d (L++(2,(a:Int),(d:Int),0,())::e) true 2 (by omega) p (by grind) rfl;refine⟨((2,(a:Int),(d:Int),0,())::e)++m, ?_, ?_,by grind,(q.2.one (ae _) (ae _) (by omega) rfl).app g3.2 (ae _) (ai ..)⟩
      .simp_all [fD,bJ,mP]
      simp_all [bJ]
     |false=>
      simp only[ac];rw[Lu a L 0 0 17 (by omega) (by omega),SX a L 0 0 (by omega) (by omega) rfl (by omega) (by omega) (by omega) (by omega),bJ,bJ];exact g
  .have s:a=F.length:=by omega
   rw[dD (b:=gU (a:Int) (bM F)) (gB (by rw[bP];omega)),dD (b:=gU (a:Int) (bM F)) (gB (by rw[bP];omega)),s];exact⟨[],by simp,by simp,by simp,.nil (ae _)⟩
theorem aic: ∃l,acn F=some (l,())/\arV F=some (l,())/\l.length<=16*F.length+1/\ ∃m,l=(1,0,(F.length:Int),-1,())::m/\Tr F 0 F.length 0 1 m:=by
 have e:=hF.len;obtain⟨m,g1,g2,g3⟩:=PP hF (-1) bV 0 [(1,0,0,-1,())] false 0 (dI) (by omega) (by simp) rfl;refine⟨agA ([(1,0,0,-1,())]++m) 0 ((F.length:Nat):Int), ?_, ?_,by simp_all [avb],m,rfl,g3.2⟩
 .rw[acn];have d:eH [((1:Int),((0:Int),((0:Int),((-1:Int),()))))] 32=true:=by kernel_rfl
  simp only[fD,aA,aa,d];rw[aw3,show((0:Int))=((0:Nat):Int) from rfl];simp only[Int.ofNat_zero]at g1 ⊢;rw[g1,bJ];simp only[dO,bJ];rw[bW (ed (by omega) (by simp)),bW (sN (by simp[dL]))];rfl
 .rw[arV,show QB bV F [] 0=some (.inl ((F,jc F,()),())) from Yj hF bV 0 (dI) (by omega),bJ];simp only[dO];rw[show Gi F (jc F) [] 0 (-1) 0 1=_ from mM 0 [] (-1) 0 (by omega) (by omega) (by simp) (by omega) (by omega),bJ];simp only[show jS 1=false from by kernel_rfl,ag,if_false,aH,List.length_nil];rw[show LJ bV F (-1) 0 [(1,((0:Nat):Int),0,-1,())] F (jc F) ((0:Nat):Int) ((0:Nat):Int) 0=_ from g2,bJ];simp only[dO];rw[show qP F (jc F) _ ((F.length:Nat):Int) 0 0 (-1)=_ from xy F.length ([(1,0,0,-1,())]++m) (-1) 0 0 (by simp) (k:=1) rfl (by omega) (by omega) (by omega) (by omega),bJ]
end
end Go.Proofs.YtdfhjhkcjecmlaaGreatDoor
