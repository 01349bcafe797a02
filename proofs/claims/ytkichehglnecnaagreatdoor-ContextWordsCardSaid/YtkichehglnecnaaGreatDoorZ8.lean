/- Parts of the proof, joined and shortened by a program: the plain machine, the functions as it prints them, and the mathematics over them. -/
import Derived.Test.YtkichehglnecnaaGreatDoorZ4
import Derived.Test.YtkichehglnecnaaGreatDoorZ5
import Derived.Test.YtkichehglnecnaaGreatDoorZ7
set_option linter.unusedVariables false
set_option linter.unusedSimpArgs false
set_option maxRecDepth 100000
set_option maxHeartbeats 4000000
namespace Go.Proofs.YtkichehglnecnaaGreatDoor
section
open Option renaming some → a6, none → a7
open Bool renaming not_true → ax, not_false → aA
open Nat renaming le_trans → aK
open Go.RowKit
theorem aBw {a b:List UInt8}:gp a b=true↔a=b:=by simp[gp]
theorem Nq {a b:List UInt8} (h:a≠b):gp a b=false:=by simp[gp];exact h
theorem aEK {a b:List UInt8} (h:a=b):gp a b=true:=aBw.2 h
def xu:List bV:=[[33],[123],[125],[99,97,115,101],[100,111],[100,111,110,101],[101,108,105,102],[101,108,115,101],[101,115,97,99],[102,105],[102,111,114],[105,102],[105,110],[116,104,101,110],[117,110,116,105,108],[119,104,105,108,101]]
def aha:bV:=[32,33,32,123,32,125,32,99,97,115,101,32,100,111,32,100,111,110,101,32,101,108,105,102,32,101,108,115,101,32,101,115,97,99,32,102,105,32,102,111,114,32,105,102,32,105,110,32,116,104,101,110,32,117,110,116,105,108,32,119,104,105,108,101,32]
theorem ajU: ∀i:Fin 66,∀n:Fin 66,(sub aha (i.val:Int) ((i.val:Int)+((n.val:Int)+2))).getD 0 0=32->
  (sub aha (i.val:Int) ((i.val:Int)+((n.val:Int)+2))).getD (n.val+1) 0=32->
  (((sub aha (i.val:Int) ((i.val:Int)+((n.val:Int)+2))).drop 1).take n.val).contains 32=false->n.val≠0->i.val+n.val+2<=65->
  xu.contains (((sub aha (i.val:Int) ((i.val:Int)+((n.val:Int)+2))).drop 1).take n.val)=true:=by decide+kernel
theorem amU (x:bV) (hx:x.length<=3000000): ∀(n k:Nat),k<=x.length->x.length-k<n->
  Fg n 32 x (k:Int)=a6 (.inl ((),()))/\(∀j,k<=j->j<x.length->cu x (j:Int)≠32)\/Fg n 32 x (k:Int)=a6 (.inr ((true,()),()))
 |0,k,d,e=>by omega
 |n+1,k,d,e=>by
  rw[Fg];unfold Yd;by_cases hk:k<x.length
  .rw[bW (fG (by rw[bM];omega)),bW (eF)];by_cases hb:cu x (k:Int)=32
   .simp_all [eG]
   .rw[dG (dM hb),dB];rcases amU x hx n (k+1) (by omega) (by omega)with ⟨h,h'⟩|h
    all_goals grind
  .rw[dG (gU (by rw[bM];omega))]
   grind
theorem ax4 {x:List UInt8} (h: ∀j,0<=j->j<x.length->cu x ((j:Nat):Int)≠32):x.contains 32=false:=by
 rw[Bool.eq_false_iff];intro d;rw[List.contains_iff_mem]at d;obtain⟨j,e,f⟩:=List.mem_iff_getElem.1 d;refine h j (by omega) e ?_;simp_all [cu]
theorem ahY (x:bV) (hx:x.length<=3000000) (f:x.length≠0) (hb:x.contains 32=false) (g:xu.contains x=false): ∀(n i:Nat),i<=66->66-i<n->
  WP n (bU (bU [32] x) [32]) (i:Int)=a6 (.inl ((),()))
 |0,i,j,l=>by omega
 |n+1,i,j,l=>by
  have d:(bU (bU [32] x) [32]).length=x.length+2:=by simp[bU]
  rw[WP];unfold afd;by_cases hi:i+x.length+2<=65
  .rw[bW (oK (by grind [bM,dB]))];rw[bW (fQ (by omega) (by grind [bM,dB]) (by rw[bM,bM,d,dB];show _<=(65:Int);omega))];rw[dG (Nq ?_)]
   .rw[dB];exact ahY x hx f hb g n (i+1) (by omega) (by omega)
   .intro e;rw[bM,d,dB]at e;change sub aha _ _=_ at e;have:=ajU ⟨i,by omega⟩ ⟨x.length,by omega⟩;simp_all [bU]
  .rw[dG (BC (by grind [bM,dB]))]
theorem Ut (x:bV) (hx:x.length<=3000000) (d:xu.contains x=false):awg x=a6 (false,()):=by
 unfold awg;by_cases h0:x.length=0
 .simp_all [eG,bM]
 rw[dG (dM (by rw[bM];omega))];unfold Qa;rcases amU x hx bT 0 (by omega) (dJ)with ⟨h,h'⟩|h
 .rw[show(0:Int)=((0:Nat):Int) from rfl,h];simp only[bI,ayh,ac];rw[bW (show iQ [32] x=true by unfold iQ mJ;grind)];rw[bW (show iQ (bU [32] x) [32]=true by unfold iQ mJ bU;grind)];rw[ahY x hx h0 (ax4 h') d bT 0 (by omega) (dJ)];rfl
 .rw[show(0:Int)=((0:Nat):Int) from rfl,h];rfl
theorem ahI: ∀k:Fin 17,aB0 ((k.val:Int)+1)=a6 (LW.getD k.val [],())/\aca ((k.val:Int)+1)=a6 (LW.getD k.val [],()):=by
 intro k
 match k with
 |⟨0,_⟩=>exact⟨by kernel_rfl,by kernel_rfl⟩
 |⟨1,_⟩=>exact⟨by kernel_rfl,by kernel_rfl⟩
 |⟨2,_⟩=>exact⟨by kernel_rfl,by kernel_rfl⟩
 |⟨3,_⟩=>exact⟨by kernel_rfl,by kernel_rfl⟩
 |⟨4,_⟩=>exact⟨by kernel_rfl,by kernel_rfl⟩
 |⟨5,_⟩=>exact⟨by kernel_rfl,by kernel_rfl⟩
 |⟨6,_⟩=>exact⟨by kernel_rfl,by kernel_rfl⟩
 |⟨7,_⟩=>exact⟨by kernel_rfl,by kernel_rfl⟩
 |⟨8,_⟩=>exact⟨by kernel_rfl,by kernel_rfl⟩
 |⟨9,_⟩=>exact⟨by kernel_rfl,by kernel_rfl⟩
 |⟨10,_⟩=>exact⟨by kernel_rfl,by kernel_rfl⟩
 |⟨11,_⟩=>exact⟨by kernel_rfl,by kernel_rfl⟩
 |⟨12,_⟩=>exact⟨by kernel_rfl,by kernel_rfl⟩
 |⟨13,_⟩=>exact⟨by kernel_rfl,by kernel_rfl⟩
 |⟨14,_⟩=>exact⟨by kernel_rfl,by kernel_rfl⟩
 |⟨15,_⟩=>exact⟨by kernel_rfl,by kernel_rfl⟩
 |⟨16,_⟩=>exact⟨by kernel_rfl,by kernel_rfl⟩
 |⟨n+17,h⟩=>omega
theorem aFd {x:List UInt8} (d:LW.contains x=false) {k:Nat} (hk:k<17):LW.getD k []≠x:=by
 rintro rfl;rw[Bool.eq_false_iff]at d;apply d;rw[List.contains_iff_mem,List.getD_eq_getElem?_getD,List.getElem?_eq_getElem (show k<LW.length from hk)];simp
theorem aaJ (x:bV) (d:LW.contains x=false): ∀(n k:Nat),k<=17->17-k<n->LP n x ((k:Int)+1)=a6 (.inl ((),()))
 |0,k,e,f=>by omega
 |n+1,k,e,f=>by
  rw[LP];unfold Yc;by_cases hk:k<17
  .rw[bW (oK),(ahI ⟨k,hk⟩).1,bI,dG (Nq (aFd d hk)),dB];exact aaJ x d n (k+1) (by omega) (by omega)
  .rw[dG (BC)]
theorem aeX (x:bV) (d:LW.contains x=false) (a b c:Int): ∀(n k:Nat),k<=17->17-k<n->WM n ((k:Int)+1) a x b c=a6 (.inl ((),()))
 |0,k,e,f=>by omega
 |n+1,k,e,f=>by
  rw[WM];unfold ae7;by_cases hk:k<17
  .rw[bW (oK),(ahI ⟨k,hk⟩).2,bI,dG (Nq (aFd d hk)),dB];exact aeX x d a b c n (k+1) (by omega) (by omega)
  .rw[dG (BC)]
theorem acC {x:List UInt8} (h:xu.contains x=true):x=[33]\/x=[123]\/x=[125]\/x=[99,97,115,101]\/x=[100,111]\/x=[100,111,110,101]\/x=[101,108,105,102]\/x=[101,108,115,101]\/x=[101,115,97,99]\/x=[102,105]\/x=[102,111,114]\/x=[105,102]\/x=[105,110]\/x=[116,104,101,110]\/x=[117,110,116,105,108]\/x=[119,104,105,108,101]:=by
 simp_all [xu]
theorem axY {x:List UInt8} (h:LW.contains x=true):x=[38,38]\/x=[124,124]\/x=[59,59]\/x=[60,60]\/x=[60,60,45]\/x=[62,62]\/x=[60,38]\/x=[62,38]\/x=[60,62]\/x=[62,124]\/x=[60]\/x=[62]\/x=[38]\/x=[59]\/x=[124]\/x=[40]\/x=[41]:=by
 simp_all [LW]
theorem atg (x:bV) (hx:x.length<=10000) (a b:Int): ∃c:UInt8,amk x=a6 ((c.toNat:Int),())/\nS (6,(x,(a,(b,()))))=a6 ([c],()):=by
 cases hw:xu.contains x with
 |true=>
  rcases acC hw with h|h|h|h|h|h|h|h|h|h|h|h|h|h|h|h
  .subst h;exact⟨33,by kernel_rfl,by kernel_rfl⟩
  .subst h;exact⟨123,by kernel_rfl,by kernel_rfl⟩
  .subst h;exact⟨125,by kernel_rfl,by kernel_rfl⟩
  .subst h;exact⟨99,by kernel_rfl,by kernel_rfl⟩
  .subst h;exact⟨100,by kernel_rfl,by kernel_rfl⟩
  .subst h;exact⟨103,by kernel_rfl,by kernel_rfl⟩
  .subst h;exact⟨101,by kernel_rfl,by kernel_rfl⟩
  .subst h;exact⟨108,by kernel_rfl,by kernel_rfl⟩
  .subst h;exact⟨122,by kernel_rfl,by kernel_rfl⟩
  .subst h;exact⟨102,by kernel_rfl,by kernel_rfl⟩
  .subst h;exact⟨114,by kernel_rfl,by kernel_rfl⟩
  .subst h;exact⟨105,by kernel_rfl,by kernel_rfl⟩
  .subst h;exact⟨107,by kernel_rfl,by kernel_rfl⟩
  .subst h;exact⟨116,by kernel_rfl,by kernel_rfl⟩
  .subst h;exact⟨119,by kernel_rfl,by kernel_rfl⟩
  .subst h;exact⟨119,by kernel_rfl,by kernel_rfl⟩
 |false=>
  refine⟨120, ?_, ?_⟩
  .have e: ∀l,xu.contains l=true->gp x l=false:=fun l d=>Nq fun f=>by simp_all
   (unfold amk;delta TN abU)
   simp only[e [33] rfl,e [123] rfl,e [125] rfl,e [99,97,115,101] rfl,e [100,111] rfl,e [100,111,110,101] rfl,e [101,108,105,102] rfl,e [101,108,115,101] rfl,e [101,115,97,99] rfl,e [102,105] rfl,e [102,111,114] rfl,e [105,102] rfl,e [105,110] rfl,e [116,104,101,110] rfl,e [117,110,116,105,108] rfl,e [119,104,105,108,101] rfl,ac];rfl
  .unfold nS;simp only[show bY 6 2=false from rfl,show bY 6 5=false from rfl,show bY 6 4=false from rfl,show bY 6 6=true from rfl,ax,ac,Ut x (aK hx (by omega)) hw,bI,aA,aa]
theorem arR (x:bV) (hx:x.length<=10000) (a b:Int): ∃c:UInt8,amj x=a6 ((c.toNat:Int),())/\nS (4,(x,(a,(b,()))))=a6 ([c],())/\c≠120:=by
 cases hw:LW.contains x with
 |true=>
  rcases axY hw with h|h|h|h|h|h|h|h|h|h|h|h|h|h|h|h|h
  .subst h;exact⟨97,by kernel_rfl,by kernel_rfl,by decide⟩
  .subst h;exact⟨111,by kernel_rfl,by kernel_rfl,by decide⟩
  .subst h;exact⟨121,by kernel_rfl,by kernel_rfl,by decide⟩
  .subst h;exact⟨60,by kernel_rfl,by kernel_rfl,by decide⟩
  .subst h;exact⟨60,by kernel_rfl,by kernel_rfl,by decide⟩
  .subst h;exact⟨60,by kernel_rfl,by kernel_rfl,by decide⟩
  .subst h;exact⟨60,by kernel_rfl,by kernel_rfl,by decide⟩
  .subst h;exact⟨60,by kernel_rfl,by kernel_rfl,by decide⟩
  .subst h;exact⟨60,by kernel_rfl,by kernel_rfl,by decide⟩
  .subst h;exact⟨60,by kernel_rfl,by kernel_rfl,by decide⟩
  .subst h;exact⟨60,by kernel_rfl,by kernel_rfl,by decide⟩
  .subst h;exact⟨60,by kernel_rfl,by kernel_rfl,by decide⟩
  .subst h;exact⟨38,by kernel_rfl,by kernel_rfl,by decide⟩
  .subst h;exact⟨59,by kernel_rfl,by kernel_rfl,by decide⟩
  .subst h;exact⟨124,by kernel_rfl,by kernel_rfl,by decide⟩
  .subst h;exact⟨40,by kernel_rfl,by kernel_rfl,by decide⟩
  .subst h;exact⟨41,by kernel_rfl,by kernel_rfl,by decide⟩
 |false=>
  refine⟨63, ?_, ?_,by decide⟩
  .unfold amj;have:ab8 x=a6 (0,()):=by
    unfold ab8;by_cases h0:x=[]
    .rw[bW (aEK h0)]
    .rw[dG (Nq h0),show(1:Int)=((0:Nat):Int)+1 from rfl,aaJ x hw bT 0 (by omega) (dJ)];rfl
   rw[this];rfl
  .unfold nS;simp only[show bY 4 2=false from rfl,show bY 4 5=false from rfl,show bY 4 4=true from rfl,ac,aa];rw[show(1:Int)=((0:Nat):Int)+1 from rfl,aeX x hw 4 a b bT 0 (by omega) (dJ)];rfl
theorem aFj (k:Int) (x:bV) (hx:x.length<=10000) (a b:Int): ∃c:UInt8,ajC (k,(x,(a,(b,()))))=a6 ((c.toNat:Int),())/\nS (k,(x,(a,(b,()))))=a6 ([c],())/\(c=120->k=6):=by
 by_cases h2:k=2
 .subst h2;exact⟨110,rfl,rfl,fun h=>absurd h (by decide)⟩
 by_cases h5:k=5
 .subst h5;exact⟨35,rfl,rfl,fun h=>absurd h (by decide)⟩
 by_cases h4:k=4
 .subst h4;obtain⟨c,h,d,f⟩:=arR x hx a b;refine⟨c, ?_,d,fun e=>absurd e f⟩;unfold ajC;simp only[show bY 4 2=false from rfl,show bY 4 4=true from rfl,ac,aa,h,bI]
 by_cases h6:k=6
 .subst h6;obtain⟨c,h,d⟩:=atg x hx a b;refine⟨c, ?_,d,fun _=>rfl⟩;unfold ajC;simp only[show bY 6 2=false from rfl,show bY 6 4=false from rfl,show bY 6 5=false from rfl,show bY 6 6=true from rfl,ac,aa,h,bI]
 refine⟨63, ?_, ?_,fun h=>absurd h (by decide)⟩
 .unfold ajC;simp only[dM h2,dM h4,dM h5,dM h6,ac];rfl
 .unfold nS;simp only[dM h2,dM h4,dM h5,dM h6,ac,aA,aa]
abbrev Lf:=Int×List UInt8×Int×Int×Unit
def dLf:Lf:=(0,([],(0,(0,()))))
def QO (f:Lf):UInt8:=match nS f with
 |some ([c],_)=>c
 |_=>0
theorem azc {f:Lf} (h:f.2.1.length<=10000):ajC f=a6 (((QO f).toNat:Int),())/\nS f=a6 ([QO f],()):=by
 obtain⟨k,x,a,b,u⟩:=f;obtain⟨c,d,e,_⟩:=aFj k x h a b;simp_all [QO]
theorem aFi {f:Lf} (h:f.2.1.length<=10000) (hx:QO f=120):f.1=6:=by
 obtain⟨k,x,a,b,u⟩:=f;obtain⟨c,d,e,g⟩:=aFj k x h a b;simp_all [QO]
end
section
open Option renaming some → a6, none → a7
open Bool renaming not_true → ax, and_true → ay, not_false → aA, true_and → aQ
open List renaming getElem_mem → aP
open Nat renaming le_refl → ae
open Go.RowKit
abbrev Nd:=Int×Int×Int×Int×Unit
def Ci:Nd:=(0,(0,(0,(0,()))))
structure Zo (F:List Lf):Prop where
 len:F.length<=10000
 txt: ∀f∈F,f.2.1.length<=10000
def FT (F:List Lf) (a:Nat):UInt8:=if h:a<F.length then QO F[a]else 0
def gm (F:List Lf) (a:Nat) (o:bV):Bool:=decide (a<F.length)&&o.contains (FT F a)
theorem X3 {F:List Lf} {a:Nat} (h:a<F.length):FT F a=QO F[a]:=by simp_all [FT]
theorem JC {F:List Lf} {a:Nat} (h:F.length<=a:=by omega):FT F a=0:=by simp_all [FT,dif_neg]
theorem iI {F:List Lf} {a:Nat} {o:List UInt8} (h:gm F a o=true):a<F.length:=by
 simp_all [gm]
theorem BD {F:List Lf} {a:Nat} (h:a<F.length):ed F (0,([],(0,(0,())))) (a:Int)=F[a]:=by
 simp_all [ed]
theorem aEN {d:Type} {l:List d} {k:Nat} (h:l.length*k<=140737488355328):eu l k=true:=by
 grind [eu,mJ]
variable {F:List Lf} (hF:Zo F)
include hF
theorem azh (a k:Nat) (l:List Nd) (u d:Int) (e:a+k<1000000000):Bi F (a:Int) l u d (k:Int)=a6 ((F,((a:Int),(l,(u,(d,()))))),(((FT F (a+k)).toNat:Int),())):=by
 have:=hF.len;rw[Bi,dB,show(a:Int)+(k:Int)=((a+k:Nat):Int) by omega];by_cases h:a+k<F.length
 .rw[dG (BC (by rw[bM];omega)),bW (eF),BD h,(azc (hF.txt _ (aP h))).1,bI,X3 h]
 .rw[bW (oK (by rw[bM];omega)),JC];rfl
theorem qM (a:Nat) (l:List Nd) (u d:Int) (e:a<100000000):Bi F (a:Int) l u d 0=a6 ((F,((a:Int),(l,(u,(d,()))))),(((FT F a).toNat:Int),())):=azh hF a 0 l u d (by omega)
theorem apq (a:Nat) (l:List Nd) (u d:Int) (e:a<100000000):Bi F (a:Int) l u d 1=a6 ((F,((a:Int),(l,(u,(d,()))))),(((FT F (a+1)).toNat:Int),())):=azh hF a 1 l u d (by omega)
omit hF in
theorem aB9 (S:bV) (c:UInt8):leI 0 (ibW S (c.toNat:Int))=S.contains c:=by
 have:ibW S (c.toNat:Int)=Lib.indexByte S c:=by unfold ibW;congr 1;simp
 rw[this,awx];by_cases h:(S.takeWhile (· !=c)).length<S.length
 .rw[am h,oK];have:=Dw (· !=c) S h
  grind
 .rw[aq h,BC];have e: ∀x∈S,x≠c:=fun x d=>by
   obtain⟨i,f,rfl⟩:=List.getElem_of_mem d
   grind [IE]
  grind
theorem abB (a:Nat) (l:List Nd) (u d:Int) (f:a<100000000) (o:bV) (g:o.contains 0=false):ZQ F (a:Int) l u d o=a6 ((F,((a:Int),(l,(u,(d,()))))),(gm F a o,())):=by
 rw[ZQ,qM hF a l u d f,bI];simp only;unfold gm;by_cases h:FT F a=0
 .rw[h,show(!bY (((0:UInt8).toNat:Nat):Int) 0)=false from rfl,ac,g,Bool.and_false]
 .have i:a<F.length:=by
   grind [JC]
  rw[dM fun e=>h (UInt8.toNat_inj.1 (by simp_all))];simp only[aA,aa];rw[agC,amJ,bI,bI];simp only[aB9,decide_eq_true i,aQ]
def tk (F:List Lf) (a:Nat) (o:bV):Nat:=if gm F a o=true then a+1 else a
theorem kF (a:Nat) (l:List Nd) (u d:Int) (e:a<100000000) (o:bV) (f:o.contains 0=false):mf F (a:Int) l u d o=a6 ((F,(((tk F a o:Nat):Int),(l,(u,(d,()))))),(gm F a o,())):=by
 rw[mf,abB hF a l u d e o f,bI];simp only;unfold tk;cases h:gm F a o with
 |false=>rfl
 |true=>
  simp only[ax,ac,if_true]
  grind [dB]
def lnF (F:List Lf):Nat->Nat->Nat
 |0,a=>a
 |n+1,a=>if gm F a [110]=true then lnF F n (a+1)else a
def ln (F:List Lf) (a:Nat):Nat:=lnF F (F.length+1) a
omit hF in
theorem ahc: ∀(n m a:Nat),F.length<n+a->F.length<m+a->lnF F n a=lnF F m a
 |0,0,a,_,_=>rfl
 |0,m+1,a,h,_=>by
  rw[lnF,lnF,aq];intro d;have:=iI d;omega
 |n+1,0,a,_,h=>by
  rw[lnF,lnF,aq];intro d;have:=iI d;omega
 |n+1,m+1,a,e,f=>by
  rw[lnF,lnF];split
  .exact ahc n m (a+1) (by omega) (by omega)
  .rfl
omit hF in
theorem N8 (a:Nat):ln F a=if gm F a [110]=true then ln F (a+1)else a:=by
 grind [ln,lnF,ahc]
omit hF in
theorem ajV: ∀(n a:Nat),a<=lnF F n a
 |0,a=>ae _
 |n+1,a=>by
  rw[lnF];split
  .have:=ajV n (a+1);omega
  omega
omit hF in
theorem xR (a:Nat):a<=ln F a:=ajV _ _
omit hF in
theorem axl: ∀(n a:Nat),a<=F.length->lnF F n a<=F.length
 |0,a,h=>h
 |n+1,a,h=>by
  rw[lnF];split
  .rename_i d
   exact axl n (a+1) (iI d)
  .exact h
omit hF in
theorem zY {a:Nat} (h:a<=F.length):ln F a<=F.length:=axl _ _ h
theorem WJ (l:List Nd) (u d:Int) (v:Bool): ∀(N a:Nat),F.length+1-a<N->a<=F.length->
  Ob N v F (a:Int) u d l=a6 (.inl ((v,()),((),()),((F,((ln F a:Nat):Int),u,d,()),l,())))
 |0,a,h,_=>by omega
 |N+1,a,h,e=>by
  have:=hF.len;rw[Ob,UF,kF hF a l u d (by omega) [110] rfl,bI,N8];simp only;unfold tk;cases h':gm F a [110]with
  |false=>rfl
  |true=>
   simp only[aa,if_true];exact WJ l u d v N (a+1) (by omega) (iI h')
theorem oq (a:Nat) (l:List Nd) (u d:Int) (e:a<=F.length):rD F (a:Int) l u d=a6 ((F,(((ln F a:Nat):Int),(l,(u,(d,()))))),(gm F a [110],())):=by
 have:=hF.len;rw[rD,kF hF a l u d (by omega) [110] rfl,bI];simp only;have f:tk F a [110]<=F.length:=by
  unfold tk;split
  .rename_i h;exact iI h
  .exact e
 rw[WJ hF l u d _ bT (tk F a [110]) (dJ) f,bI];simp only[dR];have:ln F (tk F a [110])=ln F a:=by
  unfold tk;split
  .rename_i h;rw[N8 a,am h]
  .rfl
 rw[this]
omit hF in
theorem ahv (l:List Nd) (k a u t:Int):iR (bU l [(k,(a,(0,(u,()))))]) (dI (bK l)) ((dN (bU l [(k,(a,(0,(u,()))))]) (0,(0,(0,(0,())))) (dI (bK l))).1,((dN (bU l [(k,(a,(0,(u,()))))]) (0,(0,(0,(0,())))) (dI (bK l))).2.1,(t,((dN (bU l [(k,(a,(0,(u,()))))]) (0,(0,(0,(0,())))) (dI (bK l))).2.2.2.1,()))))=l++[(k,a,t,u,())]:=by
 simp_all [dI,bM,iR,bU,dN]
omit hF in
theorem kP (l:List Nd) (x:Nd) (hl:l.length<1000000000):eu (bU l [x]) 32=true/\gy (bU l [x]) (bK l)=true/\pK (dI (bK l)) (bU l [x])=true:=
 ⟨aEN (by grind [bU]),eF (by rw[bM];omega) (by grind [bM,bU]),qU (by unfold bU;simp[dI,bM])⟩
omit hF in
theorem Ha (a:Nat) (l:List Nd) (u d k:Int) (i:a<100000000) (hl:l.length<1000000000):GV F (a:Int) l u d k=a6 ((F,(((a+1:Nat):Int),(l++[(k,(a:Int),((a+1:Nat):Int),u,())],(u,(d,()))))),()):=by
 obtain⟨e,f,g⟩:=kP l (k,((a:Int),(0,(u,())))) hl;rw[GV];simp only[eU,ay,aa,e,f,g,ahv]
 grind [dB]
omit hF in
theorem oN (a:Nat) (l:List Nd) (u d:Int) (hl:l.length<1000000000):Bl F (a:Int) l u d=a6 ((F,((a:Int),(l++[(18,(a:Int),(a:Int),u,())],(u,(d,()))))),()):=by
 obtain⟨e,f,g⟩:=kP l (18,((a:Int),(0,(u,())))) hl;rw[Bl];simp only[eU,ay,aa,e,f,g,ahv]
def sD (F:List Lf) (a:Nat) (o:bV):Nat:=tk F a o
def wnL (F:List Lf) (a:Nat) (o:bV) (l:List Nd) (u:Int):List Nd:=if gm F a o=true then l else l++[(18,(a:Int),(a:Int),u,())]
theorem Dx (a:Nat) (l:List Nd) (u d:Int) (e:a<100000000) (hl:l.length<1000000000) (o:bV) (f:o.contains 0=false):uF F (a:Int) l u d o=a6 ((F,(((sD F a o:Nat):Int),(wnL F a o l u,(u,(d,()))))),()):=by
 rw[uF,kF hF a l u d e o f,bI];unfold sD wnL tk;cases h:gm F a o with
 |true=>rfl
 |false=>
  simp_all [oN,bI]
def isW (F:List Lf) (a:Nat):Bool:=if h:a<F.length then decide (F[a].1=6)else false
omit hF in
theorem ack {a:Nat} (h:isW F a=true):a<F.length:=by
 grind [isW]
omit hF in
theorem wW (a:Nat) (l:List Nd) (u d:Int):RI F (a:Int) l u d=a6 ((F,((a:Int),(l,(u,(d,()))))),(isW F a,())):=by
 rw[RI];unfold isW;by_cases h:a<F.length
 .simp_all [fG,bM,eF,BD,iO]
 simp_all [gU,bM,dif_neg]
def Gu (F:List Lf) (a:Nat):Nat:=if isW F a=true then a+1 else a
def wdL (F:List Lf) (a:Nat) (l:List Nd) (u:Int):List Nd:=if isW F a=true then l++[(7,(a:Int),((a+1:Nat):Int),u,())]else l++[(18,(a:Int),(a:Int),u,())]
omit hF in
theorem YL (a:Nat) (l:List Nd) (u d:Int) (e:a<100000000) (hl:l.length<1000000000):RH F (a:Int) l u d=a6 ((F,(((Gu F a:Nat):Int),(wdL F a l u,(u,(d,()))))),()):=by
 rw[RH,wW a l u d,bI];unfold Gu wdL;cases h:isW F a with
 |true=>
  simp_all [Ha,bI]
 |false=>
  simp_all [oN,bI]
def Eh (F:List Lf) (a:Nat):Bool:=gm F a [60]||gm F a [35]&&decide (FT F (a+1)=60)
def GI (F:List Lf) (a:Nat) (d:Int):Bool:=decide (d<200)&&gm F a [123,40,105,119,114,99]
def J6 (F:List Lf) (a:Nat) (d:Int):Bool:=gm F a [120]||(Eh F a||GI F a d)
def qZ (F:List Lf) (a:Nat) (d:Int):Bool:=gm F a [33]||J6 F a d
omit hF in
theorem aaH (a:Nat) (c:UInt8) (d:c≠0):bY ((FT F a).toNat:Int) (c.toNat:Int)=gm F a [c]:=by
 unfold gm;rw[iO];by_cases h:a<F.length
 .rw[decide_eq_true h,aQ,Bool.eq_iff_iff,decide_eq_true_eq];simp only[List.contains_cons,List.contains_nil,Bool.or_false,beq_iff_eq]
  grind [UInt8.toNat_inj]
 .rw[decide_eq_false h,Bool.false_and,JC];refine decide_eq_false fun e=>d (UInt8.toNat_inj.1 ?_);omega
theorem Il (a:Nat) (l:List Nd) (u d:Int) (f:a<10000000):agD F (a:Int) l u d=a6 ((F,((a:Int),(l,(u,(d,()))))),(Eh F a,())):=by
 rw[agD,qM hF a l u d (by omega),bI];simp only;rw[show bY ((FT F a).toNat:Int) 60=gm F a [60] from aaH a 60 (by decide),show bY ((FT F a).toNat:Int) 35=gm F a [35] from aaH a 35 (by decide)];unfold Eh;cases gm F a [60]with
 |true=>rfl
 |false=>
  cases gm F a [35]with
  |false=>rfl
  |true=>
   simp only[aa,ac,Bool.false_or,aQ];rw[apq hF a l u d (by omega),bI];simp only[iO];congr 3;rw[decide_eq_decide];constructor
   .intro e;exact UInt8.toNat_inj.1 (by grind)
   simp_all
theorem Bf (a:Nat) (l:List Nd) (u d:Int) (e:a<10000000):ZU F (a:Int) l u d=a6 ((F,((a:Int),(l,(u,(d,()))))),(GI F a d,())):=by
 rw[ZU];unfold GI;by_cases h:d<200
 .rw[bW (fG h),abB hF a l u d (by omega) _ rfl,bI,decide_eq_true h,aQ]
 simp_all [gU,decide_eq_false]
theorem Lj (a:Nat) (l:List Nd) (u d:Int) (e:a<10000000):ags F (a:Int) l u d=a6 ((F,((a:Int),(l,(u,(d,()))))),(J6 F a d,())):=by
 rw[ags,qM hF a l u d (by omega),bI];simp only;rw[show bY ((FT F a).toNat:Int) 120=gm F a [120] from aaH a 120 (by decide)];unfold J6;cases gm F a [120]with
 |true=>rfl
 |false=>
  simp only[ac,Bool.false_or];rw[Il hF a l u d e,bI];simp only;cases Eh F a with
  |true=>rfl
  |false=>
   simp_all [Bf,bI]
theorem yM (a:Nat) (l:List Nd) (u d:Int) (e:a<10000000):Kt F (a:Int) l u d=a6 ((F,((a:Int),(l,(u,(d,()))))),(qZ F a d,())):=by
 rw[Kt,qM hF a l u d (by omega),bI];simp only;rw[show bY ((FT F a).toNat:Int) 33=gm F a [33] from aaH a 33 (by decide)];unfold qZ;cases gm F a [33]with
 |true=>rfl
 |false=>
  simp_all [Lj,bI]
end
section
open Option renaming some → a6, none → a7
open Bool renaming false_eq_true → ag, and_true → ay, true_and → aQ
open List renaming drop_eq_getElem_cons → aF, drop_of_length_le → aI, drop_zero → aY
open Go.RowKit
theorem agT (c:UInt8) (o:bV) (d:o.length<1000000): ∀(N k:Nat),o.length-k<N->k<=o.length->
  Fg N (c.toNat:Int) o (k:Int)=a6 (if(o.drop k).contains c=true then .inr ((true,()),())else .inl ((),()))
 |0,k,h,_=>by omega
 |N+1,k,h,hk=>by
  rw[Fg,Yd];by_cases e:k<o.length
  .rw[bW (fG (by rw[bM];omega)),bW (eF),byte_at e,aF e];by_cases h1:o[k]=c
   .simp_all [eG]
   .rw[dG (dM fun h=>h1 (UInt8.toNat_inj.1 (by omega))),dB,show(k:Int)+1=((k+1:Nat):Int) by omega,agT c o d N (k+1) (by omega) (by omega)]
    grind
  simp_all [gU,bM,aI]
theorem aN9 (c:UInt8) (o:bV) (d:o.length<1000000):Qa (c.toNat:Int) o=a6 (o.contains c,()):=by
 have h:=agT c o d bT 0 (dJ) (by omega);rw[Qa,show Fg bT (c.toNat:Int) o 0=_ from h,bI,aY];cases o.contains c with
 |true=>rfl
 |false=>rfl
abbrev jg (F:List Lf):bV:=F.map QO
variable {F:List Lf} (hF:Zo F)
include hF
omit hF in
theorem Dq {a:Nat} (h:a<F.length):cu (jg F) (a:Int)=((FT F a).toNat:Int):=by
 simp_all [byte_at,X3]
omit hF in
theorem jH (a:Nat) (l:List Nd) (u d:Int) (o:bV) (e:o.length<1000000):pU F (jg F) l (a:Int) u d o=a6 ((F,(jg F,(l,((a:Int),(u,(d,())))))),(gm F a o,())):=by
 rw[pU];unfold gm;by_cases h:a<F.length
 .rw[bW (fG (by simp_all [bM])),bW (eF (by omega) (by simp_all)),Dq h,aN9 _ o e,bI,decide_eq_true h,aQ]
 simp_all [gU,bM,decide_eq_false]
theorem N7 (l:List Nd) (u d:Int): ∀(N a:Nat) (v:Int),F.length+1-a<N->a<=F.length->0<=v->v<=a->
  ∃e:Int,WR N v F (jg F) (a:Int) u d l=a6 (.inl ((e,()),((),()),((F,jg F,((ln F a:Nat):Int),u,d,()),l,())))/\e=v+((ln F a:Nat):Int)-a
 |0,a,v,h,_,_,_=>by omega
 |N+1,a,v,h,f,g,i=>by
  have:=hF.len;rw[WR,aff,jH a l u d [110] (by simp),bI,N8];simp only;cases h':gm F a [110]with
  |false=>simp
  |true=>
   simp only[aa,if_true];rw[dB,dB,show(a:Int)+1=((a+1:Nat):Int) by omega];obtain⟨e,j,m⟩:=N7 l u d N (a+1) (v+1) (by omega) (iI h') (by omega) (by omega)
   grind
omit hF in
theorem aMg (a:Nat):gm F a [110]=decide (a<ln F a):=by
 rw[N8];cases h:gm F a [110]with
 |false=>simp
 |true=>
  have:=xR (F:=F) (a+1)
  grind
theorem ou (a:Nat) (l:List Nd) (u d:Int) (e:a<=F.length):uK F (jg F) l (a:Int) u d=a6 ((F,(jg F,(l,(((ln F a:Nat):Int),(u,(d,())))))),(((ln F a:Nat):Int)-a,())):=by
 have:=hF.len;rw[uK];obtain⟨f,g,i⟩:=N7 hF l u d bT a 0 (dJ) e (by omega) (by omega);simp_all [bI,dR]
def jV (k:Int):Bool:=decide (9<=k)&&decide (k<=14)||decide (k=16)
omit hF in
theorem an1 {k:Int} (d:1<=k) (h2:k<=18):awh k=a6 (jV k,()):=by
 have: ∀n:Fin 19,n.val≠0->awh ((n.val:Nat):Int)=a6 (jV ((n.val:Nat):Int),()):=by decide+kernel
 have:=this ⟨k.toNat,by omega⟩ (by simp only;omega)
 grind
omit hF in
theorem nD (a:Nat) (l:List Nd) (u d:Int) {k:Int} (e:1<=k) (h2:k<=18) (hl:l.length<1000000000) (hd:0<=d) (i:d<1000000000):
  Gw F (jg F) l (a:Int) u d k=a6 ((F,(jg F,(l++[(k,(a:Int),0,u,())],((a:Int),(((l.length:Nat):Int),((if jV k=true then d+1 else d),())))))),(u,())):=by
 have f:eu (bU l [(k,((a:Int),(0,(u,()))))]) 32=true:=aEN (by grind [bU]);have g:eP .i64 (bK (bU l [(k,((a:Int),(0,(u,()))))])) 1=((l.length:Nat):Int):=by
  grind [bU,bM,ig]
 rw[Gw];simp only[eU,ay,aa,f,an1 e h2,bI,g];cases jV k with
 |true=>
  simp only[aa,if_true];rw[dB];rfl
 |false=>rfl
def af8 (l:List Nd) (i:Nat) (t:Int):List Nd:=iR l i ((dN l Ci i).1,(dN l Ci i).2.1,t,(dN l Ci i).2.2.2.1,())
omit hF in
theorem auG (l:List Nd) (i:Nat) (t:Int):(af8 l i t).length=l.length:=yP
omit hF in
theorem xO (a:Nat) (l:List Nd) (u d:Int) (i:Nat) (hi:i<l.length) {k:Int} (hk:(dN l Ci i).1=k) (f:1<=k) (h2:k<=18) (hd:0<=d) (o:d<1000000000):
  rE F (jg F) l (a:Int) ((i:Nat):Int) d u=a6 ((F,(jg F,(af8 l i (a:Int),((a:Int),(u,((if jV k=true then d-1 else d),())))))),()):=by
 have g:dI ((i:Nat):Int)=i:=by simp[dI]
 have j: ∀x,gy (iR l i x) ((i:Nat):Int)=true:=fun x=>eF (by omega) (by rw[yP];omega);have m: ∀x,pK i (iR l i x)=true:=fun x=>qU (by rw[yP];exact hi);have jB: ∀x,dN (iR l i x) (0,(0,(0,(0,())))) i=x:=fun x=>Jt hi
 (rewrite [rE];delta P9;rw[bW (eF),g,bW (qU hi)])
 simp only[j,m,jB,aa];have e:(dN l (0,(0,(0,(0,())))) i).1=k:=hk;rw[e,an1 f h2,bI];simp only;unfold af8;rw[show Ci=(0,(0,(0,(0,())))) from rfl,e];cases jV k with
 |true=>
  simp only[aa,if_true]
  grind [ig]
 |false=>rfl
omit hF in
theorem Xm (l:List Nd) (x:Nd):dN (l++[x]) Ci l.length=x:=by
 simp_all [dN]
omit hF in
theorem ZJ (l:List Nd) (k a u t:Int):af8 (l++[(k,a,0,u,())]) l.length t=l++[(k,a,t,u,())]:=by
 grind [af8,Xm,iR]
omit hF in
theorem Ad (a:Nat) (l:List Nd) (u d:Int) (hl:l.length<1000000000) (hd:0<=d) (e:d<1000000000):
  wV F (jg F) l (a:Int) u d=a6 ((F,(jg F,(l++[(18,(a:Int),(a:Int),u,())],((a:Int),(u,(d,())))))),()):=by
 rw[wV,nD a l u d (by omega) (by omega) hl hd e,bI];simp only;rw[show jV 18=false from rfl,aq (by simp),xO a _ u d l.length (by simp) (by rw[Xm]) (by omega) (by omega) hd e,bI];simp only[ZJ,show jV 18=false from rfl,ag,if_false]
omit hF in
theorem SG (a:Nat) (l:List Nd) (u d:Int) {k:Int} (e:1<=k) (h2:k<=18) (g:jV k=false) (i:a<100000000) (hl:l.length<1000000000) (hd:0<=d) (f:d<1000000000):
  P8 F (jg F) l (a:Int) u d k=a6 ((F,(jg F,(l++[(k,(a:Int),((a+1:Nat):Int),u,())],(((a+1:Nat):Int),(u,(d,())))))),()):=by
 rw[P8,nD a l u d e h2 hl hd f,bI];simp only;rw[g,aq (by simp),dB,show(a:Int)+1=((a+1:Nat):Int) by omega,xO (a+1) _ u d l.length (by simp) (by rw[Xm]) e h2 hd f,bI];simp_all [ZJ]
omit hF in
theorem Dy (a:Nat) (l:List Nd) (u d:Int) (f:a<100000000) (hl:l.length<1000000000) (hd:0<=d) (g:d<1000000000) (o:bV) (e:o.length<1000000):
  oJ F (jg F) l (a:Int) u d o=a6 ((F,(jg F,(wnL F a o l u,(((sD F a o:Nat):Int),(u,(d,())))))),()):=by
 rw[oJ,jH a l u d o e,bI];unfold sD wnL tk;cases h:gm F a o with
 |true=>
  simp only[aa,if_true]
  grind [dB]
 |false=>
  simp_all [Ad,bI]
omit hF in
theorem afF (a:Nat) (l:List Nd) (u d:Int) (e:a<100000000) (hl:l.length<1000000000) (hd:0<=d) (f:d<1000000000):
  zO F (jg F) l (a:Int) u d=a6 ((F,(jg F,(wdL F a l u,(((Gu F a:Nat):Int),(u,(d,())))))),()):=by
 rw[zO];unfold wdL Gu isW;by_cases h:a<F.length
 .rw[bW (fG (by rw[bM];omega)),bW (eF),BD h];simp only[dif_pos h,decide_eq_true_eq];by_cases h6:F[a].1=6
  .rw[bW (eG h6),SG a l u d (by omega) (by omega) rfl e hl hd f,bI,am h6,am h6]
  simp_all [dM,Ad,bI]
 simp_all [gU,bM,Ad,bI,dif_neg]
omit hF in
theorem Ce (a:Nat) (l:List Nd) (u d:Int) (f:a<10000000):ZO F (jg F) l (a:Int) u d=a6 ((F,(jg F,(l,((a:Int),(u,(d,())))))),(Eh F a,())):=by
 rw[ZO,jH a l u d [60] (by simp),bI];unfold Eh;simp only;cases gm F a [60]with
 |true=>rfl
 |false=>
  simp only[ac,Bool.false_or];rw[jH a l u d [35] (by simp),bI];simp only;cases gm F a [35]with
  |false=>rfl
  |true=>
   simp only[aa,aQ];rw[dB,show(a:Int)+1=((a+1:Nat):Int) by omega];by_cases h:a+1<F.length
   .rw[bW (fG (by grind [bM])),bW (eF (by omega) (by grind)),Dq h];simp only[iO];congr 3;rw[decide_eq_decide];constructor
    .intro e;exact UInt8.toNat_inj.1 (by grind)
    simp_all
   .rw[dG (gU (by grind [bM])),JC];rfl
omit hF in
theorem zy (a:Nat) (l:List Nd) (u d:Int):V3 F (jg F) l (a:Int) u d=a6 ((F,(jg F,(l,((a:Int),(u,(d,())))))),(GI F a d,())):=by
 rw[V3,jH a l u d _ (by simp),bI]
 grind [GI,iF]
omit hF in
theorem Zn (a:Nat) (l:List Nd) (u d:Int) (e:a<10000000):awi F (jg F) l (a:Int) u d=a6 ((F,(jg F,(l,((a:Int),(u,(d,())))))),(J6 F a d,())):=by
 rw[awi,jH a l u d [120] (by simp),bI];unfold J6;simp only;cases gm F a [120]with
 |true=>rfl
 |false=>
  simp only[ac,Bool.false_or];rw[Ce a l u d e,bI];simp only;cases Eh F a with
  |true=>rfl
  |false=>
   simp_all [zy,bI]
omit hF in
theorem KX (a:Nat) (l:List Nd) (u d:Int) (e:a<10000000):Tz F (jg F) l (a:Int) u d=a6 ((F,(jg F,(l,((a:Int),(u,(d,())))))),(qZ F a d,())):=by
 rw[Tz,jH a l u d [33] (by simp),bI];unfold qZ;simp only;cases gm F a [33]with
 |true=>rfl
 |false=>
  simp_all [Zn,bI]
end
section
open Option renaming some → a6, none → a7
open List renaming append_assoc → ah, cons_append → aH
open Nat renaming le_refl → ae
open Go.RowKit
abbrev opn (k:Int) (a:Nat) (u:Int):Nd:=(k,((a:Int),(0,(u,()))))
abbrev PR (F:List Lf) (a:Nat) (l:List Nd) (u d:Int):List Lf×Int×List Nd×Int×Int×Unit:=(F,((a:Int),(l,(u,(d,())))))
abbrev RR (F:List Lf) (a:Nat) (l:List Nd) (u d:Int):List Lf×List UInt8×List Nd×Int×Int×Int×Unit:=(F,(jg F,(l,((a:Int),(u,(d,()))))))
theorem kL (l m:List Nd) (k a u t:Int):iR (bU l [(k,(a,(0,(u,()))))]++m) (dI (bK l)) ((dN (bU l [(k,(a,(0,(u,()))))]++m) (0,(0,(0,(0,())))) (dI (bK l))).1,((dN (bU l [(k,(a,(0,(u,()))))]++m) (0,(0,(0,(0,())))) (dI (bK l))).2.1,(t,((dN (bU l [(k,(a,(0,(u,()))))]++m) (0,(0,(0,(0,())))) (dI (bK l))).2.2.2.1,()))))=l++(k,a,t,u,())::m:=by
 have d:dI (bK l)=l.length:=by simp[dI,bM]
 simp_all [dN,bU,iR]
theorem oD (l m:List Nd) (x:Nd):gy (bU l [x]++m) (bK l)=true/\pK (dI (bK l)) (bU l [x]++m)=true:=
 ⟨eF (by rw[bM];omega) (by grind [bM,bU]),qU (by unfold bU;simp[dI,bM])⟩
theorem qy (l m:List Nd) (k a u t:Int):af8 ((l++[(k,a,0,u,())])++m) l.length t=l++(k,a,t,u,())::m:=by
 unfold af8;simp_all [dN,iR]
theorem qI (l m:List Nd) (k a u:Int):(dN ((l++[(k,a,0,u,())])++m) Ci l.length).1=k:=by
 simp_all [dN]
def LfG (F:List Lf) (d:Int) (f:Nat):Prop:=d=6\/d=7-> ∃h:f<F.length,F[f].1=6
def RdG (F:List Lf) (f t:Nat) (m:List Nd):Prop:= ∃p,(p=f\/p=f+1/\gm F f [35]=true)/\gm F p [60]=true/\((t=p+2/\ ∃u,m=[(7,((p+1:Nat):Int),((p+2:Nat):Int),u,())])\/(t=p+1/\ ∃u,m=[(18,((p+1:Nat):Int),((p+1:Nat):Int),u,())]))
inductive Tr (F:List Lf):Nat->Nat->Int->Nat->List Nd->Prop
 |nil {a b:Nat} {u:Int} {k:Nat} (h:a<=b):Tr F a b u k []
 |leaf {a b f t:Nat} {u:Int} {k:Nat} {kd:Int} {m:List Nd} (h1:a<=f) (hk:kd=18/\t=f\/(kd=6\/kd=7\/kd=17)/\t=f+1) (hf:LfG F kd f) (h2:Tr F t b u (k+1) m):Tr F a b u k ((kd,(f:Int),(t:Int),u,())::m)
 |node {a b f t:Nat} {u:Int} {k:Nat} {kd:Int} {m n:List Nd} (h1:a<=f) (hk:2<=kd/\kd<=16/\kd≠6/\kd≠7) (h8:kd=8->RdG F f t m) (h:Tr F f t (k:Int) (k+1) m) (h2:Tr F t b u (k+1+m.length) n):Tr F a b u k ((kd,(f:Int),(t:Int),u,())::(m++n))
section
variable {F:List Lf}
theorem Tr.le {a b:Nat} {u:Int} {k:Nat} {m:List Nd} (h:Tr F a b u k m):a<=b:=by
 induction h with
 |nil h=>exact h
 |leaf h1 hk _ _ d=>omega
 |node h1 _ _ _ _ ih1 e=>omega
theorem Tr.wide {a b:Nat} {u:Int} {k:Nat} {m:List Nd} (h:Tr F a b u k m): ∀{e f:Nat},e<=a->b<=f->Tr F e f u k m:=by
 induction h with
 |nil h=>exact fun g o=>.nil (by omega)
 |leaf g hk hf _ i=>exact fun j d=>.leaf (by omega) hk hf (i (ae _) d)
 |node g hk h8 h _ _ l=>exact fun j d=>.node (by omega) hk h8 h (l (ae _) d)
theorem Tr.app {a b:Nat} {u:Int} {k:Nat} {m:List Nd} (h:Tr F a b u k m): ∀{c e j:Nat} {n:List Nd},Tr F c e u j n->b<=c->j=k+m.length->Tr F a e u k (m++n):=by
 induction h with
 |nil h=>exact fun d q g=>by subst g;exact d.wide (by omega) (ae _)
 |leaf d hk hf _ l=>exact fun g i o=>.leaf d hk hf (l g i (by grind))
 | @node a b f t u k kd m n' d hk h8 h _ _ p=>
  intro c e j n g i o;rw[aH,ah];exact .node d hk h8 h (p g i (by grind))
theorem Tr.ap {a b c e:Nat} {u:Int} {k j:Nat} {m n:List Nd} (h:Tr F a b u k m) (h2:Tr F c e u j n) (d:b<=c:=by omega) (f:j=k+m.length:=by first|omega|grind):Tr F a e u k (m++n):=h.app h2 d f
theorem Tr.apA {a b c e:Nat} {u:Int} {k:Nat} {m n:List Nd} (h:Tr F a b u k m) (h2: ∀j,Tr F c e u j n) (d:b<=c:=by omega):Tr F a e u k (m++n):=h.app (h2 _) d rfl
theorem Tr.one {a b f t:Nat} {u:Int} {k j:Nat} {d:Int} {m:List Nd} (h:Tr F f t (j:Int) (j+1) m) (e:a<=f) (h2:t<=b) (hk:2<=d/\d<=16/\d≠6/\d≠7) (g:j=k) (i:d=8->RdG F f t m:=by intro h;exfalso;omega):Tr F a b u k ((d,(f:Int),(t:Int),u,())::m):=by
 subst g;have:=Tr.node (n:=[]) (u:=u) e hk i h (.nil h2);simp_all
theorem Tr.mis {a b f:Nat} {u:Int} {k:Nat} (d:a<=f) (h2:f<=b):Tr F a b u k [(18,(f:Int),(f:Int),u,())]:=.leaf d (.inl ⟨rfl,rfl⟩) (fun h=>by exfalso;omega) (.nil h2)
theorem Tr.lf {a b f:Nat} {u:Int} {k:Nat} {d:Int} (e:a<=f) (h2:f+1<=b) (hk:d=6\/d=7\/d=17) (hf:LfG F d f):Tr F a b u k [(d,(f:Int),((f+1:Nat):Int),u,())]:=.leaf e (.inr ⟨hk,rfl⟩) hf (.nil h2)
end
structure MQ (F:List Lf) (a:Nat) (l:List Nd) (d:Int) (K:Nat):Prop where
 len:a<=F.length
 nod:l.length<=16*a+K
 d0:0<=d
 d1:d<=200
structure All (F:List Lf) (n:Nat):Prop where
 list: ∀(a:Nat) (l:List Nd) (u d:Int) (r r':Nat),16*(F.length-a)+12<n->n<=r->n<=r'->MQ F a l d 110->qZ F a d=true->
  ∃(a':Nat) (m:List Nd),(eH r).q108 F (a:Int) (bU l [opn 2 a u]) (bK l) d=a6 (PR F a' (bU l [opn 2 a u]++m) (bK l) d,())/\
   (gZ r').q36 F (jg F) l (a:Int) u d=a6 (RR F a' (l++(2,(a:Int),(a':Int),u,())::m) u d,())/\a<a'/\a'<=F.length/\m.length+1<=16*(a'-a)/\Tr F a a' (bK l) (l.length+1) m
 andor: ∀(a:Nat) (l:List Nd) (u d:Int) (r r':Nat),16*(F.length-a)+11<n->n<=r->n<=r'->MQ F a l d 111->qZ F a d=true->
  ∃(a':Nat) (m:List Nd),(eH r).q155 F (a:Int) (bU l [opn 3 a u]) (bK l) d=a6 (PR F a' (bU l [opn 3 a u]++m) (bK l) d,())/\
   (gZ r').q75 F (jg F) l (a:Int) u d=a6 (RR F a' (l++(3,(a:Int),(a':Int),u,())::m) u d,())/\a<a'/\a'<=F.length/\m.length+2<=16*(a'-a)/\Tr F a a' (bK l) (l.length+1) m
 pipe: ∀(a:Nat) (l:List Nd) (u d:Int) (r r':Nat),16*(F.length-a)+10<n->n<=r->n<=r'->MQ F a l d 112->qZ F a d=true->
  ∃(a':Nat) (m:List Nd),(eH r).q205 F (a:Int) l u d=a6 (PR F a' (l++m) u d,())/\
   (gZ r').q119 F (jg F) l (a:Int) u d=a6 (RR F a' (l++m) u d,())/\a<a'/\a'<=F.length/\m.length+2<=16*(a'-a)/\Tr F a a' u l.length m
 nopipe: ∀(a:Nat) (l:List Nd) (u d:Int) (r:Nat),10<n->n<=r->MQ F a l d 130->qZ F a d=false->
  (eH r).q205 F (a:Int) l u d=a6 (PR F a (l++[(18,(a:Int),(a:Int),u,())]) u d,())
 command: ∀(a:Nat) (l:List Nd) (u d:Int) (r r':Nat),16*(F.length-a)+9<n->n<=r->n<=r'->MQ F a l d 113->
  ∃(a':Nat) (m:List Nd),(eH r).q239 F (a:Int) l u d=a6 (PR F a' (l++m) u d,())/\
   (gZ r').q163 F (jg F) l (a:Int) u d=a6 (RR F a' (l++m) u d,())/\a<=a'/\a'<=F.length/\(m.length<=16*(a'-a)+1/\Tr F a a' u l.length m)/\(J6 F a d=true->a<a'/\m.length+3<=16*(a'-a))
 compound: ∀(a:Nat) (l:List Nd) (u d:Int) (r r':Nat),16*(F.length-a)+8<n->n<=r->n<=r'->MQ F a l d 113->GI F a d=true->
  ∃(a':Nat) (m:List Nd),(eH r).q263 F (a:Int) l u d=a6 (PR F a' (l++m) u d,())/\
   (gZ r').q214 F (jg F) l (a:Int) u d=a6 (RR F a' (l++m) u d,())/\a<a'/\a'<=F.length/\m.length+3<=16*(a'-a)/\Tr F a a' u l.length m
 body: ∀(a:Nat) (l:List Nd) (u d:Int) (r r':Nat),16*(F.length-a)+13<n->n<=r->n<=r'->MQ F a l d 110->
  ∃(a':Nat) (m:List Nd),(eH r).q285 F (a:Int) l u d=a6 (PR F a' (l++m) u d,())/\
   (gZ r').q246 F (jg F) l (a:Int) u d=a6 (RR F a' (l++m) u d,())/\a<=a'/\a'<=F.length/\m.length<=16*(a'-a)+1/\Tr F a a' u l.length m
variable {F:List Lf} (hF:Zo F)
include hF
theorem ap5 {n:Nat} (h:All F n) (a:Nat) (l:List Nd) (u d:Int) (r f:Nat) (y:16*(F.length-a)+13<n+1) (z:n+1<=r) (A:n+1<=f) (hp:MQ F a l d 110):
  ∃(e:Nat) (m:List Nd),(eH r).q285 F (a:Int) l u d=a6 (PR F e (l++m) u d,())/\
   (gZ f).q246 F (jg F) l (a:Int) u d=a6 (RR F e (l++m) u d,())/\a<=e/\e<=F.length/\m.length<=16*(e-a)+1/\Tr F a e u l.length m:=by
 obtain⟨i,B,p,s⟩:=hp;have D:=hF.len;obtain⟨q,rfl⟩: ∃q,r=q+1:=⟨r-1,by omega⟩;obtain⟨g,rfl⟩: ∃g,f=g+1:=⟨f-1,by omega⟩;have j:=xR (F:=F) a;have o:=zY (F:=F) i;show ∃(e:Nat) (m:List Nd),av4 (eH q) F (a:Int) l u d=_/\avT (gZ g) F (jg F) l (a:Int) u d=_/\_;rw[av4,avT,oq hF a l u d i,ou hF a l u d i,bI,bI];simp only;rw[yM hF (ln F a) l u d (by omega),KX (ln F a) l u d (by omega),bI,bI];simp only;cases hb:qZ F (ln F a) d with
 |true=>
  obtain⟨E,G,I⟩:=kP l (opn 2 (ln F a) u) (by omega);obtain⟨e,m,J,K,L,v,x⟩:=h.list (ln F a) l u d q g (by omega) (by omega) (by omega) ⟨o,by omega,p,s⟩ hb;obtain⟨M,N⟩:=oD l m (opn 2 (ln F a) u);refine⟨e,(2,((ln F a:Nat):Int),(e:Int),u,())::m, ?_, ?_,by omega,v,by grind,x.2.one j (ae _) (by omega) rfl⟩
  .simp_all [eU,bI,kL]
  simp_all [bI]
 |false=>
  refine⟨ln F a,[(18,((ln F a:Nat):Int),((ln F a:Nat):Int),u,())], ?_, ?_,j,o,by simp,.mis j (ae _)⟩
  .simp only[ac]
   grind [oN,bI]
  .simp only[ac]
   grind [Ad,bI]
end
section
open Bool renaming false_eq_true → ag
open List renaming append_assoc → ah, length_append → ai, length_singleton → aV
open Nat renaming le_refl → ae
open Go.RowKit
variable {F:List Lf} (hF:Zo F)
include hF
omit hF in
theorem oZ {a:Nat} {o:List UInt8} (h:gm F a o=true):tk F a o=a+1:=by unfold tk;rw[am h]
omit hF in
theorem tC {a:Nat} {o:List UInt8} (h:gm F a o=false):tk F a o=a:=by unfold tk;rw[aq (by rw[h];simp)]
theorem KZ {n:Nat} (h:All F n) {q q':Nat} (f:n<=q) (g:n<=q') (u d v:Int) (hd:0<=d/\d<=200): ∀(N a:Nat) (L:List Nd),F.length-a<N->a<=F.length->16*(F.length-a)+10<n->L.length<=16*a+112->
  ∃(e:Nat) (m:List Nd),E5 (eH q) N F (a:Int) u d L=some (.inl ((),((),()),((F,(e:Int),u,d,()),L++m,())))/\
   WQ (gZ q') N v F (jg F) (a:Int) u d L=some (.inl ((v,()),((),()),((F,jg F,(e:Int),u,d,()),L++m,())))/\a<=e/\e<=F.length/\m.length<=16*(e-a)/\Tr F a e u L.length m
 |0,a,L,x,_,_,_=>by omega
 |N+1,a,L,x,y,I,J=>by
  have K:=hF.len;rw[E5,O4,WQ,afe,kF hF a L u d (by omega) [97,111] rfl,jH a L u d [97,111] (by simp),bI,bI];simp only;cases hb:gm F a [97,111]with
  |false=>
   rw[tC hb];exact⟨a,[],by simp,by simp,ae _,y,by simp,.nil (ae _)⟩
  |true=>
   have M:=iI hb;have O:=xR (F:=F) (a+1);have i:=zY (F:=F) (a:=a+1) (by omega);rw[oZ hb];simp only[aa];rw[dB,show(a:Int)+1=((a+1:Nat):Int) by omega,oq hF (a+1) L u d (by omega),ou hF (a+1) L u d (by omega),bI,bI];simp only;rw[KX (ln F (a+1)) L u d (by omega),bI];simp only;cases hp:qZ F (ln F (a+1)) d with
   |true=>
    obtain⟨z,s,A,B,S,D,E⟩:=h.pipe (ln F (a+1)) L u d q q' (by omega) f g ⟨i,by omega,hd.1,hd.2⟩ hp;rw[A,bI];simp only[aa];rw[B,bI];simp only;obtain⟨e,m,j,l,G,o,p⟩:=KZ h f g u d v hd N z (L++s) (by omega) D (by omega) (by rw[ai];omega);exact⟨e,s++m,by rw[j,ah],by rw[l,ah],by omega,o,by rw[ai];omega,(E.2.wide (by omega) (ae _)).app p.2 (ae _) (ai ..)⟩
   |false=>
    rw[h.nopipe (ln F (a+1)) L u d q (by omega) f ⟨i,by omega,hd.1,hd.2⟩ hp,bI];simp only[ac];rw[Ad (ln F (a+1)) L u d (by omega) hd.1 (by omega),bI];simp only;obtain⟨e,m,j,l,G,o,p⟩:=KZ h f g u d v hd N (ln F (a+1)) (L++[(18,((ln F (a+1):Nat):Int),((ln F (a+1):Nat):Int),u,())]) (by omega) i (by omega) (by rw[ai,aV];omega);exact⟨e,[(18,((ln F (a+1):Nat):Int),((ln F (a+1):Nat):Int),u,())]++m,by rw[j,ah],by rw[l,ah],by omega,o,by rw[ai,aV];omega,(Tr.mis (by omega) (ae _)).app p.2 (ae _) (ai ..)⟩
theorem aiJ {n:Nat} (h:All F n) (a:Nat) (l:List Nd) (u d:Int) (r g:Nat) (J:16*(F.length-a)+11<n+1) (K:n+1<=r) (L:n+1<=g) (hp:MQ F a l d 111) (hb:qZ F a d=true):
  ∃(e:Nat) (m:List Nd),(eH r).q155 F (a:Int) (bU l [opn 3 a u]) (bK l) d=some (PR F e (bU l [opn 3 a u]++m) (bK l) d,())/\
   (gZ g).q75 F (jg F) l (a:Int) u d=some (RR F e (l++(3,(a:Int),(e:Int),u,())::m) u d,())/\a<e/\e<=F.length/\m.length+2<=16*(e-a)/\Tr F a e (bK l) (l.length+1) m:=by
 obtain⟨x,M,i,o⟩:=hp;have N:=hF.len;obtain⟨q,rfl⟩: ∃q,r=q+1:=⟨r-1,by omega⟩;obtain⟨f,rfl⟩: ∃f,g=f+1:=⟨g-1,by omega⟩;show ∃(e:Nat) (m:List Nd),agi (eH q) F (a:Int) _ _ d=_/\aG0 (gZ f) F (jg F) l (a:Int) u d=_/\_;have j:(bU l [opn 3 a u]).length=l.length+1:=by unfold bU;simp
 obtain⟨y,p,z,s,O,A,B⟩:=h.pipe a (bU l [opn 3 a u]) (bK l) d q f (by omega) (by omega) (by omega) ⟨x,by rw[j];omega,i,o⟩ hb;obtain⟨e,m,D,v,S,E,G⟩:=KZ hF h (q:=q) (q':=f) (by omega) (by omega) (bK l) d u ⟨i,o⟩ bT y (bU l [opn 3 a u]++p) (dJ) A (by omega) (by rw[ai,j];omega);have I:bU l [opn 3 a u]=l++[(3,(a:Int),0,u,())]:=rfl;refine⟨e,p++m, ?_, ?_,by omega,E,by rw[ai];omega,(j▸B.2).app G.2 (ae _) (by rw[ai,j])⟩
 .rw[agi,z,bI];simp only;rw[D,bI];simp only[dR,ah]
 .rw[aG0,nD a l u d (by omega) (by omega) (by omega) i (by omega),bI];simp only[show jV 3=false from rfl,ag,if_false];rw[I]at s v;rw[show((l.length:Nat):Int)=bK l from rfl,s,bI];simp only;rw[v,bI];simp only[dR];rw[ah (l++_),show bK l=((l.length:Nat):Int) from rfl,xO e _ u d l.length (by simp only[ai,aV];omega) (qI l _ 3 _ _) (by omega) (by omega) i (by omega),bI];simp only[qy,show jV 3=false from rfl,ag,if_false]
end
section
open Option renaming some → a6, none → a7
open Bool renaming false_eq_true → ag, not_true → ax, and_true → ay, not_false → aA
open List renaming append_assoc → ah, length_append → ai
open Nat renaming le_refl → ae
open Go.RowKit
variable {F:List Lf} (hF:Zo F)
include hF
theorem aas {n:Nat} (h:All F n) {q q':Nat} (i:n<=q) (j:n<=q') (u d v f g:Int) (hd:0<=d/\d<=200): ∀(N a:Nat) (L:List Nd),F.length-a<N->a<=F.length->16*(F.length-a)+9<n+16->L.length<=16*a+114->
  ∃(e:Nat) (m:List Nd),qi (eH q) N f g F (a:Int) u d L=a6 (.inl ((),((f,g,()),(),(),()),((),(F,(e:Int),u,d,()),L++m,())))/\
   EZ (gZ q') N v F (jg F) (a:Int) u d L=a6 (.inl ((v,()),((),()),((F,jg F,(e:Int),u,d,()),L++m,())))/\a<=e/\e<=F.length/\m.length<=16*(e-a)/\Tr F a e u L.length m
 |0,a,L,o,_,_,_=>by omega
 |N+1,a,L,o,p,G,I=>by
  have J:=hF.len;rw[qi,xB,EZ,UD,kF hF a L u d (by omega) [124] rfl,jH a L u d [124] (by simp),bI,bI];simp only;cases hb:gm F a [124]with
  |false=>
   rw[tC hb];exact⟨a,[],by simp,by simp,ae _,p,by simp,.nil (ae _)⟩
  |true=>
   have K:=iI hb;have M:=xR (F:=F) (a+1);have s:=zY (F:=F) (a:=a+1) (by omega);rw[oZ hb];simp only[aa];rw[dB,show(a:Int)+1=((a+1:Nat):Int) by omega,oq hF (a+1) L u d (by omega),ou hF (a+1) L u d (by omega),bI,bI];simp only;obtain⟨x,l,y,z,O,A,B,_⟩:=h.command (ln F (a+1)) L u d q q' (by omega) i j ⟨s,by omega,hd.1,hd.2⟩;rw[y,z,bI,bI];simp only;obtain⟨e,m,S,U,V,D,E⟩:=aas h i j u d v f g hd N x (L++l) (by omega) A (by omega) (by grind);exact⟨e,l++m,by simp_all,by simp_all,by omega,D,by grind,(B.2.wide (by omega) (ae _)).app E.2 (ae _) (ai ..)⟩
theorem ahw {n:Nat} (a:Nat) (l:List Nd) (u d:Int) (r:Nat) (e:n+1<=r) (hp:MQ F a l d 130) (hb:qZ F a d=false):
  (eH r).q205 F (a:Int) l u d=a6 (PR F a (l++[(18,(a:Int),(a:Int),u,())]) u d,()):=by
 obtain⟨f,g,i,j⟩:=hp;have m:=hF.len;obtain⟨q,rfl⟩: ∃q,r=q+1:=⟨r-1,by omega⟩;show VT (eH q) F (a:Int) l u d=_;rw[VT,yM hF a l u d (by omega),bI,hb];simp only[aA,aa]
 grind [oN,bI]
theorem ar0 {n:Nat} (h:All F n) (a:Nat) (l:List Nd) (u d:Int) (r p:Nat) (V:16*(F.length-a)+10<n+1) (W:n+1<=r) (X:n+1<=p) (hp:MQ F a l d 112) (hb:qZ F a d=true):
  ∃(e:Nat) (m:List Nd),(eH r).q205 F (a:Int) l u d=a6 (PR F e (l++m) u d,())/\
   (gZ p).q119 F (jg F) l (a:Int) u d=a6 (RR F e (l++m) u d,())/\a<e/\e<=F.length/\m.length+2<=16*(e-a)/\Tr F a e u l.length m:=by
 obtain⟨Y,Z,s,x⟩:=hp;have ab:=hF.len;obtain⟨q,rfl⟩: ∃q,r=q+1:=⟨r-1,by omega⟩;obtain⟨f,rfl⟩: ∃f,p=f+1:=⟨p-1,by omega⟩;have y:(bU l [opn 4 a u]).length=l.length+1:=by unfold bU;simp
 have D:bU l [opn 4 a u]=l++[(4,(a:Int),0,u,())]:=rfl;obtain⟨E,_,_⟩:=kP l (opn 4 a u) (by omega);have z:tk F a [33]<=F.length/\a<=tk F a [33]:=by
  unfold tk;split
  .rename_i G;exact⟨iI G,by omega⟩
  omega
 obtain⟨v,i,I,o,e3,J,K,e6⟩:=h.command (tk F a [33]) (bU l [opn 4 a u]) (bK l) d q f (by omega) (by omega) (by omega) ⟨z.1,by rw[y];omega,s,x⟩;have ad:a<v/\i.length+1+2<=16*(v-a):=by
  cases h33:gm F a [33]with
  |true=>grind [oZ]
  |false=>
   simp_all [tC,qZ]
 obtain⟨e,m,L,A,f3,M,N⟩:=aas hF h (q:=q) (q':=f) (by omega) (by omega) (bK l) d u (bK l) u ⟨s,x⟩ bT v (bU l [opn 4 a u]++i) (dJ) J (by omega) (by grind);obtain⟨O,S⟩:=oD l (i++m) (opn 4 a u);refine⟨e,(4,(a:Int),(e:Int),u,())::(i++m), ?_, ?_,by omega,M,by grind,Tr.one (((y▸K.2).wide z.2 (ae _)).app N.2 (ae _) (by grind)) (ae _) (ae _) (by omega) rfl⟩
 .show VT (eH q) F (a:Int) l u d=_;rw[VT,yM hF a l u d (by omega),bI,hb];simp only[ax,ac,eU,ay,aa,E];rw[kF hF a _ _ d (by omega) [33] rfl,bI];simp only;rw[I,bI];simp only;rw[L,bI];simp only[dR,ah,O,S,aa,kL]
 .show avR (gZ f) F (jg F) l (a:Int) u d=_;rw[avR,nD a l u d (by omega) (by omega) (by omega) s (by omega),bI];simp only[show jV 4=false from rfl,ag,if_false];rw[jH a _ _ d [33] (by simp),bI];simp only;rw[D]at o A;have B:bJ (EZ (gZ f) bT u F (jg F) (v:Int) (bK l) d (l++[(4,(a:Int),0,u,())]++i)) (fun U=>dR U (fun g=>
    bJ (rE g.2.2.1.1 g.2.2.1.2.1 g.2.2.2.1 g.2.2.1.2.2.1 g.2.2.1.2.2.2.1 g.2.2.1.2.2.2.2.1 g.1.1) fun j=>
     a6 ((j.1.1,(j.1.2.1,(j.1.2.2.1,(j.1.2.2.2.1,(j.1.2.2.2.2.1,(j.1.2.2.2.2.2.1,())))))),())) (fun b4=>a7))=a6 (RR F e (l++(4,(a:Int),(e:Int),u,())::(i++m)) u d,()):=by
   rw[A,bI];simp only[dR];rw[ah (l++_),show bK l=((l.length:Nat):Int) from rfl,xO e _ u d l.length (by simp) (qI l _ 4 _ _) (by omega) (by omega) s (by omega),bI];simp only[qy,show jV 4=false from rfl,ag,if_false]
  cases h33:gm F a [33]with
  |true=>
   rw[oZ h33]at o;simp only[aa];rw[dB,show(a:Int)+1=((a+1:Nat):Int) by omega,show((l.length:Nat):Int)=bK l from rfl,o,bI];exact B
  |false=>
   rw[tC h33]at o;simp only[ac];rw[show((l.length:Nat):Int)=bK l from rfl,o,bI];exact B
theorem aad {n:Nat} (h:All F n) {q q':Nat} (D:n<=q) (E:n<=q') (u d v:Int) (hd:0<=d/\d<=200): ∀(N a:Nat) (L:List Nd),F.length-a<N->a<=F.length->16*(F.length-a)+11<n->L.length<=16*a+111->qZ F a d=true->
  ∃(f e:Nat) (m g:List Nd),vP (eH q) N F (a:Int) u d L=a6 (.inl ((),((),()),((F,(f:Int),u,d,()),L++m,())))/\
   (gZ q').q75 F (jg F) L (a:Int) u d=a6 (RR F e (L++g) u d,())/\
   Cm (gZ q') N v F (jg F) (e:Int) u d (L++g)=a6 (.inl ((v,()),((),()),((F,jg F,(f:Int),u,d,()),L++m,())))/\a<f/\f<=F.length/\m.length+1<=16*(f-a)/\Tr F a f u L.length m
 |0,a,L,G,_,_,_,_=>by omega
 |N+1,a,L,G,I,J,hL,M=>by
  have af:=hF.len;obtain⟨e,g,O,s,S,x,U⟩:=h.andor a L u d q q' J D E ⟨I,by omega,hd.1,hd.2⟩ M;obtain⟨V,_,_⟩:=kP L (opn 3 a u) (by omega);obtain⟨W,X⟩:=oD L g (opn 3 a u);have hP: ∀K:Option _,vP (eH q) (N+1) F (a:Int) u d L=K->vP (eH q) (N+1) F (a:Int) u d L=K:=fun _ h=>h;rw[vP,O3];simp only[eU,ay,aa,V];rw[O,bI];simp only[W,X,aa,kL];rw[kF hF e _ u d (by omega) [59,38] rfl,bI];simp only;have Y:(L++(3,(a:Int),(e:Int),u,())::g).length=L.length+1+g.length:=by grind
  have stop: ∀b:Nat,e<=b->b<=F.length->((3,(a:Int),(e:Int),u,())::g).length+1<=16*(b-a)/\Tr F a b u L.length ((3,(a:Int),(e:Int),u,())::g):=fun b y z=>⟨by grind,U.2.one (ae _) y (by omega) rfl⟩;have next: ∀b:Nat,e<=b->b<=F.length->qZ F b d=true->e<b-> ∃(f:Nat) (m:List Nd) (l:Nat) (o:List Nd),
    vP (eH q) N F (b:Int) u d (L++(3,(a:Int),(e:Int),u,())::g)=a6 (.inl ((),((),()),((F,(f:Int),u,d,()),L++m,())))/\
    (gZ q').q75 F (jg F) (L++(3,(a:Int),(e:Int),u,())::g) (b:Int) u d=a6 (RR F l ((L++(3,(a:Int),(e:Int),u,())::g)++o) u d,())/\
    Cm (gZ q') N v F (jg F) (l:Int) u d ((L++(3,(a:Int),(e:Int),u,())::g)++o)=a6 (.inl ((v,()),((),()),((F,jg F,(f:Int),u,d,()),L++m,())))/\a<f/\f<=F.length/\m.length+1<=16*(f-a)/\Tr F a f u L.length m:=fun b y z i A=>by
   obtain⟨f,l,m,o,f1,Z,f3,f4,f5,f6⟩:=aad h D E u d v hd N b (L++(3,(a:Int),(e:Int),u,())::g) (by omega) z (by omega) (by rw[Y];omega) i;exact⟨f,((3,(a:Int),(e:Int),u,())::g)++m,l,o,by simp_all,Z,by simp_all,by omega,f5,by grind,(stop b y z).2.app f6.2 (ae _) (ai ..)⟩
  cases hs:gm F e [59,38]with
  |true=>
   have A:=iI hs;have ab:=xR (F:=F) (e+1);have j:=zY (F:=F) (a:=e+1) (by omega);rw[oZ hs];simp only[aa];rw[oq hF (e+1) _ u d (by omega),bI];simp only;rw[yM hF _ _ u d (by omega),bI];simp only;cases i:qZ F (ln F (e+1)) d with
   |false=>
    refine⟨ln F (e+1),e,_,_,rfl,s, ?_,by omega,j,stop _ (by omega) j⟩;rw[Cm,QR,jH e _ u d [59,38] (by simp),bI,hs];simp only[aa];rw[dB,show(e:Int)+1=((e+1:Nat):Int) by omega,ou hF (e+1) _ u d (by omega),bI]
    grind [KX,bI]
   |true=>
    obtain⟨f,m,l,o,g1,g2,g3,g4,g5,g6⟩:=next _ (by omega) j i (by omega)
    refine⟨f,e,m,_,g1,s, ?_,g4,g5,g6⟩;rw[Cm,QR,jH e _ u d [59,38] (by simp),bI,hs];simp only[aa];rw[dB,show(e:Int)+1=((e+1:Nat):Int) by omega,ou hF (e+1) _ u d (by omega),bI];simp only;rw[KX _ _ u d (by omega),bI,i];simp_all [bI]
  |false=>
   have ab:=xR (F:=F) e;have j:=zY (F:=F) x;have B:Cm (gZ q') (N+1) v F (jg F) (e:Int) u d (L++(3,(a:Int),(e:Int),u,())::g)=
     (bif bY (((ln F e:Nat):Int)-e) 0 then(a6 (.inl ((v,()),((),()),((F,jg F,((ln F e:Nat):Int),u,d,()),L++(3,(a:Int),(e:Int),u,())::g,()))):Option (ad4.den⊕aeD.den))
     else bif !qZ F (ln F e) d then a6 (.inl ((v,()),((),()),((F,jg F,((ln F e:Nat):Int),u,d,()),L++(3,(a:Int),(e:Int),u,())::g,())))
      else bJ ((gZ q').q75 F (jg F) (L++(3,(a:Int),(e:Int),u,())::g) ((ln F e:Nat):Int) u d) fun p=>Cm (gZ q') N v p.1.1 p.1.2.1 p.1.2.2.2.1 p.1.2.2.2.2.1 p.1.2.2.2.2.2.1 p.1.2.2.1):=by
    rw[Cm,QR,jH e _ u d [59,38] (by simp),bI,hs];simp only[ac];rw[ou hF e _ u d x,bI];simp only;cases bY (((ln F e:Nat):Int)-e) 0 with
    |true=>rfl
    |false=>
     simp only[ac]
     grind [KX,bI]
   rw[tC hs];simp only[ac];rw[oq hF e _ u d x,bI];simp only;cases hln:gm F e [110]with
   |false=>
    have ad:ln F e=e:=by rw[N8,hln];rfl
    rw[ad]at B ⊢;refine⟨e,e,_,_,rfl,s, ?_,S,x,stop _ (ae _) x⟩;simp_all [eG]
   |true=>
    have A:e<ln F e:=by simp_all [aMg]
    simp only[ax,ac];rw[dG (dM)]at B;rw[yM hF _ _ u d (by omega),bI];simp only;cases i:qZ F (ln F e) d with
    |false=>
     refine⟨ln F e,e,_,_,rfl,s, ?_,by omega,j,stop _ (by omega) j⟩;rw[B,i];rfl
    |true=>
     obtain⟨f,m,l,o,g1,g2,g3,g4,g5,g6⟩:=next _ (by omega) j i A
     refine⟨f,e,m,_,g1,s, ?_,g4,g5,g6⟩;simp_all [bI]
theorem arA {n:Nat} (h:All F n) (a:Nat) (l:List Nd) (u d:Int) (r g:Nat) (D:16*(F.length-a)+12<n+1) (E:n+1<=r) (G:n+1<=g) (hp:MQ F a l d 110) (hb:qZ F a d=true):
  ∃(e:Nat) (m:List Nd),(eH r).q108 F (a:Int) (bU l [opn 2 a u]) (bK l) d=a6 (PR F e (bU l [opn 2 a u]++m) (bK l) d,())/\
   (gZ g).q36 F (jg F) l (a:Int) u d=a6 (RR F e (l++(2,(a:Int),(e:Int),u,())::m) u d,())/\a<e/\e<=F.length/\m.length+1<=16*(e-a)/\Tr F a e (bK l) (l.length+1) m:=by
 obtain⟨v,I,i,x⟩:=hp;have J:=hF.len;obtain⟨q,rfl⟩: ∃q,r=q+1:=⟨r-1,by omega⟩;obtain⟨f,rfl⟩: ∃f,g=f+1:=⟨g-1,by omega⟩;have j:(bU l [opn 2 a u]).length=l.length+1:=by unfold bU;simp
 have y:bU l [opn 2 a u]=l++[(2,(a:Int),0,u,())]:=rfl;obtain⟨e,K,m,L,z,o,p,A,B,s⟩:=aad hF h (q:=q) (q':=f) (by omega) (by omega) (bK l) d u ⟨i,x⟩ bT a (bU l [opn 2 a u]) (dJ) v (by omega) (by rw[j];omega) hb;refine⟨e,m, ?_, ?_,A,B,s.1,j▸s.2⟩
 .show agh (eH q) F (a:Int) _ _ d=_;rw[agh,z,bI];rfl
 .show aGZ (gZ f) F (jg F) l (a:Int) u d=_;rw[aGZ,nD a l u d (by omega) (by omega) (by omega) i (by omega),bI];simp only[show jV 2=false from rfl,ag,if_false];rw[y]at o p;rw[show((l.length:Nat):Int)=bK l from rfl,o,bI];simp only;rw[p,bI];simp only[dR];rw[show bK l=((l.length:Nat):Int) from rfl,xO e _ u d l.length (by simp) (qI l _ 2 _ _) (by omega) (by omega) i (by omega),bI];simp only[qy,show jV 2=false from rfl,ag,if_false]
end
section
open Bool renaming and_eq_true → af, not_true → ax, not_false → aA
open Nat renaming lt_of_lt_of_le → bu
open Go.RowKit
theorem Xg {s:List UInt8} (d:s.length<1000000):V4 s 0=some (((nl s:Nat):Int),()):=by
 have:=atn (bu d (by omega)) (a:=0) (Nat.zero_le _);simpa using this
theorem G9 {s:List UInt8} (d:s.length<1000000):Wj s=some (decide (nl s≠0/\nl s=s.length),()):=by
 rw[Wj];by_cases h0:s=[]
 .subst h0;rfl
 have f:0<s.length:=List.length_pos_iff.2 h0;rw[Nq h0];simp only[aA,aa];rw[Xg d,bI];congr 2;by_cases h:nl s=s.length
 .rw[eG (by rw[bM];omega),decide_eq_true ⟨by omega,h⟩]
 .rw[dM (by rw[bM];omega),decide_eq_false (fun e=>h e.2)]
def asg (s:bV):Bool:=decide (nl s≠0/\nl s<s.length)&&decide (s.getD (nl s) 0=61)
theorem afK {s:List UInt8} (f:s.length<1000000): ∃x y,V6 s=some (x,(y,(asg s,()))):=by
 have g:nl s<=s.length:=by unfold nl;split;omega;exact Gt NS s
 rw[V6,Xg f,bI];simp only;by_cases h0:nl s=0
 .exact⟨[],[],by rw[bW (eG),asg,decide_eq_false (fun h=>h.1 h0)];rfl⟩
 rw[dG (dM)];by_cases h1:nl s=s.length
 .exact⟨[],[],by rw[bW (eG (by rw[bM];omega)),asg,decide_eq_false (fun h=>by omega)];rfl⟩
 have d:nl s<s.length:=by omega
 rw[dG (dM (by rw[bM];omega)),bW (eF),byte_at d];have e:s.getD (nl s) 0=s[nl s]:=by rw[List.getD_eq_getElem?_getD,List.getElem?_eq_getElem d];rfl
 by_cases h3:s[nl s]=61
 .rw[h3,show bY ((61:UInt8).toNat:Int) 61=true from rfl];simp only[ax,ac];rw[dB,bW (fQ (by omega) (by omega) (by rw[bM];omega)),bW (fQ (by omega) (by rw[bM];omega) (by omega))];exact⟨_,_,by rw[asg,decide_eq_true ⟨h0,d⟩,e,decide_eq_true h3];rfl⟩
 .rw[dM (fun h=>h3 (UInt8.toNat_inj.1 (by have:((61:UInt8).toNat:Int)=61:=rfl;omega)))];exact⟨[],[],by rw[asg,e,decide_eq_false h3,Bool.and_false];rfl⟩
theorem aJm (s:bV) (i:Nat):sub s 0 (i:Int)=s.take i:=by simp[sub]
theorem ax2 {s:List UInt8} {i:Nat} (hi:i<s.length) (m:s[i]=61):(nl (s.take i)≠0/\nl (s.take i)=(s.take i).length)↔(nl s≠0/\nl s=i):=by
 have o:NS (61:UInt8)=false:=by decide
 have q:isL (61:UInt8)=false:=by decide
 have u:(s.take i).length=i:=by simp;omega
 have g: ∀p:UInt8->Bool,p 61=false->(((s.take i).takeWhile p).length=i↔(s.takeWhile p).length=i)/\((((s.take i).takeWhile p).length=0)↔((s.takeWhile p).length=0)):=by
  intro p v;have x:(s.takeWhile p).length<=i:=by
   by_cases c:(s.takeWhile p).length<=i
   .exact c
   .have:=IE p s i hi (by omega);rw[m,v]at this;cases this
  have e:((s.take i).takeWhile p).length=(s.takeWhile p).length:=by
   refine aNN p _ _ (by omega) (fun j y h=> ?_) fun h=> ?_
   .rw[List.getElem_take];exact IE p s j (by omega) h
   .rw[List.getElem_take];exact Dw p s (by omega)
  rw[e];exact⟨Iff.rfl,Iff.rfl⟩
 have f:=g NS o;have l:=g isL q;unfold nl Iq runN;rw[u];by_cases h:(s.takeWhile isL).length=0
 .rw[am h,am (l.2.2 h)]
 .rw[aq h,aq (fun d=>h (l.2.1 d))];constructor
  .rintro ⟨a,b⟩;exact⟨fun d=>a (f.2.2 d),f.1.1 b⟩
  .rintro ⟨a,b⟩;exact⟨fun d=>a (f.2.1 d),f.1.2 b⟩
theorem AZ {s:List UInt8} (g:s.length<1000000): ∀(N k:Nat),s.length-k<N->1<=k->k<=s.length->(asg s=true->k<=nl s)->
  ∃r,Fa N s (k:Int)=some r/\(asg s=true-> ∃n:Nat,r=.inr (((n:Int),()),())/\0<n/\n=nl s)/\(asg s=false->r=.inl ((),()))
 |0,k,h,_,_,_=>by omega
 |N+1,k,h,p,hk,f=>by
  rw[Fa,UT];by_cases h1:k<s.length
  .have o:cO .i64 (k:Int) 1=((k+1:Nat):Int):=by rw[dB];rfl
   rw[bW (fG (by rw[bM];omega)),bW (eF),byte_at h1,o];have i:s.getD k 0=s[k]:=by rw[List.getD_eq_getElem?_getD,List.getElem?_eq_getElem h1];rfl
   by_cases h2:s[k]=61
   .rw[h2,show bY ((61:UInt8).toNat:Int) 61=true from rfl];simp only[aa];rw[bW (fQ (by omega) (by omega) (by rw[bM];omega)),aJm,zT (by simp;omega),bI];simp only;have j:=ax2 h1 h2;by_cases h3:nl s≠0/\nl s=k
    .rw[decide_eq_true (j.2 h3)];refine⟨_,rfl,fun _=>⟨k,rfl,by omega,h3.2.symm⟩,fun l=> ?_⟩;have:asg s=true:=by rw[asg,decide_eq_true ⟨h3.1,by omega⟩,h3.2,i,decide_eq_true h2];rfl
     rw[this]at l;cases l
    .rw[decide_eq_false (fun d=>h3 (j.1 d))];refine AZ g N (k+1) (by omega) (by omega) (by omega) fun d=> ?_;have m:=f d;unfold asg at d;simp only[af,decide_eq_true_eq]at d;omega
   .rw[dM (fun h=>h2 (UInt8.toNat_inj.1 (by have:((61:UInt8).toNat:Int)=61:=rfl;omega)))];refine AZ g N (k+1) (by omega) (by omega) (by omega) fun d=> ?_;have m:=f d;unfold asg at d;simp only[af,decide_eq_true_eq]at d;by_cases e:k=nl s
    .subst e;rw[i]at d;exact absurd d.2 h2
    .omega
  .rw[dG (gU (by rw[bM];omega))];refine⟨_,rfl,fun d=> ?_,fun _=>rfl⟩;have m:=f d;unfold asg at d;simp only[af,decide_eq_true_eq]at d;omega
theorem aKx {s:List UInt8} (d:s.length<1000000):ZW s=some (if asg s=true then(nl s:Int)else 0,()):=by
 rw[ZW];by_cases h0:s=[]
 .subst h0;rfl
 have l:0<s.length:=List.length_pos_iff.2 h0;obtain⟨r,f,g,i⟩:=AZ d bT 1 (dJ) (by omega) (by omega) (fun h=>by
  unfold asg at h;simp only[af,decide_eq_true_eq]at h;omega)
 rw[show Fa bT s 1=_ from f];cases ha:asg s with
 |true=>
  obtain⟨n,e,m,j⟩:=g ha;subst e j;rfl
 |false=>
  have e:=i ha;subst e;rfl
theorem aiN {s:List UInt8} (d:s.length<1000000): ∃n:Int,ZW s=some (n,())/\iF 0 n=asg s/\bY n 0= !asg s:=by
 rw[ZW];by_cases h0:s=[]
 .subst h0;exact⟨0,rfl,rfl,rfl⟩
 have j:0<s.length:=List.length_pos_iff.2 h0;obtain⟨r,f,g,i⟩:=AZ d bT 1 (dJ) (by omega) (by omega) (fun h=>by
  unfold asg at h;simp only[af,decide_eq_true_eq]at h;omega)
 rw[show Fa bT s 1=_ from f];cases ha:asg s with
 |true=>
  obtain⟨n,e,l,_⟩:=g ha;subst e;exact⟨n,rfl,fG,dM⟩
 |false=>
  have e:=i ha;subst e;exact⟨0,rfl,rfl,rfl⟩
theorem Zt {s:List UInt8} (d:s.length<1000000):amQ s=some (asg s,()):=by
 obtain⟨x,y,h⟩:=afK d;rw[amQ,h,bI]
end
section
open Bool renaming false_eq_true → ag, not_true → ax, and_true → ay, not_false → aA, true_and → aQ
open List renaming append_assoc → ah, length_append → ai, getElem_mem → aP
open Nat renaming le_refl → ae
open Go.RowKit
variable {F:List Lf} (hF:Zo F)
include hF
omit hF in
theorem Xn {a:Nat} {c:UInt8} (h:gm F a [c]=true):FT F a=c:=by
 simp_all [gm]
omit hF in
theorem X6 {a:Nat} {c:UInt8} (d:c≠0) (h:FT F a=c):gm F a [c]=true:=by
 grind [JC,gm]
def Rn (F:List Lf) (a:Nat) (u:Int):Nd:=if isW F a=true then(7,(a:Int),((a+1:Nat):Int),u,())else(18,(a:Int),(a:Int),u,())
omit hF in
theorem MN (a:Nat) (l:List Nd) (u:Int):wdL F a l u=l++[Rn F a u]:=by grind [wdL,Rn]
omit hF in
theorem aKv (a:Nat):a<=Gu F a/\(a<=F.length->Gu F a<=F.length):=by
 unfold Gu;split
 .grind [ack]
 omega
omit hF in
theorem YJ {a b c:Nat} {u:Int} {k:Nat} (d:a<=c) (h2:Gu F c<=b):Tr F a b u k [Rn F c u]:=by
 unfold Gu at h2;unfold Rn;split at h2
 .rename_i h;rw[am h];exact .lf d h2 (by omega) (fun _=>by simpa [isW] using h)
 .rename_i h;rw[aq h];exact .mis d h2
theorem SX (a:Nat) (l:List Nd) (u d:Int) (G:a<=F.length) (hl:l.length<100000000) (hd:0<=d) (I:d<1000000) (h:Eh F a=true):
  ∃(g:Nat) (m:List Nd),DZ F (a:Int) l u d=some (PR F g (l++m) u d,(true,()))/\agF F (jg F) l (a:Int) u d=some (RR F g (l++m) u d,())/\a<g/\g<=F.length/\m.length=2/\Tr F a g u l.length m:=by
 have J:=hF.len;obtain⟨q,_,_⟩:=kP l (opn 8 a u) (by omega);have s:(bU l [opn 8 a u]).length=l.length+1:=by unfold bU;simp
 obtain⟨b,v,x,y,i,j⟩: ∃b:Nat,a<b/\b<=F.length/\tk F (tk F a [35]) [60]=b/\(if gm F a [35]=true then a+2 else a+1)=b/\((b=a+1\/b=a+2/\gm F a [35]=true)/\gm F (b-1) [60]=true):=by
  cases h35:gm F a [35]with
  |true=>
   have K:=Xn h35;unfold Eh at h;have z:gm F a [60]=false:=by
    simp_all [gm]
   rw[z,h35,Bool.false_or,aQ,decide_eq_true_eq]at h;have o:=X6 (by decide) h;exact⟨a+2,by omega,iI o,by grind [oZ],by simp,.inr ⟨rfl,rfl⟩,o⟩
  |false=>
   unfold Eh at h;rw[h35,Bool.false_and,Bool.or_false]at h;exact⟨a+1,by omega,iI h,by rw[tC h35,oZ h],by simp,.inl rfl,h⟩
 have L:tk F a [35]<=F.length:=by
  grind [tk]
 obtain⟨M,A⟩:=aKv (F:=F) b;obtain⟨B,D⟩:=oD l [Rn F b (bK l)] (opn 8 a u);have N:bU l [opn 8 a u]=l++[(8,(a:Int),0,u,())]:=rfl;refine⟨Gu F b,[(8,(a:Int),((Gu F b:Nat):Int),u,()),Rn F b (bK l)], ?_, ?_,by omega,A x,rfl,Tr.one (YJ (Nat.le_of_lt v) (ae _)) (ae _) (ae _) (by omega) rfl (fun _=>by
  obtain⟨p,rfl⟩: ∃p,b=p+1:=⟨b-1,by omega⟩;refine⟨p,(by
   rcases j.1 with h|⟨h,E⟩
   .exact .inl (by omega)
   .exact .inr ⟨by omega,E⟩),j.2, ?_⟩
  unfold Rn Gu;split
  .exact .inl ⟨rfl,_,rfl⟩
  .exact .inr ⟨rfl,_,rfl⟩)⟩
 .rw[DZ,Il hF a l u d (by omega),bI,h];simp only[ax,ac,eU,ay,aa,q];rw[kF hF a _ _ d (by omega) [35] rfl,bI];simp only;rw[kF hF _ _ _ d (by omega) [60] rfl,bI,y];simp only;rw[YL b _ _ d (by omega) (by rw[s];omega),bI];simp only[MN,B,D,aa,kL]
 .rw[agF,nD a l u d (by omega) (by omega) (by omega) hd (by omega),bI];simp only[show jV 8=false from rfl,ag,if_false];rw[jH a _ _ d [35] (by simp),bI];simp only;have O:bJ (zO F (jg F) (l++[(8,(a:Int),0,u,())]) (b:Int) ((l.length:Nat):Int) d) (fun e=>bJ (rE e.1.1 e.1.2.1 e.1.2.2.1 e.1.2.2.2.1 e.1.2.2.2.2.1 e.1.2.2.2.2.2.1 u) fun f=>
    some ((f.1.1,(f.1.2.1,(f.1.2.2.1,(f.1.2.2.2.1,(f.1.2.2.2.2.1,(f.1.2.2.2.2.2.1,())))))),()))=some (RR F (Gu F b) (l++[(8,(a:Int),((Gu F b:Nat):Int),u,()),Rn F b (bK l)]) u d,()):=by
   rw[afF b _ _ d (by omega) (by grind) hd (by omega),bI];simp only[MN];rw[xO (Gu F b) _ u d l.length (by simp) (qI l _ 8 _ _) (by omega) (by omega) hd (by omega),bI];simp only[qy,show jV 8=false from rfl,ag,if_false];rfl
  cases h35:gm F a [35]with
  |true=>
   rw[h35,am rfl]at i;simp only[aa]
   grind [dB]
  |false=>
   rw[h35,aq (by simp)]at i;simp only[ac]
   grind [dB]
theorem mG (a:Nat) (l:List Nd) (u d:Int) (e:a<=F.length) (h:Eh F a=false):DZ F (a:Int) l u d=some (PR F a l u d,(false,())):=by
 have f:=hF.len;rw[DZ,Il hF a l u d (by omega),bI,h];rfl
theorem Ir {q':jl} (u d v:Int) (hd:0<=d/\d<=201): ∀(N a:Nat) (L:List Nd) (i:Bool) (w:Int),F.length-a<N->a<=F.length->L.length<=16*a+1000->0<=w->w<=a->(i=true↔w≠0)->
  ∃(f:Nat) (m:List Nd),vT N i F (a:Int) u d L=some (.inl ((),((),()),((F,(f:Int),u,d,()),L++m,())))/\
   D9 q' N v w F (jg F) (a:Int) u d L=some (.inl ((v,()),((),()),((F,jg F,(f:Int),u,d,()),L++m,())))/\a<=f/\f<=F.length/\(m.length<=2*(f-a)/\Tr F a f u L.length m)/\((Eh F a||isW F a)=true->a<f)
 |0,a,L,i,w,J,_,_,_,_,_=>by omega
 |N+1,a,L,i,w,J,l,hL,z,af,A=>by
  have aj:=hF.len;rw[vT,JJ,D9,O5,Ce a L u d (by omega),bI];simp only;cases hr:Eh F a with
  |true=>
   obtain⟨K,B,M,O,e3,S,U⟩:=SX hF a L u d l (by omega) hd.1 (by omega) hr;rw[M,bI];simp only[aa];rw[O,bI];simp only;obtain⟨f,m,V,o,W,p,q,_⟩:=Ir u d v hd N K (L++B) i w (by omega) S (by grind) z (by omega) A;exact⟨f,B++m,by simp_all,by rw[o,ah],by omega,p,⟨by grind,U.2.app q.2 (ae _) (ai ..)⟩,fun _=>by omega⟩
  |false=>
   rw[mG hF a L u d l hr,bI];simp only[ac];rw[wW a L u d,bI];simp only;cases hi:isW F a with
   |false=>
    refine⟨a,[],by simp, ?_,ae _,l,⟨by simp,.nil (ae _)⟩,fun h=>by simp at h⟩;by_cases h:a<F.length
    .have x:F[a].1≠6:=by
      simp_all [isW]
     simp_all [eF,BD,dM]
    simp_all [gU,bM]
   |true=>
    have h:=ack hi;have x:F[a].1=6:=by
     simp_all [isW]
    have X:gy F (a:Int)=true:=eF;have hg:=hF.txt _ (aP h);obtain⟨y,Y,Z,y3⟩:=aiN (s:=F[a].2.1) (by omega);simp only[ax,ac];rw[bW (fG (by rw[bM];omega)),X];simp only[aa,BD h,eG x];rw[Zt (by omega),bI,Y,bI];simp only[Z];have go: ∀(k:Int) (j:Bool) (g:Int),k=6\/k=7->0<=g->g<=((a+1:Nat):Int)->(j=true↔g≠0)-> ∃(f:Nat) (m:List Nd),
      vT N j F ((a+1:Nat):Int) u d (L++[(k,(a:Int),((a+1:Nat):Int),u,())])=some (.inl ((),((),()),((F,(f:Int),u,d,()),L++m,())))/\
      D9 q' N v g F (jg F) ((a+1:Nat):Int) u d (L++[(k,(a:Int),((a+1:Nat):Int),u,())])=some (.inl ((v,()),((),()),((F,jg F,(f:Int),u,d,()),L++m,())))/\a<=f/\f<=F.length/\(m.length<=2*(f-a)/\Tr F a f u L.length m)/\((false||true)=true->a<f):=fun k j g hk h1 h2 h3=>by
     obtain⟨f,m,V,o,W,p,q,_⟩:=Ir u d v hd N (a+1) (L++[(k,(a:Int),((a+1:Nat):Int),u,())]) j g (by omega) (by omega) (by grind) h1 h2 h3;exact⟨f,[(k,(a:Int),((a+1:Nat):Int),u,())]++m,by simp_all,by rw[o,ah],by omega,p,⟨by grind,(Tr.lf (ae _) (ae _) (by omega) (fun _=>⟨h,x⟩)).app q.2 (ae _) (ai ..)⟩,fun _=>by omega⟩
    have D:cO .i64 w 1=w+1:=dB;have E: ∀g,g=w+1->(true=true↔g≠0):=fun g e=>⟨fun _=>by omega,fun _=>rfl⟩;have l6:=Ha (F:=F) a L u d 6 (by omega) (by omega);have G:=Ha (F:=F) a L u d 7 (by omega) (by omega);have o6:=SG (F:=F) a L u d (k:=6) (by omega) (by omega) rfl (by omega) (by omega) hd.1 (by omega);have I:=SG (F:=F) a L u d (k:=7) (by omega) (by omega) rfl (by omega) (by omega) hd.1 (by omega);by_cases hw:w=0
    .have ab:i=false:=by
      simp_all
     subst ab;rw[eG hw];simp only[aA,aa];cases asg F[a].2.1 with
     |true=>
      simp only[aa];rw[l6,o6,bI,bI];exact go 6 false w (.inl rfl) z (by omega) ⟨fun h=>(by cases h),fun h=>absurd hw h⟩
     |false=>
      simp only[ac];rw[G,I,bI,bI];simp only[D];exact go 7 true (w+1) (.inr rfl) (by omega) (by omega) (E _ rfl)
    .have ad:i=true:=A.2 hw;subst ad;rw[dM hw];simp only[ax,ac];rw[G,I,bI,bI];simp only[D];exact go 7 true (w+1) (.inr rfl) (by omega) (by omega) (E _ rfl)
end
section
open Bool renaming and_eq_true → af, true_and → aQ
open List renaming append_assoc → ah, getElem_mem → aP
open Nat renaming le_refl → ae
open Go.RowKit
variable {F:List Lf} (hF:Zo F)
include hF
def fnB (F:List Lf) (a:Nat) (d:Int):Bool:=gm F a [120]&&(decide (FT F (a+1)=40)&&(decide (d<200)&&(if h:a<F.length then decide (nl F[a].2.1≠0/\nl F[a].2.1=F[a].2.1.length)else false)))
omit hF in
theorem alr (a:Nat) (c:UInt8):bY ((FT F a).toNat:Int) (c.toNat:Int)=decide (FT F a=c):=by
 rw[iO,decide_eq_decide]
 grind [UInt8.toNat_inj]
theorem Wn (a:Nat) (l:List Nd) (u d:Int) (e:a<=F.length):amO F (a:Int) l u d=some (PR F a l u d,(fnB F a d,())):=by
 have f:=hF.len;rw[amO,qM hF a l u d (by omega),bI];simp only;rw[show bY ((FT F a).toNat:Int) 120=gm F a [120] from aaH a 120 (by decide)];unfold fnB;cases hx:gm F a [120]with
 |false=>rfl
 |true=>
  have h:=iI hx;simp only[aa,aQ];rw[apq hF a l u d (by omega),bI];simp only;rw[show bY ((FT F (a+1)).toNat:Int) 40=decide (FT F (a+1)=40) from alr (a+1) 40];cases decide (FT F (a+1)=40)with
  |false=>rfl
  |true=>
   simp only[aa,aQ];by_cases hd:d<200
   .rw[bW (fG hd),bW (eF),BD h,G9 (by have:=hF.txt _ (aP h);omega),bI,dif_pos h,decide_eq_true hd,aQ]
   simp_all [gU,decide_eq_false]
omit hF in
theorem KU (a:Nat) (o:bV):a<=sD F a o/\(a<=F.length->sD F a o<=F.length):=by
 unfold sD tk;split
 .grind [iI]
 omega
def xH (F:List Lf) (a:Nat) (o:bV) (u:Int):List Nd:=if gm F a o=true then []else [(18,(a:Int),(a:Int),u,())]
omit hF in
theorem nR (a:Nat) (o:bV) (l:List Nd) (u:Int):wnL F a o l u=l++xH F a o u:=by
 grind [wnL,xH]
omit hF in
theorem AB {a b c:Nat} {o:List UInt8} {u:Int} {k:Nat} (d:a<=c) (h2:c<=b):Tr F a b u k (xH F c o u):=by
 unfold xH;split
 .exact .nil (by omega)
 .exact .mis d h2
omit hF in
theorem wH (a:Nat) (o:bV) (u:Int):(xH F a o u).length<=1:=by grind [xH]
theorem aqe {n:Nat} (h:All F n) (z:All F (n-1)) (a:Nat) (l:List Nd) (u d:Int) (q q':Nat) (Y:16*(F.length-a)+9<n+1) (Z:n<=q) (ab:n<=q') (hp:MQ F a l d 113) (hb:fnB F a d=true):
  ∃(e:Nat) (m:List Nd),(eH q).q266 F (a:Int) (bU l [opn 16 a u]) (bK l) (d+1)=some (PR F e (bU l [opn 16 a u]++m) (bK l) (d+1),())/\
   (bJ (Gw F (jg F) l (a:Int) u d 16) fun j=>
    bJ (P8 j.1.1 j.1.2.1 j.1.2.2.1 j.1.2.2.2.1 j.1.2.2.2.2.1 j.1.2.2.2.2.2.1 7) fun o=>
     bJ (oJ o.1.1 o.1.2.1 o.1.2.2.1 (cO .i64 o.1.2.2.2.1 1) o.1.2.2.2.2.1 o.1.2.2.2.2.2.1 [41]) fun p=>
      bJ (uK p.1.1 p.1.2.1 p.1.2.2.1 p.1.2.2.2.1 p.1.2.2.2.2.1 p.1.2.2.2.2.2.1) fun s=>
       bJ (V3 s.1.1 s.1.2.1 s.1.2.2.1 s.1.2.2.2.1 s.1.2.2.2.2.1 s.1.2.2.2.2.2.1) fun g=>
        bif g.2.1 then
         bJ ((gZ q').q214 g.1.1 g.1.2.1 g.1.2.2.1 g.1.2.2.2.1 g.1.2.2.2.2.1 g.1.2.2.2.2.2.1) fun i=>
          bJ (rE i.1.1 i.1.2.1 i.1.2.2.1 i.1.2.2.2.1 i.1.2.2.2.2.1 i.1.2.2.2.2.2.1 j.2.1) fun f=>
           some ((f.1.1,(f.1.2.1,(f.1.2.2.1,(f.1.2.2.2.1,(f.1.2.2.2.2.1,(f.1.2.2.2.2.2.1,())))))),())
        else
        bJ (wV g.1.1 g.1.2.1 g.1.2.2.1 g.1.2.2.2.1 g.1.2.2.2.2.1 g.1.2.2.2.2.2.1) fun i=>
         bJ (rE i.1.1 i.1.2.1 i.1.2.2.1 i.1.2.2.2.1 i.1.2.2.2.2.1 i.1.2.2.2.2.2.1 j.2.1) fun f=>
          some ((f.1.1,(f.1.2.1,(f.1.2.2.1,(f.1.2.2.2.1,(f.1.2.2.2.2.1,(f.1.2.2.2.2.2.1,())))))),()))=some (RR F e (l++(16,(a:Int),(e:Int),u,())::m) u d,())/\a<e/\e<=F.length/\m.length+4<=16*(e-a)/\Tr F a e (bK l) (l.length+1) m:=by
 obtain⟨p1,p2,M,p4⟩:=hp;have ad:=hF.len;unfold fnB at hb;simp only[af,decide_eq_true_eq]at hb;obtain⟨B,N,b3,_⟩:=hb;have x:=iI B;have D:isW F a=true:=by
  unfold isW;rw[dif_pos x];have z:=Xn B;rw[X3 x]at z;exact decide_eq_true (aFi (hF.txt _ (aP x)) z)
 have E:=X6 (F:=F) (a:=a+1) (c:=40) (by decide) N;have ag:=iI E;obtain⟨y,rfl⟩: ∃y,q=y+1:=⟨q-1,by omega⟩;have O:bU l [opn 16 a u]=l++[(16,(a:Int),0,u,())]:=rfl;have S:(bU l [opn 16 a u]).length=l.length+1:=by unfold bU;simp
 have G:=KU (F:=F) (a+2) [41];have A:=G.2 (by omega);have ai:=wH (F:=F) (a+2) [41] (bK l);have U:=xR (F:=F) (sD F (a+2) [41]);have I:=zY (F:=F) A;have J: ∀(e:Nat) (m:List Nd),bJ (rE F (jg F) ((l++[(16,(a:Int),0,u,())])++m) (e:Int) ((l.length:Nat):Int) (d+1) u) (fun f=>some ((f.1.1,(f.1.2.1,(f.1.2.2.1,(f.1.2.2.2.1,(f.1.2.2.2.2.1,(f.1.2.2.2.2.2.1,())))))),()))=some (RR F e (l++(16,(a:Int),(e:Int),u,())::m) u d,()):=fun e m=>by
  rw[xO e _ u (d+1) l.length (by simp) (qI l _ 16 _ _) (by omega) (by omega) (by omega) (by omega),bI];simp only[qy,show jV 16=true from rfl,if_true,show d+1-1=d by omega]
 have V: ∃(e:Nat) (m:List Nd),(bif GI F (ln F (sD F (a+2) [41])) (d+1)then
    (eH y).q263 F ((ln F (sD F (a+2) [41]):Nat):Int) ((bU l [opn 16 a u]++[(7,(a:Int),((a+1:Nat):Int),bK l,())])++xH F (a+2) [41] (bK l)) (bK l) (d+1)
   else Bl F ((ln F (sD F (a+2) [41]):Nat):Int) ((bU l [opn 16 a u]++[(7,(a:Int),((a+1:Nat):Int),bK l,())])++xH F (a+2) [41] (bK l)) (bK l) (d+1))=some (PR F e (((bU l [opn 16 a u]++[(7,(a:Int),((a+1:Nat):Int),bK l,())])++xH F (a+2) [41] (bK l))++m) (bK l) (d+1),())/\
   (bif GI F (ln F (sD F (a+2) [41])) (d+1)then
    (gZ q').q214 F (jg F) ((bU l [opn 16 a u]++[(7,(a:Int),((a+1:Nat):Int),bK l,())])++xH F (a+2) [41] (bK l)) ((ln F (sD F (a+2) [41]):Nat):Int) (bK l) (d+1)
   else wV F (jg F) ((bU l [opn 16 a u]++[(7,(a:Int),((a+1:Nat):Int),bK l,())])++xH F (a+2) [41] (bK l)) ((ln F (sD F (a+2) [41]):Nat):Int) (bK l) (d+1))=some (RR F e (((bU l [opn 16 a u]++[(7,(a:Int),((a+1:Nat):Int),bK l,())])++xH F (a+2) [41] (bK l))++m) (bK l) (d+1),())/\ln F (sD F (a+2) [41])<=e/\e<=F.length/\m.length<=16*(e-ln F (sD F (a+2) [41]))+1/\Tr F (ln F (sD F (a+2) [41])) e (bK l) ((bU l [opn 16 a u]++[(7,(a:Int),((a+1:Nat):Int),bK l,())])++xH F (a+2) [41] (bK l)).length m:=by
  have aj:((bU l [opn 16 a u]++[(7,(a:Int),((a+1:Nat):Int),bK l,())])++xH F (a+2) [41] (bK l)).length<=l.length+3:=by
   simp_all
  cases hc:GI F (ln F (sD F (a+2) [41])) (d+1)with
  |true=>
   obtain⟨e,m,W,v,X,K,L⟩:=z.compound (ln F (sD F (a+2) [41])) ((bU l [opn 16 a u]++[(7,(a:Int),((a+1:Nat):Int),bK l,())])++xH F (a+2) [41] (bK l)) (bK l) (d+1) y q' (by omega) (by omega) (by omega) ⟨I,by omega,by omega,by omega⟩ hc
   grind
  |false=>
   refine⟨ln F (sD F (a+2) [41]),[(18,((ln F (sD F (a+2) [41]):Nat):Int),((ln F (sD F (a+2) [41]):Nat):Int),bK l,())], ?_, ?_,ae _,I,by simp,.mis (ae _) (ae _)⟩
   .rw[ac,oN _ ((bU l [opn 16 a u]++[(7,(a:Int),((a+1:Nat):Int),bK l,())])++xH F (a+2) [41] (bK l)) _ _ (by omega)]
   .rw[ac,Ad _ ((bU l [opn 16 a u]++[(7,(a:Int),((a+1:Nat):Int),bK l,())])++xH F (a+2) [41] (bK l)) _ _ (by omega) (by omega) (by omega)]
 obtain⟨e,m,W,v,X,K,L⟩:=V;refine⟨e,[(7,(a:Int),((a+1:Nat):Int),bK l,())]++xH F (a+2) [41] (bK l)++m, ?_, ?_,by omega,K,by grind,((Tr.lf (ae a) (ae _) (by omega) (fun _=>⟨x,by simpa [isW,x] using D⟩)).app (AB (a:=a+1) (by omega) G.1) (ae _) rfl).app L.2 U (by grind)⟩
 .show avX (eH y) F (a:Int) _ _ _=_;rw[avX,YL a _ _ _ (by omega) (by rw[S];omega),bI];simp only[wdL,Gu,D,if_true];rw[kF hF (a+1) _ _ _ (by omega) [40] rfl,oZ E,bI];simp only;rw[show a+1+1=a+2 from rfl,Dx hF (a+2) _ _ _ (by omega) (by grind) [41] rfl,bI];simp only[nR];rw[oq hF _ _ _ _ A,bI];simp only;rw[Bf hF _ _ _ _ (by omega),bI];simp only;cases hc:GI F (ln F (sD F (a+2) [41])) (d+1)with
  |true=>
   simp_all [bI]
  |false=>
   simp_all [bI]
 .rw[nD a l u d (by omega) (by omega) (by omega) M (by omega),bI];simp only[show jV 16=true from rfl,if_true];rw[SG a _ _ _ (k:=7) (by omega) (by omega) rfl (by omega) (by grind) (by omega) (by omega),bI];simp only;rw[dB,show((a+1:Nat):Int)+1=((a+2:Nat):Int) by omega,Dy (a+2) _ _ _ (by omega) (by grind) (by omega) (by omega) [41] (by simp),bI];simp only[nR];rw[ou hF _ _ _ _ A,bI];simp only;rw[zy,bI];simp only;rw[O]at v;rw[show((l.length:Nat):Int)=bK l from rfl];cases hc:GI F (ln F (sD F (a+2) [41])) (d+1)with
  |true=>
   rw[hc,aa]at v;rw[aa,v,bI];simp only;rw[ah,ah,show bK l=((l.length:Nat):Int) from rfl,J];rfl
  |false=>
   rw[hc,ac]at v;rw[ac,v,bI];simp only;rw[ah,ah,show bK l=((l.length:Nat):Int) from rfl,J];rfl
end
section
open Bool renaming and_eq_true → af, false_eq_true → ag, not_true → ax, and_true → ay, not_false → aA
open List renaming getElem_mem → aP
open Nat renaming le_refl → ae
open Go.RowKit
variable {F:List Lf} (hF:Zo F)
include hF
theorem asa {q':jl} (a:Nat) (l:List Nd) (u d:Int) (hp:MQ F a l d 113) (p:GI F a d=false) (hb:J6 F a d=true):
  ∃(e:Nat) (m:List Nd),Wh F (a:Int) (bU l [opn 5 a u]) (bK l) d=some (PR F e (bU l [opn 5 a u]++m) (bK l) d,())/\
   oC q' F (jg F) (a:Int) u d l=some (.inl ((),((),()),((F,jg F,(e:Int),u,d,()),l++(5,(a:Int),(e:Int),u,())::m,())))/\a<e/\e<=F.length/\m.length+4<=16*(e-a)/\Tr F a e (bK l) (l.length+1) m:=by
 obtain⟨q,B,g,D⟩:=hp;have E:=hF.len;have i:(bU l [opn 5 a u]).length=l.length+1:=by unfold bU;simp
 have s:bU l [opn 5 a u]=l++[(5,(a:Int),0,u,())]:=rfl;have v:(Eh F a||isW F a)=true:=by
  unfold J6 at hb;rw[p,Bool.or_false]at hb;cases hr:Eh F a with
  |true=>rfl
  |false=>
   rw[hr,Bool.or_false]at hb;have f:=iI hb;have j:=Xn hb;rw[X3 f]at j;rw[Bool.false_or];unfold isW;rw[dif_pos f];exact decide_eq_true (aFi (hF.txt _ (aP f)) j)
 obtain⟨e,m,x,o,G,y,z,A⟩:=Ir hF (q':=q') (bK l) d u ⟨g,by omega⟩ bT a (bU l [opn 5 a u]) false 0 (dJ) q (by rw[i];omega) (by omega) (by omega) ⟨fun h=>(by cases h),fun h=>absurd rfl h⟩;have f:=A v;refine⟨e,m, ?_, ?_,f,y,by omega,i▸z.2⟩
 .rw[Wh,x,bI];rfl
 .rw[oC,yQ,nD a l u d (by omega) (by omega) (by omega) g (by omega),bI];simp only[show jV 5=false from rfl,ag,if_false];rw[s]at o;rw[show((l.length:Nat):Int)=bK l from rfl,o,bI];simp only[dR];rw[show bK l=((l.length:Nat):Int) from rfl,xO e _ u d l.length (by simp) (qI l _ 5 _ _) (by omega) (by omega) g (by omega),bI];simp only[qy,show jV 5=false from rfl,ag,if_false]
theorem abC {n:Nat} (h:All F n) (G:All F (n-1)) (a:Nat) (l:List Nd) (u d:Int) (r s:Nat) (I:16*(F.length-a)+9<n+1) (N:n+1<=r) (O:n+1<=s) (hp:MQ F a l d 113):
  ∃(e:Nat) (m:List Nd),(eH r).q239 F (a:Int) l u d=some (PR F e (l++m) u d,())/\
   (gZ s).q163 F (jg F) l (a:Int) u d=some (RR F e (l++m) u d,())/\a<=e/\e<=F.length/\(m.length<=16*(e-a)+1/\Tr F a e u l.length m)/\(J6 F a d=true->a<e/\m.length+3<=16*(e-a)):=by
 have x:=hp;obtain⟨A,S,J,U⟩:=hp;have V:=hF.len;obtain⟨q,rfl⟩: ∃q,r=q+1:=⟨r-1,by omega⟩;obtain⟨f,rfl⟩: ∃f,s=f+1:=⟨s-1,by omega⟩;show ∃(e:Nat) (m:List Nd),agj (eH q) F (a:Int) l u d=_/\avS (gZ f) F (jg F) l (a:Int) u d=_/\_
 (rewrite [agj,avS];delta IV;rw[Bf hF a l u d (by omega),Zn a l u d (by omega),bI,bI])
 simp only;cases hc:GI F a d with
 |true=>
  have v:J6 F a d=true:=by grind [J6]
  obtain⟨e,m,y,z,o,p,g⟩:=h.compound a l u d q f (by omega) (by omega) (by omega) x hc;refine⟨e,m, ?_, ?_,by omega,p,⟨by omega,g.2⟩,fun _=>⟨o,g.1⟩⟩
  .simp_all [bI]
  simp_all [zy,bI]
 |false=>
  simp only[ac];rw[Wn hF a l u d A,bI];simp only;cases hf:fnB F a d with
  |true=>
   have v:J6 F a d=true:=by
    simp_all [fnB,J6]
   obtain⟨e,m,y,z,o,p,g⟩:=aqe hF h G a l u d q f I (by omega) (by omega) x hf;obtain⟨B,_,_⟩:=kP l (opn 16 a u) (by omega);obtain⟨D,E⟩:=oD l m (opn 16 a u);refine⟨e,(16,(a:Int),(e:Int),u,())::m, ?_, ?_,by omega,p,⟨by grind,g.2.one (ae _) (ae _) (by omega) rfl⟩,fun _=>⟨o,by simp_all⟩⟩
   .simp only[eU,ay,aa,B];rw[dB,y,bI];simp only[D,E,aa,kL]
    grind [ig]
   .unfold fnB at hf;simp only[af,decide_eq_true_eq]at hf;obtain⟨g1,g2,g3,g4⟩:=hf;have i:=iI g1;have K:=iI (X6 (F:=F) (a:=a+1) (c:=40) (by decide) g2);rw[dif_pos i]at g4;rw[v];simp only[ax,ac];rw[zy a l u d,bI,hc];simp only[ac];rw[jH a l u d [120] (by simp),bI,g1];simp only[aa];rw[dB,show(a:Int)+1=((a+1:Nat):Int) by omega,bW (fG (by grind [bM])),bW (eF (by omega) (by grind)),Dq K,
     show bY ((FT F (a+1)).toNat:Int) 40=decide (FT F (a+1)=40) from alr (a+1) 40,decide_eq_true g2,aa,bW (fG g3),bW (eF),BD i,zT (by have:=hF.txt _ (aP i);omega),bI,g4]
    assumption
  |false=>
   simp only[ac];rw[Lj hF a l u d (by omega),bI];simp only;cases v:J6 F a d with
   |false=>
    simp only[aA,aa,ac];rw[oN a l u d (by omega),Ad a l u d (by omega) J (by omega),bI,bI];exact⟨a,[(18,(a:Int),(a:Int),u,())],rfl,rfl,ae _,A,⟨by simp,.mis (ae _) (ae _)⟩,fun h=>by cases h⟩
   |true=>
    obtain⟨e,m,y,z,o,p,g⟩:=asa hF (q':=gZ f) a l u d x hc v;obtain⟨B,_,_⟩:=kP l (opn 5 a u) (by omega);obtain⟨D,E⟩:=oD l m (opn 5 a u);refine⟨e,(5,(a:Int),(e:Int),u,())::m, ?_, ?_,by omega,p,⟨by grind,g.2.one (ae _) (ae _) (by omega) rfl⟩,fun _=>⟨o,by simp_all⟩⟩
    .simp_all [eU,bI,kL]
    .simp only[ax,ac];rw[zy a l u d,bI,hc];simp only[ac];rw[jH a l u d [120] (by simp),bI];simp only;have L:bJ (oC (gZ f) F (jg F) (a:Int) u d l) (fun M=>dR M (fun j=>
       some ((j.2.2.1.1,(j.2.2.1.2.1,(j.2.2.2.1,(j.2.2.1.2.2.1,(j.2.2.1.2.2.2.1,(j.2.2.1.2.2.2.2.1,())))))),())) (fun b4=>none))=some (RR F e (l++(5,(a:Int),(e:Int),u,())::m) u d,()):=by
      rw[z,bI];rfl
     cases hx:gm F a [120]with
     |false=>assumption
     |true=>
      have i:=iI hx;simp only[aa];rw[dB,show(a:Int)+1=((a+1:Nat):Int) by omega];by_cases hl2:a+1<F.length
      .rw[bW (fG (by grind [bM])),bW (eF (by omega) (by grind)),Dq hl2,show bY ((FT F (a+1)).toNat:Int) 40=decide (FT F (a+1)=40) from alr (a+1) 40];by_cases h40:FT F (a+1)=40
       .rw[decide_eq_true h40,aa];by_cases hd2:d<200
        .rw[bW (fG hd2),bW (eF),BD i,zT (by have:=hF.txt _ (aP i);omega),bI];have W:decide (nl F[a].2.1≠0/\nl F[a].2.1=F[a].2.1.length)=false:=by
          simp_all [fnB]
         grind
        simp_all [gU]
       simp_all
      .rw[dG (gU (by grind [bM]))];exact L
end
section
open Option renaming some → a6, none → a7
open List renaming append_assoc → ah
open Nat renaming le_refl → ae
open Go.RowKit
variable {F:List Lf} (hF:Zo F)
include hF
theorem MF {q':jl} (u d w:Int) (hd:0<=d/\d<=201) (P:Nat->Nat->List Nd->Option (Nat×List Nd)->Prop)
  (j: ∀N a L,Eh F a=false->P (N+1) a L (a6 (a,L)))
  (l: ∀N a L f g x,Eh F a=true->f<=F.length->DZ F (a:Int) L u d=a6 (PR F f (L++g) u d,(true,()))->P N f (L++g) x->P (N+1) a L x):
  ∀(N a:Nat) (L:List Nd),F.length-a<N->a<=F.length->L.length<=16*a+1000->
  ∃(e:Nat) (m:List Nd),P N a L (a6 (e,L++m))/\jG q' N w F (jg F) (a:Int) u d L=a6 (.inl ((w,()),((),()),((F,jg F,(e:Int),u,d,()),L++m,())))/\a<=e/\e<=F.length/\m.length<=2*(e-a)/\Tr F a e u L.length m
 |0,a,L,o,_,_=>by omega
 |N+1,a,L,o,i,A=>by
  have B:=hF.len;rw[jG,O8,Ce a L u d (by omega),bI];simp only;cases hr:Eh F a with
  |false=>exact⟨a,[],by simp_all,by simp,ae _,i,by simp,.nil (ae _)⟩
  |true=>
   obtain⟨f,g,D,p,E,q,s⟩:=SX hF a L u d i (by omega) hd.1 (by omega) hr;simp only[aa];rw[p,bI];simp only;obtain⟨e,m,G,v,I,y,z⟩:=MF u d w hd P j l N f (L++g) (by omega) q (by grind);exact⟨e,g++m,by grind,by rw[v,ah],by omega,y,by grind,s.2.ap z.2⟩
theorem aOz {q:fH} {q':jl} (u d w f g i j l o:Int) (hd:0<=d/\d<=201) (a:Nat) (L:List Nd) (p:a<=F.length) (z:L.length<=16*a+1000):
  ∃(e:Nat) (m:List Nd),qj q bT f g i j l o L F (a:Int) u d=a6 (.inl ((),((f,g,()),(i,j,()),(l,o,()),(),()),((),(),L++m,(F,(e:Int),u,d,()),())))/\
   jG q' bT w F (jg F) (a:Int) u d L=a6 (.inl ((w,()),((),()),((F,jg F,(e:Int),u,d,()),L++m,())))/\a<=e/\e<=F.length/\m.length<=2*(e-a)/\Tr F a e u L.length m:=by
 have E:=hF.len;obtain⟨e,m,G,I,J,K,M⟩:=MF hF (q':=q') u d w hd (fun N a L x=>a<=F.length-> ∀y,x=a6 y->qj q N f g i j l o L F (a:Int) u d=a6 (.inl ((),((f,g,()),(i,j,()),(l,o,()),(),()),((),(),y.2,(F,(y.1:Int),u,d,()),()))))
  (fun N a L v p y s=>by
   cases s;rw[qj,xC,mG hF a L u d p v,bI];rfl)
  (fun N a L O S x v A B D p y s=>by
   rw[qj,xC,B,bI];simp only[aa];exact D A y s) bT a L (dJ) p z
 grind
theorem aJe {q:fH} {q':jl} (u d w f g i j l o:Int) (hd:0<=d/\d<=201) (a:Nat) (L:List Nd) (p:a<=F.length) (z:L.length<=16*a+1000):
  ∃(e:Nat) (m:List Nd),mV q bT f g i j l o L F (a:Int) u d=a6 (.inl ((),((f,g,()),(i,j,()),(l,o,()),(),()),((),(),L++m,(F,(e:Int),u,d,()),())))/\
   jG q' bT w F (jg F) (a:Int) u d L=a6 (.inl ((w,()),((),()),((F,jg F,(e:Int),u,d,()),L++m,())))/\a<=e/\e<=F.length/\m.length<=2*(e-a)/\Tr F a e u L.length m:=by
 have E:=hF.len;obtain⟨e,m,G,I,J,K,M⟩:=MF hF (q':=q') u d w hd (fun N a L x=>a<=F.length-> ∀y,x=a6 y->mV q N f g i j l o L F (a:Int) u d=a6 (.inl ((),((f,g,()),(i,j,()),(l,o,()),(),()),((),(),y.2,(F,(y.1:Int),u,d,()),()))))
  (fun N a L v p y s=>by
   cases s;rw[mV,rJ,mG hF a L u d p v,bI];rfl)
  (fun N a L O S x v A B D p y s=>by
   rw[mV,rJ,B,bI];simp only[aa];exact D A y s) bT a L (dJ) p z
 grind
theorem aJf {q:fH} {q':jl} (u d w f g i j l o:Int) (hd:0<=d/\d<=201) (a:Nat) (L:List Nd) (p:a<=F.length) (z:L.length<=16*a+1000):
  ∃(e:Nat) (m:List Nd),mW q bT f g i j l o L F (a:Int) u d=a6 (.inl ((),((f,g,()),(i,j,()),(l,o,()),(),()),((),(),L++m,(F,(e:Int),u,d,()),())))/\
   jG q' bT w F (jg F) (a:Int) u d L=a6 (.inl ((w,()),((),()),((F,jg F,(e:Int),u,d,()),L++m,())))/\a<=e/\e<=F.length/\m.length<=2*(e-a)/\Tr F a e u L.length m:=by
 have E:=hF.len;obtain⟨e,m,G,I,J,K,M⟩:=MF hF (q':=q') u d w hd (fun N a L x=>a<=F.length-> ∀y,x=a6 y->mW q N f g i j l o L F (a:Int) u d=a6 (.inl ((),((f,g,()),(i,j,()),(l,o,()),(),()),((),(),y.2,(F,(y.1:Int),u,d,()),()))))
  (fun N a L v p y s=>by
   cases s;rw[mW,rM,mG hF a L u d p v,bI];rfl)
  (fun N a L O S x v A B D p y s=>by
   rw[mW,rM,B,bI];simp only[aa];exact D A y s) bT a L (dJ) p z
 grind
theorem aJg {q:fH} {q':jl} (u d w f g i j l o:Int) (hd:0<=d/\d<=201) (a:Nat) (L:List Nd) (p:a<=F.length) (z:L.length<=16*a+1000):
  ∃(e:Nat) (m:List Nd),mX q bT f g i j l o L F (a:Int) u d=a6 (.inl ((),((f,g,()),(i,j,()),(l,o,()),(),()),((),(),L++m,(F,(e:Int),u,d,()),())))/\
   jG q' bT w F (jg F) (a:Int) u d L=a6 (.inl ((w,()),((),()),((F,jg F,(e:Int),u,d,()),L++m,())))/\a<=e/\e<=F.length/\m.length<=2*(e-a)/\Tr F a e u L.length m:=by
 have E:=hF.len;obtain⟨e,m,G,I,J,K,M⟩:=MF hF (q':=q') u d w hd (fun N a L x=>a<=F.length-> ∀y,x=a6 y->mX q N f g i j l o L F (a:Int) u d=a6 (.inl ((),((f,g,()),(i,j,()),(l,o,()),(),()),((),(),y.2,(F,(y.1:Int),u,d,()),()))))
  (fun N a L v p y s=>by
   cases s;rw[mX,rO,mG hF a L u d p v,bI];rfl)
  (fun N a L O S x v A B D p y s=>by
   rw[mX,rO,B,bI];simp only[aa];exact D A y s) bT a L (dJ) p z
 grind
theorem aJh {q:fH} {q':jl} (u d w f g i j l o:Int) (hd:0<=d/\d<=201) (a:Nat) (L:List Nd) (p:a<=F.length) (z:L.length<=16*a+1000):
  ∃(e:Nat) (m:List Nd),mY q bT f g i j l o L F (a:Int) u d=a6 (.inl ((),((f,g,()),(i,j,()),(l,o,()),(),()),((),(),L++m,(F,(e:Int),u,d,()),())))/\
   jG q' bT w F (jg F) (a:Int) u d L=a6 (.inl ((w,()),((),()),((F,jg F,(e:Int),u,d,()),L++m,())))/\a<=e/\e<=F.length/\m.length<=2*(e-a)/\Tr F a e u L.length m:=by
 have E:=hF.len;obtain⟨e,m,G,I,J,K,M⟩:=MF hF (q':=q') u d w hd (fun N a L x=>a<=F.length-> ∀y,x=a6 y->mY q N f g i j l o L F (a:Int) u d=a6 (.inl ((),((f,g,()),(i,j,()),(l,o,()),(),()),((),(),y.2,(F,(y.1:Int),u,d,()),()))))
  (fun N a L v p y s=>by
   cases s;rw[mY,rP,mG hF a L u d p v,bI];rfl)
  (fun N a L O S x v A B D p y s=>by
   rw[mY,rP,B,bI];simp only[aa];exact D A y s) bT a L (dJ) p z
 grind
theorem aJi {q:fH} {q':jl} (u d w f g i j l o:Int) (hd:0<=d/\d<=201) (a:Nat) (L:List Nd) (p:a<=F.length) (z:L.length<=16*a+1000):
  ∃(e:Nat) (m:List Nd),mZ q bT f g i j l o L F (a:Int) u d=a6 (.inl ((),((f,g,()),(i,j,()),(l,o,()),(),()),((),(),L++m,(F,(e:Int),u,d,()),())))/\
   jG q' bT w F (jg F) (a:Int) u d L=a6 (.inl ((w,()),((),()),((F,jg F,(e:Int),u,d,()),L++m,())))/\a<=e/\e<=F.length/\m.length<=2*(e-a)/\Tr F a e u L.length m:=by
 have E:=hF.len;obtain⟨e,m,G,I,J,K,M⟩:=MF hF (q':=q') u d w hd (fun N a L x=>a<=F.length-> ∀y,x=a6 y->mZ q N f g i j l o L F (a:Int) u d=a6 (.inl ((),((f,g,()),(i,j,()),(l,o,()),(),()),((),(),y.2,(F,(y.1:Int),u,d,()),()))))
  (fun N a L v p y s=>by
   cases s;rw[mZ,rQ,mG hF a L u d p v,bI];rfl)
  (fun N a L O S x v A B D p y s=>by
   rw[mZ,rQ,B,bI];simp only[aa];exact D A y s) bT a L (dJ) p z
 grind
end
section
open List renaming append_assoc → ah, length_append → ai
open Nat renaming le_refl → ae
open Go.RowKit
variable {F:List Lf} (hF:Zo F)
include hF
theorem IR {k:Nat} (h:All F k) (a:Nat) (l:List Nd) (u d:Int) (r g:Nat) (G:16*(F.length-a)+13<k) (I:k+1<=r) (J:k+1<=g) (hp:MQ F a l d 105):
  ∃(f:Nat) (m:List Nd),(eH r).q286 F (a:Int) l u d=some (PR F f (l++m) u d,())/\
   (gZ g).q247 F (jg F) l (a:Int) u d=some (RR F f (l++m) u d,())/\a<=f/\f<=F.length/\m.length<=16*(f-a)+3/\Tr F a f u l.length m:=by
 obtain⟨o,K,j,p⟩:=hp;have L:=hF.len;obtain⟨q,rfl⟩: ∃q,r=q+1:=⟨r-1,by omega⟩;obtain⟨i,rfl⟩: ∃i,g=i+1:=⟨g-1,by omega⟩;obtain⟨M,s⟩:=KU (F:=F) a [100];have v:=s o;have N:=wH (F:=F) a [100] u;obtain⟨e,x,y,z,O,A,B⟩:=h.body (sD F a [100]) (l++xH F a [100] u) u d q i (by omega) (by omega) (by omega) ⟨v,by rw[ai];omega,j,p⟩;obtain⟨S,D⟩:=KU (F:=F) e [103];have E:=D A;have U:=wH (F:=F) e [103] u;refine⟨sD F e [103],xH F a [100] u++x++xH F e [103] u, ?_, ?_,by omega,E,by simp only[ai];omega,((AB (ae a) (ae a)).ap B.2).apA fun _=>AB (ae e) (by omega)⟩
 .show av5 (eH q) F (a:Int) l u d=_;rw[av5,Dx hF a l u d (by omega) (by omega) [100] rfl,bI];simp only[nR];rw[y,bI];simp only;rw[Dx hF e _ u d (by omega) (by simp only[ai];omega) [103] rfl,bI];simp only[nR,ah]
 .show avU (gZ i) F (jg F) l (a:Int) u d=_;rw[avU,Dy a l u d (by omega) (by omega) j (by omega) [100] (by simp),bI];simp only[nR];rw[z,bI];simp only;rw[Dy e _ u d (by omega) (by simp only[ai];omega) j (by omega) [103] (by simp),bI];simp only[nR,ah]
theorem aeW {k:Nat} (h:All F k) (a:Nat) (l:List Nd) (u d:Int) (q q':Nat) (o:bV) (s:o.contains 0=false) (v:o.length<1000000) (L:16*(F.length-a)+13<k) (M:k<=q) (N:k<=q') (hp:MQ F a l d 105):
  ∃(f:Nat) (m:List Nd),(bJ ((eH q).q285 F (a:Int) l u d) fun i=>bJ (uF i.1.1 i.1.2.1 i.1.2.2.1 i.1.2.2.2.1 i.1.2.2.2.2.1 o) fun j=>
    some ((j.1.1,(j.1.2.1,(j.1.2.2.1,(j.1.2.2.2.1,(j.1.2.2.2.2.1,()))))),()))=some (PR F f (l++m) u d,())/\
   (∀{x:Type} (K:(List Lf×List UInt8×List Nd×Int×Int×Int×Unit)×Unit->Option x),(bJ ((gZ q').q246 F (jg F) l (a:Int) u d) fun g=>bJ (oJ g.1.1 g.1.2.1 g.1.2.2.1 g.1.2.2.2.1 g.1.2.2.2.2.1 g.1.2.2.2.2.2.1 o) K)=K (RR F f (l++m) u d,()))/\a<=f/\f<=F.length/\m.length<=16*(f-a)+2/\Tr F a f u l.length m:=by
 obtain⟨y,O,p,z⟩:=hp;have S:=hF.len;obtain⟨e,A,B,D,U,E,G⟩:=h.body a l u d q q' (by omega) (by omega) (by omega) ⟨y,by omega,p,z⟩;obtain⟨V,I⟩:=KU (F:=F) e o;have J:=I E;have W:=wH (F:=F) e o u;refine⟨sD F e o,A++xH F e o u, ?_,fun K=> ?_,by omega,J,by simp only[ai];omega,G.2.apA fun _=>AB (ae e) (by omega)⟩
 .rw[B,bI];simp only;rw[Dx hF e _ u d (by omega) (by simp only[ai];omega) o s,bI];simp only[nR,ah]
 .rw[D,bI];simp only;rw[Dy e _ u d (by omega) (by simp only[ai];omega) p (by omega) o v,bI];simp only[nR,ah]
end
section
open Nat renaming le_refl → ae
open Go.RowKit
variable {F:List Lf} (hF:Zo F)
include hF
theorem ZI {k:Nat} (h:All F k) {q q':Nat} (g:k<=q) (i:k<=q') (u d v:Int) (hd:0<=d/\d<=200): ∀(N a:Nat) (L:List Nd),F.length-a<N->a<=F.length->16*(F.length-a)+2<k->L.length<=16*a+110->
  ∃(f:Nat) (m:List Nd),Oj (eH q) N F (a:Int) u d L=some (.inl ((),((),()),((F,(f:Int),u,d,()),L++m,())))/\
   Eb (gZ q') N v F (jg F) (a:Int) u d L=some (.inl ((v,()),((),()),((F,jg F,(f:Int),u,d,()),L++m,())))/\a<=f/\f<=F.length/\m.length<=16*(f-a)/\Tr F a f u L.length m
 |0,a,L,o,_,_,_=>by omega
 |N+1,a,L,o,p,G,I=>by
  have J:=hF.len;rw[Oj,UY,Eb,O7,kF hF a L u d (by omega) [101] rfl,jH a L u d [101] (by simp),bI,bI];simp only;cases hb:gm F a [101]with
  |false=>
   rw[tC hb];exact⟨a,[],by simp,by simp,ae _,p,by simp,.nil (ae _)⟩
  |true=>
   have K:=iI hb;rw[oZ hb];simp only[aa];rw[dB,show(a:Int)+1=((a+1:Nat):Int) by omega];obtain⟨e,j,s,M,O,x,y⟩:=h.body (a+1) L u d q q' (by omega) g i ⟨by omega,by omega,hd.1,hd.2⟩;obtain⟨S,z⟩:=KU (F:=F) e [116];have A:=z x;have U:=wH (F:=F) e [116] u;obtain⟨B,l,V,W,X,D,E⟩:=h.body (sD F e [116]) (L++j++xH F e [116] u) u d q q' (by omega) g i ⟨A,by grind,hd.1,hd.2⟩;obtain⟨f,m,g1,g2,g3,g4,g5⟩:=ZI h g i u d v hd N B (L++j++xH F e [116] u++l) (by omega) D (by omega) (by grind);refine⟨f,j++xH F e [116] u++l++m, ?_, ?_,by omega,g4,by grind,(((y.2.wide (by omega) (ae _)).apA fun _=>AB (ae e) (ae e)).ap E.2).ap g5.2⟩
   .rw[s,bI];simp only;rw[Dx hF e _ u d (by omega) (by grind) [116] rfl,bI];simp_all [nR,bI]
   grind [bI,Dy,nR]
theorem aL3 {k:Nat} (h:All F k) (a:Nat) (l:List Nd) (u d v:Int) (r q':Nat) (hm:16*(F.length-a)+13<k) (hr:k+1<=r) (G:k<=q') (hp:MQ F a l d 105):
  ∃(j:Nat) (m:List Nd),(eH r).q274 F (a:Int) l u d=some (PR F j (l++m) u d,())/\
   (∀{J:Type} (K:Int->(List Lf×List UInt8×List Nd×Int×Int×Int×Unit)×Unit->Option J),
    (bJ ((gZ q').q246 F (jg F) l (a:Int) u d) fun A=>
       bJ (oJ A.1.1 A.1.2.1 A.1.2.2.1 A.1.2.2.2.1 A.1.2.2.2.2.1 A.1.2.2.2.2.2.1 [116]) fun B=>
        bJ ((gZ q').q246 B.1.1 B.1.2.1 B.1.2.2.1 B.1.2.2.2.1 B.1.2.2.2.2.1 B.1.2.2.2.2.2.1) fun g=>
         bJ (Eb (gZ q') bT v g.1.1 g.1.2.1 g.1.2.2.2.1 g.1.2.2.2.2.1 g.1.2.2.2.2.2.1 g.1.2.2.1) fun o=>
          dR o (fun y=>
           bJ (pU y.2.2.1.1 y.2.2.1.2.1 y.2.2.2.1 y.2.2.1.2.2.1 y.2.2.1.2.2.2.1 y.2.2.1.2.2.2.2.1 [108]) fun e=>
            bif e.2.1 then
             bJ ((gZ q').q246 e.1.1 e.1.2.1 e.1.2.2.1 (cO .i64 e.1.2.2.2.1 1) e.1.2.2.2.2.1 e.1.2.2.2.2.2.1) fun p=>
              bJ (oJ p.1.1 p.1.2.1 p.1.2.2.1 p.1.2.2.2.1 p.1.2.2.2.2.1 p.1.2.2.2.2.2.1 [102]) (K y.1.1)
            else
            bJ (oJ e.1.1 e.1.2.1 e.1.2.2.1 e.1.2.2.2.1 e.1.2.2.2.2.1 e.1.2.2.2.2.2.1 [102]) (K y.1.1)) (fun b7=>none))=K v (RR F j (l++m) u d,()))/\a<=j/\j<=F.length/\m.length<=16*(j-a)+5/\Tr F a j u l.length m:=by
 obtain⟨U,p2,D,I⟩:=hp;have ad:=hF.len;obtain⟨q,rfl⟩: ∃q,r=q+1:=⟨r-1,by omega⟩;obtain⟨i,s,V,W,e3,X,Y⟩:=h.body a l u d q q' (by omega) (by omega) G ⟨U,by omega,D,I⟩;obtain⟨w1,Z⟩:=KU (F:=F) i [116];have w3:=Z X;have w4:=wH (F:=F) i [116] u;obtain⟨a2,x,f1,f2,f3,f4,f5⟩:=h.body (sD F i [116]) (l++s++xH F i [116] u) u d q q' (by omega) (by omega) G ⟨w3,by grind,D,I⟩;obtain⟨f,z,g1,g2,g3,g4,g5⟩:=ZI hF h (q:=q) (q':=q') (by omega) G u d v ⟨D,I⟩ bT a2 (l++s++xH F i [116] u++x) (dJ) f4 (by omega) (by grind);have ab: ∃(j:Nat) (m:List Nd),(bJ (mf F (f:Int) (l++s++xH F i [116] u++x++z) u d [108]) fun g=>
       bif g.2.1 then
        bJ ((eH q).q285 g.1.1 g.1.2.1 g.1.2.2.1 g.1.2.2.2.1 g.1.2.2.2.2.1) fun o=>
         bJ (uF o.1.1 o.1.2.1 o.1.2.2.1 o.1.2.2.2.1 o.1.2.2.2.2.1 [102]) fun E=>
          some ((E.1.1,(E.1.2.1,(E.1.2.2.1,(E.1.2.2.2.1,(E.1.2.2.2.2.1,()))))),())
       else
       bJ (uF g.1.1 g.1.2.1 g.1.2.2.1 g.1.2.2.2.1 g.1.2.2.2.2.1 [102]) fun o=>
        some ((o.1.1,(o.1.2.1,(o.1.2.2.1,(o.1.2.2.2.1,(o.1.2.2.2.2.1,()))))),()))=some (PR F j (l++s++xH F i [116] u++x++z++m) u d,())/\
   (∀{J:Type} (K:(List Lf×List UInt8×List Nd×Int×Int×Int×Unit)×Unit->Option J),(bJ (pU F (jg F) (l++s++xH F i [116] u++x++z) (f:Int) u d [108]) fun e=>
            bif e.2.1 then
             bJ ((gZ q').q246 e.1.1 e.1.2.1 e.1.2.2.1 (cO .i64 e.1.2.2.2.1 1) e.1.2.2.2.2.1 e.1.2.2.2.2.2.1) fun p=>
              bJ (oJ p.1.1 p.1.2.1 p.1.2.2.1 p.1.2.2.2.1 p.1.2.2.2.2.1 p.1.2.2.2.2.2.1 [102]) K
            else
            bJ (oJ e.1.1 e.1.2.1 e.1.2.2.1 e.1.2.2.2.1 e.1.2.2.2.2.1 e.1.2.2.2.2.2.1 [102]) K)=K (RR F j (l++s++xH F i [116] u++x++z++m) u d,()))/\f<=j/\j<=F.length/\m.length<=16*(j-f)+2/\Tr F f j u (l++s++xH F i [116] u++x++z).length m:=by
  have hL:(l++s++xH F i [116] u++x++z).length<=16*f+108:=by grind
  generalize l++s++xH F i [116] u++x++z=L at hL;rw[kF hF f L u d (by omega) [108] rfl,bI];cases hb:gm F f [108]with
  |true=>
   have af:=iI hb;obtain⟨b1,n1,s1,O,s3,M,N⟩:=aeW hF h (f+1) L u d q q' [102] rfl (by simp) (by omega) (by omega) G ⟨by omega,by omega,D,I⟩;refine⟨b1,n1, ?_,fun K=> ?_,by omega,M,by omega,N.2.wide (by omega) (ae _)⟩
   .simp_all [oZ]
   .rw[jH f L u d [108] (by simp),bI,hb];simp only[aa];rw[dB,show(f:Int)+1=((f+1:Nat):Int) by omega];exact O K
  |false=>
   obtain⟨S,x2⟩:=KU (F:=F) f [102];have x3:=x2 g4;have x4:=wH (F:=F) f [102] u;refine⟨sD F f [102],xH F f [102] u, ?_,fun K=> ?_,S,x3,by omega,AB (ae f) S⟩
   .rw[tC hb];simp only[ac];rw[Dx hF f L u d (by omega) (by omega) [102] rfl,bI];simp only[nR]
   .rw[jH f L u d [108] (by simp),bI,hb];simp only[ac]
    grind [Dy,bI,nR]
 obtain⟨j,m,s1,O,s3,M,N⟩:=ab;refine⟨j,s++xH F i [116] u++x++z++m, ?_,fun K=> ?_,by omega,M,by grind,(((Y.2.apA fun _=>AB (ae i) (ae i)).ap f5.2).ap g5.2).ap N.2⟩
 .show av1 (eH q) F (a:Int) l u d=_;rw[av1,V,bI];simp only;rw[Dx hF i _ u d (by omega) (by grind) [116] rfl,bI];simp_all [nR,bI,dR]
 .rw[W,bI];simp only;rw[Dy i _ u d (by omega) (by grind) D (by omega) [116] (by simp),bI];simp_all [nR,bI,dR]
theorem aAS {k:Nat} (h:All F k) (a:Nat) (l:List Nd) (u d:Int) (r q':Nat) (A:16*(F.length-a)+13<k) (B:k+2<=r) (D:k+1<=q') (hp:MQ F a l d 104):
  ∃(e:Nat) (m:List Nd),(eH r).q275 F (a:Int) l u d=some (PR F e (l++m) u d,())/\
   (∀{o:Type} (K:(List Lf×List UInt8×List Nd×Int×Int×Int×Unit)×Unit->Option o),
    (bJ ((gZ q').q246 F (jg F) l (a:Int) u d) fun f=>
       bJ ((gZ q').q247 f.1.1 f.1.2.1 f.1.2.2.1 f.1.2.2.2.1 f.1.2.2.2.2.1 f.1.2.2.2.2.2.1) K)=K (RR F e (l++m) u d,()))/\a<=e/\e<=F.length/\m.length<=16*(e-a)+4/\Tr F a e u l.length m:=by
 obtain⟨p,E,g,i⟩:=hp;have G:=hF.len;obtain⟨q,rfl⟩: ∃q,r=q+1:=⟨r-1,by omega⟩;obtain⟨s,j,I,J,L,v,x⟩:=h.body a l u d q q' (by omega) (by omega) (by omega) ⟨p,by omega,g,i⟩;obtain⟨e,m,M,N,O,y,z⟩:=IR hF h s (l++j) u d q q' (by omega) (by omega) (by omega) ⟨v,by grind,g,i⟩;refine⟨e,j++m, ?_,fun K=> ?_,by omega,y,by grind,x.2.ap z.2⟩
 .simp_all [aEL,eH,bI]
 simp_all [bI]
end
section
open Option renaming some → a6, none → a7
open Bool renaming not_true → ax, not_false → aA
open List renaming append_assoc → ah, getElem_mem → aP
open Nat renaming le_refl → ae
open Go.RowKit
variable {F:List Lf} (hF:Zo F)
include hF
omit hF in
theorem aHn {a:Nat} (h:gm F a [110]=true):bY (((ln F a:Nat):Int)-(a:Int)) 0=false:=by
 have:a+1<=ln F a:=by
  simp_all [ln,lnF,ajV]
 exact dM
omit hF in
theorem aMh {a:Nat} (h:gm F a [110]=false):bY (((ln F a:Nat):Int)-(a:Int)) 0=true:=by
 simp_all [ln,lnF,eG]
theorem YM {q:fH} {q':jl} (u d:Int) (hd:0<=d/\d<=200): ∀(N a:Nat) (L:List Nd),F.length-a<N->a<=F.length->L.length<=16*a+200->
  ∃(e:Nat) (m:List Nd),Jn q N F (a:Int) u d L=a6 (.inl ((),((),()),((F,(e:Int),u,d,()),L++m,())))/\
   Jl q' N F (jg F) (a:Int) u d L=a6 (.inl ((),((),()),((F,jg F,(e:Int),u,d,()),L++m,())))/\a<=e/\e<=F.length/\m.length<=e-a/\Tr F a e u L.length m
 |0,a,L,i,_,_=>by omega
 |N+1,a,L,i,g,j=>by
  have l:=hF.len;rw[Jn,UZ,Jl,UV,wW a L u d,bI];simp only;by_cases hlt:a<F.length
  .rw[bW (b:=iF (a:Int) (bK F)) (fG (by rw[bM];omega)),bW (b:=gy F (a:Int)) (eF),BD hlt];by_cases h6:F[a].1=6
   .have f:isW F a=true:=by simp_all [isW]
    rw[bW (b:=bY F[a].1 6) (eG h6),f];simp only[aa];rw[Ha a L u d 7 (by omega) (by omega),SG a L u d (by omega) (by omega) rfl (by omega) (by omega) hd.1 (by omega),bI,bI];simp only;obtain⟨e,m,g1,g2,g3,g4,g5⟩:=YM u d hd N (a+1) (L++[(7,(a:Int),((a+1:Nat):Int),u,())]) (by omega) (by omega) (by grind);exact⟨e,[(7,(a:Int),((a+1:Nat):Int),u,())]++m,by rw[g1,ah],by rw[g2,ah],by omega,g4,by grind,(Tr.lf (ae a) (ae _) (by omega) (fun _=>⟨hlt,h6⟩)).ap g5.2⟩
   .have f:isW F a=false:=by simp_all [isW]
    rw[dG (b:=bY F[a].1 6) (dM h6),f];exact⟨a,[],by simp,by simp,ae _,g,by simp,.nil (ae _)⟩
  .have f:isW F a=false:=by unfold isW;rw[dif_neg hlt]
   rw[dG (b:=iF (a:Int) (bK F)) (gU (by rw[bM];omega)),f];exact⟨a,[],by simp,by simp,ae _,g,by simp,.nil (ae _)⟩
theorem agK {k:Nat} (h:All F k) (a:Nat) (l:List Nd) (u d:Int) (q q':Nat) (X:16*(F.length-a)+13<k) (Y:k+1<=q) (Z:k+1<=q') (hp:MQ F a l d 102):
  ∃(s:Nat) (m:List Nd),(bJ (mf F (a:Int) l u d [59]) fun j=>
    bif j.2.1 then
     bJ (rD j.1.1 j.1.2.1 j.1.2.2.1 j.1.2.2.2.1 j.1.2.2.2.2.1) fun f=>
      bJ ((eH q).q286 f.1.1 f.1.2.1 f.1.2.2.1 f.1.2.2.2.1 f.1.2.2.2.2.1) fun i=>
       a6 ((i.1.1,(i.1.2.1,(i.1.2.2.1,(i.1.2.2.2.1,(i.1.2.2.2.2.1,()))))),())
    else
    bJ (rD j.1.1 j.1.2.1 j.1.2.2.1 j.1.2.2.2.1 j.1.2.2.2.2.1) fun f=>
     bJ (mf f.1.1 f.1.2.1 f.1.2.2.1 f.1.2.2.2.1 f.1.2.2.2.2.1 [107]) fun i=>
      bif i.2.1 then
       bJ (Jn (eH q) bT i.1.1 i.1.2.1 i.1.2.2.2.1 i.1.2.2.2.2.1 i.1.2.2.1) fun E=>
        dR E (fun K=>
         bJ (mf K.2.2.1.1 K.2.2.1.2.1 K.2.2.2.1 K.2.2.1.2.2.1 K.2.2.1.2.2.2.1 [59]) fun g=>
          bJ (rD g.1.1 g.1.2.1 g.1.2.2.1 g.1.2.2.2.1 g.1.2.2.2.2.1) fun e=>
           bif(!e.2.1)then
            bif(!g.2.1)then
             bJ (Bl e.1.1 e.1.2.1 e.1.2.2.1 e.1.2.2.2.1 e.1.2.2.2.2.1) fun o=>
              bJ ((eH q).q286 o.1.1 o.1.2.1 o.1.2.2.1 o.1.2.2.2.1 o.1.2.2.2.2.1) fun L=>
               a6 ((L.1.1,(L.1.2.1,(L.1.2.2.1,(L.1.2.2.2.1,(L.1.2.2.2.2.1,()))))),())
            else
            bJ ((eH q).q286 e.1.1 e.1.2.1 e.1.2.2.1 e.1.2.2.2.1 e.1.2.2.2.2.1) fun o=>
             a6 ((o.1.1,(o.1.2.1,(o.1.2.2.1,(o.1.2.2.2.1,(o.1.2.2.2.2.1,()))))),())
           else
           bJ ((eH q).q286 e.1.1 e.1.2.1 e.1.2.2.1 e.1.2.2.2.1 e.1.2.2.2.2.1) fun o=>
            a6 ((o.1.1,(o.1.2.1,(o.1.2.2.1,(o.1.2.2.2.1,(o.1.2.2.2.2.1,()))))),())) (fun b6=>
         a7)
      else
      bJ ((eH q).q286 i.1.1 i.1.2.1 i.1.2.2.1 i.1.2.2.2.1 i.1.2.2.2.2.1) fun E=>
       a6 ((E.1.1,(E.1.2.1,(E.1.2.2.1,(E.1.2.2.2.1,(E.1.2.2.2.2.1,()))))),()))=a6 (PR F s (l++m) u d,())/\
   (bJ (pU F (jg F) l (a:Int) u d [59]) fun x=>
   bif x.2.1 then
    bJ (uK x.1.1 x.1.2.1 x.1.2.2.1 (cO .i64 x.1.2.2.2.1 1) x.1.2.2.2.2.1 x.1.2.2.2.2.2.1) fun j=>
     bJ ((gZ q').q247 j.1.1 j.1.2.1 j.1.2.2.1 j.1.2.2.2.1 j.1.2.2.2.2.1 j.1.2.2.2.2.2.1) fun f=>
      a6 ((f.1.1,(f.1.2.1,(f.1.2.2.1,(f.1.2.2.2.1,(f.1.2.2.2.2.1,(f.1.2.2.2.2.2.1,())))))),())
   else
   bJ (uK x.1.1 x.1.2.1 x.1.2.2.1 x.1.2.2.2.1 x.1.2.2.2.2.1 x.1.2.2.2.2.2.1) fun j=>
    bJ (pU j.1.1 j.1.2.1 j.1.2.2.1 j.1.2.2.2.1 j.1.2.2.2.2.1 j.1.2.2.2.2.2.1 [107]) fun f=>
     bif f.2.1 then
      bJ (Jl (gZ q') bT f.1.1 f.1.2.1 (cO .i64 f.1.2.2.2.1 1) f.1.2.2.2.2.1 f.1.2.2.2.2.2.1 f.1.2.2.1) fun i=>
       dR i (fun I=>
        bJ (pU I.2.2.1.1 I.2.2.1.2.1 I.2.2.2.1 I.2.2.1.2.2.1 I.2.2.1.2.2.2.1 I.2.2.1.2.2.2.2.1 [59]) fun y=>
         bif y.2.1 then
          bJ (uK y.1.1 y.1.2.1 y.1.2.2.1 (cO .i64 y.1.2.2.2.1 1) y.1.2.2.2.2.1 y.1.2.2.2.2.2.1) fun g=>
           bJ ((gZ q').q247 g.1.1 g.1.2.1 g.1.2.2.1 g.1.2.2.2.1 g.1.2.2.2.2.1 g.1.2.2.2.2.2.1) fun e=>
            a6 ((e.1.1,(e.1.2.1,(e.1.2.2.1,(e.1.2.2.2.1,(e.1.2.2.2.2.1,(e.1.2.2.2.2.2.1,())))))),())
         else
         bJ (uK y.1.1 y.1.2.1 y.1.2.2.1 y.1.2.2.2.1 y.1.2.2.2.2.1 y.1.2.2.2.2.2.1) fun g=>
          bif(bY g.2.1 0)then
           bJ (wV g.1.1 g.1.2.1 g.1.2.2.1 g.1.2.2.2.1 g.1.2.2.2.2.1 g.1.2.2.2.2.2.1) fun e=>
            bJ ((gZ q').q247 e.1.1 e.1.2.1 e.1.2.2.1 e.1.2.2.2.1 e.1.2.2.2.2.1 e.1.2.2.2.2.2.1) fun o=>
             a6 ((o.1.1,(o.1.2.1,(o.1.2.2.1,(o.1.2.2.2.1,(o.1.2.2.2.2.1,(o.1.2.2.2.2.2.1,())))))),())
          else
          bJ ((gZ q').q247 g.1.1 g.1.2.1 g.1.2.2.1 g.1.2.2.2.1 g.1.2.2.2.2.1 g.1.2.2.2.2.2.1) fun e=>
           a6 ((e.1.1,(e.1.2.1,(e.1.2.2.1,(e.1.2.2.2.1,(e.1.2.2.2.2.1,(e.1.2.2.2.2.2.1,())))))),())) (fun b5=>
        a7)
     else
     bJ ((gZ q').q247 f.1.1 f.1.2.1 f.1.2.2.1 f.1.2.2.2.1 f.1.2.2.2.2.1 f.1.2.2.2.2.2.1) fun i=>
      a6 ((i.1.1,(i.1.2.1,(i.1.2.2.1,(i.1.2.2.2.1,(i.1.2.2.2.2.1,(i.1.2.2.2.2.2.1,())))))),()))=a6 (RR F s (l++m) u d,())/\a<=s/\s<=F.length/\m.length<=16*(s-a)+4/\Tr F a s u l.length m:=by
 obtain⟨O,p2,G,J⟩:=hp;have ab:=hF.len;rw[kF hF a l u d (by omega) [59] rfl,jH a l u d [59] (by simp),bI,bI];simp only;cases hb:gm F a [59]with
 |true=>
  have U:=iI hb;rw[oZ hb];simp only[aa];have V:=xR (F:=F) (a+1);have S:=zY (F:=F) (a:=a+1) (by omega);rw[dB,show(a:Int)+1=((a+1:Nat):Int) by omega,oq hF (a+1) l u d (by omega),ou hF (a+1) l u d (by omega),bI,bI];simp only;obtain⟨s,m,z,A,M,B,D⟩:=IR hF h (ln F (a+1)) l u d q q' (by omega) (by omega) (by omega) ⟨S,by omega,G,J⟩;rw[z,A,bI,bI];exact⟨s,m,rfl,rfl,by omega,B,by omega,D.2.wide (by omega) (ae _)⟩
 |false=>
  rw[tC hb];simp only[ac];have V:=xR (F:=F) a;have S:=zY (F:=F) O;rw[oq hF a l u d O,ou hF a l u d O,bI,bI];simp only;rw[kF hF (ln F a) l u d (by omega) [107] rfl,jH (ln F a) l u d [107] (by simp),bI,bI];simp only;cases hb2:gm F (ln F a) [107]with
  |false=>
   rw[tC hb2];simp only[ac];obtain⟨s,m,z,A,M,B,D⟩:=IR hF h (ln F a) l u d q q' (by omega) (by omega) (by omega) ⟨S,by omega,G,J⟩;rw[z,A,bI,bI];exact⟨s,m,rfl,rfl,by omega,B,by omega,D.2.wide (by omega) (ae _)⟩
  |true=>
   have U:=iI hb2;rw[oZ hb2];simp only[aa];obtain⟨p,v,g1,g2,g3,g4,g5⟩:=YM hF (q:=eH q) (q':=gZ q') u d ⟨G,J⟩ bT (ln F a+1) l (dJ) (by omega) (by omega);rw[dB,show((ln F a:Nat):Int)+1=((ln F a+1:Nat):Int) by omega,g1,g2,bI,bI];simp only[dR];have hL:(l++v).length<=16*p+90:=by grind
   rw[kF hF p (l++v) u d (by omega) [59] rfl,jH p (l++v) u d [59] (by simp),bI,bI];simp only;cases hb3:gm F p [59]with
   |true=>
    have ad:=iI hb3;rw[oZ hb3];simp only[aa,ax,ac];have W:=xR (F:=F) (p+1);have N:=zY (F:=F) (a:=p+1) (by omega);rw[dB,show(p:Int)+1=((p+1:Nat):Int) by omega,oq hF (p+1) (l++v) u d (by omega),ou hF (p+1) (l++v) u d (by omega),bI,bI];simp only;obtain⟨s,m,z,A,M,B,D⟩:=IR hF h (ln F (p+1)) (l++v) u d q q' (by omega) (by omega) (by omega) ⟨N,by omega,G,J⟩;rw[z,A,bI,bI];refine⟨s,v++m, ?_,by simp,by omega,B,by grind,(g5.2.wide (by omega) (ae _)).ap D.2⟩;simp
   |false=>
    rw[tC hb3];simp only[aA,aa,ac];have W:=xR (F:=F) p;have N:=zY (F:=F) g4;rw[oq hF p (l++v) u d g4,ou hF p (l++v) u d g4,bI,bI];simp only;cases hb4:gm F p [110]with
    |true=>
     rw[aHn hb4];simp only[ax,ac];obtain⟨s,m,z,A,M,B,D⟩:=IR hF h (ln F p) (l++v) u d q q' (by omega) (by omega) (by omega) ⟨N,by omega,G,J⟩;rw[z,A,bI,bI];exact⟨s,v++m,by simp,by simp,by omega,B,by grind,(g5.2.wide (by omega) (ae _)).ap D.2⟩
    |false=>
     rw[aMh hb4];simp only[aA,aa];rw[oN (ln F p) (l++v) u d (by omega),Ad (ln F p) (l++v) u d (by omega) G (by omega),bI,bI];simp only;obtain⟨s,m,z,A,M,B,D⟩:=IR hF h (ln F p) (l++v++[(18,((ln F p:Nat):Int),((ln F p:Nat):Int),u,())]) u d q q' (by omega) (by omega) (by omega) ⟨N,by grind,G,J⟩;rw[z,A,bI,bI];exact⟨s,v++[(18,((ln F p:Nat):Int),((ln F p:Nat):Int),u,())]++m,by simp,by simp,by omega,B,by grind,((g5.2.wide (by omega) (ae _)).apA fun _=>Tr.mis (ae (ln F p)) (ae _)).ap D.2⟩
theorem aBq {k:Nat} (h:All F k) (a:Nat) (l:List Nd) (u d:Int) (r j:Nat) (E:16*(F.length-a)+13<k) (G:k+2<=r) (I:k+2<=j) (hp:MQ F a l d 101):
  ∃(e:Nat) (m:List Nd),(eH r).q276 F (a:Int) l u d=a6 (PR F e (l++m) u d,())/\
   (gZ j).q248 F (jg F) l (a:Int) u d=a6 (RR F e (l++m) u d,())/\a<=e/\e<=F.length/\m.length<=16*(e-a)+5/\Tr F a e u l.length m:=by
 obtain⟨y,J,f,x⟩:=hp;have K:=hF.len;obtain⟨q,rfl⟩: ∃q,r=q+1:=⟨r-1,by omega⟩;obtain⟨g,rfl⟩: ∃g,j=g+1:=⟨j-1,by omega⟩;obtain⟨o,p,L,M,N,s,v⟩:=agK hF h a (l++[(18,(a:Int),(a:Int),u,())]) u d q g (by omega) (by omega) (by omega) ⟨y,by simp_all,f,x⟩;show ∃(e:Nat) (m:List Nd),av2 (eH q) F (a:Int) l u d=_/\avV (gZ g) F (jg F) l (a:Int) u d=_/\_
 (rewrite [av2,avV];delta TM ND NC;rw[wW a l u d,bI])
 simp only;by_cases hlt:a<F.length
 .rw[bW (b:=iF (a:Int) (bK F)) (fG (by rw[bM];omega))];simp only[show gy F (a:Int)=true from eF,aa];rw[BD hlt];by_cases h6:F[a].1=6
  .have i:isW F a=true:=by simp_all [isW]
   rw[bW (b:=bY F[a].1 6) (eG h6),i];simp only[aa];rw[G9 (by have:=hF.txt _ (aP hlt);omega),zT (by have:=hF.txt _ (aP hlt);omega),bI,bI];simp only;cases decide (nl F[a].2.1≠0/\nl F[a].2.1=F[a].2.1.length)with
   |true=>
    simp only[aa];rw[Ha a l u d 7 (by omega) (by omega),SG a l u d (by omega) (by omega) rfl (by omega) (by omega) f (by omega),bI,bI];obtain⟨z,A,O,S,U,B,D⟩:=agK hF h (a+1) (l++[(7,(a:Int),((a+1:Nat):Int),u,())]) u d q g (by omega) (by omega) (by omega) ⟨by omega,by grind,f,x⟩;exact⟨z,[(7,(a:Int),((a+1:Nat):Int),u,())]++A,by simp_all,by simp_all,by omega,B,by grind,(Tr.lf (ae a) (ae _) (by omega) (fun _=>⟨hlt,h6⟩)).ap D.2⟩
   |false=>
    simp only[ac];rw[oN a l u d (by omega),Ad a l u d (by omega) f (by omega),bI,bI];exact⟨o,[(18,(a:Int),(a:Int),u,())]++p,by simp_all,by simp_all,by omega,s,by simp_all,(Tr.mis (ae a) (ae a)).ap v.2⟩
  .have i:isW F a=false:=by simp_all [isW]
   rw[dG (b:=bY F[a].1 6) (dM h6),i];simp only[ac];rw[oN a l u d (by omega),Ad a l u d (by omega) f (by omega),bI,bI];exact⟨o,[(18,(a:Int),(a:Int),u,())]++p,by simp_all,by simp_all,by omega,s,by simp_all,(Tr.mis (ae a) (ae a)).ap v.2⟩
 .have i:isW F a=false:=by unfold isW;rw[dif_neg hlt]
  rw[dG (b:=iF (a:Int) (bK F)) (gU (by rw[bM];omega)),i];simp only[ac];rw[oN a l u d (by omega),Ad a l u d (by omega) f (by omega),bI,bI];exact⟨o,[(18,(a:Int),(a:Int),u,())]++p,by simp_all,by simp_all,by omega,s,by simp_all,(Tr.mis (ae a) (ae a)).ap v.2⟩
end
section
open Bool renaming false_eq_true → ag
open List renaming append_assoc → ah, append_nil → bg
open Nat renaming le_refl → ae
open Go.RowKit
variable {F:List Lf} (hF:Zo F)
include hF
omit hF in
theorem Rl (a:Nat):a<=Gu F a/\(a<=F.length->Gu F a<=F.length)/\(isW F a=true->Gu F a=a+1):=by
 unfold Gu;cases h:isW F a with
 |true=>have:=ack h;grind
 |false=>simp
theorem afJ {q:fH} {q':jl} (u d v:Int) (hd:0<=d/\d<=200): ∀(N a:Nat) (L:List Nd),F.length-a<N->a<=F.length->L.length<=16*a+200->
  ∃(e:Nat) (m:List Nd),Ol q N F (a:Int) u d L=some (.inl ((),((),()),((F,(e:Int),u,d,()),L++m,())))/\
   wZ q' N v F (jg F) (a:Int) u d L=some (.inl ((v,()),((),()),((F,jg F,(e:Int),u,d,()),L++m,())))/\a<=e/\e<=F.length/\m.length<=e-a/\Tr F a e u L.length m
 |0,a,L,f,_,_=>by omega
 |N+1,a,L,f,g,l=>by
  have o:=hF.len;rw[Ol,U1,wZ,O9,kF hF a L u d (by omega) [124] rfl,jH a L u d [124] (by simp),bI,bI];simp only;cases hb:gm F a [124]with
  |false=>
   rw[tC hb];exact⟨a,[],by simp,by simp,ae _,g,by simp,.nil (ae _)⟩
  |true=>
   have p:=iI hb;rw[oZ hb];simp only[aa];rw[dB,show(a:Int)+1=((a+1:Nat):Int) by omega];obtain⟨s,i,_⟩:=Rl (F:=F) (a+1);have j:=i (by omega);rw[YL (a+1) L u d (by omega) (by omega),afF (a+1) L u d (by omega) (by omega) hd.1 (by omega),bI,bI];simp only[MN];obtain⟨e,m,g1,g2,g3,g4,g5⟩:=afJ u d v hd N (Gu F (a+1)) (L++[Rn F (a+1) u]) (by omega) j (by grind);exact⟨e,[Rn F (a+1) u]++m,by rw[g1,ah],by rw[g2,ah],by omega,g4,by grind,(YJ (by omega) (ae _)).ap g5.2⟩
theorem aCc {k:Nat} (h:All F k) (a:Nat) (L:List Nd) (u d:Int) (q q':Nat) (hm:16*(F.length-a)+13<k) (hr:k+1<=q) (N:k<=q') (hp:MQ F a L d 104) (ab:gm F a [40]=true\/isW F a=true):
  ∃(g:Nat) (m:List Nd),(eH q).q287 F (a:Int) (bU L [opn 15 a u]) (bK L) d=some (PR F g (bU L [opn 15 a u]++m) (bK L) d,())/\
   (∀{z:Type} (K:(List Lf×List UInt8×List Nd×Int×Int×Int×Unit)×Unit->Option z) (B:Option z),
    (bJ (Gw F (jg F) L (a:Int) u d 15) fun x=>
     bJ (pU x.1.1 x.1.2.1 x.1.2.2.1 x.1.2.2.2.1 x.1.2.2.2.2.1 x.1.2.2.2.2.2.1 [40]) fun v=>
      bif v.2.1 then
       bJ (zO v.1.1 v.1.2.1 v.1.2.2.1 (cO .i64 v.1.2.2.2.1 1) v.1.2.2.2.2.1 v.1.2.2.2.2.2.1) fun j=>
        bJ (wZ (gZ q') bT x.2.1 j.1.1 j.1.2.1 j.1.2.2.2.1 j.1.2.2.2.2.1 j.1.2.2.2.2.2.1 j.1.2.2.1) fun A=>
         dR A (fun i=>
          bJ (oJ i.2.2.1.1 i.2.2.1.2.1 i.2.2.2.1 i.2.2.1.2.2.1 i.2.2.1.2.2.2.1 i.2.2.1.2.2.2.2.1 [41]) fun l=>
           bJ (uK l.1.1 l.1.2.1 l.1.2.2.1 l.1.2.2.2.1 l.1.2.2.2.2.1 l.1.2.2.2.2.2.1) fun o=>
            bJ (Tz o.1.1 o.1.2.1 o.1.2.2.1 o.1.2.2.2.1 o.1.2.2.2.2.1 o.1.2.2.2.2.2.1) fun f=>
             bif f.2.1 then
              bJ ((gZ q').q36 f.1.1 f.1.2.1 f.1.2.2.1 f.1.2.2.2.1 f.1.2.2.2.2.1 f.1.2.2.2.2.2.1) fun p=>
               bJ (rE p.1.1 p.1.2.1 p.1.2.2.1 p.1.2.2.2.1 p.1.2.2.2.2.1 p.1.2.2.2.2.2.1 i.1.1) K
             else
             bJ (rE f.1.1 f.1.2.1 f.1.2.2.1 f.1.2.2.2.1 f.1.2.2.2.2.1 f.1.2.2.2.2.2.1 i.1.1) K) (fun G=>B)
      else
      bJ (zO v.1.1 v.1.2.1 v.1.2.2.1 v.1.2.2.2.1 v.1.2.2.2.2.1 v.1.2.2.2.2.2.1) fun j=>
       bJ (wZ (gZ q') bT x.2.1 j.1.1 j.1.2.1 j.1.2.2.2.1 j.1.2.2.2.2.1 j.1.2.2.2.2.2.1 j.1.2.2.1) fun A=>
        dR A (fun i=>
         bJ (oJ i.2.2.1.1 i.2.2.1.2.1 i.2.2.2.1 i.2.2.1.2.2.1 i.2.2.1.2.2.2.1 i.2.2.1.2.2.2.2.1 [41]) fun l=>
          bJ (uK l.1.1 l.1.2.1 l.1.2.2.1 l.1.2.2.2.1 l.1.2.2.2.2.1 l.1.2.2.2.2.2.1) fun o=>
           bJ (Tz o.1.1 o.1.2.1 o.1.2.2.1 o.1.2.2.2.1 o.1.2.2.2.2.1 o.1.2.2.2.2.2.1) fun f=>
            bif f.2.1 then
             bJ ((gZ q').q36 f.1.1 f.1.2.1 f.1.2.2.1 f.1.2.2.2.1 f.1.2.2.2.2.1 f.1.2.2.2.2.2.1) fun p=>
              bJ (rE p.1.1 p.1.2.1 p.1.2.2.1 p.1.2.2.2.1 p.1.2.2.2.2.1 p.1.2.2.2.2.2.1 i.1.1) K
            else
            bJ (rE f.1.1 f.1.2.1 f.1.2.2.1 f.1.2.2.2.1 f.1.2.2.2.2.1 f.1.2.2.2.2.2.1 i.1.1) K) (fun G=>B))=K (RR F g (L++(15,(a:Int),(g:Int),u,())::m) u d,()))/\a<g/\g<=F.length/\m.length+4<=16*(g-a)/\Tr F a g (bK L) (L.length+1) m:=by
 obtain⟨p1,p2,y,I⟩:=hp;have ad:=hF.len;obtain⟨q,rfl⟩: ∃O,q=O+1:=⟨q-1,by omega⟩;have J:(bU L [opn 15 a u]).length=L.length+1:=by unfold bU;simp
 have M:bU L [opn 15 a u]=L++[(15,(a:Int),0,u,())]:=rfl;have S:a<=tk F a [40]/\tk F a [40]<=F.length:=by
  unfold tk;split
  .rename_i D;have:=iI D;omega
  .omega
 obtain⟨w1,U,w3⟩:=Rl (F:=F) (tk F a [40]);have V:=U S.2;have af:a+1<=Gu F (tk F a [40]):=by
  cases D:gm F a [40]with
  |true=>simp_all [oZ]
  |false=>
   grind
 obtain⟨e,s,g1,g2,g3,g4,g5⟩:=afJ hF (q:=eH q) (q':=gZ q') (bK L) d u ⟨y,I⟩ bT (Gu F (tk F a [40])) (bU L [opn 15 a u]++[Rn F (tk F a [40]) (bK L)]) (dJ) V (by grind);obtain⟨x1,W⟩:=KU (F:=F) e [41];have E:=W g4;have x4:=wH (F:=F) e [41] (bK L);have ai:=xR (F:=F) (sD F e [41]);have X:=zY (F:=F) E;have hM:(bU L [opn 15 a u]++[Rn F (tk F a [40]) (bK L)]++s++xH F e [41] (bK L)).length<=L.length+3+(e-Gu F (tk F a [40])):=by
  grind
 have aj: ∀(g:Nat) (m:List Nd) {z:Type} (K:(List Lf×List UInt8×List Nd×Int×Int×Int×Unit)×Unit->Option z),bJ (rE F (jg F) (bU L [opn 15 a u]++m) (g:Int) (bK L) d u) K=K (RR F g (L++(15,(a:Int),(g:Int),u,())::m) u d,()):=fun g m z K=>by
  rw[M,show bK L=((L.length:Nat):Int) from rfl,xO g _ u d L.length (by simp) (qI L _ 15 _ _) (by omega) (by omega) y (by omega),bI];simp only[qy,show jV 15=false from rfl,ag,if_false]
 have Y: ∃(g:Nat) (m:List Nd),∃(ak:qZ F (ln F (sD F e [41])) d=true->(eH q).q108 F ((ln F (sD F e [41]):Nat):Int) (bU (bU L [opn 15 a u]++[Rn F (tk F a [40]) (bK L)]++s++xH F e [41] (bK L)) [opn 2 (ln F (sD F e [41])) (bK L)]) (bK (bU L [opn 15 a u]++[Rn F (tk F a [40]) (bK L)]++s++xH F e [41] (bK L))) d=some (PR F g (bU (bU L [opn 15 a u]++[Rn F (tk F a [40]) (bK L)]++s++xH F e [41] (bK L)) [opn 2 (ln F (sD F e [41])) (bK L)]++m) (bK (bU L [opn 15 a u]++[Rn F (tk F a [40]) (bK L)]++s++xH F e [41] (bK L))) d,())/\
   (gZ q').q36 F (jg F) (bU L [opn 15 a u]++[Rn F (tk F a [40]) (bK L)]++s++xH F e [41] (bK L)) ((ln F (sD F e [41]):Nat):Int) (bK L) d=some (RR F g ((bU L [opn 15 a u]++[Rn F (tk F a [40]) (bK L)]++s++xH F e [41] (bK L))++(2,((ln F (sD F e [41]):Nat):Int),(g:Int),(bK L),())::m) (bK L) d,())),
   ln F (sD F e [41])<=g/\g<=F.length/\(qZ F (ln F (sD F e [41])) d=true->m.length+1<=16*(g-ln F (sD F e [41])))/\(qZ F (ln F (sD F e [41])) d=false->g=ln F (sD F e [41]))/\(qZ F (ln F (sD F e [41])) d=true->Tr F (ln F (sD F e [41])) g (bK (bU L [opn 15 a u]++[Rn F (tk F a [40]) (bK L)]++s++xH F e [41] (bK L))) ((bU L [opn 15 a u]++[Rn F (tk F a [40]) (bK L)]++s++xH F e [41] (bK L)).length+1) m):=by
  cases hb:qZ F (ln F (sD F e [41])) d with
  |true=>
   obtain⟨g,m,e1,e2,e3,e4,e5⟩:=h.list (ln F (sD F e [41])) (bU L [opn 15 a u]++[Rn F (tk F a [40]) (bK L)]++s++xH F e [41] (bK L)) (bK L) d q q' (by omega) (by omega) N ⟨X,by omega,y,I⟩ hb
   grind
  |false=>simp_all
 obtain⟨g,m,f1,f2,Z,f4,f5,f6⟩:=Y;refine⟨g,[Rn F (tk F a [40]) (bK L)]++s++xH F e [41] (bK L)++(if qZ F (ln F (sD F e [41])) d=true then(2,((ln F (sD F e [41]):Nat):Int),(g:Int),(bK L),())::m else []), ?_,fun K B=> ?_,by omega,Z, ?_⟩
 .show av6 (eH q) F (a:Int) _ _ d=_;rw[av6,kF hF a _ (bK L) d (by omega) [40] rfl,bI];simp only;rw[YL (tk F a [40]) _ _ d (by omega) (by rw[J];omega),bI];simp only[MN];rw[g1,bI];simp only[dR];rw[Dx hF e _ (bK L) d (by omega) (by grind) [41] rfl,bI];simp only[nR];rw[oq hF (sD F e [41]) _ (bK L) d E,bI];simp only;rw[yM hF (ln F (sD F e [41])) _ (bK L) d (by omega),bI];simp only;cases hb:qZ F (ln F (sD F e [41])) d with
  |true=>
   have n1:=(kP (bU L [opn 15 a u]++[Rn F (tk F a [40]) (bK L)]++s++xH F e [41] (bK L)) (opn 2 (ln F (sD F e [41])) (bK L)) (by omega)).1;obtain⟨c1,c2⟩:=oD (bU L [opn 15 a u]++[Rn F (tk F a [40]) (bK L)]++s++xH F e [41] (bK L)) m (opn 2 (ln F (sD F e [41])) (bK L));simp_all [eU,bI,kL]
  |false=>
   simp_all
 .rw[nD a L u d (by omega) (by omega) (by omega) y (by omega),bI];simp only[show jV 15=false from rfl,ag,if_false];rw[show((L.length:Nat):Int)=bK L from rfl,<-M,jH a _ (bK L) d [40] (by simp),bI];simp only;have al: ∀(b:Nat),b=tk F a [40]->(bJ (zO F (jg F) (bU L [opn 15 a u]) (b:Int) (bK L) d) fun j=>
        bJ (wZ (gZ q') bT u j.1.1 j.1.2.1 j.1.2.2.2.1 j.1.2.2.2.2.1 j.1.2.2.2.2.2.1 j.1.2.2.1) fun A=>
         dR A (fun i=>
          bJ (oJ i.2.2.1.1 i.2.2.1.2.1 i.2.2.2.1 i.2.2.1.2.2.1 i.2.2.1.2.2.2.1 i.2.2.1.2.2.2.2.1 [41]) fun l=>
           bJ (uK l.1.1 l.1.2.1 l.1.2.2.1 l.1.2.2.2.1 l.1.2.2.2.2.1 l.1.2.2.2.2.2.1) fun o=>
            bJ (Tz o.1.1 o.1.2.1 o.1.2.2.1 o.1.2.2.2.1 o.1.2.2.2.2.1 o.1.2.2.2.2.2.1) fun f=>
             bif f.2.1 then
              bJ ((gZ q').q36 f.1.1 f.1.2.1 f.1.2.2.1 f.1.2.2.2.1 f.1.2.2.2.2.1 f.1.2.2.2.2.2.1) fun p=>
               bJ (rE p.1.1 p.1.2.1 p.1.2.2.1 p.1.2.2.2.1 p.1.2.2.2.2.1 p.1.2.2.2.2.2.1 i.1.1) K
             else
             bJ (rE f.1.1 f.1.2.1 f.1.2.2.1 f.1.2.2.2.1 f.1.2.2.2.2.1 f.1.2.2.2.2.2.1 i.1.1) K) (fun G=>B))=K (RR F g (L++(15,(a:Int),(g:Int),u,())::([Rn F (tk F a [40]) (bK L)]++s++xH F e [41] (bK L)++(if qZ F (ln F (sD F e [41])) d=true then(2,((ln F (sD F e [41]):Nat):Int),(g:Int),(bK L),())::m else []))) u d,()):=by
   rintro b rfl;rw[afF (tk F a [40]) _ _ d (by omega) (by rw[J];omega) y (by omega),bI];simp only[MN];rw[g2,bI];simp only[dR];rw[Dy e _ (bK L) d (by omega) (by grind) y (by omega) [41] (by simp),bI];simp only[nR];rw[ou hF (sD F e [41]) _ (bK L) d E,bI];simp only;rw[KX (ln F (sD F e [41])) _ (bK L) d (by omega),bI];simp only;cases hb:qZ F (ln F (sD F e [41])) d with
   |true=>
    simp_all [bI]
   |false=>
    simp_all
  cases D:gm F a [40]with
  |true=>
   simp only[aa]
   grind [dB,oZ]
  |false=>
   simp_all [tC]
 .cases hb:qZ F (ln F (sD F e [41])) d with
  |true=>
   have:=f4 hb;rw[am rfl];exact⟨by grind,(((YJ (by omega) (ae _)).ap g5.2).apA fun _=>AB (ae e) (ae _)).ap (Tr.one (f6 hb) (ae _) (ae _) (by omega) rfl)⟩
  |false=>
   have:=f5 hb;rw[aq (by simp),bg];exact⟨by grind,((YJ (by omega) (ae _)).ap g5.2).apA fun _=>AB (ae e) (by omega)⟩
end
section
open Bool renaming not_true → ax, not_false → aA
open List renaming length_append → ai
open Nat renaming le_refl → ae
open Go.RowKit
variable {F:List Lf} (hF:Zo F)
include hF
theorem VF {k:Nat} (h:All F k) {q q':Nat} (z:k+1<=q) (A:k<=q') (u d:Int) (hd:0<=d/\d<=200): ∀(N o a:Nat) (L:List Nd),F.length-a<N->F.length-a+1<o->a<=F.length->16*(F.length-a)+13<k->L.length<=16*a+104->
  ∃(f:Nat) (m:List Nd),Jo (eH q) N F (a:Int) u d L=some (.inl ((),((),()),((F,(f:Int),u,d,()),L++m,())))/\
   BF (gZ q') o true F (jg F) (a:Int) u d L=some (.inl ((),((),()),((F,jg F,(f:Int),u,d,()),L++m,())))/\a<=f/\f<=F.length/\m.length<=16*(f-a)/\Tr F a f u L.length m
 |0,_,a,L,x,_,_,_,_=>by omega
 |N+1,0,a,L,_,x,_,_,_=>by omega
 |N+1,1,a,L,_,x,_,_,_=>by omega
 |N+1,o+2,a,L,x,V,B,W,G=>by
  have X:=hF.len
  (rewrite [Jo,U0,BF,Pg];delta vz;rw[abB hF a L u d (by omega) [40] rfl,jH a L u d [40] (by simp),bI,aa,bI])
  simp only;have Y:bY ((FT F a).toNat:Int) 122=gm F a [122]:=aaH a 122 (by decide);by_cases hgo:gm F a [40]=true\/(isW F a=true/\gm F a [122]=false)
  .obtain⟨e,l,Z,e2,e3,I,D⟩:=aCc hF h a L u d q q' (by omega) z A ⟨B,G,hd.1,hd.2⟩ (hgo.imp id And.left);obtain⟨n1,_,_⟩:=kP L (opn 15 a u) (by omega);obtain⟨c1,c2⟩:=oD L l (opn 15 a u);have ab:(L++(15,(a:Int),(e:Int),u,())::l).length<=16*e+104:=by grind
   have J: ∃(f:Nat) (m:List Nd),(bJ (mf F (e:Int) (L++(15,(a:Int),(e:Int),u,())::l) u d [121]) fun j=>
      bif(!j.2.1)then
       some (.inl ((),((),()),((j.1.1,j.1.2.1,j.1.2.2.2.1,j.1.2.2.2.2.1,()),j.1.2.2.1,())))
      else
      bJ (rD j.1.1 j.1.2.1 j.1.2.2.1 j.1.2.2.2.1 j.1.2.2.2.2.1) fun s=>
       Jo (eH q) N s.1.1 s.1.2.1 s.1.2.2.2.1 s.1.2.2.2.2.1 s.1.2.2.1)=some (.inl ((),((),()),((F,(f:Int),u,d,()),L++m,())))/\
     (bJ (pU F (jg F) (L++(15,(a:Int),(e:Int),u,())::l) (e:Int) u d [121]) fun i=>
      bif i.2.1 then
       bJ (uK i.1.1 i.1.2.1 i.1.2.2.1 (cO .i64 i.1.2.2.2.1 1) i.1.2.2.2.2.1 i.1.2.2.2.2.2.1) fun p=>
        BF (gZ q') (o+1) i.2.1 p.1.1 p.1.2.1 p.1.2.2.2.1 p.1.2.2.2.2.1 p.1.2.2.2.2.2.1 p.1.2.2.1
      else
      BF (gZ q') (o+1) i.2.1 i.1.1 i.1.2.1 i.1.2.2.2.1 i.1.2.2.2.2.1 i.1.2.2.2.2.2.1 i.1.2.2.1)=some (.inl ((),((),()),((F,jg F,(f:Int),u,d,()),L++m,())))/\a<=f/\f<=F.length/\m.length<=16*(f-a)/\Tr F a f u L.length m:=by
    rw[kF hF e _ u d (by omega) [121] rfl,jH e _ u d [121] (by simp),bI,bI];simp only;cases hb:gm F e [121]with
    |false=>
     rw[tC hb];simp only[aA,aa,ac]
     (rewrite [BF,Pg];delta vz;rw[ac])
     exact⟨e,(15,(a:Int),(e:Int),u,())::l,rfl,rfl,by omega,I,by grind,D.2.one (ae _) (ae _) (by omega) rfl⟩
    |true=>
     have v:=iI hb;rw[oZ hb];simp only[ax,aa,ac];have ad:=xR (F:=F) (e+1);have K:=zY (F:=F) (a:=e+1) (by omega);rw[dB,show(e:Int)+1=((e+1:Nat):Int) by omega,oq hF (e+1) _ u d (by omega),ou hF (e+1) _ u d (by omega),bI,bI];simp only;obtain⟨f,m,g1,g2,g3,g4,g5⟩:=VF h z A u d hd N (o+1) (ln F (e+1)) (L++(15,(a:Int),(e:Int),u,())::l) (by omega) (by omega) K (by omega) (by omega);exact⟨f,((15,(a:Int),(e:Int),u,())::l)++m,by simp_all,by simp_all,by omega,g4,by grind,(D.2.one (ae _) (ae _) (by omega) rfl).app g5.2 (by omega) (ai ..)⟩
   obtain⟨f,m,s1,s2,M,O,S⟩:=J;refine⟨f,m, ?_, ?_,M,O,S⟩
   .cases y:gm F a [40]with
    |true=>
     simp_all [eU,bI,kL]
    |false=>
     rcases hgo with g|⟨g1,g2⟩
     .simp_all
     .rw[wW a L u d,g1];simp only[ac,aa,bI];rw[qM hF a L u d (by omega),bI];simp_all [eU,bI,kL]
   .cases y:gm F a [40]with
    |true=>
     simp_all
    |false=>
     rcases hgo with g|⟨g1,g2⟩
     .simp_all
     .have v:=ack g1;have E:F[a].1=6:=by
       simp_all [isW]
      rw[ac,bW (b:=iF (a:Int) (bK F)) (fG (by rw[bM];omega)),bW (b:=gy F (a:Int)) (eF),BD v,bW (b:=bY F[a].1 6) (eG E),jH a L u d [122] (by simp),bI,g2];simp_all
  .have y:gm F a [40]=false:=by
    simp_all
   rw[y];simp only[ac];refine⟨a,[], ?_, ?_,ae _,B,by simp,.nil (ae _)⟩
   .rw[wW a L u d,bI];simp only;cases U:isW F a with
    |false=>simp
    |true=>
     have h2:gm F a [122]=true:=by
      simp_all
     simp only[aa]
     grind [qM,bI]
   .by_cases v:a<F.length
    .rw[bW (b:=iF (a:Int) (bK F)) (fG (by rw[bM];omega)),bW (b:=gy F (a:Int)) (eF),BD v];by_cases E:F[a].1=6
     .have U:isW F a=true:=by simp_all [isW]
      simp_all [jH,bI]
     simp_all [dG,dM]
    simp_all [dG,gU,bM]
theorem auu {k:Nat} (h:All F k) (a:Nat) (l:List Nd) (u d:Int) (r i:Nat) (G:16*(F.length-a)+13<k) (I:k+2<=r) (J:k+1<=i) (hp:MQ F a l d 100):
  ∃(e:Nat) (m:List Nd),(eH r).q277 F (a:Int) l u d=some (PR F e (l++m) u d,())/\
   (gZ i).q249 F (jg F) l (a:Int) u d=some (RR F e (l++m) u d,())/\a<=e/\e<=F.length/\m.length<=16*(e-a)+3/\Tr F a e u l.length m:=by
 obtain⟨s,K,j,v⟩:=hp;have L:=hF.len;obtain⟨q,rfl⟩: ∃q,r=q+1:=⟨r-1,by omega⟩;obtain⟨g,rfl⟩: ∃g,i=g+1:=⟨i-1,by omega⟩;obtain⟨M,x,N⟩:=Rl (F:=F) a;have o:=x s;have O:=xR (F:=F) (Gu F a);have y:=zY (F:=F) o;obtain⟨S,z⟩:=KU (F:=F) (ln F (Gu F a)) [107];have p:=z y;have U:=wH (F:=F) (ln F (Gu F a)) [107] u;have V:=xR (F:=F) (sD F (ln F (Gu F a)) [107]);have A:=zY (F:=F) p;obtain⟨f,B,g1,g2,g3,g4,g5⟩:=VF hF h (q:=q) (q':=g) (by omega) (by omega) u d ⟨j,v⟩ bT bT (ln F (sD F (ln F (Gu F a)) [107])) (l++[Rn F a u]++xH F (ln F (Gu F a)) [107] u) (dJ) (dJ) A (by omega) (by grind);obtain⟨W,D⟩:=KU (F:=F) f [122];have E:=D g4;have X:=wH (F:=F) f [122] u;refine⟨sD F f [122],[Rn F a u]++xH F (ln F (Gu F a)) [107] u++B++xH F f [122] u, ?_, ?_,by omega,E,by grind,(((YJ (ae a) (ae _)).apA fun _=>AB (ae (ln F (Gu F a))) (ae _)).ap g5.2).apA fun _=>AB (ae f) (by omega)⟩
 .show av3 (eH q) F (a:Int) l u d=_;rw[av3,YL a l u d (by omega) (by omega),bI];simp only[MN];rw[oq hF (Gu F a) _ u d o,bI];simp only;rw[Dx hF (ln F (Gu F a)) _ u d (by omega) (by grind) [107] rfl,bI];simp only[nR];rw[oq hF (sD F (ln F (Gu F a)) [107]) _ u d p,bI];simp only;rw[g1,bI];simp only[dR];rw[Dx hF f _ u d (by omega) (by grind) [122] rfl,bI];simp_all [nR]
 .show avW (gZ g) F (jg F) l (a:Int) u d=_;rw[avW,afF a l u d (by omega) (by omega) j (by omega),bI];simp only[MN];rw[ou hF (Gu F a) _ u d o,bI];simp only;rw[Dy (ln F (Gu F a)) _ u d (by omega) (by grind) j (by omega) [107] (by simp),bI];simp only[nR];rw[ou hF (sD F (ln F (Gu F a)) [107]) _ u d p,bI]
  grind [bI,dR,Dy,nR]
end
section
open Option renaming some → a6, none → a7
open Bool renaming and_eq_true → af, and_true → ay
open List renaming append_assoc → ah
open Nat renaming le_refl → ae
open Go.RowKit
theorem aHf (q':jl) (F:List Lf) (S:bV) (a u d:Int) (l:List Nd):yl q' bT 123 9 0 F S a u d l=a6 (.inl ((9,()),((),()),((F,S,a,u,d,()),l,()))):=by kernel_rfl
theorem aCi (q':jl) (F:List Lf) (S:bV) (a u d:Int) (l:List Nd):yl q' bT 40 9 0 F S a u d l=a6 (.inl ((10,()),((),()),((F,S,a,u,d,()),l,()))):=by kernel_rfl
theorem aCj (q':jl) (F:List Lf) (S:bV) (a u d:Int) (l:List Nd):yl q' bT 105 9 0 F S a u d l=a6 (.inl ((11,()),((),()),((F,S,a,u,d,()),l,()))):=by kernel_rfl
theorem aCk (q':jl) (F:List Lf) (S:bV) (a u d:Int) (l:List Nd):yl q' bT 119 9 0 F S a u d l=a6 (.inl ((12,()),((),()),((F,S,a,u,d,()),l,()))):=by kernel_rfl
theorem aCl (q':jl) (F:List Lf) (S:bV) (a u d:Int) (l:List Nd):yl q' bT 114 9 0 F S a u d l=a6 (.inl ((13,()),((),()),((F,S,a,u,d,()),l,()))):=by kernel_rfl
theorem aCm (q':jl) (F:List Lf) (S:bV) (a u d:Int) (l:List Nd):yl q' bT 99 9 0 F S a u d l=a6 (.inl ((14,()),((),()),((F,S,a,u,d,()),l,()))):=by kernel_rfl
variable {F:List Lf} (hF:Zo F)
include hF
theorem aLw {n:Nat} (h2:All F (n-2)) (a:Nat) (l:List Nd) (u d:Int) (q q':Nat) (N:16*(F.length-a)+8<n+1) (O:n<=q) (S:n<=q') (hp:MQ F a l d 113) (v:a<F.length) (hd:d<200) (j:FT F a=123):
  ∃(e:Nat) (m:List Nd),DW (eH q) F (a:Int) l u d=a6 (PR F e (l++m) u d,())/\
   DV (gZ q') F (jg F) l (a:Int) u d=a6 (RR F e (l++m) u d,())/\a<e/\e<=F.length/\m.length+3<=16*(e-a)/\Tr F a e u l.length m:=by
 obtain⟨U,V,x,W⟩:=hp;have X:=hF.len;obtain⟨f,rfl⟩: ∃f,q=f+1:=⟨q-1,by omega⟩;have o:(bU l [opn 9 a u]).length=l.length+1:=by unfold bU;simp
 have p:bU l [opn 9 a u]=l++[(9,(a:Int),0,u,())]:=rfl;obtain⟨y,_,_⟩:=kP l (opn 9 a u) (by omega);obtain⟨z,g,A,B,Y,D,E⟩:=aeW hF h2 (a+1) (bU l [opn 9 a u]) (bK l) (d+1) f q' [125] rfl (by simp) (by omega) (by omega) (by omega) ⟨by omega,by rw[o];omega,by omega,by omega⟩;obtain⟨i,s,G,I,Z,J,K⟩:=aJi hF (q:=eH (f+1)) (q':=gZ q') (bK l) (d+1) u (bK l) u 9 9 9 9 ⟨by omega,by omega⟩ z (bU l [opn 9 a u]++g) D (by grind);obtain⟨L,M⟩:=oD l (g++s) (opn 9 a u);refine⟨i,(9,(a:Int),(i:Int),u,())::(g++s), ?_, ?_,by omega,J,by grind,Tr.one (((o▸E.2).wide (by omega) (ae _)).ap K.2) (ae _) (ae _) (by omega) rfl⟩
 .rw[DW];simp only[eU,iD,ay,aa,bI];rw[qM hF a l u d (by omega),bI];simp only[j,show bY (((123:UInt8).toNat:Nat):Int) 40=false from by kernel_rfl,show bY (((123:UInt8).toNat:Nat):Int) 105=false from by kernel_rfl,show bY (((123:UInt8).toNat:Nat):Int) 119=false from by kernel_rfl,show bY (((123:UInt8).toNat:Nat):Int) 114=false from by kernel_rfl,show bY (((123:UInt8).toNat:Nat):Int) 99=false from by kernel_rfl,aa,ac,y];rw[dB,dB,show(a:Int)+1=((a+1:Nat):Int) by omega];show bJ (avY (eH f) F ((a+1:Nat):Int) _ _ _) _=_;rw[avY,A,bI];simp only;rw[G,bI];simp only[dR];rw[ah,ig];simp only[L,M,aa,kL,show d+1-1=d by omega]
 ·(rewrite [DV];delta pG;rw[bW (b:=gy (jg F) (a:Int)) (eF (by omega) (by simp_all)),Dq v,j,show(((123:UInt8).toNat:Nat):Int)=123 from by kernel_rfl,aHf,bI])
  simp only[dR];rw[nD a l u d (by omega) (by omega) (by omega) x (by omega),bI];simp only[show jV 9=true from by kernel_rfl,if_true,show bY (9:Int) 9=true from by kernel_rfl,aa,ac];rw[show((l.length:Nat):Int)=bK l from rfl,<-p,dB,show(a:Int)+1=((a+1:Nat):Int) by omega];refine(B _).trans ?_;simp only;rw[I,bI];simp only[dR];rw[ah,p,show bK l=((l.length:Nat):Int) from rfl,xO i _ u (d+1) l.length (by simp) (qI l _ 9 _ _) (by omega) (by omega) (by omega) (by omega),bI];simp only[qy,show jV 9=true from by kernel_rfl,if_true,show d+1-1=d by omega]
theorem aGF {n:Nat} (h2:All F (n-2)) (a:Nat) (l:List Nd) (u d:Int) (q q':Nat) (N:16*(F.length-a)+8<n+1) (O:n<=q) (S:n<=q') (hp:MQ F a l d 113) (v:a<F.length) (hd:d<200) (j:FT F a=40):
  ∃(e:Nat) (m:List Nd),DW (eH q) F (a:Int) l u d=a6 (PR F e (l++m) u d,())/\
   DV (gZ q') F (jg F) l (a:Int) u d=a6 (RR F e (l++m) u d,())/\a<e/\e<=F.length/\m.length+3<=16*(e-a)/\Tr F a e u l.length m:=by
 obtain⟨U,V,x,W⟩:=hp;have X:=hF.len;obtain⟨f,rfl⟩: ∃f,q=f+1:=⟨q-1,by omega⟩;have o:(bU l [opn 10 a u]).length=l.length+1:=by unfold bU;simp
 have p:bU l [opn 10 a u]=l++[(10,(a:Int),0,u,())]:=rfl;obtain⟨y,_,_⟩:=kP l (opn 10 a u) (by omega);obtain⟨z,g,A,B,Y,D,E⟩:=aeW hF h2 (a+1) (bU l [opn 10 a u]) (bK l) (d+1) f q' [41] rfl (by simp) (by omega) (by omega) (by omega) ⟨by omega,by rw[o];omega,by omega,by omega⟩;obtain⟨i,s,G,I,Z,J,K⟩:=aOz hF (q:=eH (f+1)) (q':=gZ q') (bK l) (d+1) u (bK l) u 10 10 10 10 ⟨by omega,by omega⟩ z (bU l [opn 10 a u]++g) D (by grind);obtain⟨L,M⟩:=oD l (g++s) (opn 10 a u);refine⟨i,(10,(a:Int),(i:Int),u,())::(g++s), ?_, ?_,by omega,J,by grind,Tr.one (((o▸E.2).wide (by omega) (ae _)).ap K.2) (ae _) (ae _) (by omega) rfl⟩
 .rw[DW];simp only[eU,iD,ay,aa,bI];rw[qM hF a l u d (by omega),bI];simp only[j,show bY (((40:UInt8).toNat:Nat):Int) 40=true from by kernel_rfl,aa,ac,y];rw[dB,dB,show(a:Int)+1=((a+1:Nat):Int) by omega];show bJ (avZ (eH f) F ((a+1:Nat):Int) _ _ _) _=_;rw[avZ,A,bI];simp only;rw[G,bI];simp only[dR];rw[ah,ig];simp only[L,M,aa,kL,show d+1-1=d by omega]
 ·(rewrite [DV];delta pG;rw[bW (b:=gy (jg F) (a:Int)) (eF (by omega) (by simp_all)),Dq v,j,show(((40:UInt8).toNat:Nat):Int)=40 from by kernel_rfl,aCi,bI])
  simp only[dR];rw[nD a l u d (by omega) (by omega) (by omega) x (by omega),bI];simp only[show jV 10=true from by kernel_rfl,if_true,show bY (10:Int) 9=false from by kernel_rfl,show bY (10:Int) 10=true from by kernel_rfl,aa,ac];rw[show((l.length:Nat):Int)=bK l from rfl,<-p,dB,show(a:Int)+1=((a+1:Nat):Int) by omega];refine(B _).trans ?_;simp only;rw[I,bI];simp only[dR];rw[ah,p,show bK l=((l.length:Nat):Int) from rfl,xO i _ u (d+1) l.length (by simp) (qI l _ 10 _ _) (by omega) (by omega) (by omega) (by omega),bI];simp only[qy,show jV 10=true from by kernel_rfl,if_true,show d+1-1=d by omega]
theorem aGG {n:Nat} (h2:All F (n-2)) (a:Nat) (l:List Nd) (u d:Int) (q q':Nat) (V:16*(F.length-a)+8<n+1) (W:n<=q) (X:n<=q') (hp:MQ F a l d 113) (z:a<F.length) (hd:d<200) (p:FT F a=105):
  ∃(f:Nat) (m:List Nd),DW (eH q) F (a:Int) l u d=a6 (PR F f (l++m) u d,())/\
   DV (gZ q') F (jg F) l (a:Int) u d=a6 (RR F f (l++m) u d,())/\a<f/\f<=F.length/\m.length+3<=16*(f-a)/\Tr F a f u l.length m:=by
 obtain⟨Y,Z,A,p4⟩:=hp;have ab:=hF.len;obtain⟨i,rfl⟩: ∃i,q=i+1:=⟨q-1,by omega⟩;have s:(bU l [opn 11 a u]).length=l.length+1:=by unfold bU;simp
 have v:bU l [opn 11 a u]=l++[(11,(a:Int),0,u,())]:=rfl;obtain⟨B,_,_⟩:=kP l (opn 11 a u) (by omega);obtain⟨D,j,E,G,e3,I,J⟩:=aL3 hF h2 (a+1) (bU l [opn 11 a u]) (bK l) (d+1) u (i+1) q' (by omega) (by omega) (by omega) ⟨by omega,by rw[s];omega,by omega,by omega⟩;obtain⟨o,x,K,L,f3,M,N⟩:=aJe hF (q:=eH (i+1)) (q':=gZ q') (bK l) (d+1) u (bK l) u 11 11 11 11 ⟨by omega,by omega⟩ D (bU l [opn 11 a u]++j) I (by grind);obtain⟨O,S⟩:=oD l (j++x) (opn 11 a u);refine⟨o,(11,(a:Int),(o:Int),u,())::(j++x), ?_, ?_,by omega,M,by grind,Tr.one (((s▸J.2).wide (by omega) (ae _)).ap N.2) (ae _) (ae _) (by omega) rfl⟩
 .rw[DW];simp only[eU,iD,ay,aa,bI];rw[qM hF a l u d (by omega),bI];simp only[p,show bY (((105:UInt8).toNat:Nat):Int) 40=false from by kernel_rfl,show bY (((105:UInt8).toNat:Nat):Int) 105=true from by kernel_rfl,aa,ac,B];rw[dB,dB,show(a:Int)+1=((a+1:Nat):Int) by omega];rw[E,bI];simp only;rw[K,bI];simp only[dR];rw[ah,ig];simp only[O,S,aa,kL,show d+1-1=d by omega]
 ·(rewrite [DV];delta pG;rw[bW (b:=gy (jg F) (a:Int)) (eF (by omega) (by simp_all)),Dq z,p,show(((105:UInt8).toNat:Nat):Int)=105 from by kernel_rfl,aCj,bI])
  simp only[dR];rw[nD a l u d (by omega) (by omega) (by omega) A (by omega),bI];simp only[show jV 11=true from by kernel_rfl,if_true,show bY (11:Int) 9=false from by kernel_rfl,show bY (11:Int) 10=false from by kernel_rfl,show bY (11:Int) 11=true from by kernel_rfl,aa,ac];rw[show((l.length:Nat):Int)=bK l from rfl,<-v,dB,show(a:Int)+1=((a+1:Nat):Int) by omega];refine(G (fun w y=>bJ (jG (gZ q') bT w y.1.1 y.1.2.1 y.1.2.2.2.1 y.1.2.2.2.2.1 y.1.2.2.2.2.2.1 y.1.2.2.1) fun U=>
   dR U (fun e=>
    bJ (rE e.2.2.1.1 e.2.2.1.2.1 e.2.2.2.1 e.2.2.1.2.2.1 e.2.2.1.2.2.2.1 e.2.2.1.2.2.2.2.1 e.1.1) fun g=>
     a6 ((g.1.1,(g.1.2.1,(g.1.2.2.1,(g.1.2.2.2.1,(g.1.2.2.2.2.1,(g.1.2.2.2.2.2.1,())))))),())) (fun b6=>a7))).trans ?_
  simp only;rw[L,bI];simp only[dR];rw[ah,v,show bK l=((l.length:Nat):Int) from rfl,xO o _ u (d+1) l.length (by simp) (qI l _ 11 _ _) (by omega) (by omega) (by omega) (by omega),bI];simp only[qy,show jV 11=true from by kernel_rfl,if_true,show d+1-1=d by omega]
theorem aGH {n:Nat} (h2:All F (n-2)) (a:Nat) (l:List Nd) (u d:Int) (q q':Nat) (N:16*(F.length-a)+8<n+1) (O:n<=q) (S:n<=q') (hp:MQ F a l d 113) (v:a<F.length) (hd:d<200) (j:FT F a=119):
  ∃(e:Nat) (m:List Nd),DW (eH q) F (a:Int) l u d=a6 (PR F e (l++m) u d,())/\
   DV (gZ q') F (jg F) l (a:Int) u d=a6 (RR F e (l++m) u d,())/\a<e/\e<=F.length/\m.length+3<=16*(e-a)/\Tr F a e u l.length m:=by
 obtain⟨U,V,x,W⟩:=hp;have X:=hF.len;obtain⟨f,rfl⟩: ∃f,q=f+1:=⟨q-1,by omega⟩;have o:(bU l [opn 12 a u]).length=l.length+1:=by unfold bU;simp
 have p:bU l [opn 12 a u]=l++[(12,(a:Int),0,u,())]:=rfl;obtain⟨y,_,_⟩:=kP l (opn 12 a u) (by omega);obtain⟨z,g,A,B,Y,D,E⟩:=aAS hF h2 (a+1) (bU l [opn 12 a u]) (bK l) (d+1) (f+1) q' (by omega) (by omega) (by omega) ⟨by omega,by rw[o];omega,by omega,by omega⟩;obtain⟨i,s,G,I,Z,J,K⟩:=aJf hF (q:=eH (f+1)) (q':=gZ q') (bK l) (d+1) u (bK l) u 12 12 12 12 ⟨by omega,by omega⟩ z (bU l [opn 12 a u]++g) D (by grind);obtain⟨L,M⟩:=oD l (g++s) (opn 12 a u);refine⟨i,(12,(a:Int),(i:Int),u,())::(g++s), ?_, ?_,by omega,J,by grind,Tr.one (((o▸E.2).wide (by omega) (ae _)).ap K.2) (ae _) (ae _) (by omega) rfl⟩
 .rw[DW];simp only[eU,iD,ay,aa,bI];rw[qM hF a l u d (by omega),bI];simp only[j,show bY (((119:UInt8).toNat:Nat):Int) 40=false from by kernel_rfl,show bY (((119:UInt8).toNat:Nat):Int) 105=false from by kernel_rfl,show bY (((119:UInt8).toNat:Nat):Int) 119=true from by kernel_rfl,aa,ac,y];rw[dB,dB,show(a:Int)+1=((a+1:Nat):Int) by omega];rw[A,bI];simp only;rw[G,bI];simp only[dR];rw[ah,ig];simp only[L,M,aa,kL,show d+1-1=d by omega]
 ·(rewrite [DV];delta pG;rw[bW (b:=gy (jg F) (a:Int)) (eF (by omega) (by simp_all)),Dq v,j,show(((119:UInt8).toNat:Nat):Int)=119 from by kernel_rfl,aCk,bI])
  simp only[dR];rw[nD a l u d (by omega) (by omega) (by omega) x (by omega),bI];simp only[show jV 12=true from by kernel_rfl,if_true,show bY (12:Int) 9=false from by kernel_rfl,show bY (12:Int) 10=false from by kernel_rfl,show bY (12:Int) 11=false from by kernel_rfl,show bY (12:Int) 12=true from by kernel_rfl,aa,ac];rw[show((l.length:Nat):Int)=bK l from rfl,<-p,dB,show(a:Int)+1=((a+1:Nat):Int) by omega];refine(B _).trans ?_;simp only;rw[I,bI];simp only[dR];rw[ah,p,show bK l=((l.length:Nat):Int) from rfl,xO i _ u (d+1) l.length (by simp) (qI l _ 12 _ _) (by omega) (by omega) (by omega) (by omega),bI];simp only[qy,show jV 12=true from by kernel_rfl,if_true,show d+1-1=d by omega]
theorem aGI {n:Nat} (h2:All F (n-2)) (a:Nat) (l:List Nd) (u d:Int) (q q':Nat) (N:16*(F.length-a)+8<n+1) (O:n<=q) (S:n<=q') (hp:MQ F a l d 113) (v:a<F.length) (hd:d<200) (j:FT F a=114):
  ∃(e:Nat) (m:List Nd),DW (eH q) F (a:Int) l u d=a6 (PR F e (l++m) u d,())/\
   DV (gZ q') F (jg F) l (a:Int) u d=a6 (RR F e (l++m) u d,())/\a<e/\e<=F.length/\m.length+3<=16*(e-a)/\Tr F a e u l.length m:=by
 obtain⟨U,V,x,W⟩:=hp;have X:=hF.len;obtain⟨f,rfl⟩: ∃f,q=f+1:=⟨q-1,by omega⟩;have o:(bU l [opn 13 a u]).length=l.length+1:=by unfold bU;simp
 have p:bU l [opn 13 a u]=l++[(13,(a:Int),0,u,())]:=rfl;obtain⟨y,_,_⟩:=kP l (opn 13 a u) (by omega);obtain⟨z,g,A,B,Y,D,E⟩:=aBq hF h2 (a+1) (bU l [opn 13 a u]) (bK l) (d+1) (f+1) q' (by omega) (by omega) (by omega) ⟨by omega,by rw[o];omega,by omega,by omega⟩;obtain⟨i,s,G,I,Z,J,K⟩:=aJg hF (q:=eH (f+1)) (q':=gZ q') (bK l) (d+1) u (bK l) u 13 13 13 13 ⟨by omega,by omega⟩ z (bU l [opn 13 a u]++g) D (by grind);obtain⟨L,M⟩:=oD l (g++s) (opn 13 a u);refine⟨i,(13,(a:Int),(i:Int),u,())::(g++s), ?_, ?_,by omega,J,by grind,Tr.one (((o▸E.2).wide (by omega) (ae _)).ap K.2) (ae _) (ae _) (by omega) rfl⟩
 .rw[DW];simp only[eU,iD,ay,aa,bI];rw[qM hF a l u d (by omega),bI];simp only[j,show bY (((114:UInt8).toNat:Nat):Int) 40=false from by kernel_rfl,show bY (((114:UInt8).toNat:Nat):Int) 105=false from by kernel_rfl,show bY (((114:UInt8).toNat:Nat):Int) 119=false from by kernel_rfl,show bY (((114:UInt8).toNat:Nat):Int) 114=true from by kernel_rfl,aa,ac,y];rw[dB,dB,show(a:Int)+1=((a+1:Nat):Int) by omega];rw[A,bI];simp only;rw[G,bI];simp only[dR];rw[ah,ig];simp only[L,M,aa,kL,show d+1-1=d by omega]
 ·(rewrite [DV];delta pG;rw[bW (b:=gy (jg F) (a:Int)) (eF (by omega) (by simp_all)),Dq v,j,show(((114:UInt8).toNat:Nat):Int)=114 from by kernel_rfl,aCl,bI])
  simp only[dR];rw[nD a l u d (by omega) (by omega) (by omega) x (by omega),bI];simp only[show jV 13=true from by kernel_rfl,if_true,show bY (13:Int) 9=false from by kernel_rfl,show bY (13:Int) 10=false from by kernel_rfl,show bY (13:Int) 11=false from by kernel_rfl,show bY (13:Int) 12=false from by kernel_rfl,show bY (13:Int) 13=true from by kernel_rfl,aa,ac];rw[show((l.length:Nat):Int)=bK l from rfl,<-p,dB,show(a:Int)+1=((a+1:Nat):Int) by omega];rw[B,bI];simp only;rw[I,bI];simp only[dR];rw[ah,p,show bK l=((l.length:Nat):Int) from rfl,xO i _ u (d+1) l.length (by simp) (qI l _ 13 _ _) (by omega) (by omega) (by omega) (by omega),bI];simp only[qy,show jV 13=true from by kernel_rfl,if_true,show d+1-1=d by omega]
theorem aGJ {n:Nat} (h2:All F (n-2)) (a:Nat) (l:List Nd) (u d:Int) (q q':Nat) (N:16*(F.length-a)+8<n+1) (O:n<=q) (S:n<=q') (hp:MQ F a l d 113) (v:a<F.length) (hd:d<200) (j:FT F a=99):
  ∃(e:Nat) (m:List Nd),DW (eH q) F (a:Int) l u d=a6 (PR F e (l++m) u d,())/\
   DV (gZ q') F (jg F) l (a:Int) u d=a6 (RR F e (l++m) u d,())/\a<e/\e<=F.length/\m.length+3<=16*(e-a)/\Tr F a e u l.length m:=by
 obtain⟨U,V,x,W⟩:=hp;have X:=hF.len;obtain⟨f,rfl⟩: ∃f,q=f+1:=⟨q-1,by omega⟩;have o:(bU l [opn 14 a u]).length=l.length+1:=by unfold bU;simp
 have p:bU l [opn 14 a u]=l++[(14,(a:Int),0,u,())]:=rfl;obtain⟨y,_,_⟩:=kP l (opn 14 a u) (by omega);obtain⟨z,g,A,B,Y,D,E⟩:=auu hF h2 (a+1) (bU l [opn 14 a u]) (bK l) (d+1) (f+1) q' (by omega) (by omega) (by omega) ⟨by omega,by rw[o];omega,by omega,by omega⟩;obtain⟨i,s,G,I,Z,J,K⟩:=aJh hF (q:=eH (f+1)) (q':=gZ q') (bK l) (d+1) u (bK l) u 14 14 14 14 ⟨by omega,by omega⟩ z (bU l [opn 14 a u]++g) D (by grind);obtain⟨L,M⟩:=oD l (g++s) (opn 14 a u);refine⟨i,(14,(a:Int),(i:Int),u,())::(g++s), ?_, ?_,by omega,J,by grind,Tr.one (((o▸E.2).wide (by omega) (ae _)).ap K.2) (ae _) (ae _) (by omega) rfl⟩
 .rw[DW];simp only[eU,iD,ay,aa,bI];rw[qM hF a l u d (by omega),bI];simp only[j,show bY (((99:UInt8).toNat:Nat):Int) 40=false from by kernel_rfl,show bY (((99:UInt8).toNat:Nat):Int) 105=false from by kernel_rfl,show bY (((99:UInt8).toNat:Nat):Int) 119=false from by kernel_rfl,show bY (((99:UInt8).toNat:Nat):Int) 114=false from by kernel_rfl,show bY (((99:UInt8).toNat:Nat):Int) 99=true from by kernel_rfl,aa,ac,y];rw[dB,dB,show(a:Int)+1=((a+1:Nat):Int) by omega];rw[A,bI];simp only;rw[G,bI];simp only[dR];rw[ah,ig];simp only[L,M,aa,kL,show d+1-1=d by omega]
 ·(rewrite [DV];delta pG;rw[bW (b:=gy (jg F) (a:Int)) (eF (by omega) (by simp_all)),Dq v,j,show(((99:UInt8).toNat:Nat):Int)=99 from by kernel_rfl,aCm,bI])
  simp only[dR];rw[nD a l u d (by omega) (by omega) (by omega) x (by omega),bI];simp only[show jV 14=true from by kernel_rfl,if_true,show bY (14:Int) 9=false from by kernel_rfl,show bY (14:Int) 10=false from by kernel_rfl,show bY (14:Int) 11=false from by kernel_rfl,show bY (14:Int) 12=false from by kernel_rfl,show bY (14:Int) 13=false from by kernel_rfl,show bY (14:Int) 14=true from by kernel_rfl,aa,ac];rw[show((l.length:Nat):Int)=bK l from rfl,<-p,dB,show(a:Int)+1=((a+1:Nat):Int) by omega];rw[B,bI];simp only;rw[I,bI];simp only[dR];rw[ah,p,show bK l=((l.length:Nat):Int) from rfl,xO i _ u (d+1) l.length (by simp) (qI l _ 14 _ _) (by omega) (by omega) (by omega) (by omega),bI];simp only[qy,show jV 14=true from by kernel_rfl,if_true,show d+1-1=d by omega]
theorem YS {n:Nat} (h2:All F (n-2)) (a:Nat) (l:List Nd) (u d:Int) (r o:Nat) (g:16*(F.length-a)+8<n+1) (v:n+1<=r) (x:n+1<=o) (hp:MQ F a l d 113) (s:GI F a d=true):
  ∃(i:Nat) (m:List Nd),(eH r).q263 F (a:Int) l u d=a6 (PR F i (l++m) u d,())/\
   (gZ o).q214 F (jg F) l (a:Int) u d=a6 (RR F i (l++m) u d,())/\a<i/\i<=F.length/\m.length+3<=16*(i-a)/\Tr F a i u l.length m:=by
 obtain⟨q,rfl⟩: ∃q,r=q+1:=⟨r-1,by omega⟩;obtain⟨f,rfl⟩: ∃f,o=f+1:=⟨o-1,by omega⟩;unfold GI at s;simp only[af,decide_eq_true_eq]at s;obtain⟨hd,p⟩:=s;have j:=iI p;unfold gm at p;simp only[af,decide_eq_true_eq,List.contains_eq_mem,List.mem_cons,List.not_mem_nil,or_false]at p;rcases p.2 with e|e|e|e|e|e
 .exact aLw hF h2 a l u d q f g (by omega) (by omega) hp j hd e
 .exact aGF hF h2 a l u d q f g (by omega) (by omega) hp j hd e
 .exact aGG hF h2 a l u d q f g (by omega) (by omega) hp j hd e
 .exact aGH hF h2 a l u d q f g (by omega) (by omega) hp j hd e
 .exact aGI hF h2 a l u d q f g (by omega) (by omega) hp j hd e
 .exact aGJ hF h2 a l u d q f g (by omega) (by omega) hp j hd e
end
section
open Bool renaming false_eq_true → ag, not_true → ax, and_true → ay, not_false → aA
open List renaming length_append → ai, nil_append → aB, getElem_mem → aP, take_of_length_le → bG
open Nat renaming le_refl → ae
open Go.RowKit
variable {F:List Lf} (hF:Zo F)
include hF
theorem aGk (n:Nat):All F n:=by
 induction n using Nat.strongRecOn with
 |_ n o=>
  cases n with
  |zero=>exact⟨fun a l u d r e h=>by omega,fun a l u d r e h=>by omega,fun a l u d r e h=>by omega,fun a l u d r h=>by omega,fun a l u d r e h=>by omega,fun a l u d r e h=>by omega,fun a l u d r e h=>by omega⟩
  |succ n=>
   have h:=o n (by omega);have p:=o (n-1) (by omega);have q:=o (n-2) (by omega);exact⟨fun a l u d r e i f j g m=>arA hF h a l u d r e i f j g m,
    fun a l u d r e i f j g m=>aiJ hF h a l u d r e i f j g m,
    fun a l u d r e i f j g m=>ar0 hF h a l u d r e i f j g m,
    fun a l u d r i f g m=>ahw hF a l u d r f g m,
    fun a l u d r e i f j g=>abC hF h p a l u d r e i f j g,
    fun a l u d r e i f j g m=>YS hF q a l u d r e i f j g m,
    fun a l u d r e i f j g=>ap5 hF h a l u d r e i f j g⟩
theorem X7: ∀(N a:Nat),F.length-a<N->a<=F.length->
  Qi N F ((jg F).take a) (a:Int)=some (.inl ((F,jg F,()),()))
 |0,a,h,_=>by omega
 |N+1,a,g,i=>by
  have j:=hF.len;rw[Qi,ae0];by_cases h:a<F.length
  .rw[bW (b:=iF (a:Int) (bK F)) (fG (by rw[bM];omega)),bW (b:=gy F (a:Int)) (eF),BD h];have d:nS F[a]=some ([QO F[a]],()):=(azc (hF.txt _ (aP h))).2;rw[d,bI];have e:iQ ((jg F).take a) [QO F[a]]=true:=by
    unfold iQ mJ
    grind
   simp only[e,aa];rw[dB,show(a:Int)+1=((a+1:Nat):Int) by omega];have f:bU ((jg F).take a) [QO F[a]]=(jg F).take (a+1):=by
    simp_all [bU,List.take_add_one]
   rw[f];exact X7 N (a+1) (by omega) (by omega)
  simp_all [dG,gU,bM,bG]
theorem PD (w:Int): ∀(N a:Nat) (L:List Nd) (b:Bool) (v:Int),F.length-a<N->a<=F.length->L.length<=16*a+1->bY v 2=b->
  ∃m,Ff N b F (a:Int) 0 0 L=some (.inl ((),((),()),((F,((F.length:Nat):Int),0,0,()),L++m,())))/\
   LK N F w v L F (jg F) (a:Int) 0 0=some (.inl ((w,()),(L++m,(F,jg F,((F.length:Nat):Int),0,0,()),())))/\m.length<=16*(F.length-a)/\Tr F a F.length 0 L.length m
 |0,a,L,b,v,i,_,_,_=>by omega
 |N+1,a,L,b,v,i,j,u,f=>by
  have x:=hF.len;rw[Ff,QS,LK,ae1];by_cases h:a<F.length
  .rw[bW (b:=iF (a:Int) (bK F)) (fG (by rw[bM];omega)),bW (b:=iF (a:Int) (bK F)) (fG (by rw[bM];omega)),kF hF a L 0 0 (by omega) [110] rfl,jH a L 0 0 [110] (by simp),bI,bI];simp only;have g: ∃m,Ff N false F ((a+1:Nat):Int) 0 0 (L++[(17,(a:Int),((a+1:Nat):Int),0,())])=some (.inl ((),((),()),((F,((F.length:Nat):Int),0,0,()),L++m,())))/\
     LK N F w 17 (L++[(17,(a:Int),((a+1:Nat):Int),0,())]) F (jg F) ((a+1:Nat):Int) 0 0=some (.inl ((w,()),(L++m,(F,jg F,((F.length:Nat):Int),0,0,()),())))/\m.length<=16*(F.length-a)/\Tr F a F.length 0 L.length m:=by
    obtain⟨m,g1,g2,g3⟩:=PD w N (a+1) (L++[(17,(a:Int),((a+1:Nat):Int),0,())]) false 17 (by omega) (by omega) (by grind) rfl;exact⟨[(17,(a:Int),((a+1:Nat):Int),0,())]++m,by simp_all,by simp_all,by grind,(Tr.lf (ae a) (ae _) (by omega) (fun h=>by exfalso;omega)).ap g3.2⟩
   cases hb:gm F a [110]with
   |true=>
    rw[oZ hb,dB,show(a:Int)+1=((a+1:Nat):Int) by omega];simp only[aa];obtain⟨m,g1,g2,g3⟩:=PD w N (a+1) L b v (by omega) (by omega) (by omega) f;exact⟨m,g1,g2,by omega,g3.2.wide (by omega) (ae _)⟩
   |false=>
    rw[tC hb,f];simp only[ac];cases b with
    |true=>
     simp only[ax,ac];rw[Ha a L 0 0 17 (by omega) (by omega),SG a L 0 0 (by omega) (by omega) rfl (by omega) (by omega) (by omega) (by omega),bI,bI];exact g
    |false=>
     simp only[aA,aa];rw[yM hF a L 0 0 (by omega),KX a L 0 0 (by omega),bI,bI];simp only;cases hp:qZ F a 0 with
     |true=>
      obtain⟨y,_,_⟩:=kP L (opn 2 a 0) (by omega);obtain⟨d,e,l,o,z,p,q⟩:=(aGk hF (16*F.length+13)).list a L 0 0 bT bT (by omega) (Nat.le_of_lt (dJ)) (Nat.le_of_lt (dJ)) ⟨j,by omega,by omega,by omega⟩ hp;obtain⟨A,B⟩:=oD L e (opn 2 a 0);have D:agn F (a:Int) (bU L [opn 2 a 0]) (bK L) 0=some (PR F d (bU L [opn 2 a 0]++e) (bK L) 0,()):=l;have E:aG2 F (jg F) L (a:Int) 0 0=some (RR F d (L++(2,(a:Int),(d:Int),0,())::e) 0 0,()):=o;obtain⟨m,g1,g2,g3⟩:=PD w N d (L++(2,(a:Int),(d:Int),0,())::e) true 2 (by omega) p (by grind) rfl;refine⟨((2,(a:Int),(d:Int),0,())::e)++m, ?_, ?_,by grind,(q.2.one (ae _) (ae _) (by omega) rfl).app g3.2 (ae _) (ai ..)⟩
      .simp_all [eU,bI,kL]
      simp_all [bI]
     |false=>
      simp only[ac];rw[Ha a L 0 0 17 (by omega) (by omega),SG a L 0 0 (by omega) (by omega) rfl (by omega) (by omega) (by omega) (by omega),bI,bI];exact g
  .have s:a=F.length:=by omega
   rw[dG (b:=iF (a:Int) (bK F)) (gU (by rw[bM];omega)),dG (b:=iF (a:Int) (bK F)) (gU (by rw[bM];omega)),s];exact⟨[],by simp,by simp,by simp,.nil (ae _)⟩
theorem ahM: ∃l,Wi F=some (l,())/\aBD F=some (l,())/\l.length<=16*F.length+1/\ ∃m,l=(1,0,(F.length:Int),-1,())::m/\Tr F 0 F.length 0 1 m:=by
 have e:=hF.len;obtain⟨m,g1,g2,g3⟩:=PD hF (-1) bT 0 [(1,0,0,-1,())] false 0 (dJ) (by omega) (by simp) rfl;refine⟨af8 ([(1,0,0,-1,())]++m) 0 ((F.length:Nat):Int), ?_, ?_,by simp_all [auG],m,rfl,g3.2⟩
 .rw[Wi];have d:eu [((1:Int),((0:Int),((0:Int),((-1:Int),()))))] 32=true:=by kernel_rfl
  simp only[eU,ay,aa,d];rw[aBU,show((0:Int))=((0:Nat):Int) from rfl];simp only[Int.ofNat_zero]at g1 ⊢;rw[g1,bI];simp only[dR,bI];rw[bW (eF (by omega) (by simp)),bW (qU (by simp[dI]))];rfl
 .rw[aBD,show Qi bT F [] 0=some (.inl ((F,jg F,()),())) from X7 hF bT 0 (dJ) (by omega),bI];simp only[dR];rw[show Gw F (jg F) [] 0 (-1) 0 1=_ from nD 0 [] (-1) 0 (by omega) (by omega) (by simp) (by omega) (by omega),bI];simp only[show jV 1=false from by kernel_rfl,ag,if_false,aB,List.length_nil];rw[show LK bT F (-1) 0 [(1,((0:Nat):Int),0,-1,())] F (jg F) ((0:Nat):Int) ((0:Nat):Int) 0=_ from g2,bI];simp only[dR];rw[show rE F (jg F) _ ((F.length:Nat):Int) 0 0 (-1)=_ from xO F.length ([(1,0,0,-1,())]++m) (-1) 0 0 (by simp) (k:=1) rfl (by omega) (by omega) (by omega) (by omega),bI]
end
end Go.Proofs.YtkichehglnecnaaGreatDoor
