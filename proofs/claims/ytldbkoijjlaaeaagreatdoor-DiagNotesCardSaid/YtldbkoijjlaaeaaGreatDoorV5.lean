/- Parts of the proof, joined and shortened by a program: the plain machine, the functions as it prints them, and the mathematics over them. -/
import Derived.Test.YtldbkoijjlaaeaaGreatDoorV4
set_option linter.unusedVariables false
set_option linter.unusedSimpArgs false
set_option maxRecDepth 100000
set_option maxHeartbeats 4000000
namespace Go.Proofs.YtldbkoijjlaaeaaGreatDoor
section
open Bool renaming and_eq_true → af, not_true → ay
open List renaming drop_of_length_le → az, drop_eq_getElem_cons → aA, length_cons → aF, length_drop → aS, takeWhile_cons → aZ
open Go.RowKit
def isL (c:UInt8):Bool:=(97<=c&&c<=122)||(65<=c&&c<=90)||c==95
def P9 (c:UInt8):Bool:=48<=c&&c<=57
def XA (c:UInt8):Bool:=isL c||P9 c
def isP (c:UInt8):Bool:=c==64||c==42||c==35||c==63||c==45||c==36||c==33
def ayK:Bool:=(List.range 256).all fun b=>match ad4 (b:Int),adZ (b:Int),MO (b:Int)with
 |some (x,_),some (y,_),some (k,_)=>(x==isL (UInt8.ofNat b))&&((y==P9 (UInt8.ofNat b))&&((decide (k=5)==isL (UInt8.ofNat b))&&(decide (k=6)==P9 (UInt8.ofNat b))))
 |_,_,_=>false
theorem arl:ayK=true:=by kernel_rfl
theorem oZ (c:UInt8):ad4 (c.toNat:Int)=some (isL c,())/\adZ (c.toNat:Int)=some (P9 c,())/\ ∃k,MO (c.toNat:Int)=some (k,())/\bJ k 5=isL c/\bJ k 6=P9 c:=by
 have h:=List.all_eq_true.1 arl c.toNat (List.mem_range.2 (by have:=c.toNat_lt;omega));have hc:UInt8.ofNat c.toNat=c:=by simp
 rw[hc]at h;split at h
 ·rename_i x u y v k w h1 h2 h3
  simp only[af,beq_iff_eq]at h
  grind [bJ]
 ·cases h
def aIX:Bool:=(List.range 256).all fun b=>match Eg (b:Int) [64,42,35,63,45,36,33]with
 |some (x,_)=>(x==isP (UInt8.ofNat b))&&(isP (UInt8.ofNat b)==(bJ (b:Int) 64||(bJ (b:Int) 42||(bJ (b:Int) 35||(bJ (b:Int) 63||(bJ (b:Int) 45||(bJ (b:Int) 36||bJ (b:Int) 33)))))))
 |_=>false
theorem aGs:aIX=true:=by kernel_rfl
theorem avE (c:UInt8):Eg (c.toNat:Int) [64,42,35,63,45,36,33]=some (isP c,())/\isP c=(bJ (c.toNat:Int) 64||(bJ (c.toNat:Int) 42||(bJ (c.toNat:Int) 35||(bJ (c.toNat:Int) 63||(bJ (c.toNat:Int) 45||(bJ (c.toNat:Int) 36||bJ (c.toNat:Int) 33)))))):=by
 have h:=List.all_eq_true.1 aGs c.toNat (List.mem_range.2 (by have:=c.toNat_lt;omega));have hc:UInt8.ofNat c.toNat=c:=by simp
 grind
theorem byte_at {s:List UInt8} {i:Nat} (h:i<s.length):bT s (i:Int)=(s[i].toNat:Int):=by
 simp_all [bT]
def runN (s:bM):Nat:=(s.takeWhile XA).length
def Hg (s:bM):Nat:=(s.takeWhile isL).length
def kG (s:bM):Nat:=(s.takeWhile P9).length
theorem L6 (p:UInt8->Bool) (s:bM):(s.takeWhile p).length<=s.length:=by
 induction s with
 |nil=>simp
 |cons c v ih=>grind [aZ]
theorem FB (p:UInt8->Bool): ∀(s:bM) (i:Nat) (h:i<s.length),i<(s.takeWhile p).length->p s[i]=true
 |[],i,h,_=>by simp at h
 |c::v,i,h,h2=>by
  rw[aZ]at h2;split at h2
  ·rename_i hc
   match i with
   |0=>exact hc
   |i+1=>exact FB p v i (by simpa using h) (by simpa using h2)
  ·simp at h2
theorem zV (p:UInt8->Bool): ∀(s:bM) (h:(s.takeWhile p).length<s.length),p s[(s.takeWhile p).length]=false
 |[],h=>by simp at h
 |c::v,h=>by
  by_cases hc:p c=true
  ·have e:List.takeWhile p (c::v)=c::v.takeWhile p:=by simp_all
   have h':(v.takeWhile p).length<v.length:=by simp_all
   have:=zV p v h';simp_all
  simp_all
theorem aJN (p:UInt8->Bool) (s:bM) (n:Nat) (hn:n<=s.length) (h1: ∀i (h:i<s.length),i<n->p s[i]=true) (h2: ∀h:n<s.length,p s[n]=false):(s.takeWhile p).length=n:=by
 have a:=L6 p s;by_cases c:(s.takeWhile p).length<n
 ·grind [zV]
 grind [FB]
def nl (s:bM):Nat:=if Hg s=0 then 0 else runN s
theorem avZ {s:List UInt8} (h:Hg s≠0):runN s≠0:=by
 unfold Hg at h;unfold runN
 match s with
 |[]=>simp at h
 |c::v=>
  simp_all [aZ,XA]
theorem aCw (s:bM):nl s<=s.length:=by
 unfold nl;split
 ·omega
 ·exact L6 _ _
theorem YO {s:List UInt8} (hs:s.length<4000000) {a k:Nat} (h:a+k<s.length): ∃hk:k<(s.drop a).length,bT s (bU .i64 (a:Int) (k:Int))=(((s.drop a)[k]).toNat:Int):=by
 have hk:k<(s.drop a).length:=by grind
 refine⟨hk, ?_⟩;rw[bZ (by omega) (by omega),show(a:Int)+(k:Int)=((a+k:Nat):Int) by omega,byte_at h,List.getElem_drop]
theorem aCK {s:List UInt8} (hs:s.length<4000000) {at_:Nat} (ha:at_<=s.length) (a:bM) (b:Int) (c:bM) (d:Int): ∀(N k:Nat),s.length-k<N->k<=Hg (s.drop at_)->
  mM N s (at_:Int) (k:Int) a b c d=some (.inl ((((Hg (s.drop at_):Nat):Int),()),((a,b,c,d,()),(),()),()))
 |0,k,h,hk=>by
  omega
 |N+1,k,h,hk=>by
  have hle:=L6 isL (s.drop at_);have hld:=aS (i:=at_) (l:=s);rw[mM,uf];have hk':k<=((s.drop at_).takeWhile isL).length:=hk;have e0:bU .i64 (at_:Int) (k:Int)=(at_:Int)+k:=bZ (by omega) (by omega);by_cases h1:at_+k<s.length
  ·obtain⟨hkd,hb⟩:=YO hs h1;rw[hb,e0,bI (dZ (by rw[bF];omega)),bI (dN (by omega) (by omega)),(oZ _).1,bu];by_cases h2:k<Hg (s.drop at_)
   ·rw[FB isL _ k hkd h2];simp only[ay,cond_false];rw[bZ (by omega) (by omega),show(k:Int)+1=((k+1:Nat):Int) by omega];exact aCK hs ha a b c d N (k+1) (by omega) (by omega)
   ·obtain rfl:k=Hg (s.drop at_):=by omega
    grind [zV,Hg]
  ·obtain rfl:k=Hg (s.drop at_):=by grind [Hg]
   rw[e0,dC (fV (by rw[bF];omega))]
theorem aCL {s:List UInt8} (hs:s.length<4000000) {at_:Nat} (ha:at_<=s.length) (a:bM) (b:Int) (c:bM) (d:Int): ∀(N k:Nat),s.length-k<N->k<=runN (s.drop at_)->
  nU N s (at_:Int) (k:Int) a b c d=some (.inl ((((runN (s.drop at_):Nat):Int),()),((a,b,c,d,()),(),()),()))
 |0,k,h,hk=>by
  omega
 |N+1,k,h,hk=>by
  have hle:=L6 XA (s.drop at_);have hld:=aS (i:=at_) (l:=s);rw[nU,yY];have hk':k<=((s.drop at_).takeWhile XA).length:=hk;have e0:bU .i64 (at_:Int) (k:Int)=(at_:Int)+k:=bZ (by omega) (by omega);by_cases h1:at_+k<s.length
  ·obtain⟨hkd,hb⟩:=YO hs h1;have ea:bU .i64 (k:Int) 1=((k+1:Nat):Int):=by grind [bZ]
   rw[hb,e0,bI (dZ (by rw[bF];omega)),bI (dN (by omega) (by omega)),(oZ _).1,bu,(oZ _).2.1];by_cases h2:k<runN (s.drop at_)
   ·have ih:=aCL hs ha a b c d N (k+1) (by omega) (by omega);have hn:=FB XA _ k hkd h2;rw[ea];cases hL:isL (s.drop at_)[k]with
    |true=>exact ih
    |false=>
     simp_all [XA,bu]
   ·obtain rfl:k=runN (s.drop at_):=by omega
    have:=zV XA _ hkd;have h3:XA (s.drop at_)[runN (s.drop at_)]=false:=this;simp_all [XA,bu]
  ·obtain rfl:k=runN (s.drop at_):=by grind [runN]
   rw[e0,dC (fV (by rw[bF];omega))]
theorem aCJ {s:List UInt8} (hs:s.length<4000000) {at_:Nat} (ha:at_<=s.length) (a:bM) (b:Int) (c:bM) (d:Int): ∀(N k:Nat),s.length-k<N->k<=kG (s.drop at_)->
  qE N s (at_:Int) (k:Int) a b c d=some (.inl ((((kG (s.drop at_):Nat):Int),()),((a,b,c,d,()),(),()),()))
 |0,k,h,hk=>by
  omega
 |N+1,k,h,hk=>by
  have hle:=L6 P9 (s.drop at_);have hld:=aS (i:=at_) (l:=s);rw[qE,yX];have hk':k<=((s.drop at_).takeWhile P9).length:=hk;have e0:bU .i64 (at_:Int) (k:Int)=(at_:Int)+k:=bZ (by omega) (by omega);by_cases h1:at_+k<s.length
  ·obtain⟨hkd,hb⟩:=YO hs h1;rw[hb,e0,bI (dZ (by rw[bF];omega)),bI (dN (by omega) (by omega)),(oZ _).2.1,bu];by_cases h2:k<kG (s.drop at_)
   ·rw[FB P9 _ k hkd h2];simp only[ay,cond_false];rw[bZ (by omega) (by omega),show(k:Int)+1=((k+1:Nat):Int) by omega];exact aCJ hs ha a b c d N (k+1) (by omega) (by omega)
   ·obtain rfl:k=kG (s.drop at_):=by omega
    grind [zV,kG]
  ·obtain rfl:k=kG (s.drop at_):=by grind [kG]
   rw[e0,dC (fV (by rw[bF];omega))]
theorem Ru {s:List UInt8} (hs:s.length<4000000) {a:Nat} (ha:a<=s.length):Aq s a=some (((kG (s.drop a):Nat):Int),()):=by
 rw[Aq,dC (fV (by omega))];by_cases h0:a=s.length
 ·subst h0;rw[bI (pq (by rw[bF];omega)),List.drop_length];rfl
 rw[dC (Dy (by rw[bF];omega)),show qE bH s a 0 s a s a=_ from aCJ hs ha s a s a bH 0 (dB (by omega)) (by omega),bu];rfl
theorem aqt {s:List UInt8} (hs:s.length<4000000) {a:Nat} (ha:a<=s.length):TC s a=some (((nl (s.drop a):Nat):Int),()):=by
 (rewrite [TC];delta Zp;rw[dC (fV (by omega))])
 by_cases h0:a=s.length
 ·subst h0;rw[bI (pq (by rw[bF];omega)),List.drop_length];rfl
 rw[dC (Dy (by rw[bF];omega)),show mM bH s a 0 s a s a=_ from aCK hs ha s a s a bH 0 (dB (by omega)) (by omega),bu];unfold dE;simp only;unfold nl;by_cases h1:Hg (s.drop a)=0
 ·rw[if_pos h1,h1];rfl
 ·rw[if_neg h1,dC (dL (by omega)),dC (fV (by omega)),dC (Dy (by rw[bF];omega)),show nU bH s a 0 _ _ _ _=_ from aCL hs ha _ _ _ _ bH 0 (dB (by omega)) (by omega)];rfl
theorem OX {s:List UInt8} (hs:s.length<4000000): ∀(N k:Nat),s.length-k<N->k<=runN s->
  Gm N s (k:Int)=some (if runN s=s.length then .inl ((),())else .inr ((false,()),()))
 |0,k,h,hk=>by omega
 |N+1,k,h,hk=>by
  have hle:=L6 XA s;have hk':k<=(s.takeWhile XA).length:=hk;rw[Gm,QX];by_cases h1:k<s.length
  ·obtain⟨c,hc,h5,h6⟩:=(oZ s[k]).2.2;have hin:fB s (k:Int)=true:=dN (by omega) (by omega);rw[bI (dZ (by rw[bF];omega)),hin,byte_at h1,hc,bu,h5];by_cases h2:k<runN s
   ·have ih:=OX hs N (k+1) (by omega) (by omega);have hn:=FB XA s k h1 h2;have ea:bU .i64 (k:Int) 1=((k+1:Nat):Int):=by grind [bZ]
    rw[ea];cases hL:isL s[k]with
    |true=>exact ih
    |false=>
     simp_all [XA,bu]
   ·obtain rfl:k=runN s:=by omega
    have:=zV XA s h1;have h3:XA s[runN s]=false:=this;simp only[XA,Bool.or_eq_false_iff]at h3;rw[h3.1,if_neg (by omega)];simp_all [bu]
  ·obtain rfl:k=runN s:=by grind [runN]
   rw[dC (fV (by rw[bF];omega)),if_pos (by omega)]
theorem atw {s:List UInt8} (h0:s≠[]):Hg s=0↔isL (s.headD 0)=false:=by
 match s,h0 with
 |c::v,_=>
  simp_all [Hg,aZ]
theorem xu {s:List UInt8} (hs:s.length<4000000):TA s=some (decide (nl s≠0/\nl s=s.length),()):=by
 rw[TA];by_cases h0:s=[]
 ·subst h0;rfl
 have hp:0<s.length:=List.length_pos_iff.2 h0;obtain⟨_,_,c,hc1,hc2,hc3⟩:=oZ s[0];have hb:bT s 0=(s[0].toNat:Int):=byte_at (i:=0) hp;have hh:s.headD 0=s[0]:=by
  match s,h0 with
  |c::v,_=>rfl
 rw[dC (dL (by rw[bF];omega)),bI (dN (by omega) (by omega)),hb,hc1,bu];simp only;rw[hc2];unfold nl;cases hL:isL s[0]with
 |false=>
  simp_all [atw]
 |true=>
  have h1:Hg s≠0:=fun h=>by simp_all [atw]
  have h2:=avZ h1;simp only[ay,cond_false];rw[if_neg h1,show Gm bH s 1=_ from OX hs bH 1 (dB (by omega)) (by omega)];by_cases h3:runN s=s.length
  ·rw[if_pos h3,decide_eq_true ⟨h2,h3⟩];rfl
  ·rw[if_neg h3,decide_eq_false (fun h=>h3 h.2)];rfl
theorem ac9 (p:UInt8->Bool): ∀(s:bM) (k:Nat),((s.take k).takeWhile p).length=min k (s.takeWhile p).length
 |[],k=>by simp
 |c::v,0=>by simp
 |c::v,k+1=>by
  rw[List.take_succ_cons,aZ,aZ];split
  ·rw[aF,aF,ac9 p v k];omega
  ·simp
theorem aAr (t:bM) {k:Nat} (h1:1<=k) (hk:k<=t.length):(nl (t.take k)≠0/\nl (t.take k)=(t.take k).length)↔k<=nl t:=by
 have hl:(t.take k).length=k:=by simp_all
 have a:=ac9 isL t k;have b:=ac9 XA t k;unfold nl Hg runN
 grind
theorem Uu {s:List UInt8} (hs:s.length<4000000) {a:Nat} (ha:a<=s.length): ∀(N k:Nat),s.length-a+1-k<N->1<=k->k<=s.length-a+1->
  Gp N s a ((min (k-1) (nl (s.drop a)):Nat):Int) (k:Int)=some (.inl ((((nl (s.drop a):Nat):Int),()),()))
 |0,k,h,_,_=>by omega
 |N+1,k,h,h1,h2=>by
  have hn:=aCw (s.drop a);rw[aS]at hn;rw[Gp,Q3,bF,gQ (by omega) (by omega)];by_cases e:k<=s.length-a
  ·have es:sub s (a:Int) (bU .i64 (a:Int) (k:Int))=(s.drop a).take k:=by
    grind [bZ,sub,List.drop_take]
   have ih:=Uu hs ha N (k+1) (by omega) (by omega) (by omega);rw[bI (pq (by omega)),bI (fO (by omega) (by grind [bZ]) (by grind [bZ])),es,
    xu (by grind),bu,bZ (by omega) (by omega),show(k:Int)+1=((k+1:Nat):Int) by omega]
   have hiff:=aAr (s.drop a) h1 (by simp_all)
   grind
  ·rw[dC (Dy (by omega)),show min (k-1) (nl (s.drop a))=nl (s.drop a) by omega]
theorem aDx {s:List UInt8} (hs:s.length<4000000) {a:Nat} (ha:a<=s.length):ajX s a=some (((nl (s.drop a):Nat):Int),()):=by
 rw[ajX];have h:=Uu hs ha bH 1 (dB (by omega)) (by omega) (by omega);rw[show min (1-1) (nl (s.drop a))=0 by omega]at h;rw[show Gp bH s a 0 1=_ from h,bu];rfl
def prl (s:bM):Nat:=if nl s≠0 then nl s else match s with
 |c::_=>if isP c||P9 c then 1 else 0
 |[]=>0
theorem aiF (s:bM):prl s<=s.length:=by
 unfold prl
 grind [aCw]
theorem ou {s:List UInt8} {a:Nat} (h:a<s.length):s.drop a=s[a]::s.drop (a+1):=aA h
theorem ayw {s:List UInt8} (hs:s.length<4000000) {a:Nat} (ha:a<=s.length):ajM s a=some (((prl (s.drop a):Nat):Int),()):=by
 rw[ajM,aDx hs ha,bu];unfold prl;by_cases e:nl (s.drop a)=0
 ·rw[bI (eH (by omega)),if_neg (by omega)];by_cases h:a<s.length
  ·obtain⟨k,hk,h5,h6⟩:=(oZ s[a]).2.2;have hin:fB s (a:Int)=true:=dN (by omega) (by omega);rw[bI (dZ (by rw[bF];omega)),hin,byte_at h,hk,bu,h6,(avE _).1,bu,e,ou h]
   grind
  simp_all [fV,bF,az]
 simp_all [dL]
theorem ayv {s:List UInt8} (hs:s.length<4000000) {a:Nat} (ha:a<=s.length):Xu s a=some (((prl (s.drop a):Nat):Int),()):=by
 rw[Xu,aqt hs ha,bu];unfold prl;by_cases e:nl (s.drop a)=0
 ·rw[dC (fV (by omega)),if_neg (by omega),dC (fV (by omega))];by_cases h:a<s.length
  ·rw[dC (Dy (by rw[bF];omega)),bI (dN (by omega) (by omega)),byte_at h,Ru hs ha,bu];have hd:I5 ((kG (s.drop a):Nat):Int) 1=if P9 s[a]then 1 else 0:=by
    grind [kG,ou,aZ,I5]
   have hp:=(avE s[a]).2;rw[hd,ou h]
   grind
  simp_all [pq,bF,az]
 ·rw[bI (dZ (by omega)),if_pos e]
end
section
open Bool renaming and_true → ax
open List renaming length_append → ai, length_cons → aF
open Nat renaming le_refl → ae
open Go.RowKit
abbrev kJ:=Int×Int×Int×Int×Bool×Unit
abbrev Ho:=Int×Int×Unit
def dP:kJ:=(0,(0,(0,(0,(false,())))))
def dF:Ho:=(0,(0,()))
def counts (m:Int):Int:=if m=3 then 1 else if m=11 then 9 else m
theorem adB (m:Int):Xv m=some (counts m,()):=by
 unfold Xv counts;simp only[gY];by_cases h1:m=3
 ·simp[h1]
 ·by_cases h2:m=11<;>simp[h1,h2]
theorem Gz {α:Type} {l:List α} {d x:α} {i:Nat} (h:i<l.length):dA (ig l i x) d i=x:=by
 simp_all [dA,ig]
theorem afG {α:Type} {l:List α} {i:Nat} {x y:α}:ig (ig l i x) i y=ig l i y:=by
 simp_all [ig]
theorem ake {α:Type} {l:List α} {i:Nat} {x:α} {k:Int}:fB (ig l i x) k=fB l k:=by
 simp_all [fB,ig]
theorem alb {α:Type} {l:List α} {i k:Nat} {x:α}:nD k (ig l i x)=nD k l:=by
 simp_all [nD,ig]
theorem wB {α:Type} {l:List α} {i:Nat} {x:α}:(ig l i x).length=l.length:=by
 simp_all [ig]
theorem adH (n:Nat):eqN n n=true:=by simp[eqN]
def PU (L:List kJ) (j:Nat) (a:Int):List kJ:=ig L j ((dA L dP j).1,(dA L dP j).2.1,a,(dA L dP j).2.2.2.1,false,())
def XL (L:List kJ) (j:Nat) (m:Int):List kJ:=ig L j (m,(dA L dP j).2)
theorem GK (L:List kJ) (j:Nat) (a:Int):(PU L j a).length=L.length:=wB
theorem Gv (L:List kJ) (j:Nat) (m:Int):(XL L j m).length=L.length:=wB
def oO (F:List Ho) (a:Int):Nat->List kJ->List Int->List kJ×List Int
 |0,L,H=>(L,H)
 |n+1,L,H=>
  if n+1<=F.length/\(F.getD n dF).2.1=(dA L dP (H.getD n 0).toNat).2.1 then(L,H)
  else oO F a n (PU L (H.getD n 0).toNat (a+1)) (H.take n)
def AZ (F:List Ho) (H:List Int):Nat->Nat->List kJ->List kJ
 |0,_,L=>L
 |k+1,i,L=>AZ F H k (i+1) (XL L (H.getD i 0).toNat (counts (F.getD i dF).1))
theorem afF (F:List Ho) {a:Int} (ha0:0<=a) (ha:a<1000000) (hF:F.length<1000000): ∀(N n:Nat) (L:List kJ) (H:List Int),n<N->n=H.length->n<1000000->L.length<1000000->
  (∀j∈H,0<=j/\j<L.length)->
  Kv N F a (n:Int) L H=some (.inl ((F,()),((),()),((),(oO F a n L H).1,(oO F a n L H).2,())))
 |0,n,L,H,h,_,_,_,_=>by omega
 |N+1,0,L,H,h,_,_,_,_=>by
  rfl
 |N+1,n+1,L,H,h,hn,hb,hL,hH=>by
  have hlt:n<H.length:=by omega
  have hs:dR .i64 ((n+1:Nat):Int) 1=(n:Int):=by grind [gQ]
  have hmem:H.getD n 0∈H:=by simp_all
  obtain⟨hj0,hj1⟩:=hH _ hmem;have hnt:dA H 0 (dm (n:Int))=H.getD n 0:=rfl;have hgt:dQ F (0,(0,())) (n:Int)=F.getD n dF:=rfl;have hin:fB L (H.getD n 0)=true:=dN hj0 hj1;have hl:nD (dm (H.getD n 0)) L=true:=oM (by simp only[dm];omega);have hp:eU (bC H) 0 (n:Int)=true:=fO (by omega) (by omega) (by rw[bF];omega);have hsub:sub H 0 (n:Int)=H.take n:=by simp[sub]
  have hat:bU .i64 a 1=a+1:=bZ (by omega) (by omega);have hnl:dm (H.getD n 0)<L.length:=by simp only[dm];omega
  have ji: ∀x,dA (ig L (dm (H.getD n 0)) x) (0,(0,(0,(0,(false,()))))) (dm (H.getD n 0))=x:=fun x=>Gz hnl;have go:=afF F ha0 ha hF N n (PU L (H.getD n 0).toNat (a+1)) (H.take n) (by omega) (by grind) (by omega) (by rw[GK];exact hL)
   (fun j hj=>by grind [GK])
  (rewrite [Kv,Q9];delta GR wP wO jg;rw[oO])
  simp only[hs,hnt,hgt,hin,hl,hp,hsub,hat,ake,alb,ji,afG,cond_true];rw[bI (dZ (by omega)),bI (dN (by omega) (by omega)),bI (oM (by assumption))];by_cases e:n+1<=F.length
  ·rw[bI (pq (by rw[bF];omega)),bI (dN (by omega) (by omega))];by_cases e2:(F.getD n dF).2.1=(dA L dP (H.getD n 0).toNat).2.1
   ·rw[if_pos ⟨e,e2⟩];exact bI (eH e2)
   ·rw[if_neg (fun h=>e2 h.2)];exact(dC (dL e2)).trans go
  ·rw[dC (Dy (by rw[bF];omega)),if_neg (fun h=>e h.1)];exact go
theorem afE (F:List Ho) (H:List Int) (hF:F.length<1000000) (hHl:H.length<1000000): ∀(k i N:Nat) (L:List kJ),i+k=H.length->H.length<=F.length->L.length<1000000->(∀j∈H,0<=j/\j<L.length)->
  tC (N+k) F (bC F) (i:Int) L H=tC N F (bC F) (H.length:Int) (AZ F H k i L) H
 |0,i,N,L,h,_,_,_=>by simp_all [AZ]
 |k+1,i,N,L,h,hle,hL,hH=>by
  have hi:i<H.length:=by omega
  have hmem:H.getD i 0∈H:=by simp_all
  obtain⟨hj0,hj1⟩:=hH _ hmem;have hnt:dA H 0 (dm (i:Int))=H.getD i 0:=rfl;have hgt:dQ F (0,(0,())) (i:Int)=F.getD i dF:=rfl;have hin:fB L (H.getD i 0)=true:=dN hj0 hj1;have hl:nD (dm (H.getD i 0)) L=true:=oM (by simp only[dm];omega);have go:=afE F H hF hHl k (i+1) N (XL L (H.getD i 0).toNat (counts (F.getD i dF).1)) (by omega) hle (by rw[Gv];exact hL) (fun j hj=>by grind [Gv])
  (rewrite [show N+(k+1)=(N+k)+1 by omega,tC,Du];delta lQ lN jW;rw[AZ,<-go])
  rw[bI (dZ (by rw[bF];omega)),bI (dN (by omega) (by omega)),bI (dZ (by rw[bF];omega)),bI (dN (by omega) (by omega)),bI (oM (by assumption)),adB,bu,hnt,hin,hl];simp only[ake,hin,cond_true,adH,ax,hgt];rw[bZ (by omega) (by omega),show(i:Int)+1=((i+1:Nat):Int) by omega];rfl
theorem Ns (F:List Ho) (H:List Int): ∀(k i:Nat) (L:List kJ),(AZ F H k i L).length=L.length
 |0,_,_=>rfl
 |k+1,i,L=>by rw[AZ,Ns F H k,Gv]
theorem NY (F:List Ho) (a:Int): ∀(n:Nat) (L:List kJ) (H:List Int),(oO F a n L H).1.length=L.length/\(oO F a n L H).2.length<=H.length/\(∀j∈(oO F a n L H).2,j∈H)
 |0,_,H=>⟨rfl,ae _,fun _ h=>h⟩
 |n+1,L,H=>by
  rw[oO];split
  ·simp
  ·have h:=NY F a n (PU L (H.getD n 0).toNat (a+1)) (H.take n)
   grind [GK]
def acm (L:List kJ) (H:List Int) (F:List Ho) (a:Int):List kJ×List Int:=
 let r:=oO F a H.length L H
 let L2:=AZ F r.2 r.2.length 0 r.1
 if F.length=r.2.length then(L2,r.2)
 else(L2++[(counts (F.getD r.2.length dF).1,((F.getD r.2.length dF).2.1,(0,((if r.2.length=0 then-1 else r.2.getD (r.2.length-1) 0),(true,())))))],r.2++[(L2.length:Int)])
theorem aI8 {L:List kJ} {H:List Int} {F:List Ho} {t:Ho} {a:Int} (ha0:0<=a) (ha:a<1000000) (hF:F.length<1000000) (hL:L.length<1000000) (hHl:H.length<1000000) (hH: ∀j∈H,0<=j/\j<L.length)
  (h1:(oO F a H.length L H).2.length<=F.length) (h2:F.length<=(oO F a H.length L H).2.length+1):
  ad2 L H (t::F) a=some (((acm L H F a).1,((acm L H F a).2,())),()):=by
 have hsl:=NY F a H.length L H;have e1:sub (t::F) 1 (bC (t::F))=F:=by simp[sub,bC]
 have hsh:=afF F ha0 ha hF bH H.length L H (dB (by omega)) rfl hHl hL hH;unfold ad2;rw[bI (fO (by omega) (by rw[bF];simp;omega) (by rw[bF];omega)),e1,bF (l:=H),hsh,bu];simp only[dE];unfold acm;generalize hr:oO F a H.length L H=r at*;have hH2: ∀j∈r.2,0<=j/\j<r.1.length:=fun j hj=>by simp_all
 have hm:=Ns F r.2 r.2.length 0 r.1;obtain⟨K,hK⟩: ∃K,bH=(K+2)+r.2.length:=⟨bH-2-r.2.length,by have:=dB (n:=r.2.length+2) (by omega);omega⟩;have hmo:=afE F r.2 hF (by omega) r.2.length 0 (K+2) r.1 (by omega) h1 (by omega) hH2;rw[<-hK]at hmo;rw[show(0:Int)=((0:Nat):Int) from rfl,hmo];by_cases e:F.length=r.2.length
 ·(rewrite [tC,Du];delta lQ lN jW;rw[dC (fV (by rw[bF];omega)),if_pos e,bu])
 ·rw[if_neg e];have hi:r.2.length<F.length:=by omega
  generalize hL2:AZ F r.2 r.2.length 0 r.1=L2 at*;have hgt:dQ F (0,(0,())) (r.2.length:Int)=F.getD r.2.length dF:=rfl;have hfit: ∀x:kJ,dO (bG L2 [x]) 40=true:=fun x=>by simp only[dO,bG,ai,aF,List.length_nil,decide_eq_true_eq,lC];omega
  have hfit2: ∀x:Int,dO (bG r.2 [x]) 8=true:=fun x=>by simp only[dO,bG,ai,aF,List.length_nil,decide_eq_true_eq,lC];omega
  have hend: ∀L' H',(H'.length:Int)=r.2.length+1->tC (K+1) F (bC F) (bU .i64 (r.2.length:Int) 1) L' H'=some (.inl ((),((),()),((),L',H',()))):=fun L' H' h'=>by
   (rewrite [tC,Du];delta lQ lN jW;rw[dC (fV (by grind [bF,bZ]))])
  (rewrite [tC,Du];delta lQ lN jW;rw[bI (dZ (by rw[bF];omega)),bI (dN (by omega) (by omega)),dC (fV (by rw[bF];omega))])
  simp only[hgt,adB,bu,dU,hfit,hfit2,ax,cond_true,iw];by_cases e0:r.2.length=0
  ·rw[dC (fV (by omega)),if_pos e0,hend _ _ (by simp[bG]),bu];rfl
  ·have hs:dR .i64 (r.2.length:Int) 1=((r.2.length-1:Nat):Int):=by grind [gQ]
   rw[bI (dZ (by omega)),hs,bI (dN (by omega) (by omega)),bI (oM (by simp only[dm];omega)),if_neg e0,hend _ _ (by simp[bG]),bu];rfl
end
section
open Go.RowKit
def pW (s:fH):List Ho:=(s.dropLast.map fun f=>(f.1,f.2,())).reverse
def Dz (s:fH):List Int:=(s.dropLast.map (·.2)).reverse
theorem tJ (s:fH):(pW s).map (·.2.1)=Dz s:=by
 simp only[pW,Dz,List.map_reverse,List.map_map];rfl
theorem aEG {s:fH} (hg:iy s): ∃t:Ho,lo s=t::pW s:=by
 have hne:s≠[]:=by rintro rfl;exact hg
 grind [List.dropLast_concat_getLast,lo,pW]
theorem afk (f:uN) {r:fH} (h:r≠[]):Dz (f::r)=Dz r++[f.2]:=by
 cases r with
 |nil=>exact absurd rfl h
 |cons g r=>simp[Dz]
theorem aA5 (pre:fH) (f:uN) (r:fH): ∃l,Dz (pre++f::r)=Dz (f::r)++l:=by
 induction pre with
 |nil=>simp
 |cons g pre ih=>
  obtain⟨l,h⟩:=ih;simp_all [afk]
def Shape (s y:fH) (at_:Int):Prop:= ∃pre f r m',s=pre++f::r/\(y=(m',f.2)::r\/ ∃mm,y=(mm,at_)::(m',f.2)::r)
theorem yR {m:Int} {f:Int×Int} {r:fH} (hr:m=0\/r≠[]) (fr:Bool) (b at_:Int):Shape (f::r) (jk m (f::r) fr b at_).1 at_:=by
 have keep:Shape (f::r) (f::r) at_:=⟨[],f,r,f.1,rfl,.inl rfl⟩;have push: ∀k,Shape (f::r) ((k,at_)::f::r) at_:=fun k=>⟨[],f,r,f.1,rfl,.inr ⟨k,rfl⟩⟩;have chg: ∀k,Shape (f::r) ((k,f.2)::r) at_:=fun k=>⟨[],f,r,k,rfl,.inl rfl⟩;have tl:m≠0->Shape (f::r) r at_:=fun h=>by
  cases r with
  |nil=>simp_all
  |cons g r=>exact⟨[f],g,r,g.1,rfl,.inl rfl⟩
 unfold jk La IQ;rcases nO b with rfl|rfl|rfl|rfl|rfl|rfl|rfl|rfl|rfl|rfl|rfl|⟨h1,h2,h3,h4,h5,h6,h7,h8,h9,h10,h11⟩<;>cases fr<;>simp_all<;>
  (repeat' split)<;>first|assumption|exact push _|exact chg _|(exact tl (by omega))|(simp_all;done)|exact keep|skip
theorem apd {pre s y:fH} {at_:Int} (h:Shape s y at_):Shape (pre++s) y at_:=by
 obtain⟨p,f,r,m',hs,hy⟩:=h;exact⟨pre++p,f,r,m',by simp_all,hy⟩
theorem Ve {a:Int} {f:Int×Int} {r y:fH} {at_:Int} (h:Shape ((a,f.2)::r) y at_):Shape (f::r) y at_:=by
 obtain⟨p,g,r',m',hs,hy⟩:=h;cases p with
 |nil=>
  obtain⟨h1,h2⟩:=List.cons.inj hs;subst h1 h2;exact⟨[],f,r,m',rfl,hy⟩
 |cons q p=>
  obtain⟨h1,h2⟩:=List.cons.inj hs;exact⟨f::p,g,r',m',by rw[h2];rfl,hy⟩
theorem aiO {s:fH} (hg:iy s) (fr:Bool) (b at_:Int):Shape s (fQ s fr b at_).1 at_:=by
 cases s with
 |nil=>cases hg
 |cons f r=>
 have hs: ∀k,Shape (f::r) ((k,f.2)::r) at_:=fun k=>⟨[],f,r,k,rfl,.inl rfl⟩;have ht: ∀g r',r=g::r'->Shape (f::r) r at_:=fun g r' h=>by rw[h];exact⟨[f],g,r',g.1,rfl,.inl rfl⟩
 simp only[fQ];split
 ·rename_i e
  have hr:r≠[]:=oz hg (by omega);cases r with
  |nil=>exact absurd rfl hr
  |cons g r=>
  split
  ·exact hs 3
  ·split
   ·split<;>exact hs _
   ·split
    ·exact ht g r rfl
    ·have hgr:=F6 hg hr;refine apd (pre:=[f]) (yR ?_ fr b at_)
     grind [oz]
 ·split
  ·grind [oz,Ve,yR]
  ·split
   ·rename_i e
    have hr:r≠[]:=oz hg (by omega);split
    ·cases r with
     |nil=>exact absurd rfl hr
     |cons g r=>exact ht g r rfl
    grind [Ve,yR]
   grind [yR,oz]
theorem KZ {s:fH} (hg:iy s) (fr:Bool) (b at_:Int): ∃c,c<=(Dz s).length/\(Dz (fQ s fr b at_).1=(Dz s).take c\/Dz (fQ s fr b at_).1=(Dz s).take c++[at_]):=by
 obtain⟨pre,f,r,m',hs,hy⟩:=aiO hg fr b at_;obtain⟨l,hl⟩:=aA5 pre f r;rw[<-hs]at hl;have hpf:Dz ((m',f.2)::r)=Dz (f::r):=by
  cases r with
  |nil=>rfl
  |cons g r=>rfl
 refine⟨(Dz (f::r)).length,by rw[hl];simp, ?_⟩;rw[hl,List.take_left']
 ·rcases hy with h|⟨mm,h⟩
  ·simp_all
  ·rw[h,afk _ (by simp),hpf];exact .inr rfl
 ·rfl
end
section
open List renaming length_append → ai, length_map → aK
open Nat renaming le_refl → ae, lt_or_ge → aI
open Go.RowKit
theorem alg {α:Type} {l:List α} {d:α} {i:Nat} (h:l.length<=i):dA l d i=d:=by
 simp_all [dA]
theorem qc {α:Type} {l:List α} {d:α} {i:Nat} (h:i<l.length):dA l d i=l[i]:=by
 simp_all [dA]
theorem getD_take {α:Type} {l:List α} {d:α} {i n:Nat} (h:i<n):(l.take n).getD i d=l.getD i d:=by
 simp_all
theorem I8 {α:Type} {l:List α} {d x:α} {i j:Nat} (h:i≠j):dA (ig l i x) d j=dA l d j:=by
 simp_all [dA,ig]
def Lr (a:Int) (p:kJ):kJ:=(p.1,p.2.1,a,p.2.2.2.1,false,())
theorem GL (L:List kJ) (j:Nat) (a:Int) (k:Nat) (hj:j<L.length):dA (PU L j a) dP k=if j=k then Lr a (dA L dP k)else dA L dP k:=by
 unfold PU;by_cases h:j=k
 ·subst h;rw[if_pos rfl,Gz hj];rfl
 ·rw[if_neg h,I8 h]
theorem Nu (L:List kJ) (j:Nat) (m:Int) (k:Nat) (hj:j<L.length):dA (XL L j m) dP k=if j=k then(m,(dA L dP k).2)else dA L dP k:=by
 unfold XL;by_cases h:j=k
 ·subst h;rw[if_pos rfl,Gz hj]
 ·rw[if_neg h,I8 h]
theorem Vf (F:List Ho) (a:Int) (H:List Int) (c:Nat) (hH: ∀n,n<H.length->0<=H.getD n 0): ∀(n:Nat) (L:List kJ),c<=n->n<=H.length->
  (∀m,m<n->(H.getD m 0).toNat<L.length)->
  (∀m,m<c->m<F.length/\(F.getD m dF).2.1=(dA L dP (H.getD m 0).toNat).2.1)->
  (∀m,c<=m->m<n-> ¬(m+1<=F.length/\(F.getD m dF).2.1=(dA L dP (H.getD m 0).toNat).2.1))->
  (oO F a n L (H.take n)).2=H.take c/\
  (∀j,(∃m,c<=m/\m<n/\(H.getD m 0).toNat=j)->dA (oO F a n L (H.take n)).1 dP j=Lr (a+1) (dA L dP j))/\
  (∀j,(∀m,c<=m->m<n->(H.getD m 0).toNat≠j)->dA (oO F a n L (H.take n)).1 dP j=dA L dP j)
 |0,L,hc,hn,hl,h1,h2=>by
  have:c=0:=by omega
  subst this;exact⟨rfl,fun j ⟨m,_,h,_⟩=>by omega,fun j _=>rfl⟩
 |n+1,L,hc,hn,hl,h1,h2=>by
  rw[oO,getD_take (by omega)];by_cases e:c=n+1
  ·grind
  ·have hng:=h2 n (by omega) (by omega);have hjl:=hl n (by omega);have hfr: ∀k,(dA (PU L (H.getD n 0).toNat (a+1)) dP k).2.1=(dA L dP k).2.1:=fun k=>by
    rw[GL _ _ _ _ hjl];split<;>rfl
   rw[if_neg hng,List.take_take,show min n (n+1)=n by omega];obtain⟨i1,i2,i3⟩:=Vf F a H c hH n (PU L (H.getD n 0).toNat (a+1)) (by omega) (by omega) (fun m hm=>by grind [GK])
    (fun m hm=>by grind) (fun m hm hm2=>by grind)
   refine⟨i1,fun j hj=> ?_,fun j hj=> ?_⟩
   ·by_cases hq: ∃m,c<=m/\m<n/\(H.getD m 0).toNat=j
    ·rw[i2 j hq,GL _ _ _ _ hjl];split<;>rfl
    ·obtain⟨m,hm1,hm2,hm3⟩:=hj;have:m=n:=by
      grind
     simp_all [GL]
   ·rw[i3 j (fun k hk hk2=>hj k hk (by omega)),GL _ _ _ _ hjl,if_neg (hj n (by omega) (by omega))]
theorem Ut (F:List Ho) (H:List Int) (hinj: ∀m n,m<H.length->n<H.length->(H.getD m 0).toNat=(H.getD n 0).toNat->m=n): ∀(k i:Nat) (L:List kJ),i+k<=H.length->
  (∀m,m<H.length->(H.getD m 0).toNat<L.length)->
  (∀m,i<=m->m<i+k->dA (AZ F H k i L) dP (H.getD m 0).toNat=(counts (F.getD m dF).1,(dA L dP (H.getD m 0).toNat).2))/\
  (∀j,(∀m,i<=m->m<i+k->(H.getD m 0).toNat≠j)->dA (AZ F H k i L) dP j=dA L dP j)
 |0,i,L,h,hl=>⟨fun m h1 h2=>by omega,fun j _=>rfl⟩
 |k+1,i,L,h,hl=>by
  have hil:=hl i (by omega);obtain⟨i1,i2⟩:=Ut F H hinj k (i+1) (XL L (H.getD i 0).toNat (counts (F.getD i dF).1)) (by omega) (fun m hm=>by grind [Gv]);rw[AZ];refine⟨fun m h1 h2=> ?_,fun j hj=> ?_⟩
  ·by_cases e:m=i
   ·subst e;rw[i2 _ (fun k hk hk2 hk3=>by grind),Nu _ _ _ _ hil,if_pos rfl]
   ·rw[i1 m (by omega) (by omega),Nu _ _ _ _ hil,if_neg (fun he=>e (hinj i m (by omega) (by omega) he).symm)]
  ·rw[i2 j (fun m hm hm2=>hj m (by omega) (by omega)),Nu _ _ _ _ hil,if_neg (hj i (by omega) (by omega))]
def Hr (F:List Ho) (v:Int):Option Int:=(F.find? fun f=>f.2.1==v).map (·.1)
theorem Tu {F:List Ho} (hd: ∀m n,m<F.length->n<F.length->(F.getD m dF).2.1=(F.getD n dF).2.1->m=n) {m:Nat} (hm:m<F.length):Hr F (F.getD m dF).2.1=some (F.getD m dF).1:=by
 have hex: ∃f,F.find? (fun f=>f.2.1==(F.getD m dF).2.1)=some f:=by
  cases h:F.find? (fun f=>f.2.1==(F.getD m dF).2.1)with
  |some f=>exact⟨f,rfl⟩
  |none=>
   grind
 grind [List.getElem_of_mem,Hr]
theorem IM {F:List Ho} {v:Int} (h: ∀m,m<F.length->(F.getD m dF).2.1≠v):Hr F v=none:=by
 grind [Hr,List.getElem_of_mem]
def mZ (F:List Ho) (a:Int) (p:kJ):kJ:=
 if p.2.2.2.2.1=true then(match Hr F p.2.1 with
  |some m=>(counts m,p.2)
  |none=>Lr (a+1) p)else p
def ZZ (F:List Ho) (a:Int):Bool:=match F.getLast? with
 |some f=>decide (f.2.1=a)
 |none=>false
def atz (L:List Int) (v:Int):Int:=((L.findIdx fun p=>p==v:Nat):Int)
def zy (F:List Ho) (a:Int) (fr:List Int):kJ:=(counts (F.getLastD dF).1,a,0,(if F.length=1 then-1 else atz fr (F.getD (F.length-2) dF).2.1),true,())
def OT (F:List Ho) (a:Int) (L:List kJ):List kJ:=L.map (mZ F a)++if ZZ F a=true then [zy F a (L.map (·.2.1))]else []
structure Inv (L:List kJ) (H:List Int) (F:List Ho) (k:Int):Prop where
 len:H.length=F.length
 nn: ∀n,n<H.length->0<=H.getD n 0/\(H.getD n 0).toNat<L.length
 frm: ∀n,n<H.length->(dA L dP (H.getD n 0).toNat).2.1=(F.getD n dF).2.1/\(dA L dP (H.getD n 0).toNat).2.2.2.2.1=true
 opn: ∀j,(dA L dP j).2.2.2.2.1=true-> ∃n,n<H.length/\(H.getD n 0).toNat=j
 lt: ∀j,j<L.length->(dA L dP j).2.1<k
 inj: ∀i j,i<L.length->j<L.length->(dA L dP i).2.1=(dA L dP j).2.1->i=j
 fd: ∀m n,m<F.length->n<F.length->(F.getD m dF).2.1=(F.getD n dF).2.1->m=n
theorem Inv.hd {L:List kJ} {H:List Int} {F:List Ho} {k:Int} (h:Inv L H F k): ∀m n,m<H.length->n<H.length->(H.getD m 0).toNat=(H.getD n 0).toNat->m=n:=fun m n hm hn e=>by
 have h1:=(h.frm m hm).1;have h2:=(h.frm n hn).1;rw[e,h2]at h1;exact(h.fd n m (by rw[<-h.len];exact hn) (by rw[<-h.len];exact hm) h1).symm
theorem rW {F:List Ho} {n:Nat} (h:n<F.length):(F.getD n dF).2.1=(F.map (·.2.1)).getD n 0:=by
 simp_all
theorem ay1 {α:Type} {d:α} {l l':List α} (h:l.length=l'.length) (h2: ∀j,j<l.length->dA l d j=dA l' d j):l=l':=by
 grind [List.ext_getElem,qc]
theorem aed {L:List kJ} (hinj: ∀i j,i<L.length->j<L.length->(dA L dP i).2.1=(dA L dP j).2.1->i=j) {j:Nat} (hj:j<L.length):atz (L.map (·.2.1)) (dA L dP j).2.1=(j:Int):=by
 have hm: ∀i,i<L.length->(L.map (·.2.1))[i]? =some (dA L dP i).2.1:=fun i hi=>by
  simp_all [qc]
 unfold atz
 grind
theorem awC {L:List kJ} {H:List Int} {F F':List Ho} {k:Int} (h:Inv L H F k) {c:Nat} (hc:c<=F.length)
  (hF:F'.map (·.2.1)=(F.map (·.2.1)).take c\/F'.map (·.2.1)=(F.map (·.2.1)).take c++[k]):
  (oO F' k H.length L H).2.length<=F'.length/\F'.length<=(oO F' k H.length L H).2.length+1/\
  (acm L H F' k).1=OT F' k L/\Inv (acm L H F' k).1 (acm L H F' k).2 F' (k+1):=by
 have hlF':F'.length=c\/F'.length=c+1:=by
  have h1:F'.length=(F'.map (·.2.1)).length:=(aK ..).symm;rcases hF with e|e<;>rw[h1,e]<;>simp<;>omega
 have hcH:c<=H.length:=by rw[h.len];exact hc
 have hst: ∀m,m<c->m<F'.length/\(F'.getD m dF).2.1=(F.getD m dF).2.1:=fun m hm=>by
  refine⟨by omega, ?_⟩;rw[rW (by omega),rW (F:=F) (by omega)];rcases hF with e|e
  ·rw[e,getD_take hm]
  ·rw[e,List.getD_eq_getElem?_getD,List.getElem?_append_left (by simp;omega),<-List.getD_eq_getElem?_getD,getD_take hm]
 have hnew:c<F'.length->(F'.getD c dF).2.1=k:=fun hm=>by
  rcases hF with e|e
  ·have:F'.length=(F'.map (·.2.1)).length:=(aK ..).symm;rw[e]at this;simp at this;omega
  ·rw[rW hm,e,List.getD_eq_getElem?_getD,List.getElem?_append_right (by simp;omega)];simp[Nat.min_eq_left hc]
 have hfk: ∀m,m<F.length->(F.getD m dF).2.1<k:=fun m hm=>by
  rw[<-(h.frm m (by rw[h.len];exact hm)).1];exact h.lt _ (h.nn m (by rw[h.len];exact hm)).2
 obtain⟨s1,s2,s3⟩:=Vf F' k H c (fun n hn=>(h.nn n hn).1) H.length L hcH (ae _) (fun m hm=>(h.nn m hm).2)
  (fun m hm=>⟨(hst m hm).1,(hst m hm).2.trans (h.frm m (by omega)).1.symm⟩)
  (fun m hm1 hm2 ⟨hl,he⟩=>by
   have hm:m=c:=by omega
   subst hm;rw[hnew (by omega),(h.frm m hm2).1]at he;have:=hfk m (by rw[<-h.len];exact hm2);omega)
 rw[List.take_length]at s1 s2 s3;have hsl:=(NY F' k H.length L H).1;have htl:(H.take c).length=c:=by rw[List.length_take];omega
 have hgt: ∀m,m<c->(H.take c).getD m 0=H.getD m 0:=fun m hm=>getD_take hm;obtain⟨m1,m2⟩:=Ut F' (H.take c) (fun m n hm hn e=>by
   rw[htl]at hm hn;rw[hgt m hm,hgt n hn]at e;exact h.hd m n (by omega) (by omega) e) c 0 (oO F' k H.length L H).1 (by omega) (fun m hm=>by
   rw[htl]at hm;rw[hgt m hm,hsl];exact(h.nn m (by omega)).2)
 have hml:=Ns F' (H.take c) c 0 (oO F' k H.length L H).1;have hpt: ∀j,j<L.length->dA (AZ F' (H.take c) c 0 (oO F' k H.length L H).1) dP j=mZ F' k (dA L dP j):=fun j hj=>by
  unfold mZ;have hfd': ∀m n,m<F'.length->n<F'.length->(F'.getD m dF).2.1=(F'.getD n dF).2.1->m=n:=fun m n hm hn e=>by
   rcases aI m c with h1|h1<;>rcases aI n c with h2|h2
   ·rw[(hst m h1).2,(hst n h2).2]at e;exact h.fd m n (by omega) (by omega) e
   ·have:n=c:=by omega
    subst this;rw[(hst m h1).2,hnew hn]at e;have:=hfk m (by omega);omega
   ·have:m=c:=by omega
    subst this;rw[(hst n h2).2,hnew hm]at e;have:=hfk n (by omega);omega
   ·omega
  by_cases ho:(dA L dP j).2.2.2.2.1=true
  ·rw[if_pos ho];obtain⟨n,hn,hnj⟩:=h.opn j ho;have hfrj:=(h.frm n hn).1;rw[hnj]at hfrj;rcases aI n c with hnc|hnc
   ·have e:=m1 n (by omega) (by omega);rw[hgt n hnc,hnj]at e;rw[e,s3 j (fun m hm hm2 hm3=>by have:=h.hd m n hm2 hn (hm3.trans hnj.symm);omega),hfrj,<-(hst n hnc).2,Tu hfd' (hst n hnc).1]
   ·rw[m2 j (fun m _ hm hm3=>by rw[hgt m (by omega)]at hm3;have:=h.hd m n (by omega) hn (hm3.trans hnj.symm);omega),s2 j ⟨n,hnc,hn,hnj⟩,IM];intro m hm e;rw[hfrj]at e;rcases aI m c with h1|h1
    ·rw[(hst m h1).2]at e;have:=h.fd m n (by omega) (by rw[<-h.len];exact hn) e;omega
    ·have:m=c:=by omega
     subst this;rw[hnew hm]at e;have:=hfk n (by rw[<-h.len];exact hn);omega
  ·rw[if_neg ho];have hno: ∀m,m<H.length->(H.getD m 0).toNat≠j:=fun m hm e=>ho (by rw[<-e];exact(h.frm m hm).2);rw[m2 j (fun m _ hm hm3=>hno m (by omega) (by rw[<-hgt m (by omega)];exact hm3)),s3 j (fun m _ hm=>hno m hm)]
 have hl2:AZ F' (H.take c) c 0 (oO F' k H.length L H).1=L.map (mZ F' k):=ay1 (d:=dP) (by rw[hml,hsl,aK]) fun j hj=>by
  rw[hml,hsl]at hj;rw[hpt j hj,qc (l:=L.map _) (by rw[aK];exact hj),List.getElem_map,qc hj]
 have hupf: ∀p,(mZ F' k p).2.1=p.2.1:=fun p=>by
  unfold mZ;split
  ·split<;>rfl
  ·rfl
 have hsee:(acm L H F' k)=if F'.length=c then(L.map (mZ F' k),H.take c)else
   (L.map (mZ F' k)++[(counts (F'.getD c dF).1,((F'.getD c dF).2.1,(0,((if c=0 then-1 else(H.take c).getD (c-1) 0),(true,())))))],H.take c++[(L.length:Int)]):=by
  unfold acm;simp only[s1,htl,hl2,aK]
 have hupo: ∀p,(mZ F' k p).2.2.2.2.1=true->p.2.2.2.2.1=true/\ ∃m,Hr F' p.2.1=some m:=fun p hp=>by
  unfold mZ at hp;split at hp
  ·rename_i ho
   split at hp
   ·rename_i m hm;exact⟨ho,m,hm⟩
   ·cases hp
  ·rename_i ho;exact absurd hp ho
 have hfd': ∀m n,m<F'.length->n<F'.length->(F'.getD m dF).2.1=(F'.getD n dF).2.1->m=n:=fun m n hm hn e=>by
  rcases aI m c with h1|h1<;>rcases aI n c with h2|h2
  ·rw[(hst m h1).2,(hst n h2).2]at e;exact h.fd m n (by omega) (by omega) e
  ·have:n=c:=by omega
   subst this;rw[(hst m h1).2,hnew hn]at e;have:=hfk m (by omega);omega
  ·have:m=c:=by omega
   subst this;rw[(hst n h2).2,hnew hm]at e;have:=hfk n (by omega);omega
  ·omega
 have hmapn: ∀j,j<L.length->dA (L.map (mZ F' k)) dP j=mZ F' k (dA L dP j):=fun j hj=>by
  rw[qc (l:=L.map _) (by rw[aK];exact hj),List.getElem_map,qc hj]
 have hgrow:OT F' k L=L.map (mZ F' k)++if ZZ F' k=true then [zy F' k (L.map (·.2.1))]else []:=rfl
 have hkeep: ∀n,n<c->(mZ F' k (dA L dP (H.getD n 0).toNat)).2.1=(F'.getD n dF).2.1/\(mZ F' k (dA L dP (H.getD n 0).toNat)).2.2.2.2.1=true:=fun n hn=>by
  have hfr:=h.frm n (by omega);refine⟨by rw[hupf,hfr.1,(hst n hn).2], ?_⟩;unfold mZ;rw[if_pos hfr.2,hfr.1,<-(hst n hn).2,Tu hfd' (hst n hn).1];exact hfr.2
 have hopn: ∀j,j<L.length->(mZ F' k (dA L dP j)).2.2.2.2.1=true-> ∃n,n<c/\(H.getD n 0).toNat=j:=fun j hj ho=>by
  obtain⟨h1,m,hm⟩:=hupo _ ho;obtain⟨n,hn,hnj⟩:=h.opn j h1;have hfr:=(h.frm n hn).1;rw[hnj]at hfr;rcases aI n c with hnc|hnc
  ·exact⟨n,hnc,hnj⟩
  ·rw[hfr,IM]at hm
   ·cases hm
   ·intro m hm2 e;rcases aI m c with h1|h1
    ·rw[(hst m h1).2]at e;have:=h.fd m n (by omega) (by rw[<-h.len];exact hn) e;omega
    ·have:m=c:=by omega
     subst this;rw[hnew hm2]at e;have:=hfk n (by rw[<-h.len];exact hn);omega
 have hdP: ∀{l:List kJ} {j:Nat},(dA l dP j).2.2.2.2.1=true->j<l.length:=fun {l j} hj=>by
  rcases aI j l.length with h1|h1
  ·exact h1
  ·rw[alg h1]at hj;cases hj
 refine⟨by rw[s1,htl];omega,by rw[s1,htl];omega, ?_⟩;by_cases e:F'.length=c
 ·have hnf:ZZ F' k=false:=by
   unfold ZZ;cases hl:F'.getLast? with
   |none=>rfl
   |some f=>
    have hne:F'≠[]:=by rintro rfl;cases hl
    have hp:0<F'.length:=List.length_pos_iff.2 hne;have:F'.getD (c-1) dF=f:=by
     rw[List.getLast?_eq_getElem?,e]at hl;rw[List.getD_eq_getElem?_getD,hl];rfl
    have h2:=(hst (c-1) (by omega)).2;rw[this]at h2;have:=hfk (c-1) (by omega);exact decide_eq_false (by omega)
  rw[hsee,if_pos e,hgrow,hnf];refine⟨by simp, ?_⟩;exact {
   len:=by rw[htl,e]
   nn:=fun n hn=>by rw[htl]at hn;rw[hgt n hn,aK];exact h.nn n (by omega)
   frm:=fun n hn=>by
    rw[htl]at hn;rw[hgt n hn,hmapn _ (h.nn n (by omega)).2];exact hkeep n hn
   opn:=fun j hj=>by
    have hl:=hdP hj;rw[aK]at hl;rw[hmapn j hl]at hj;obtain⟨n,hn,he⟩:=hopn j hl hj;exact⟨n,by rw[htl];exact hn,by rw[hgt n hn];exact he⟩
   lt:=fun j hj=>by
    rw[aK]at hj;rw[hmapn j hj,hupf];have:=h.lt j hj;omega
   inj:=fun i j hi hj he=>by
    rw[aK]at hi hj;rw[hmapn i hi,hmapn j hj,hupf,hupf]at he;exact h.inj i j hi hj he
   fd:=hfd'}
 ·have hc1:F'.length=c+1:=by omega
  have hgl:F'.getLast?=some (F'.getD c dF):=by
   rw[List.getLast?_eq_getElem?,hc1,List.getD_eq_getElem?_getD,show c+1-1=c by omega,List.getElem?_eq_getElem (by omega)];rfl
  have hgD:F'.getLastD dF=F'.getD c dF:=by rw[List.getLastD_eq_getLast?,hgl];rfl
  have hnk:=hnew (by omega);have hnf:ZZ F' k=true:=by unfold ZZ;rw[hgl];exact decide_eq_true hnk
  have hup:(if c=0 then-1 else(H.take c).getD (c-1) 0)=(if F'.length=1 then-1 else atz (L.map (·.2.1)) (F'.getD (F'.length-2) dF).2.1):=by
   by_cases c0:c=0
   ·rw[if_pos c0,if_pos (by omega)]
   ·have hn:=h.nn (c-1) (by omega);rw[if_neg c0,if_neg (by omega),hgt _ (by omega),show F'.length-2=c-1 by omega,(hst (c-1) (by omega)).2,<-(h.frm (c-1) (by omega)).1,aed h.inj hn.2];omega
  have hnp:(counts (F'.getD c dF).1,((F'.getD c dF).2.1,((0:Int),((if c=0 then-1 else(H.take c).getD (c-1) 0),(true,())))))=zy F' k (L.map (·.2.1)):=by
   unfold zy;rw[hup,hgD,hnk]
  rw[hsee,if_neg e,hgrow,hnf,hnp];refine⟨by simp, ?_⟩;have hll:(L.map (mZ F' k)++[zy F' k (L.map (·.2.1))]).length=L.length+1:=by simp
  have hn1: ∀j,j<L.length->dA (L.map (mZ F' k)++[zy F' k (L.map (·.2.1))]) dP j=mZ F' k (dA L dP j):=fun j hj=>by
   rw[<-hmapn j hj];unfold dA;rw[List.getD_eq_getElem?_getD,List.getD_eq_getElem?_getD,List.getElem?_append_left (by rw[aK];exact hj)]
  have hn2:dA (L.map (mZ F' k)++[zy F' k (L.map (·.2.1))]) dP L.length=zy F' k (L.map (·.2.1)):=by
   unfold dA;rw[List.getD_eq_getElem?_getD,List.getElem?_append_right (by simp)];simp
  have hh1: ∀n,n<c->(H.take c++[(L.length:Int)]).getD n 0=H.getD n 0:=fun n hn=>by
   rw[<-hgt n hn,List.getD_eq_getElem?_getD,List.getD_eq_getElem?_getD,List.getElem?_append_left (by rw[htl];exact hn)]
  have hh2:(H.take c++[(L.length:Int)]).getD c 0=L.length:=by
   rw[List.getD_eq_getElem?_getD,List.getElem?_append_right (by rw[htl];omega)];simp[htl]
  have hhl:(H.take c++[(L.length:Int)]).length=c+1:=by rw[ai,htl];rfl
  have hcase: ∀n,n<c+1->n<c\/n=c:=fun n hn=>by omega
  have hnpf:(zy F' k (L.map (·.2.1))).2.1=k:=rfl;exact {
   len:=by rw[hhl,hc1]
   nn:=fun n hn=>by
    rw[hhl]at hn;rw[hll];rcases hcase n hn with h1|rfl
    ·rw[hh1 n h1];have:=h.nn n (by omega);omega
    ·rw[hh2];omega
   frm:=fun n hn=>by
    rw[hhl]at hn;rcases hcase n hn with h1|rfl
    ·rw[hh1 n h1,hn1 _ (h.nn n (by omega)).2];exact hkeep n h1
    ·rw[hh2,Int.toNat_natCast,hn2];exact⟨hnk.symm,rfl⟩
   opn:=fun j hj=>by
    have hl:=hdP hj;rw[hll]at hl;rcases aI j L.length with h1|h1
    ·rw[hn1 j h1]at hj;obtain⟨n,hn,he⟩:=hopn j h1 hj;exact⟨n,by rw[hhl];omega,by rw[hh1 n hn];exact he⟩
    ·exact⟨c,by rw[hhl];omega,by rw[hh2];omega⟩
   lt:=fun j hj=>by
    rw[hll]at hj;rcases aI j L.length with h1|h1
    ·rw[hn1 j h1,hupf];have:=h.lt j h1;omega
    ·rw[show j=L.length by omega,hn2,hnpf];omega
   inj:=fun i j hi hj he=>by
    rw[hll]at hi hj;rcases aI i L.length with h1|h1<;>rcases aI j L.length with h2|h2
    ·rw[hn1 i h1,hn1 j h2,hupf,hupf]at he;exact h.inj i j h1 h2 he
    ·rw[hn1 i h1,hupf,show j=L.length by omega,hn2,hnpf]at he;have:=h.lt i h1;omega
    ·rw[hn1 j h2,hupf,show i=L.length by omega,hn2,hnpf]at he;have:=h.lt j h2;omega
    ·omega
   fd:=hfd'}
end
section
open Bool renaming and_true → ax
open List renaming drop_eq_getElem_cons → aA, length_map → aK, drop_zero → aQ, eq_nil_of_length_eq_zero → bi
open Go.RowKit
def sD:bM->Int->fH×Bool->List kJ->List kJ
 |[],_,_,L=>L
 |b::l,a,x,L=>sD l (a+1) (fQ x.1 x.2 (jA b) a) (OT (pW (fQ x.1 x.2 (jA b) a).1) a L)
def uz (s:bM) (p:kJ):kJ:=if p.1=12 then(p.1,p.2.1,p.2.1+1+((prl (s.drop (p.2.1+1).toNat):Nat):Int),p.2.2.2.1,false,())else if p.2.2.2.2.1=true then(p.1,p.2.1,(s.length:Int),p.2.2.2.1,true,())else p
def cu (s:bM):List kJ:=(sD s 0 fE []).map (uz s)
theorem aoA (F:List Ho) (a:Int) (L:List kJ):(OT F a L).length<=L.length+1:=by
 grind [OT]
theorem JX (s:fH):(pW s).length<=s.length:=by simp[pW]
theorem ayL {l:List Ho} (h:l.length<1000000):oh l=some (l,()):=by
 grind [oh,rO,dO,lC]
theorem ayn (s:bM) (hs:s.length<=100000): ∀(N:Nat) (i:Int) (x:fH×Bool) (L:List kJ) (H:List Int),(s.length:Int)-i<N->0<=i->i<=s.length->iy x.1->(x.1.length:Int)<=i+1->Inv L H (pW x.1) i->(L.length:Int)<=i->
  ∃H' F',Ku N s (bC s) i x.2 i (lo x.1) H L=some (.inl ((s,()),(H',sD (s.drop i.toNat) i x L,(),())))/\Inv (sD (s.drop i.toNat) i x L) H' F' s.length/\(sD (s.drop i.toNat) i x L).length<=s.length
 |0,i,x,L,H,h,_,_,_,_,_,_=>by omega
 |N+1,i,x,L,H,h,h0,hi,hg,hl,hinv,hLl=>by
  rw[Ku,Q7];by_cases e:i<s.length
  ·obtain⟨b,hd,hb⟩:=drop_at h0 e;have hst:=good_step hg x.2 (bT s i) i;have hlen:(lo (fQ x.1 x.2 (bT s i) i).1).length≠0:=by
    rw[oV];intro e;rw[bi e]at hst;exact hst.1
   obtain⟨c,hc,hpl⟩:=KZ hg x.2 (bT s i) i;rw[<-tJ,<-tJ]at hpl;rw[<-tJ,aK]at hc;obtain⟨q1,q2,q3,q4⟩:=awC hinv hc hpl;obtain⟨t,ht⟩:=aEG hst.1;have hfl:=JX (fQ x.1 x.2 (bT s i) i).1;have hfl0:=JX x.1;have hHn:=hinv.len;have hsee:=aI8 (t:=t) (L:=L) (H:=H) (F:=pW (fQ x.1 x.2 (bT s i) i).1) (a:=i) h0 (by omega) (by have:=hst.2;omega) (by omega) (by omega)
    (fun j hj=>by
     obtain⟨n,hn,he⟩:=List.getElem_of_mem hj;have:=hinv.nn n hn
     grind) q1 q2
   have hgl:=aoA (pW (fQ x.1 x.2 (bT s i) i).1) i L;obtain⟨H',F',r1,r2,r3⟩:=ayn s hs N (i+1) (fQ x.1 x.2 (bT s i) i) (OT (pW (fQ x.1 x.2 (bT s i) i).1) i L) (acm L H (pW (fQ x.1 x.2 (bT s i) i).1) i).2 (by omega) (by omega) (by omega) hst.1 (by have:=hst.2;omega) (by simp_all) (by omega);rw[bI (dZ (b:=bC s) e),bI (dN h0 e),agX hg (by omega) x.2 (lL s i) h0 (by omega),bu];simp only[pst];rw[dC (dL (by rw[bF];omega)),ayL (by grind),bu]
   grind [bu,bZ,sD]
  ·have hi':i=s.length:=by omega
   rw[dC (jZ (b:=bC s) (by rw[bF];omega)),JE (by omega),sD]
   grind
theorem aB0 (s:bM) (hs:s.length<=100000) (H:List Int): ∀(N i:Nat) (L:List kJ),L.length-i<N->i<=L.length->L.length<1000000->(∀j,j<L.length->0<=(dA L dP j).2.1/\(dA L dP j).2.1<s.length)->
  AU N s (bC L) (i:Int) H L=some (.inl ((),(H,L.take i++(L.drop i).map (uz s),(),())))
 |0,i,L,h,_,_,_=>by omega
 |N+1,i,L,h,hi,hl,hf=>by
  (rewrite [AU,LK];delta eQ jf ed)
  by_cases e:i<L.length
  ·have hlt:nD (dm (i:Int)) L=true:=oM (by assumption);have hin:fB L (i:Int)=true:=dN (by omega) (by omega);have hni:dm (i:Int)=i:=by simp[dm]
   have ji: ∀x,dA (ig L i x) (0,(0,(0,(0,(false,()))))) i=x:=fun x=>Gz e;have hlt2:nD i L=true:=by assumption
   have hfi:=hf i e;have hpar:Xu s (bU .i64 (dA L (0,(0,(0,(0,(false,()))))) i).2.1 1)=some (((prl (s.drop ((dA L dP i).2.1+1).toNat):Nat):Int),()):=by
    grind [bZ,dP,ayv]
   have hadd:bU .i64 (bU .i64 (dA L (0,(0,(0,(0,(false,()))))) i).2.1 1) ((prl (s.drop ((dA L dP i).2.1+1).toNat):Nat):Int)=(dA L dP i).2.1+1+((prl (s.drop ((dA L dP i).2.1+1).toNat):Nat):Int):=by
    grind [aiF,dP,bZ]
   have hai:bU .i64 (i:Int) 1=((i+1:Nat):Int):=by grind [bZ]
   have go: ∀x,x=uz s (dA L dP i)->AU N s (bC L) ((i+1:Nat):Int) H (ig L i x)=some (.inl ((),(H,L.take i++(L.drop i).map (uz s),(),()))):=fun x hx=>by
    have hfr:(uz s (dA L dP i)).2.1=(dA L dP i).2.1:=by
     grind [uz]
    have ih:=aB0 s hs H N (i+1) (ig L i x) (by rw[wB];omega) (by rw[wB];omega) (by rw[wB];exact hl) (fun j hj=>by
     grind [ig,Gz,I8])
    have e1:bC (ig L i x)=bC L:=by rw[bF,bF,wB]
    rw[e1]at ih;rw[ih];congr 4;have h1:(ig L i x).take (i+1)=L.take i++[x]:=by
     simp_all [ig,List.take_add_one,List.take_set_of_le]
    grind [ig,List.drop_set_of_lt,aA,qc]
   rw[bI (dZ (by rw[bF];omega))];simp only[hni,hin,hlt2,alb,ji,afG,cond_true,adH,ax,hai];by_cases ho:(dA L dP i).2.2.2.2.1=true
   ·have ho':(dA L (0,(0,(0,(0,(false,()))))) i).2.2.2.2.1=true:=ho;rw[ho',cond_true];by_cases hm:(dA L dP i).1=12
    ·have hm':(dA L (0,(0,(0,(0,(false,()))))) i).1=12:=hm;rw[hm',bI (eH rfl),hpar,bu];simp only[hadd];refine go _ ?_;unfold uz;rw[if_pos hm,hm];rfl
    ·have hm': ¬(dA L (0,(0,(0,(0,(false,()))))) i).1=12:=hm;rw[dC (dL hm')];refine go _ ?_;unfold uz;rw[if_neg hm,if_pos ho];rfl
   ·have ho':(dA L (0,(0,(0,(0,(false,()))))) i).2.2.2.2.1=false:=Bool.eq_false_iff.2 ho;rw[ho',cond_false];by_cases hm:(dA L dP i).1=12
    ·have hm':(dA L (0,(0,(0,(0,(false,()))))) i).1=12:=hm;rw[hm',bI (eH rfl),hpar,bu];simp only[hadd];refine go _ ?_;unfold uz;rw[if_pos hm,hm];rfl
    ·have hm': ¬(dA L (0,(0,(0,(0,(false,()))))) i).1=12:=hm;rw[dC (dL hm')];simp_all [ig,qc,uz]
  ·have hi':i=L.length:=by omega
   simp_all [fV,bF]
theorem aoB:Inv [] [] (pW fE.1) 0:={
 len:=rfl
 nn:=fun n hn=>by cases hn
 frm:=fun n hn=>by cases hn
 opn:=fun j hj=>by rw[alg (by simp)]at hj;cases hj
 lt:=fun j hj=>by cases hj
 inj:=fun i j hi=>by cases hi
 fd:=fun m n hm=>by cases hm}
theorem XX: ∀(l:bM) (a:Int) (x:fH×Bool) (L:List kJ),0<=a->(∀p∈L,0<=p.2.1)-> ∀p∈sD l a x L,0<=p.2.1
 |[],a,x,L,ha,h,p,hp=>h p hp
 |b::l,a,x,L,ha,h,p,hp=>by
  rw[sD]at hp;refine XX l (a+1) _ _ (by omega) (fun p hp=> ?_) p hp;unfold OT at hp;rcases List.mem_append.1 hp with h1|h1
  ·obtain⟨q,hq,rfl⟩:=List.mem_map.1 h1;have:(mZ (pW (fQ x.1 x.2 (jA b) a).1) a q).2.1=q.2.1:=by
    unfold mZ;split
    ·split<;>rfl
    ·rfl
   grind
  ·split at h1
   ·rw[List.mem_singleton.1 h1];exact ha
   ·cases h1
theorem aJ1 (s:bM) (hs:s.length<=100000):aj0 s=some (cu s,()):=by
 obtain⟨H',F',h1,h2,h3⟩:=ayn s hs bH 0 fE [] [] (by have:=OB (n:=s.length) (by omega);omega) (by omega) (by omega) jY (by simp[fE]) aoB (by simp);unfold aj0;rw[show([(0,(0,()))]:List nZ)=lo fE.1 from rfl,show(true:Bool)=fE.2 from rfl,h1,bu];simp only[dE,Int.toNat_zero,aQ]at h2 h3 ⊢;have hnn:=XX s 0 fE [] (by omega) (fun p hp=>by cases hp);have h4:=aB0 s hs H' bH 0 (sD s 0 fE []) (OB (by omega)) (by omega) (by omega) (fun j hj=>by
  refine⟨?_,h2.lt j hj⟩
  grind [qc])
 grind [bu,cu]
end
section
open List renaming append_assoc → ah, map_cons → ak, drop_of_length_le → az, drop_eq_getElem_cons → aA, nil_append → aO, mem_of_mem_take → aY
open Go.RowKit
def xf:bM->Int->fH×Bool->kJ->kJ
 |[],_,_,p=>p
 |b::l,a,x,p=>xf l (a+1) (fQ x.1 x.2 (jA b) a) (mZ (pW (fQ x.1 x.2 (jA b) a).1) a p)
def uo:bM->Int->fH×Bool->List Int->List kJ
 |[],_,_,_=>[]
 |b::l,a,x,fr=>
  if ZZ (pW (fQ x.1 x.2 (jA b) a).1) a=true then xf l (a+1) (fQ x.1 x.2 (jA b) a) (zy (pW (fQ x.1 x.2 (jA b) a).1) a fr)::uo l (a+1) (fQ x.1 x.2 (jA b) a) (fr++[a])
  else uo l (a+1) (fQ x.1 x.2 (jA b) a) fr
theorem YH (F:List Ho) (a:Int) (p:kJ):(mZ F a p).2.1=p.2.1:=by
 unfold mZ;split
 ·split<;>rfl
 ·rfl
theorem FQ: ∀(l:bM) (a:Int) (x:fH×Bool) (p:kJ),(xf l a x p).2.1=p.2.1
 |[],_,_,_=>rfl
 |b::l,a,x,p=>by rw[xf,FQ l,YH]
theorem Xk (s:bM) (p:kJ):(uz s p).2.1=p.2.1:=by
 grind [uz]
theorem Xj: ∀(l:bM) (a:Int) (x:fH×Bool) (p:kJ),p.2.2.2.2.1=false->xf l a x p=p
 |[],_,_,_,_=>rfl
 |b::l,a,x,p,h=>by
  rw[xf];have:mZ (pW (fQ x.1 x.2 (jA b) a).1) a p=p:=by grind [mZ]
  rw[this];exact Xj l _ _ p h
theorem UQ: ∀(l:bM) (a:Int) (x:fH×Bool) (L:List kJ),sD l a x L=L.map (xf l a x)++uo l a x (L.map (·.2.1))
 |[],a,x,L=>by
  have:(xf [] a x)=id:=rfl;rw[sD,uo,this];simp
 |b::l,a,x,L=>by
  rw[sD,UQ l,uo];have hm:L.map (xf (b::l) a x)=(L.map (mZ (pW (fQ x.1 x.2 (jA b) a).1) a)).map (xf l (a+1) (fQ x.1 x.2 (jA b) a)):=by
   rw[List.map_map];rfl
  have hf:(L.map (mZ (pW (fQ x.1 x.2 (jA b) a).1) a)).map (·.2.1)=L.map (·.2.1):=by
   simp_all [YH]
  unfold OT;rw[hm];split
  ·rw[List.map_append,List.map_append,hf];simp only[ak,List.map_nil,ah,List.cons_append,aO];rfl
  grind
theorem yN (s:bM):cu s=(uo s 0 fE []).map (uz s):=by
 unfold cu;rw[UQ];rfl
structure PL (x:fH) (i:Int):Prop where
 up:(Dz x).Pairwise (· < ·)
 lt: ∀v∈Dz x,v<i
theorem avI:PL fE.1 0:=⟨List.Pairwise.nil,fun v hv=>by cases hv⟩
theorem aA3 {s:fH} {i:Int} (hg:iy s) (h:PL s i) (fr:Bool) (b:Int):PL (fQ s fr b i).1 (i+1):=by
 obtain⟨c,hc,e|e⟩:=KZ hg fr b i
 ·refine⟨by rw[e];exact h.up.sublist (List.take_sublist ..),fun v hv=> ?_⟩;rw[e]at hv;have:=h.lt v (aY hv);omega
 ·refine⟨?_,fun v hv=> ?_⟩
  ·rw[e,List.pairwise_append];refine⟨h.up.sublist (List.take_sublist ..),List.pairwise_singleton ..,fun a ha b hb=> ?_⟩;rw[List.mem_singleton.1 hb];exact h.lt a (aY ha)
  ·rw[e]at hv;rcases List.mem_append.1 hv with h1|h1
   ·have:=h.lt v (aY h1);omega
   grind
theorem ada {l:List Int} (h:l.Pairwise (· < ·)) {m n:Nat} {v:Int} (hm:l[m]? =some v) (hn:l[n]? =some v):m=n:=by
 grind [List.pairwise_iff_getElem]
theorem ay4 {l:List Int} (h:l.Pairwise (· < ·)) {n:Nat} {v:Int} (hn:l[n]? =some v):l.findIdx? (· ==v)=some n:=by
 obtain⟨n1,n2⟩:=List.getElem?_eq_some_iff.1 hn;cases hf:l.findIdx? (· ==v)with
 |none=>
  simp_all
 |some m=>
  obtain⟨m1,m2,_⟩:=List.findIdx?_eq_some_iff_getElem.1 hf;have:l[m]? =some v:=by simp_all
  rw[ada h this hn]
theorem stay {s:fH} {i v:Int} {n:Nat} (hg:iy s) (h:PL s i) (hn:(Dz s)[n]? =some v) (fr:Bool) (b:Int):(Dz (fQ s fr b i).1)[n]? =some v\/v∉Dz (fQ s fr b i).1:=by
 have hvi:=h.lt v (List.mem_of_getElem? hn);obtain⟨c,hc,e|e⟩:=KZ hg fr b i<;>rw[e]
 ·by_cases hnc:n<c
  ·grind
  ·right;intro hv;obtain⟨m,hm⟩:=List.getElem?_of_mem hv;rw[List.getElem?_take]at hm;split at hm
   ·rename_i hmc
    have:=ada h.up hm hn;omega
   ·cases hm
 ·have hcl:((Dz s).take c).length=c:=by simp_all
  by_cases hnc:n<c
  ·grind
  ·right;intro hv;rcases List.mem_append.1 hv with h1|h1
   ·obtain⟨m,hm⟩:=List.getElem?_of_mem h1;rw[List.getElem?_take]at hm;split at hm
    ·rename_i hmc
     have:=ada h.up hm hn;omega
    ·cases hm
   simp_all
def atM (s:fH) (v:Int):Int:=match(Dz s).findIdx? (· ==v)with
 |some n=>((n+1:Nat):Int)
 |none=>0
theorem avM {s:fH} (hg:iy s): ∃t,po s=t::Dz s:=by
 have hne:s≠[]:=by rintro rfl;exact hg
 grind [List.dropLast_concat_getLast,po,Dz]
theorem aGK {s:fH} (hg:iy s): ∃t,so s=t::(pW s).map fun f=>letter f.1:=by
 have hne:s≠[]:=by rintro rfl;exact hg
 refine⟨letter (s.getLast hne).1, ?_⟩
 conv=>lhs;rw[<-List.dropLast_concat_getLast hne]
 simp[so,pW,List.map_reverse];rfl
theorem ai7 (v:Int) (S:bM) (P:List Int) (fr:Bool) (hP:P.length<1000000): ∀(N j:Nat),P.length-j<N->
  Gl N v (j:Int) S P fr=some (match(P.drop j).findIdx? (· ==v)with|some n=>.inr ((((j+n:Nat):Int),()),())|none=>.inl ((),()))
 |0,j,h=>by omega
 |N+1,j,h=>by
  rw[Gl,QW];by_cases e:j<P.length
  ·have hg:dQ P 0 (j:Int)=P[j]:=by simp_all [dQ]
   rw[bI (dZ (by rw[bF];omega)),bI (dN (by omega) (by omega)),hg,aA e,List.findIdx?_cons,gY];by_cases e2:P[j]=v
   ·simp[e2]
   ·rw[bZ (by omega) (by omega),show(j:Int)+1=((j+1:Nat):Int) by omega,ai7 v S P fr hP N (j+1) (by omega)]
    grind
  simp_all [fV,bF,az]
theorem aDE {s:fH} (hg:iy s) (hl:s.length<900000) (fr:Bool) (v:Int):adX (so s,(po s,(fr,()))) v=some (atM s v,()):=by
 unfold adX;obtain⟨t,ht⟩:=avM hg;have h:=ai7 v (so s) (po s) fr (by rw[U1];omega) bH 1 (dB (by rw[U1];omega));rw[show Gl bH v 1 (so s) (po s) fr=_ from h,bu,ht]
 grind [atM,dE]
theorem avh: ∀n:Fin 15,ajL ((letter ((n.val:Nat):Int)).toNat:Int)=some (counts ((n.val:Nat):Int),()):=by decide+kernel
theorem aFP {m:Int} (h0:0<=m) (h1:m<=14):ajL ((letter m).toNat:Int)=some (counts m,()):=by
 have:=avh ⟨m.toNat,by omega⟩
 grind
theorem IP: ∀{s:fH},iy s-> ∀f∈s,0<=f.1/\f.1<=14
 |[],h=>by cases h
 |[f],h=>by
  intro g hg;rw[List.mem_singleton.1 hg];have:f.1=0:=h;omega
 |f::g::r,h=>by
  intro q hq;rcases List.mem_cons.1 hq with rfl|h1
  ·have:=h.1;have:=h.2.1;omega
  ·exact IP h.2.2.2 q h1
theorem aov {s:fH} (hg:iy s) {n:Nat} (hn:n<(pW s).length):0<=((pW s).getD n dF).1/\((pW s).getD n dF).1<=14:=by
 have hm:(pW s).getD n dF∈pW s:=by simp_all
 generalize (pW s).getD n dF=q at hm;unfold pW at hm;rw[List.mem_reverse,List.mem_map]at hm;obtain⟨f,hf,rfl⟩:=hm;exact IP hg f (List.dropLast_subset s hf)
theorem aI9 {s:fH} (hg:iy s) {n:Nat} (hn:n<(pW s).length):bT (so s) ((n+1:Nat):Int)=((letter ((pW s).getD n dF).1).toNat:Int)/\fB (so s) ((n+1:Nat):Int)=true:=by
 grind [aGK,dN,bT]
theorem OO (s:fH):(pW s).length=(Dz s).length:=by grind [tJ]
theorem ato {s:fH} {n:Nat} {v:Int} (h:(Dz s)[n]? =some v):((pW s).getD n dF).2.1=v/\n<(pW s).length:=by
 grind [tJ]
theorem aEp {s:fH} {i:Int} (h:PL s i): ∀m n,m<(pW s).length->n<(pW s).length->((pW s).getD m dF).2.1=((pW s).getD n dF).2.1->m=n:=fun m n hm hn e=>by
 rw[rW hm,rW hn,tJ]at e;rw[OO]at hm hn;rw[List.getD_eq_getElem?_getD,List.getD_eq_getElem?_getD,List.getElem?_eq_getElem hm,List.getElem?_eq_getElem hn]at e;exact ada h.up (List.getElem?_eq_getElem hm) (by simp_all)
theorem as9 {s:fH} {i v:Int} {n:Nat} (h:PL s i) (hn:(Dz s)[n]? =some v):Hr (pW s) v=some ((pW s).getD n dF).1:=by
 grind [ato,Tu,aEp]
theorem as8 {s:fH} {v:Int} (h:v∉Dz s):Hr (pW s) v=none:=by
 grind [IM,tJ]
theorem aqz {s:fH} {i v:Int} {n:Nat} (h:PL s i) (hn:(Dz s)[n]? =some v):atM s v=((n+1:Nat):Int):=by
 unfold atM;rw[ay4 h.up hn]
theorem aqA {s:fH} {v:Int} (h:v∉Dz s):atM s v=0:=by
 grind [atM]
def iP (s:bM) (k:Nat):fH×Bool:=mX (s.take k) 0 fE
theorem afu: ∀(l m:bM) (a:Int) (x:fH×Bool),mX (l++m) a x=mX m (a+l.length) (mX l a x)
 |[],m,a,x=>by simp[mX]
 |b::l,m,a,x=>by
  rw[List.cons_append,mX,mX,afu l m]
  grind
theorem GY {s:List UInt8} {k:Nat} (h:k<s.length):iP s (k+1)=fQ (iP s k).1 (iP s k).2 (bT s k) k:=by
 unfold iP;rw[List.take_add_one,List.getElem?_eq_getElem h,Option.toList_some,afu,mX,mX,byte_at h,List.length_take,Nat.min_eq_left (by omega)];simp[jA]
theorem wQ (s:bM) (k:Nat):iy (iP s k).1/\(iP s k).1.length<=k+1:=by
 have h:=Ej (s.take k) 0 fE jY;refine⟨h.1, ?_⟩;have h2:=h.2;have:fE.1.length=1:=rfl
 grind [iP]
theorem LU (s:bM): ∀k,k<=s.length->PL (iP s k).1 k
 |0,_=>avI
 |k+1,h=>by
  rw[GY (by omega)];have:=aA3 (wQ s k).1 (LU s k (by omega)) (iP s k).2 (bT s k);simpa using this
end
section
open Bool renaming false_eq_true → ag
open List renaming append_assoc → ah, length_append → ai, map_cons → ak, drop_of_length_le → az, drop_eq_getElem_cons → aA, length_cons → aF, getElem_mem → aH, length_map → aK, nil_append → aO, drop_zero → aQ, length_drop → aS, mem_of_mem_take → aY
open Nat renaming le_refl → ae, lt_or_ge → aI
open Go.RowKit
abbrev RSt:=List UInt8×(List Int×oP)
def dS:RSt:=([],([],(false,())))
def ul (s:bM) (n:Nat):List RSt:=(List.range n).map fun k=>Ia (iP s k)
theorem qL (s:bM) (n:Nat):(ul s n).length=n:=by simp[ul]
theorem Jt (s:bM) {n k:Nat} (h:k<n):dA (ul s n) dS k=Ia (iP s k):=by
 simp_all [qc,ul]
theorem adi (s:bM) (hs:s.length<=100000): ∀(N k:Nat),s.length-k<N->k<=s.length->
  Gi N s (k:Int) (ul s (k+1))=some (.inl ((s,()),(ul s (s.length+1),())))
 |0,k,h,_=>by omega
 |N+1,k,h,hk=>by
  rw[Gi,QO];by_cases e:k<s.length
  ·have hg:=wQ s k;have hn:dA (ul s (k+1)) ([],([],(false,()))) (dm (k:Int))=Ia (iP s k):=by
    rw[show dm (k:Int)=k from rfl];exact Jt s (by omega)
   have hstep:ag9 (so (iP s k).1,(po (iP s k).1,((iP s k).2,()))) (bT s (k:Int)) (k:Int)=some (Ia (iP s (k+1)),()):=by
    grind [GY,agY,lL]
   have hcat:bG (ul s (k+1)) [Ia (iP s (k+1))]=ul s (k+2):=by
    simp_all [bG,ul,List.range_succ]
   rw[bI (dZ (by rw[bF];omega)),bI (dN (by omega) (by rw[qL];omega)),bI (dN (by omega) (by omega)),bI (oM (by simp_all [qL,dm])),hn];simp only[Ia];rw[hstep,bu];simp only;rw[hcat,bI (by grind [dO,qL,lC]),bZ (by omega) (by omega),show(k:Int)+1=((k+1:Nat):Int) by omega];exact adi s hs N (k+1) (by omega) (by omega)
  ·rw[dC (fV (by rw[bF];omega)),show k=s.length by omega]
theorem anb (s:bM) (A:List RSt) (out:List kJ) (from_ n:Int) (P:List Int) (m f to_:Int) (op:Bool) (hol:out.length<1000000) (hn:n<1000000)
  (hA:(dA A dS (dm (bU .i64 from_ 1))).2.1=P) (hA2:fB A (bU .i64 from_ 1)=true) (hA3:nD (dm (bU .i64 from_ 1)) A=true) (hP:1<n->fB P (dR .i64 n 1)=true)
  (j:Nat) (hj:1<n->j<out.length/\(dA out dP j).2.1=dQ P 0 (dR .i64 n 1)) (hinj: ∀a b,a<out.length->b<out.length->(dA out dP a).2.1=(dA out dP b).2.1->a=b):
  ∀(N k:Nat),out.length-k<N->k<=out.length->
  AO N s from_ n (k:Int) m f to_ (if 1<n/\j<k then(j:Int)else-1) op out A=some (.inl ((s,from_,n,()),((m,f,to_,(if 1<n then(j:Int)else-1),op,()),out,A,())))
 |0,k,h,_=>by omega
 |N+1,k,h,hk=>by
  rw[AO,Lt];by_cases e:k<out.length
  ·have ih:=anb s A out from_ n P m f to_ op hol hn hA hA2 hA3 hP j hj hinj N (k+1) (by omega) (by omega);rw[bI (dZ (by rw[bF];omega)),bZ (a:=(k:Int)) (by omega) (by omega),show(k:Int)+1=((k+1:Nat):Int) by omega];by_cases e1:1<n
   ·obtain⟨hj1,hj2⟩:=hj e1;have hA':(dA A ([],([],(false,()))) (dm (bU .i64 from_ 1))).2.1=P:=hA;rw[bI (dZ e1),bI (dN (by omega) (by omega)),bI (oM (by assumption)),hA2,hA3,hA',hP e1];simp only[cond_true];by_cases e2:k=j
    ·simp_all [dA,dm,eH]
    ·have: ¬(dA out (0,(0,(0,(0,(false,()))))) (dm (k:Int))).2.1=dQ P 0 (dR .i64 n 1):=fun he=>e2 (hinj k j e hj1 (he.trans hj2.symm));rw[dC (dL this)]
     grind
   ·rw[if_neg (fun h=>e1 h.1)]at ih ⊢;rw[dC (fV e1)];exact ih
  ·rw[dC (fV (by rw[bF];omega))]
   grind
theorem Yg (s:bM) (hs:s.length<=100000) (out:List kJ) (f n:Nat) (up:Int): ∀(N k:Nat) (m:Int) (p:kJ),s.length+1-k<N->f<k->k<=s.length->
  (Dz (iP s k).1)[n]? =some (f:Int)->p.1=counts ((pW (iP s k).1).getD n dF).1->p.2.1=f->p.2.2.2.2.1=true->p.2.2.2.1=up->
  xB N s (f:Int) ((n+1:Nat):Int) (k:Int) m f (s.length:Int) up true out (ul s (s.length+1))=
   some (.inl ((s,(f:Int),()),(((xf (s.drop k) k (iP s k) p).1,(f:Int),(if(xf (s.drop k) k (iP s k) p).2.2.2.2.1=true then(s.length:Int)else(xf (s.drop k) k (iP s k) p).2.2.1),up,(xf (s.drop k) k (iP s k) p).2.2.2.2.1,()),out,ul s (s.length+1),())))
   /\(xf (s.drop k) k (iP s k) p).2.2.2.1=up
 |0,k,m,p,h,_,_,_,_,_,_,_=>by omega
 |N+1,k,m,p,h,hf,hk,hpl,hp1,hp2,hp3,hp4=>by
  have hg:=wQ s k;have hPL:=LU s k hk;obtain⟨hfr,hfl⟩:=ato hpl;have hn:dA (ul s (s.length+1)) ([],([],(false,()))) (dm (k:Int))=Ia (iP s k):=by
   rw[show dm (k:Int)=k from rfl];exact Jt s (by omega)
  have hin:fB (ul s (s.length+1)) (k:Int)=true:=dN (by omega) (by rw[qL];omega);have hlt:nD (dm (k:Int)) (ul s (s.length+1))=true:=oM (by grind [qL,dm]);obtain⟨hso,hsi⟩:=aI9 hg.1 hfl;have hmo:=aov hg.1 hfl;rw[xB,Be,bI (pq (by rw[bF];omega)),hin,hlt,hn];simp only[cond_true,Ia];rw[aDE hg.1 (by omega),bu,aqz hPL hpl,dC (dL (by omega)),hsi,hso];simp only[cond_true];rw[aFP hmo.1 hmo.2,bu,bZ (by omega) (by omega),show(k:Int)+1=((k+1:Nat):Int) by omega];simp only;by_cases e:k<s.length
  ·have hd:s.drop k=s[k]::s.drop (k+1):=aA e;have hst:=GY e;have hb:bT s (k:Int)=jA s[k]:=byte_at e;rw[hb]at hst;have hgy:=wQ s (k+1);have hPLy:=LU s (k+1) (by omega);have hfe:xf (s.drop k) k (iP s k) p=xf (s.drop (k+1)) ((k+1:Nat):Int) (iP s (k+1)) (mZ (pW (iP s (k+1)).1) k p):=by
    grind [xf]
   rw[hfe];rcases stay hg.1 hPL hpl (iP s k).2 (jA s[k])with h1|h1
   ·rw[<-hst]at h1;have hu:mZ (pW (iP s (k+1)).1) k p=(counts ((pW (iP s (k+1)).1).getD n dF).1,p.2):=by
     unfold mZ;rw[if_pos hp3,hp2,as9 hPLy h1]
    rw[hu];exact Yg s hs out f n up N (k+1) _ _ (by omega) (by omega) (by omega) h1 rfl hp2 hp3 hp4
   ·rw[<-hst]at h1;have hu:mZ (pW (iP s (k+1)).1) k p=Lr (k+1) p:=by
     simp_all [mZ,as8]
    have hn':dA (ul s (s.length+1)) ([],([],(false,()))) (dm ((k+1:Nat):Int))=Ia (iP s (k+1)):=by
     rw[show dm ((k+1:Nat):Int)=k+1 from rfl];exact Jt s (by omega)
    have hin':fB (ul s (s.length+1)) ((k+1:Nat):Int)=true:=dN (by omega) (by rw[qL];omega);have hlt':nD (dm ((k+1:Nat):Int)) (ul s (s.length+1))=true:=oM (by simp_all [qL,dm]);rw[hu,Xj _ _ _ _ rfl];obtain⟨N',rfl⟩: ∃N',N=N'+1:=⟨N-1,by omega⟩;rw[xB,Be,bI (pq (by rw[bF];omega)),hin',hlt',hn'];simp only[cond_true,Ia];rw[aDE hgy.1 (by omega),bu,aqA h1,bI (eH rfl)];simp_all [Lr]
  ·have hkl:k=s.length:=by omega
   subst hkl;rw[List.drop_length,xf];obtain⟨N',rfl⟩: ∃N',N=N'+1:=⟨N-1,by omega⟩;rw[xB,Be,dC (Dy (by rw[bF];omega)),if_pos hp3,hp3,hp1];exact⟨rfl,hp4⟩
theorem aoW (F:List Ho) (a:Int):ZZ F a=decide ((F.map (·.2.1)).getLast?=some a):=by
 grind [ZZ]
theorem Z9 (s:bM) (hs:s.length<=100000): ∀(N k:Nat) (out:List kJ),s.length-k<N->k<=s.length->out.length<=k->
  (∀a b,a<out.length->b<out.length->(dA out dP a).2.1=(dA out dP b).2.1->a=b)->(∀p∈out,p.2.1<(k:Int))->(∀v∈Dz (iP s k).1,v∈out.map (·.2.1))->
  Ce N s (k:Int) out (ul s (s.length+1))=some (.inl ((),(out++(uo (s.drop k) k (iP s k) (out.map (·.2.1))).map (uz s),())))
 |0,k,out,h,_,_,_,_,_=>by omega
 |N+1,k,out,h,hk,hol,hinj,hlt,hex=>by
  rw[Ce,QP];by_cases e:k<s.length
  ·have hd:s.drop k=s[k]::s.drop (k+1):=aA e;have hst:=GY e;have hb:bT s (k:Int)=jA s[k]:=byte_at e;rw[hb]at hst;have hg:=wQ s k;have hPL:=LU s k hk;have hgy:=wQ s (k+1);have hPLy:=LU s (k+1) (by omega);have hk1:bU .i64 (k:Int) 1=((k+1:Nat):Int):=by rw[bZ (by omega) (by omega)];omega
   have hn:dA (ul s (s.length+1)) ([],([],(false,()))) (dm ((k+1:Nat):Int))=Ia (iP s (k+1)):=by
    rw[show dm ((k+1:Nat):Int)=k+1 from rfl];exact Jt s (by omega)
   have hin:fB (ul s (s.length+1)) ((k+1:Nat):Int)=true:=dN (by omega) (by rw[qL];omega);have hltl:nD (dm ((k+1:Nat):Int)) (ul s (s.length+1))=true:=oM (by rw[qL];simp only[dm];omega);rw[bI (dZ (by rw[bF];omega)),hk1,hin,hltl,hn,hd,uo,<-hst];simp only[cond_true,Ia];rw[aDE hgy.1 (by omega),bu,aoW,tJ];obtain⟨c,hc,hpl⟩:=KZ hg.1 (iP s k).2 (jA s[k]) k;rw[<-hst]at hpl;have hcl:((Dz (iP s k).1).take c).length=c:=by rw[List.length_take];omega
   have hexy: ∀v∈(Dz (iP s k).1).take c,v∈out.map (·.2.1):=fun v hv=>hex v (aY hv);rcases hpl with hpl|hpl
   ·
    have hno:(k:Int)∉Dz (iP s (k+1)).1:=fun hv=>by
     rw[hpl]at hv;have:=hPL.lt _ (aY hv);omega
    have hl: ¬(Dz (iP s (k+1)).1).getLast?=some (k:Int):=fun hv=>hno (List.mem_of_getLast? hv);rw[aqA hno,bI (eH rfl),decide_eq_false hl];simp only[ag,if_false];exact Z9 s hs N (k+1) out (by omega) (by omega) (by omega) hinj (fun p hp=>by have:=hlt p hp;omega) (fun v hv=>by rw[hpl]at hv;exact hexy v hv)
   ·have hidx:(Dz (iP s (k+1)).1)[c]? =some (k:Int):=by
     rw[hpl,List.getElem?_append_right (by omega),hcl];simp
    have hl:(Dz (iP s (k+1)).1).getLast?=some (k:Int):=by rw[hpl];simp
    have hlen:(pW (iP s (k+1)).1).length=c+1:=by rw[OO,hpl,ai,hcl];rfl
    rw[aqz hPLy hidx,dC (dL (by omega)),decide_eq_true hl];simp only[if_true];have hfly:=JX (iP s (k+1)).1;have hgy2:=hgy.2;have hP1:1<((c+1:Nat):Int)->fB (po (iP s (k+1)).1) (dR .i64 ((c+1:Nat):Int) 1)=true:=fun h1=>by
     rw[gQ (by omega) (by omega)];refine dN (by omega) ?_;rw[U1];have:=JX (iP s (k+1)).1;omega
    obtain⟨t,ht⟩:=avM hgy.1;have hgp:1<((c+1:Nat):Int)->dQ (po (iP s (k+1)).1) 0 (dR .i64 ((c+1:Nat):Int) 1)=((pW (iP s (k+1)).1).getD (c-1) dF).2.1:=fun h1=>by
     rw[gQ (by omega) (by omega),ht,rW (by omega),tJ];unfold dQ;rw[show(((c+1:Nat):Int)-1).toNat=(c-1)+1 by omega,List.getD_cons_succ]
    have hupex: ∃j:Nat,1<((c+1:Nat):Int)->j<out.length/\(dA out dP j).2.1=((pW (iP s (k+1)).1).getD (c-1) dF).2.1/\atz (out.map (·.2.1)) ((pW (iP s (k+1)).1).getD (c-1) dF).2.1=(j:Int):=by
     by_cases h1:1<((c+1:Nat):Int)
     ·have hmem:((pW (iP s (k+1)).1).getD (c-1) dF).2.1∈out.map (·.2.1):=by
       refine hexy _ ?_;rw[rW (by omega),tJ,hpl,List.getD_eq_getElem?_getD,List.getElem?_append_left (by omega),List.getElem?_eq_getElem (by omega)];exact aH _
      obtain⟨j,hj1,hj2⟩:=List.getElem_of_mem hmem;rw[aK]at hj1;rw[List.getElem_map]at hj2;have hj3:(dA out dP j).2.1=((pW (iP s (k+1)).1).getD (c-1) dF).2.1:=by rw[qc hj1];exact hj2
      exact⟨j,fun _=>⟨hj1,hj3,by rw[<-hj3];exact aed hinj hj1⟩⟩
     ·exact⟨0,fun h2=>absurd h2 h1⟩
    obtain⟨j,hj⟩:=hupex;have hup:=anb s (ul s (s.length+1)) out (k:Int) ((c+1:Nat):Int) (po (iP s (k+1)).1) 0 (k:Int) (s.length:Int) true (by omega) (by have:=JX (iP s (k+1)).1;omega)
     (by rw[hk1];exact congrArg (·.2.1) hn) (by rw[hk1];exact hin) (by rw[hk1];exact hltl) hP1 j (fun h1=>⟨(hj h1).1,(hj h1).2.1.trans (hgp h1).symm⟩) hinj bH 0 (dB (by omega)) (by omega)
    rw[if_neg (by omega)]at hup;rw[show AO bH s (k:Int) ((c+1:Nat):Int) 0 0 (k:Int) (bC s) (-1) true out (ul s (s.length+1))=_ from hup,bu];simp only[dE];have hnew:zy (pW (iP s (k+1)).1) k (out.map (·.2.1))=(counts ((pW (iP s (k+1)).1).getD c dF).1,(k:Int),0,(if 1<((c+1:Nat):Int)then(j:Int)else-1),true,()):=by
     unfold zy;have hgD:(pW (iP s (k+1)).1).getLastD dF=(pW (iP s (k+1)).1).getD c dF:=by
      rw[List.getLastD_eq_getLast?,List.getLast?_eq_getElem?,hlen,List.getD_eq_getElem?_getD];rfl
     rw[hgD,hlen];by_cases h1:1<((c+1:Nat):Int)
     ·rw[if_neg (by omega),if_pos h1,show c+1-2=c-1 by omega,(hj h1).2.2]
     ·rw[if_pos (by omega),if_neg h1]
    obtain⟨hsc,hscu⟩:=Yg s hs out k c (if 1<((c+1:Nat):Int)then(j:Int)else-1) bH (k+1) 0 (zy (pW (iP s (k+1)).1) k (out.map (·.2.1))) (dB (by omega)) (by omega) (by omega) hidx (by rw[hnew]) (by rw[hnew]) (by rw[hnew]) (by rw[hnew]);rw[hk1,hsc,bu];simp only;have hff:=FQ (s.drop (k+1)) ((k+1:Nat):Int) (iP s (k+1)) (zy (pW (iP s (k+1)).1) k (out.map (·.2.1)));have hnf:(zy (pW (iP s (k+1)).1) k (out.map (·.2.1))).2.1=(k:Int):=rfl;rw[hnf]at hff;rw[show((k:Int)+1)=((k+1:Nat):Int) by omega];generalize hq:xf (s.drop (k+1)) ((k+1:Nat):Int) (iP s (k+1)) (zy (pW (iP s (k+1)).1) k (out.map (·.2.1)))=q at*;have hfit: ∀x:kJ,dO (bG out [x]) 40=true:=fun x=>by
     unfold dO bG;exact decide_eq_true (by rw[ai];simp only[aF,List.length_nil];unfold lC;omega)
    have go:Ce N s ((k+1:Nat):Int) (out++[uz s q]) (ul s (s.length+1))=some (.inl ((),(out++(q::uo (s.drop (k+1)) ((k+1:Nat):Int) (iP s (k+1)) (out.map (·.2.1)++[(k:Int)])).map (uz s),()))):=by
     have hfq:(uz s q).2.1=(k:Int):=(Xk s q).trans hff;have hn1: ∀a,a<out.length->dA (out++[uz s q]) dP a=dA out dP a:=fun a ha=>by
      unfold dA;rw[List.getD_eq_getElem?_getD,List.getD_eq_getElem?_getD,List.getElem?_append_left ha]
     have hn2:dA (out++[uz s q]) dP out.length=uz s q:=by
      unfold dA;rw[List.getD_eq_getElem?_getD,List.getElem?_append_right (ae _)];simp
     have hltn: ∀a,a<out.length->(dA out dP a).2.1<(k:Int):=fun a ha=>by rw[qc ha];exact hlt _ (aH ha)
     have ih:=Z9 s hs N (k+1) (out++[uz s q]) (by omega) (by omega) (by simp;omega)
      (fun a b ha hb he=>by
       rw[ai]at ha hb;simp only[aF,List.length_nil]at ha hb;rcases aI a out.length with h1|h1<;>rcases aI b out.length with h2|h2
       ·rw[hn1 a h1,hn1 b h2]at he;exact hinj a b h1 h2 he
       ·rw[hn1 a h1,show b=out.length by omega,hn2,hfq]at he;have:=hltn a h1;omega
       ·rw[hn1 b h2,show a=out.length by omega,hn2,hfq]at he;have:=hltn b h2;omega
       ·omega)
      (fun p hp=>by
       rcases List.mem_append.1 hp with h1|h1
       ·have:=hlt p h1;omega
       ·rw[List.mem_singleton.1 h1,hfq];omega)
      (fun v hv=>by
       rw[hpl]at hv;rw[List.map_append];rcases List.mem_append.1 hv with h1|h1
       ·exact List.mem_append_left _ (hexy v h1)
       ·rw[List.mem_singleton.1 h1];exact List.mem_append_right _ (by simp[hfq]))
     rw[ih];rw[List.map_append,ah,ak];simp only[ak,List.map_nil,hfq];rfl
    by_cases e12:q.1=12
    ·rw[bI (eH e12),hk1,ayw (by omega) (by omega),bu,hfit,cond_true];have hpe:=aiF (s.drop (k+1));rw[aS]at hpe;rw[bZ (by omega) (by omega)];have hfin:uz s q=(q.1,(k:Int),((k+1:Nat):Int)+((prl (s.drop (k+1)):Nat):Int),(if 1<((c+1:Nat):Int)then(j:Int)else-1),false,()):=by
      unfold uz;rw[if_pos e12,hff,hscu,show((k:Int)+1).toNat=k+1 by omega,show(k:Int)+1=((k+1:Nat):Int) by omega]
     rw[<-hfin];exact go
    ·rw[dC (dL e12),hk1,hfit,cond_true];have hfin:uz s q=(q.1,(k:Int),(if q.2.2.2.2.1=true then(s.length:Int)else q.2.2.1),(if 1<((c+1:Nat):Int)then(j:Int)else-1),q.2.2.2.2.1,()):=by
      unfold uz;rw[if_neg e12];by_cases ho:q.2.2.2.2.1=true
      ·rw[if_pos ho,if_pos ho,hff,hscu,ho]
      ·rw[if_neg ho,if_neg ho,<-hff,<-hscu]
     rw[<-hfin];exact go
  ·rw[dC (fV (by rw[bF];omega)),az (by omega),uo];simp
theorem aJ2 (s:bM) (hs:s.length<=100000):ajC s=some (cu s,()):=by
 unfold ajC;have h1:=adi s hs bH 0 (OB (by omega)) (by omega);have h2:=Z9 s hs bH 0 [] (OB (by omega)) (by omega) (by simp) (fun a b ha=>by cases ha) (fun p hp=>by cases hp) (fun v hv=>by cases hv);rw[show ag8=some (Ia fE,()) from rfl,bu,show Gi bH s 0 [(Ia fE,()).1]=_ from h1,bu];simp only[dE];rw[show Ce bH s 0 [] (ul s (s.length+1))=_ from h2,bu];simp only[aO,aQ];rw[yN];rfl
end
section
open List renaming mem_cons_of_mem → au, length_drop → aS
open Nat renaming le_refl → ae
open Go.RowKit
theorem ahA {g f:Int×Int} {r:fH} (hg:iy (f::g::r)):g.1≠13:=by
 have:=hg.2.2.1
 grind [Ug]
theorem FP {m:Int} {f:Int×Int} {r:fH} (hf:f.1=m\/m≠13/\f.1≠13) (hr: ∀g r',r=g::r'->g.1≠13) (hr0:r=[]->m≠13) (fr:Bool) (b i:Int):
  ∀g r',(jk m (f::r) fr b i).1=g::r'->g.1=13->g.2=i:=by
 intro g r' h h13;have hh: ∀{x:Int×Int} {y:fH},x::y=g::r'->x=g:=fun h=>(List.cons.inj h).1;have keep:m≠13->f::r=g::r'->False:=fun hm h=>by
  simp_all
 have tl:r=g::r'->False:=fun h=>hr g r' h h13;have psh: ∀k,(k,i)::f::r=g::r'->g.2=i:=fun k h=>by rw[<-hh h]
 unfold jk at h;split at h
 ·rename_i hm
  have hm13:m≠13:=by omega
  unfold La at h
  grind
 ·split at h
  ·exact(tl h).elim
  grind [IQ]
theorem asG {s:fH} (hg:iy s) (fr:Bool) (b i:Int): ∀g∈(fQ s fr b i).1,g.1=13->g.2=i:=by
 have key: ∀g r',(fQ s fr b i).1=g::r'->g.1=13->g.2=i:=by
  cases s with
  |nil=>cases hg
  |cons f r=>
  intro g r' h h13;have hh: ∀{x:Int×Int} {y:fH},x::y=g::r'->x=g:=fun h=>(List.cons.inj h).1;have hr: ∀g r',r=g::r'->g.1≠13:=fun g r' e=>by subst e;exact ahA hg
  have hr2: ∀g g' r',r=g::g'::r'->g'.1≠13:=fun g g' r' e=>by subst e;exact ahA hg.2.2.2
  have ch: ∀k:Int,k≠13->(k,f.2)::r=g::r'->False:=fun k hk h=>by
   grind
  simp only[fQ]at h;split at h
  ·split at h
   ·simp_all
   ·split at h
    ·grind
    ·split at h
     ·grind
     ·cases r with
      |nil=>rename_i e12 _ _ _;have:f.1=0:=hg;omega
      |cons q r=>
       exact FP (.inl rfl) (fun g r' e=>hr2 q g r' (by rw[e])) (fun _=>by simp_all) fr b i g r' h h13
  ·split at h
   ·split at h
    ·simp_all
    ·exact FP (f:=(1,f.2)) (.inl rfl) hr (fun _=>by omega) fr b i g r' h h13
   ·split at h
    ·split at h
     ·grind
     ·exact FP (f:=(9,f.2)) (.inl rfl) hr (fun _=>by omega) fr b i g r' h h13
    ·refine FP (.inl rfl) hr (fun e=> ?_) fr b i g r' h h13;subst e;have:f.1=0:=hg;omega
 have hgs:=(good_step hg fr b i).1;revert key hgs;generalize (fQ s fr b i).1=y;intro key hgs g hm h13;cases y with
 |nil=>cases hm
 |cons f r=>
  rcases List.mem_cons.1 hm with e|hm
  ·simp_all
  ·exfalso;clear key
   induction r generalizing f with
   |nil=>cases hm
   |cons q r ih=>
    rcases List.mem_cons.1 hm with e|hm2
    ·grind [ahA]
    ·exact ih q hgs.2.2.2 (au _ hm2) hm2
def PI (p:kJ) (a:Int):Prop:=0<=p.2.1/\p.2.1<a/\(p.2.2.2.2.1=true/\(p.1=13->p.2.1+1=a)\/p.2.2.2.2.1=false/\p.2.1+2<=p.2.2.1/\p.2.2.1<=a/\(p.1=13->p.2.2.1=p.2.1+2))
theorem anp {m:Int} (h:counts m=13):m=13:=by
 grind [counts]
theorem azp {s:fH} {f:Ho} (h:f∈pW s):(f.1,f.2.1)∈s:=by
 unfold pW at h;rw[List.mem_reverse,List.mem_map]at h;obtain⟨g,hg,rfl⟩:=h
 grind [List.dropLast_sublist]
theorem aon {F:List Ho} {v m:Int} (h:Hr F v=some m): ∃f∈F,f.2.1=v/\f.1=m:=by
 unfold Hr at h;obtain⟨f,hf,rfl⟩:=Option.map_eq_some_iff.1 h
 grind
theorem aGw {s:fH} (hg:iy s) (fr:Bool) (b a:Int) {p:kJ} (h:PI p a):PI (mZ (pW (fQ s fr b a).1) a p) (a+1):=by
 obtain⟨h0,h1,h2⟩:=h;unfold mZ;rcases h2 with ⟨ho,h3⟩|⟨ho,h3,h4,h5⟩
 ·rw[if_pos ho];split
  ·rename_i m hm
   refine⟨h0,by simp only;omega,.inl ⟨ho,fun h=> ?_⟩⟩;have hm13:m=13:=anp h;obtain⟨f,hf,hv,e⟩:=aon hm;have:=asG hg fr b a _ (azp hf) (by simp only;omega);omega
  ·refine⟨h0,by simp only[Lr];omega,.inr ⟨rfl,by simp only[Lr];omega,by simp[Lr],fun h=> ?_⟩⟩
   grind [Lr]
 ·rw[if_neg (by rw[ho];simp)];exact⟨h0,by omega,.inr ⟨ho,h3,by omega,h5⟩⟩
theorem aGv {s:fH} (hg:iy s) (fr:Bool) (b:Int) {a:Int} (h0:0<=a) (l:List Int):PI (zy (pW (fQ s fr b a).1) a l) (a+1):=
 ⟨h0,by simp only[zy];omega,.inl ⟨rfl,fun h=>by simp only[zy]⟩⟩
theorem alV: ∀(l:bM) (a:Int) (x:fH×Bool) (p:kJ),iy x.1->PI p a->PI (xf l a x p) (a+l.length)
 |[],a,x,p,_,h=>by simpa [xf] using h
 |b::l,a,x,p,hg,h=>by
  rw[xf];have:=alV l (a+1) (fQ x.1 x.2 (jA b) a) _ (good_step hg _ _ _).1 (aGw hg x.2 (jA b) a h)
  grind
theorem acb: ∀(l:bM) (a:Int) (x:fH×Bool) (fr:List Int),0<=a->iy x.1-> ∀p∈uo l a x fr,PI p (a+l.length)/\a<=p.2.1
 |[],a,x,fr,_,_,p,h=>by cases h
 |b::l,a,x,fr,h0,hg,p,h=>by
  have hgs:=(good_step hg x.2 (jA b) a).1;have ih: ∀fr',p∈uo l (a+1) (fQ x.1 x.2 (jA b) a) fr'->PI p (a+((b::l).length:Int))/\a<=p.2.1:=fun fr' hp=>by
   have:=acb l (a+1) _ fr' (by omega) hgs p hp
   grind
  rw[uo]at h;split at h
  ·rcases List.mem_cons.1 h with rfl|h
   ·grind [alV,aGv,FQ,zy]
   ·exact ih _ h
  ·exact ih _ h
theorem YT: ∀(l:bM) (a:Int) (x:fH×Bool) (fr:List Int),0<=a->iy x.1->(uo l a x fr).Pairwise (fun p q=>p.2.1<q.2.1)
 |[],a,x,fr,_,_=>List.Pairwise.nil
 |b::l,a,x,fr,h0,hg=>by
  have hgs:=(good_step hg x.2 (jA b) a).1;rw[uo];split
  ·refine List.Pairwise.cons (fun p hp=> ?_) (YT l (a+1) _ _ (by omega) hgs);have:=(acb l (a+1) _ _ (by omega) hgs p hp).2
   grind [FQ,zy]
  ·exact YT l (a+1) _ _ (by omega) hgs
structure PF (s:bM) (p:kJ):Prop where
 f0:0<=p.2.1
 f1:p.2.1<s.length
 t0:p.2.1<p.2.2.1
 t1:p.2.2.1<=s.length
 op:p.2.2.2.2.1=true->p.2.2.1=s.length/\p.1≠12
 sh:p.2.2.2.2.1=false->p.1≠12->p.2.1+2<=p.2.2.1
 es:p.1=13->p.2.2.1<=p.2.1+2
 dl:p.1=12->p.2.2.1=p.2.1+1+((prl (s.drop (p.2.1+1).toNat):Nat):Int)
theorem ao8 (s:bM): ∀p∈cu s,PF s p:=by
 intro p hp;rw[yN]at hp;obtain⟨q,hq,rfl⟩:=List.mem_map.1 hp;obtain⟨⟨h0,h1,h2⟩,_⟩:=acb s 0 fE [] (by omega) jY q hq;rw[Int.zero_add]at h1 h2;have hl:=aiF (s.drop (q.2.1+1).toNat);rw[aS]at hl;unfold uz;split
 ·rename_i h12
  exact⟨h0,h1,by simp only;omega,by simp only;omega,fun h=>(by cases h),fun _ h=>absurd h12 h,fun h=>(by omega),fun _=>rfl⟩
 ·rename_i h12
  split
  ·rename_i ho
   refine⟨h0,h1,h1,Int.le_refl _,fun _=>⟨rfl,h12⟩,fun h=>(by cases h),fun h=> ?_,fun h=>absurd h h12⟩
   grind
  ·rename_i ho
   rcases h2 with ⟨h3,_⟩|⟨h3,h4,h5,h6⟩
   ·exact absurd h3 ho
   ·exact⟨h0,h1,by omega,h5,fun h=>absurd h ho,fun _ _=>h4,fun h=>by have:=h6 h;omega,fun h=>absurd h h12⟩
theorem XW (s:bM):(cu s).Pairwise (fun p q=>p.2.1<q.2.1):=by
 grind [yN,YT,jY,Xk]
theorem Dc (s:bM):(cu s).length<=s.length:=by
 have h: ∀(l:bM) (a:Int) (x:fH×Bool) (fr:List Int),(uo l a x fr).length<=l.length:=by
  intro l
  induction l with
  |nil=>intro a x fr;exact ae 0
  |cons b l ih=>
   grind [uo]
 simp_all [yN,fE]
end
section
open Nat renaming le_trans → aG
open Go.RowKit
def xg (L:List kJ) (v:Int):Option kJ:=L.find? fun p=>p.2.1==v
theorem Tq {L:List kJ} {v:Int} {p:kJ} (h:xg L v=some p):p∈L/\p.2.1=v:=
 ⟨List.mem_of_find?_eq_some h,by simpa using List.find?_some h⟩
theorem xh {s:List UInt8} {v:Int} {p:kJ} (h:xg (cu s) v=some p):PF s p/\p.2.1=v:=
 ⟨ao8 s p (Tq h).1,(Tq h).2⟩
def lone (p:kJ):Bool:=decide (p.1=12)&&decide (p.2.2.1=p.2.1+1)
def nN (s:bM) (p:kJ):bM:=sub s p.2.1 p.2.2.1
def xR (p:kJ):Int:=if p.2.2.2.2.1=true then p.2.2.1 else p.2.2.1-1
def Wh (s:bM) (p:kJ):bM:=if p.2.2.1=p.2.1+2/\bT s (p.2.1+1)≠10 then sub s (p.2.1+1) p.2.2.1 else []
def We (s:bM) (p:kJ):bM:=if p.2.2.1=p.2.1+2 then(if bT s (p.2.1+1)=36\/bT s (p.2.1+1)=96\/bT s (p.2.1+1)=34\/bT s (p.2.1+1)=92 then sub s (p.2.1+1) p.2.2.1 else if bT s (p.2.1+1)=10 then []else nN s p)else []
def iG (s:bM) (L:List kJ) (at_:Int):Int×List UInt8×Bool:=
 match xg L at_ with
 |none=>(at_+1,sub s at_ (at_+1),false)
 |some p=>if lone p=true then(at_+1,sub s at_ (at_+1),false)
  else if p.1=13 then(p.2.2.1,We s p,false)
  else(p.2.2.1,nN s p,true)
def rU (s:bM) (L:List kJ) (to_:Int):Nat->Int->bM
 |0,_=>[]
 |n+1,at_=>if at_<to_ then(iG s L at_).2.1++rU s L to_ n (iG s L at_).1 else []
def stepT (s:bM) (L:List kJ) (at_:Int):Int×List UInt8:=
 match xg L at_ with
 |none=>(at_+1,sub s at_ (at_+1))
 |some p=>if lone p=true\/p.1=14 then(p.2.2.1,nN s p)
  else if p.1=13 then(p.2.2.1,Wh s p)
  else if p.1=4 then(p.2.2.1,sub s (p.2.1+1) (xR p))
  else if p.1=5 then(p.2.2.1,rU s L (xR p) s.length (p.2.1+1))
  else(p.2.2.1,nN s p)
def lu (s:bM) (L:List kJ):Nat->Int->bM
 |0,_=>[]
 |n+1,at_=>if at_<s.length then(stepT s L at_).2++lu s L n (stepT s L at_).1 else []
def DY (s:bM):bM:=lu s (cu s) s.length 0
theorem Vu {s:List UInt8} {at_:Int}:at_<(iG s (cu s) at_).1:=by
 unfold iG;split
 ·simp only;omega
 ·rename_i p hp
  obtain⟨h,e⟩:=xh hp;have:=h.t0
  grind
theorem Vw {s:List UInt8} {at_:Int}:at_<(stepT s (cu s) at_).1:=by
 unfold stepT;split
 ·simp only;omega
 ·rename_i p hp
  obtain⟨h,e⟩:=xh hp;have:=h.t0
  grind
theorem afI {s:List UInt8} {at_:Int} (h0:at_<s.length):(stepT s (cu s) at_).1<=s.length:=by
 unfold stepT;split
 ·simp only;omega
 ·rename_i p hp
  obtain⟨h,e⟩:=xh hp;have:=h.t1
  grind
theorem MC (s:bM) (to_:Int): ∀(n m:Nat) (at_:Int),to_-at_<=n->to_-at_<=m->rU s (cu s) to_ n at_=rU s (cu s) to_ m at_
 |0,0,_,_,_=>rfl
 |0,m+1,at_,h,_=>by rw[rU,rU,if_neg (by omega)]
 |n+1,0,at_,_,h=>by rw[rU,rU,if_neg (by omega)]
 |n+1,m+1,at_,h1,h2=>by
  rw[rU,rU];split
  ·have:= @Vu s at_;rw[MC s to_ n m _ (by omega) (by omega)]
  ·rfl
theorem Iy (s:bM): ∀(n m:Nat) (at_:Int),(s.length:Int)-at_<=n->(s.length:Int)-at_<=m->lu s (cu s) n at_=lu s (cu s) m at_
 |0,0,_,_,_=>rfl
 |0,m+1,at_,h,_=>by rw[lu,lu,if_neg (by omega)]
 |n+1,0,at_,_,h=>by rw[lu,lu,if_neg (by omega)]
 |n+1,m+1,at_,h1,h2=>by
  rw[lu,lu];split
  ·have:= @Vw s at_;rw[Iy s n m _ (by omega) (by omega)]
  ·rfl
theorem Jh {α:Type} (l:List α) (a b:Int):(sub l a b).length<=l.length:=by
 grind [sub]
theorem N8 (s:bM) (L:List kJ) (at_:Int):(iG s L at_).2.1.length<=s.length:=by
 unfold iG;split
 ·exact Jh s _ _
 ·split
  ·exact Jh s _ _
  ·split
   ·simp only;unfold We nN
    repeat' split
    all_goals simp_all [Jh]
   ·exact Jh s _ _
theorem adC (s:bM) (L:List kJ) (to_:Int): ∀(n:Nat) (at_:Int),(rU s L to_ n at_).length<=n*s.length
 |0,_=>by simp[rU]
 |n+1,at_=>by
  rw[rU];split
  ·have:=N8 s L at_;have:=adC s L to_ n (iG s L at_).1
   grind
  simp
theorem N9 (s:bM) (L:List kJ) (at_:Int):(stepT s L at_).2.length<=s.length*s.length+s.length:=by
 have h: ∀a b,(sub s a b).length<=s.length*s.length+s.length:=fun a b=>aG (Jh s a b) (Nat.le_add_left _ _);unfold stepT;split
 ·exact h _ _
 ·split
  ·exact h _ _
  ·split
   ·simp only;unfold Wh
    grind
   ·split
    ·exact h _ _
    ·split
     ·exact aG (adC _ _ _ _ _) (Nat.le_add_right _ _)
     ·exact h _ _
theorem Md (s:bM) (L:List kJ): ∀(n:Nat) (at_:Int),(lu s L n at_).length<=n*(s.length*s.length+s.length)
 |0,_=>by simp[lu]
 |n+1,at_=>by
  rw[lu];split
  ·have:=N9 s L at_;have:=Md s L n (stepT s L at_).1
   grind
  simp
end
section
open Bool renaming false_eq_true → ag, not_true → ay, not_eq_true → aW
open List renaming length_append → ai, drop_of_length_le → az, drop_eq_getElem_cons → aA, getElem_mem → aH, length_map → aK, length_drop → aS
open Nat renaming le_refl → ae, lt_or_ge → aI
open Go.RowKit
def qM (b:Int):Bool:=decide (b=32)||decide (b=9)
def H5 (b:Int):Bool:=decide (b=124)||decide (b=38)||decide (b=59)||decide (b=60)||decide (b=62)||decide (b=40)||decide (b=41)
theorem aFV: ∀n:Fin 256,(match Hu ((n.val:Nat):Int)with|some (k,_)=>(bJ k 1==qM ((n.val:Nat):Int))&&(bJ k 3==H5 ((n.val:Nat):Int))|none=>false)=true:=by decide+kernel
theorem aFU {b:Int} (h:isByte b): ∃k,Hu b=some (k,())/\bJ k 1=qM b/\bJ k 3=H5 b:=by
 obtain⟨n,rfl⟩:=Sm h;have:=aFV n
 grind
def Nz:List bM:=[[38,38],[124,124],[59,59],[60,60],[60,60,45],[62,62],[60,38],[62,38],[60,62],[62,124],[60],[62],[38],[59],[124],[40],[41]]
def ofF (u:bM):Nat:=match Nz.findIdx? (· ==u)with
 |some j=>j+1
 |none=>0
theorem ayj: ∀n:Fin 18,n.val≠0->ajT ((n.val:Nat):Int)=some (Nz.getD (n.val-1) [],()):=by decide+kernel
theorem Zf {α:Type} (p:α->Bool) (l:List α) {k:Nat} (h:k<l.length):(l.drop k).findIdx? p=if p l[k]=true then some 0 else((l.drop (k+1)).findIdx? p).map (· +1):=by
 grind [aA]
theorem XQ (u:bM): ∀(d N k:Nat),k+d=17->d<N->
  Ci N u ((k+1:Nat):Int)=some (match(Nz.drop k).findIdx? (· ==u)with
   |some j=>.inr ((((k+j+1:Nat):Int),()),())
   |none=>.inl ((),()))
 |d,0,k,_,h=>by omega
 |0,N+1,k,h,_=>by
  have hk:k=17:=by omega
  subst hk;rfl
 |d+1,N+1,k,h,hN=>by
  have hk:k<Nz.length:=by show k<17;omega
  have ht:=ayj ⟨k+1,by omega⟩ (by simp);simp only[Nat.add_sub_cancel]at ht;rw[Ci,LC,bI (pq (by omega)),ht,bu,Zf _ _ hk];have hg:Nz.getD k []=Nz[k]:=by simp_all
  simp only[hg,fG];by_cases e:(Nz[k]==u)=true
  ·rw[e];simp
  ·rw[aW]at e;rw[e,bZ (by omega) (by omega),show((k+1:Nat):Int)+1=((k+1+1:Nat):Int) by omega];simp only[cond_false];rw[XQ u d N (k+1) (by omega) (by omega)]
   grind
theorem aFT (u:bM) (h:ofF u≠0):u∈Nz:=by
 unfold ofF at h
 grind
theorem avp (u:bM):OH u=some (((ofF u:Nat):Int),()):=by
 rw[OH];by_cases e:u=[]
 ·subst e;rfl
 ·rw[dC (by grind [fG])];have h:=XQ u 17 bH 0 rfl (dB (by omega))
  grind [bu,ofF,dE]
def Qj (t:bM):Nat->Nat×Nat
 |0=>(0,0)
 |n+1=>if ofF (t.take (n+1))≠0 then(ofF (t.take (n+1)),n+1)else Qj t n
theorem Bq (s:bM) (a n:Nat):sub s (a:Int) ((a+n:Nat):Int)=(s.drop a).take n:=by
 grind [sub,List.drop_take]
theorem adm (s:bM) (hs:s.length<1000000) (a:Nat): ∀(n N:Nat),n<N->a+n<=s.length->
  J9 N s (a:Int) 0 (n:Int)=some (.inl (((((Qj (s.drop a) n).1:Nat):Int),(((Qj (s.drop a) n).2:Nat):Int),()),()))
 |n,0,h,_=>by omega
 |0,N+1,_,_=>by
  rfl
 |n+1,N+1,h,hn=>by
  rw[J9,QT,bI (dZ (by omega)),bZ (by omega) (by omega),show(a:Int)+((n+1:Nat):Int)=((a+(n+1):Nat):Int) by omega,
   bI (fO (by omega) (by omega) (by rw[bF];omega)),Bq,avp,bu,Qj]
  by_cases e:ofF ((s.drop a).take (n+1))=0
  ·rw[e];simp only[show(!bJ ((0:Nat):Int) 0)=false from rfl,cond_false,ne_eq,not_true_eq_false,if_false];rw[gQ (by omega) (by omega),show((n+1:Nat):Int)-1=(n:Int) by omega];exact adm s hs a n N (by omega) (by omega)
  simp_all [dL]
def CQ (t:bM):Nat×Nat:=Qj t (min 3 t.length)
theorem aA1 {c:UInt8} {t:List UInt8} (h:c::t∈Nz):H5 (c.toNat:Int)=true:=by
 have: ∀u∈Nz,(match u with|c::_=>H5 (c.toNat:Int)|[]=>true)=true:=by decide
 exact this _ h
theorem ai6 {c:UInt8} {t:List UInt8} (h:H5 (c.toNat:Int)=false): ∀n,Qj (c::t) n=(0,0)
 |0=>rfl
 |n+1=>by
  rw[Qj,if_neg,ai6 h n]
  grind [aA1,aFT]
theorem aJY {s:List UInt8} (hs:s.length<1000000) {a:Nat} (ha:a<s.length):ajE s a=some ((((CQ (s.drop a)).1:Nat):Int),((((CQ (s.drop a)).2:Nat):Int),())):=by
 rw[ajE,dC (jZ (by omega)),dC (O3 (by rw[bF];omega)),bI (dN (by omega) (by omega))];obtain⟨k,h1,_,h3⟩:=aFU (lL s a);rw[h1,bu];simp only[h3];have hd:=aA ha;rw[byte_at ha];cases hm:H5 (s[a].toNat:Int)with
 |false=>
  grind [CQ,ai6]
 |true=>
  simp only[ay,cond_false];have hmin:I5 3 (dR .i64 (bC s) (a:Int))=((min 3 (s.drop a).length:Nat):Int):=by
   grind [bF,gQ,I5]
  rw[hmin,adm s hs a _ bH (dB (by omega)) (by grind),bu];rfl
theorem Qr (t:bM):(CQ t).2<=t.length/\((CQ t).2=0↔(CQ t).1=0)/\(CQ t).1<=17:=by
 have h: ∀n,(Qj t n).2<=n/\((Qj t n).2=0↔(Qj t n).1=0)/\(Qj t n).1<=17:=by
  intro n
  induction n with
  |zero=>exact⟨ae _,Iff.rfl,by simp[Qj]⟩
  |succ n ih=>
   rw[Qj];split
   ·rename_i e
    refine⟨ae _,⟨fun h=>absurd h (by simp),fun h=>absurd h e⟩, ?_⟩;unfold ofF;split
    ·rename_i j hj
     have:=(List.findIdx?_eq_some_iff_getElem.1 hj).1
     assumption
    omega
   omega
 grind [CQ]
theorem aty (c:UInt8): ∀l:bM,Lib.indexByte l c=if(l.takeWhile (· !=c)).length<l.length then(((l.takeWhile (· !=c)).length:Nat):Int)else-1
 |[]=>rfl
 |b::l=>by
  unfold Lib.indexByte;rw[aty c l];by_cases e:b=c
  ·subst e;simp
  ·have e1:(b==c)=false:=by simpa using e
   have e2:(b !=c)=true:=by simpa using e
   have e3:(b::l).takeWhile (fun x=>x !=c)=b::l.takeWhile (fun x=>x !=c):=by simp_all
   grind
def iU (s:bM) (a:Nat):Nat:=a+((s.drop a).takeWhile (· !=10)).length
theorem xx (s:bM) (a:Nat):a<=iU s a:=Nat.le_add_right _ _
theorem AL {s:List UInt8} {a:Nat} (h:a<=s.length):iU s a<=s.length:=by
 grind [L6,iU]
theorem aut {s:List UInt8} (hs:s.length<1000000) {a:Nat} (ha:a<=s.length):adS s a=some (((iU s a:Nat):Int),(decide (iU s a<s.length),())):=by
 have hle:=AL ha;have hge:=xx s a;rw[adS,bI (fO (by omega) (by rw[bF];omega) (by omega)),adV,ajU,bu,bu];have h1:sub s (a:Int) (bC s)=s.drop a:=by simp[sub,bF]
 have h2:ibW (sub s (a:Int) (bC s)) 10=if iU s a<s.length then((iU s a-a:Nat):Int)else-1:=by
  rw[h1];unfold ibW;rw[show(10:Int).toNat.toUInt8=10 from rfl,aty,aS];unfold iU at*;omega
 rw[h2];by_cases h:iU s a<s.length
 ·rw[if_pos h,bI (pq (by omega)),bZ (by omega) (by omega),decide_eq_true h];congr 2;omega
 ·rw[if_neg h,dC (O3 (by omega)),decide_eq_false h,bF];congr 2;omega
def wX:bM->Nat
 |[]=>0
 |[c]=>if qM (c.toNat:Int)=true then 1 else 0
 |c::d::t=>if qM (c.toNat:Int)=true then wX (d::t)+1 else if c=92/\d=10 then wX t+2 else 0
theorem YS: ∀t:bM,wX t<=t.length
 |[]=>ae _
 |[c]=>by grind [wX]
 |c::d::t=>by
  have h1:=YS (d::t);have h2:=YS t
  grind [wX]
def Ae (t:bM):Bool:=match t with
 |c::d::_=>decide (c=92)&&decide (d=10)
 |_=>false
theorem aEr (t:bM):ajO t [92,10]=some (Ae t,()):=by
 rw[ajO,atc];cases t with
 |nil=>rfl
 |cons c t=>
  cases t with
  |nil=>rfl
  |cons d t=>
   have h1:leI (bC [(92:UInt8),10]) (bC (c::d::t))=true:=pq (by grind [bF]);have h2:eU (bC (c::d::t)) 0 (bC [(92:UInt8),10])=true:=fO (by omega) (by rw[bF];simp) (by grind [bF]);simp_all [sub,bF,bu,Ae,fG,Bool.beq_eq_decide_eq]
theorem arp {s:List UInt8} {a:Nat} (ha:a<=s.length):adQ s a=some (Ae (s.drop a),()):=by
 rw[adQ,bI (fO (by omega) (by rw[bF];omega) (by omega)),show sub s (a:Int) (bC s)=s.drop a by simp[sub,bF],aEr,bu]
theorem Jw {c:UInt8} {t:List UInt8}:wX (c::t)=if qM (c.toNat:Int)=true then wX t+1 else if Ae (c::t)=true then wX (t.drop 1)+2 else 0:=by
 cases t with
 |nil=>rfl
 |cons d t=>rw[wX];simp[Ae]
theorem IA {s:List UInt8} (hs:s.length<1000000): ∀(N a:Nat),s.length-a<N->a<=s.length->
  ∃o,Ko N s (a:Int)=some o/\dE o (fun a1=>some (a1.1.1,())) (fun b1=>some (b1.1.1,()))=some ((((a+wX (s.drop a):Nat):Int)),())
 |0,a,h,_=>by omega
 |N+1,a,h,ha=>by
  rw[Ko,QU];by_cases e:a<s.length
  ·obtain⟨k,h1,h2,_⟩:=aFU (lL s a);have hd:=aA e;rw[bI (dZ (by rw[bF];omega)),bI (dN (by omega) (by omega)),h1,bu];simp only[h2];rw[byte_at e,hd,Jw];by_cases hb:qM (s[a].toNat:Int)=true
   ·rw[hb,cond_true,if_pos rfl,bZ (by omega) (by omega),show(a:Int)+1=((a+1:Nat):Int) by omega];obtain⟨o,o1,o2⟩:=IA hs N (a+1) (by omega) (by omega)
    grind
   ·rw[aW]at hb;rw[hb,cond_false,if_neg (by simp),arp (by omega),bu,hd];cases hc:Ae (s[a]::s.drop (a+1))with
    |true=>
     have hlen:a+2<=s.length:=by
      rw[<-hd]at hc;rcases aI s.length (a+2)with hl|hl
      ·have:(s.drop a).length=1:=by grind
       obtain⟨x,hx⟩:=List.length_eq_one_iff.1 this;rw[hx]at hc;cases hc
      ·exact hl
     simp only[cond_true,if_true];rw[bZ (by omega) (by omega),show(a:Int)+2=((a+2:Nat):Int) by omega,List.drop_drop,show a+1+1=a+2 from rfl];obtain⟨o,o1,o2⟩:=IA hs N (a+2) (by omega) (by omega)
     grind
    |false=>
     simp only[cond_false,ag,if_false,Nat.add_zero];exact⟨_,rfl,rfl⟩
  ·rw[dC (fV (by rw[bF];omega)),az (by omega)];exact⟨_,rfl,rfl⟩
theorem ayH {s:List UInt8} (hs:s.length<1000000) {a:Nat} (ha:a<=s.length):adR s a=some ((((a+wX (s.drop a):Nat):Int)),()):=by
 rw[adR];obtain⟨o,o1,o2⟩:=IA hs bH a (dB (by omega)) ha
 grind [bu]
def CO (t:bM):Nat:=if kG t≠0/\(t.drop (kG t)).head?=some 60\/kG t≠0/\(t.drop (kG t)).head?=some 62 then kG t else 0
theorem QK (t:bM):kG t<=t.length:=L6 _ _
theorem avn {s:List UInt8} (hs:s.length<1000000) {a:Nat} (ha:a<=s.length):adT s a=some ((((a+CO (s.drop a):Nat):Int)),()):=by
 have hle:=QK (s.drop a);rw[aS]at hle;rw[adT,Ru (s:=s) (by omega) ha,bu];simp only;rw[bZ (by omega) (by omega),show(a:Int)+((kG (s.drop a):Nat):Int)=((a+kG (s.drop a):Nat):Int) by omega];unfold CO;by_cases h0:kG (s.drop a)=0
 ·simp_all [jZ]
 ·rw[bI (dZ (by omega))];by_cases h1:a+kG (s.drop a)<s.length
  ·have hd:((s.drop a).drop (kG (s.drop a))).head?=some s[a+kG (s.drop a)]:=by
    simp
   rw[bI (dZ (by rw[bF];omega)),bI (dN (by omega) (by omega)),byte_at h1,hd];by_cases e1:s[a+kG (s.drop a)]=60
   ·rw[e1,if_pos (.inl ⟨h0,rfl⟩)];rfl
   ·have e1':((s[a+kG (s.drop a)].toNat:Nat):Int)≠60:=fun h=>e1 (UInt8.toNat_inj.1 (by grind));rw[dC (dL e1'),bI (dN (by omega) (by omega))];by_cases e2:s[a+kG (s.drop a)]=62
    ·rw[e2,if_pos (.inr ⟨h0,rfl⟩)];rfl
    ·have e2':((s[a+kG (s.drop a)].toNat:Nat):Int)≠62:=fun h=>e2 (UInt8.toNat_inj.1 (by grind));simp_all [dL]
  ·have hd:((s.drop a).drop (kG (s.drop a))).head?=none:=by
    simp_all
   rw[dC (jZ (by rw[bF];omega)),hd,if_neg (by simp)];simp
theorem agr: ∀n:Fin 15,(match ajR ((n.val:Nat):Int)with|some (t,_)=>(t==([]:bM))==(decide (n.val=0)||decide (n.val=12))&&decide (t.length<=2)|none=>false)=true:=by decide+kernel
theorem arn {m:Int} (h0:0<=m) (h1:m<=14): ∃t,ajR m=some (t,())/\(t=[]↔m=0\/m=12)/\t.length<=2:=by
 have:=agr ⟨m.toNat,by omega⟩
 grind
def Ls (s:fH):Bool:=s.all fun f=>decide (f.1=0)||decide (f.1=12)
theorem Jz (F:List Ho) (hF:F.length<1000000) (hm: ∀f∈F,0<=f.1/\f.1<=14): ∀(N k:Nat) (a b:bM) (t:List Int),k<N->k<=F.length->t.length<=2*(F.length-k)->
  ∃t',qx N ((k:Int)-1) a b F t=some (.inl ((),((a,()),(),(),()),((b,()),(F,()),(),t',())))/\(t'=[]↔t=[]/\ ∀f∈F.take k,f.1=0\/f.1=12)
 |0,k,a,b,t,h,_,_=>by omega
 |N+1,0,a,b,t,h,_,_=>by
  rw[qx,uI];refine⟨t,rfl, ?_⟩;simp
 |N+1,k+1,a,b,t,h,hk,ht=>by
  rw[qx,uI];have hk':k<F.length:=by omega
  have hg:dQ F (0,(0,())) (k:Int)=F[k]:=by
   simp_all [dQ]
  have hb:=hm F[k] (aH hk');obtain⟨c,c1,c2,c3⟩:=arn hb.1 hb.2;have hfit:dO (bG t (dh c)) 1=true:=by
   simp only[dO,bG,dh,ai,aK,decide_eq_true_eq,lC];omega
  rw[show((k+1:Nat):Int)-1=(k:Int) by omega,bI (pq (by omega)),bI (dN (by omega) (by omega)),hg,c1,bu];simp only[hfit,dU,cond_true];rw[gQ (by omega) (by omega)];obtain⟨t',h1,h2⟩:=Jz F hF hm N k a b (bG t (dh c)) (by omega) (by omega) (by grind [bG,dh]);refine⟨t',h1, ?_⟩;rw[h2,List.take_add_one,List.getElem?_eq_getElem hk'];have:bG t (dh c)=[]↔t=[]/\(F[k].1=0\/F[k].1=12):=by
   simp_all [bG,dh]
  rw[this];simp only[Option.toList_some,List.mem_append,List.mem_singleton]
  grind
theorem anf (w:bM) (hw:w.length<=100000): ∃t,ajG w=some (t,())/\(!fG t [])= !Ls (mX w 0 fE).1:=by
 have hg:=Ej w 0 fE jY;have hl:fE.1.length=1:=rfl;have hm:=IP hg.1;rw[ajG,aHJ w hw,bu];obtain⟨t',h1,h2⟩:=Jz (lo (mX w 0 fE).1) (by rw[oV];omega) (fun f hf=>by
  unfold lo at hf
  grind) bH (lo (mX w 0 fE).1).length [] [] [] (dB (by rw[oV];omega)) (ae _) (by simp)
 simp only;rw[bF,gQ (by rw[oV];omega) (by rw[oV];omega),h1,bu];refine⟨_,rfl, ?_⟩;congr 1;simp only;rw[List.take_length]at h2;have h3:(∀f∈lo (mX w 0 fE).1,f.1=0\/f.1=12)↔Ls (mX w 0 fE).1=true:=by
  unfold Ls lo;simp only[List.mem_reverse,List.mem_map,List.all_eq_true,Bool.or_eq_true,decide_eq_true_eq];exact⟨fun h f hf=>h _ ⟨f,hf,rfl⟩,fun h f ⟨g,hg,e⟩=>by grind⟩
 rw[h3]at h2;unfold fG;cases hs:Ls (mX w 0 fE).1 with
 |true=>rw[h2.2 ⟨rfl,hs⟩];rfl
 |false=>
  have:t'≠[]:=fun e=>by simp_all
  cases t' with
  |nil=>simp_all
  |cons x y=>rfl
def xy (s:bM) (tabs:Bool) (a:Nat):bM:=if tabs=true then((s.take (iU s a)).drop a).dropWhile (· ==9)else(s.take (iU s a)).drop a
def nV (s:bM) (a:Nat):Nat:=if iU s a<s.length then iU s a+1 else iU s a
def pg (s w:bM) (tabs:Bool):Nat->Nat->Nat×Bool
 |0,a=>(a,false)
 |n+1,a=>if a<s.length then(if xy s tabs a=w then(nV s a,true)else pg s w tabs n (nV s a))else(a,false)
theorem ae2 {s:List UInt8} {a:Nat} (h:a<s.length):a<nV s a/\nV s a<=s.length:=by
 grind [xx,AL,nV]
theorem VQ: ∀(l:bM) (N:Nat),l.length<N->Kt N l 9=some (.inl ((l.dropWhile (· ==9),()),()))
 |l,0,h=>by omega
 |[],N+1,_=>by rfl
 |c::l,N+1,h=>by
  rw[Kt,Q5,bI (dZ (by simp_all [bF])),bI (dN (by omega) (by simp)),show bT (c::l) 0=(c.toNat:Int) from rfl];by_cases e:c=9
  ·subst e;rw[show bJ (((9:UInt8).toNat:Nat):Int) 9=true from rfl,cond_true,bI (fO (by omega) (by grind [bF]) (by omega))];rw[show sub ((9:UInt8)::l) 1 (bC ((9:UInt8)::l))=l by simp[sub,bF],VQ l N (by simp at h;omega)];simp
  ·rw[dC (dL (fun h=>e (UInt8.toNat_inj.1 (by grind)))),List.dropWhile_cons_of_neg (by simpa using e)]
theorem aBl (l:bM) (hl:l.length<1000000):ajY l 9=some (l.dropWhile (· ==9),()):=by
 rw[ajY,VQ l bH (dB (by omega)),bu];rfl
theorem Xx {s w:List UInt8} (hs:s.length<1000000) (tabs:Bool): ∀(N a:Nat),s.length-a<N->a<=s.length->
  Cf N s (a:Int) w tabs=some (if(pg s w tabs N a).2=true then .inr (((((pg s w tabs N a).1:Nat):Int),true,()),())else .inl (((((pg s w tabs N a).1:Nat):Int),()),()))
 |0,a,h,_=>by omega
 |N+1,a,h,ha=>by
  (rewrite [Cf,QS];delta Bf;rw[pg])
  by_cases e:a<s.length
  ·have h1:=xx s a;have h2:=AL (s:=s) (a:=a) (by omega);have hn:=ae2 e;have ih:=Xx (w:=w) hs tabs N (nV s a) (by omega) (by omega);have hsub:sub s (a:Int) ((iU s a:Nat):Int)=(s.take (iU s a)).drop a:=by simp[sub]
   have hfin: ∀(x:bM),x=xy s tabs a->
     (bif decide (iU s a<s.length)then
      bif fG x w then(some (.inr ((bU .i64 ((iU s a:Nat):Int) 1,true,()),())):Option (QD.den⊕QE.den))
      else Cf N s (bU .i64 ((iU s a:Nat):Int) 1) w tabs
     else bif fG x w then some (.inr ((((iU s a:Nat):Int),true,()),()))
      else Cf N s ((iU s a:Nat):Int) w tabs)=
     some (if(if xy s tabs a=w then(nV s a,true)else pg s w tabs N (nV s a)).2=true
      then .inr (((((if xy s tabs a=w then(nV s a,true)else pg s w tabs N (nV s a)).1:Nat):Int),true,()),())
      else .inl (((((if xy s tabs a=w then(nV s a,true)else pg s w tabs N (nV s a)).1:Nat):Int),()),())):=by
    intro x hx;subst hx;have hw:fG (xy s tabs a) w=decide (xy s tabs a=w):=by
     grind [fG]
    rw[hw];by_cases hl:iU s a<s.length
    ·have hnx:nV s a=iU s a+1:=by simp_all [nV]
     rw[decide_eq_true hl,cond_true,bZ (by omega) (by omega),show((iU s a:Nat):Int)+1=((nV s a:Nat):Int) by omega]
     grind
    ·have hnx:nV s a=iU s a:=by simp_all [nV]
     grind
   rw[bI (dZ (by rw[bF];omega)),aut hs (by omega),bu,if_pos e];simp only;rw[bI (fO (by omega) (by omega) (by rw[bF];omega)),hsub];cases tabs with
   |false=>simp_all [xy]
   |true=>
    simp only[cond_true];by_cases e0:(s.take (iU s a)).drop a=[]
    ·rw[e0,show fG ([]:bM) []=true from rfl,cond_true];exact hfin _ (by rw[xy,if_pos rfl,e0];rfl)
    ·rw[dC (by simp_all [fG])];refine(dC (by rfl)).trans ?_;refine(bI (by rfl)).trans ?_;refine(bI (by rfl)).trans ?_;refine(bI (by rfl)).trans ?_;refine(bI (by rfl)).trans ?_;rw[show bT [9] 0=9 from rfl];rw[aBl _ (by grind),bu];exact hfin _ (by rfl)
  simp_all [fV,bF,if_neg]
def Dx (s w:bM) (tabs:Bool) (a:Nat):Nat×Bool:=pg s w tabs bH a
theorem aEs {s:List UInt8} (hs:s.length<1000000) (d:bM×Bool×Unit) {a:Nat} (ha:a<=s.length):ajD s a d=some ((((Dx s d.1 d.2.1 a).1:Nat):Int),((Dx s d.1 d.2.1 a).2,())):=by
 rw[ajD,Xx hs d.2.1 bH a (dB (by omega)) ha,bu];unfold Dx;cases h:(pg s d.1 d.2.1 bH a).2 with
 |true=>simp[dE]
 |false=>simp[dE]
end
section
open Bool renaming not_true → ay, not_false → aB
open List renaming map_cons → ak, mem_cons_of_mem → au, drop_of_length_le → az, drop_eq_getElem_cons → aA, mem_cons_self → aP
open Nat renaming le_refl → ae, lt_or_ge → aI
open Go.RowKit
def Qb (n:Nat):bM:=if n=0 then []else Nz.getD (n-1) []
def acd (u t:bM):Bool:=decide (t.take u.length=u)
def rH (t:bM):Nat->Nat
 |0=>0
 |n+1=>if acd (Qb (n+1)) t=true/\(Qb (rH t n)).length<(Qb (n+1)).length then n+1 else rH t n
theorem NU: ∀n:Fin 18,Zr ((n.val:Nat):Int)=some (Qb n.val,()):=by decide+kernel
theorem alh: ∀n:Fin 18,(Qb n.val).length<=3:=by decide+kernel
theorem ado (t:bM): ∀n,rH t n<=n
 |0=>ae _
 |n+1=>by rw[rH];split<;>have:=ado t n<;>omega
theorem afn (s:bM) (hs:s.length<1000000) {a:Nat} (ha:a<=s.length): ∀(d N k:Nat),k+d=17->d<N->
  Nh N s (a:Int) ((rH (s.drop a) k:Nat):Int) ((k+1:Nat):Int)=some (.inl ((((rH (s.drop a) 17:Nat):Int),()),()))
 |d,0,k,_,h=>by omega
 |0,N+1,k,h,_=>by
  have hk:k=17:=by omega
  subst hk;rfl
 |d+1,N+1,k,h,hN=>by
  have ht:=NU ⟨k+1,by omega⟩;have hb:=ado (s.drop a) k;have hbt:=NU ⟨rH (s.drop a) k,by omega⟩;have hl:=alh ⟨k+1,by omega⟩;simp only at ht hbt hl;rw[Nh,acK,bI (pq (by omega)),ht,bu];simp only;rw[bZ (a:=((k+1:Nat):Int)) (by omega) (by omega),show((k+1:Nat):Int)+1=((k+1+1:Nat):Int) by omega,bF,bF,gQ (by omega) (by omega)];have ih:=afn s hs ha d N (k+1) (by omega) (by omega);rw[rH]at ih;by_cases e:a+(Qb (k+1)).length<=s.length
  ·rw[bI (pq (by omega)),bZ (by omega) (by omega),show(a:Int)+(((Qb (k+1)).length:Nat):Int)=((a+(Qb (k+1)).length:Nat):Int) by omega,bI (fO (by omega) (by omega) (by omega)),Bq];have hp:fG ((s.drop a).take (Qb (k+1)).length) (Qb (k+1))=acd (Qb (k+1)) (s.drop a):=by
    grind [fG,acd]
   rw[hp];cases hx:acd (Qb (k+1)) (s.drop a)with
   |false=>simp_all
   |true=>
    rw[hx]at ih;rw[cond_true,hbt,bu];simp only[bF];by_cases e2:(Qb (rH (s.drop a) k)).length<(Qb (k+1)).length
    ·rw[bI (dZ (by omega))];simp_all
    simp_all [jZ]
  ·rw[dC (O3 (by omega))];have hx:acd (Qb (k+1)) (s.drop a)=false:=by
    unfold acd
    grind
   simp_all
theorem aI2 (s:bM) (hs:s.length<1000000) {a:Nat} (ha:a<=s.length):atf s a=some (((rH (s.drop a) 17:Nat):Int),()):=by
 rw[atf];have h:=afn s hs ha 17 bH 0 rfl (dB (by omega));rw[show Nh bH s (a:Int) 0 1=_ from h,bu];rfl
def opB:bM:=[38,124,59,60,62,45,40,41]
def yK (c:UInt8):UInt8:=if opB.contains c=true then c else 0
theorem Z7: ∀(x u:bM),(∀c∈u,opB.contains c=true)->(x.map yK=u↔x=u)
 |[],[],_=>Iff.rfl
 |[],_::_,_=>by simp
 |_::_,[],_=>by simp
 |c::x,d::u,h=>by
  have h0:=h d (aP ..);have ih:=Z7 x u fun c hc=>h c (au _ hc);rw[ak,List.cons.injEq,List.cons.injEq,ih];have:yK c=d↔c=d:=by
   unfold yK;split
   ·exact Iff.rfl
   ·rename_i hc
    constructor
    ·intro e;rw[<-e]at h0;exact absurd h0 (by decide)
    grind
  rw[this]
theorem XT: ∀u∈Nz,∀c∈u,opB.contains c=true:=by decide
theorem avo (x:bM):ofF (x.map yK)=ofF x:=by
 unfold ofF;have:Nz.findIdx? (· ==x.map yK)=Nz.findIdx? (· ==x):=by
  have h: ∀l:List bM,(∀u∈l,∀c∈u,opB.contains c=true)->l.findIdx? (· ==x.map yK)=l.findIdx? (· ==x):=by
   intro l
   induction l with
   |nil=>intro _;rfl
   |cons u l ih=>
    intro h;have e:(u==x.map yK)=(u==x):=by
     have:=Z7 x u (h u (aP ..))
     grind
    grind
  exact h Nz XT
 rw[this]
theorem avC (t:bM):CQ t=CQ ((t.take 3).map yK):=by
 have h: ∀n,n<=3->Qj t n=Qj ((t.take 3).map yK) n:=by
  intro n hn
  induction n with
  |zero=>rfl
  |succ n ih=>
   rw[Qj,Qj,<-List.map_take,List.take_take,Nat.min_eq_left hn,avo,ih (by omega)]
 grind [CQ]
theorem RZ (t:bM): ∀n,n<=17->rH t n=rH ((t.take 3).map yK) n
 |0,_=>rfl
 |n+1,hn=>by
  have ih:=RZ t n (by omega);have hl:=alh ⟨n+1,by omega⟩;simp only at hl;have e:acd (Qb (n+1)) t=acd (Qb (n+1)) ((t.take 3).map yK):=by
   unfold acd;rw[<-List.map_take,List.take_take,Nat.min_eq_left hl];have hb: ∀c∈Qb (n+1),opB.contains c=true:=by
    have:Qb (n+1)∈Nz:=by
     have ht: ∀n:Fin 17,Qb (n.val+1)∈Nz:=by decide+kernel
     exact ht ⟨n,by omega⟩
    exact XT _ this
   rw[decide_eq_decide,Z7 _ _ hb]
  rw[rH,rH,e,ih]
def nB (n:Fin 9):UInt8:=([0,38,124,59,60,62,45,40,41]:bM).getD n.val 0
def okB (t:bM):Bool:=CQ t==(rH t 17,(Qb (rH t 17)).length)
theorem ok0:okB []=true:=by decide+kernel
theorem ok1: ∀a,okB [nB a]=true:=by decide+kernel
theorem ok2: ∀a b,okB [nB a,nB b]=true:=by decide+kernel
theorem ok3: ∀a b c,okB [nB a,nB b,nB c]=true:=by decide+kernel
theorem Gy (c:UInt8): ∃n,yK c=nB n:=by
 unfold yK;split
 ·rename_i h
  have: ∀d∈opB,∃n,d=nB n:=by decide
  simp_all
 ·exact⟨0,rfl⟩
theorem ali (t:bM):CQ t=(rH t 17,(Qb (rH t 17)).length):=by
 rw[avC,RZ t 17 (ae _)];have h:okB ((t.take 3).map yK)=true:=by
  have hl:(t.take 3).length<=3:=by grind
  rcases h:t.take 3 with _|⟨a,_|⟨b,_|⟨c,_|⟨d,l⟩⟩⟩⟩
  ·exact ok0
  ·obtain⟨x,hx⟩:=Gy a;simp_all [ok1]
  ·obtain⟨x,hx⟩:=Gy a;obtain⟨y,hy⟩:=Gy b;simp_all [ok2]
  ·obtain⟨x,hx⟩:=Gy a;obtain⟨y,hy⟩:=Gy b;obtain⟨z,hz⟩:=Gy c;simp_all [ok3]
  simp_all
 exact eq_of_beq h
theorem aI3 (s:bM) (hs:s.length<1000000) {a:Nat} (ha:a<=s.length):atf s a=some ((((CQ (s.drop a)).1:Nat):Int),()):=by
 rw[aI2 s hs ha,ali]
theorem aA8 (t:bM):Zr (((CQ t).1:Nat):Int)=some (Qb (CQ t).1,())/\(Qb (CQ t).1).length=(CQ t).2:=by
 have h:=(Qr t).2.2;refine⟨NU ⟨(CQ t).1,by omega⟩, ?_⟩;rw[ali]
theorem PE {s:List UInt8} (hs:s.length<1000000): ∀(N a:Nat),s.length-a<N->a<=s.length->
  ∃o,Nc N s (a:Int)=some o/\dE o (fun a1=>some (a1.1.1,())) (fun b1=>some (b1.1.1,()))=some ((((a+wX (s.drop a):Nat):Int)),())
 |0,a,h,_=>by omega
 |N+1,a,h,ha=>by
  rw[Nc,acJ];by_cases e:a<s.length
  ·have hd:=aA e;have hin:fB s (a:Int)=true:=dN (by omega) (by omega);rw[bI (dZ (by rw[bF];omega)),hin,byte_at e,hd,Jw];simp only[cond_true];have step: ∀m:Nat,a+m<=s.length->1<=m-> ∃o,Nc N s (bU .i64 (a:Int) (m:Int))=some o/\dE o (fun a1=>some (a1.1.1,())) (fun b1=>some (b1.1.1,()))=some ((((a+(wX (s.drop (a+m))+m):Nat):Int)),()):=fun m hm h1=>by
    obtain⟨o,o1,o2⟩:=PE hs N (a+m) (by omega) hm
    grind [bZ]
   by_cases h32:s[a]=32
   ·have:qM (s[a].toNat:Int)=true:=by rw[h32];rfl
    rw[this,if_pos rfl,h32];exact step 1 (by omega) (by omega)
   ·have h32':bJ (s[a].toNat:Int) 32=false:=dL fun h=>h32 (UInt8.toNat_inj.1 (by grind));by_cases h9:s[a]=9
    ·have:qM (s[a].toNat:Int)=true:=by rw[h9];rfl
     rw[this,if_pos rfl,h32',h9];exact step 1 (by omega) (by omega)
    ·have h9':bJ (s[a].toNat:Int) 9=false:=dL fun h=>h9 (UInt8.toNat_inj.1 (by grind));have hb:qM (s[a].toNat:Int)=false:=by
      simp_all [qM,gY]
     rw[hb,if_neg (by simp),h32',h9'];simp only[cond_false];have hstop:Ae (s[a]::s.drop (a+1))=false-> ∃o:abv.den⊕ab9.den,some (.inl (((a:Int),()),()))=some o/\dE o (fun a1=>some (a1.1.1,())) (fun b1=>some (b1.1.1,()))=some ((((a+(if Ae (s[a]::s.drop (a+1))=true then wX ((s.drop (a+1)).drop 1)+2 else 0):Nat):Int)),()):=fun h=>by
      rw[h,if_neg (by simp)];exact⟨_,rfl,rfl⟩
     by_cases h92:s[a]=92
     ·rw[h92,show bJ (((92:UInt8).toNat:Nat):Int) 92=true from rfl,cond_true,bZ (by omega) (by omega),show(a:Int)+1=((a+1:Nat):Int) by omega];rw[h92]at hstop;by_cases e1:a+1<s.length
      ·have hd1:=aA e1;rw[bI (dZ (by rw[bF];omega)),bI (dN (by omega) (by omega)),byte_at e1];by_cases h10:s[a+1]=10
       ·rw[h10,show bJ (((10:UInt8).toNat:Nat):Int) 10=true from rfl,cond_true];have hc:Ae (92::s.drop (a+1))=true:=by rw[hd1,h10];rfl
        grind
       ·rw[dC (dL fun h=>h10 (UInt8.toNat_inj.1 (by grind)))]
        grind [Ae]
      ·rw[dC (jZ (by rw[bF];omega))];refine hstop ?_;rw[az (by omega)];rfl
     ·rw[dC (dL fun h=>h92 (UInt8.toNat_inj.1 (by grind)))];refine hstop ?_;cases s.drop (a+1)with
      |nil=>rfl
      |cons d t=>simp[Ae,h92]
  ·rw[dC (fV (by rw[bF];omega)),az (by omega)];exact⟨_,rfl,rfl⟩
theorem ayI {s:List UInt8} (hs:s.length<1000000) {a:Nat} (ha:a<=s.length):azg s a=some ((((a+wX (s.drop a):Nat):Int)),()):=by
 rw[azg];obtain⟨o,o1,o2⟩:=PE hs bH a (dB (by omega)) ha
 grind [bu]
theorem YD {s w:List UInt8} (hs:s.length<1000000) {i:Nat} (hi:i<=s.length) (tabs:Bool): ∀(N k:Nat),i-k<N->k<=i->
  ∃k':Nat,Ui N s (i:Int) (k:Int) w tabs=some (.inl ((s,(i:Int),(k':Int),()),((w,tabs,()),())))/\k'<=i/\k<=k'/\(s.take i).drop k'=if tabs=true then((s.take i).drop k).dropWhile (· ==9)else(s.take i).drop k
 |0,k,h,_=>by omega
 |N+1,k,h,hk=>by
  rw[Ui,acI];cases tabs with
  |false=>grind
  |true=>
   simp only[cond_true];by_cases e:k<i
   ·have hk2:k<(s.take i).length:=by simp_all
    have hd:=aA hk2;rw[List.getElem_take]at hd;rw[bI (dZ (by omega)),bI (dN (by omega) (by omega)),byte_at (by omega)];by_cases h9:s[k]=9
    ·rw[h9,show bJ (((9:UInt8).toNat:Nat):Int) 9=true from rfl,cond_true,bZ (by omega) (by omega),show(k:Int)+1=((k+1:Nat):Int) by omega];obtain⟨k',h1,h2,h3,h4⟩:=YD hs hi true N (k+1) (by omega) (by omega);exact⟨k',h1,h2,by omega,by simp_all⟩
    ·rw[dC (dL fun h=>h9 (UInt8.toNat_inj.1 (by grind)))];exact⟨k,rfl,hk,ae _,by simp_all⟩
   ·rw[dC (fV (by omega))];refine⟨k,rfl,hk,ae _, ?_⟩;simp_all [az]
theorem XE {s:List UInt8} {f i:Nat} (h1:f<=i) (h2:i<iU s f) (h3:i<s.length):s[i]≠10:=by
 have:=FB (· !=10) (s.drop f) (i-f) (by grind) (by grind [iU]);simp_all
theorem Ue {s:List UInt8} {f:Nat} (h3:iU s f<s.length):s[iU s f]=10:=by
 have:=zV (· !=10) (s.drop f) (by grind [iU]);simp_all [iU]
def aI6 (s:bM) (h:Nat×Bool):abu.den⊕ab8.den:=if h.2=true then .inr ((((h.1:Nat):Int),1,()),())else .inl ((s,()),())
theorem Je {s w:List UInt8} (hs:s.length<1000000) (tabs:Bool): ∀(N f i M:Nat),s.length+1-i<N->f<=i->i<=iU s f->f<=s.length->s.length-f<M->
  CB N s (f:Int) (i:Int) w tabs=some (aI6 s (pg s w tabs M f))
 |0,f,i,M,h,_,_,_,_=>by omega
 |N+1,f,i,0,h,hfi,hil,hf,hM=>by omega
 |N+1,f,i,M+1,h,hfi,hil,hf,hM=>by
  have hle:=AL hf;have ew:fG (xy s tabs f) w=decide (xy s tabs f=w):=by
   grind [fG]
  have stop: ∀N,0<N->CB N s ((s.length+1:Nat):Int) ((s.length+1:Nat):Int) w tabs=some (.inl ((s,()),()))/\CB N s (f:Int) ((s.length+1:Nat):Int) w tabs=some (.inl ((s,()),())):=fun N hN=>by
   obtain⟨n,rfl⟩: ∃n,N=n+1:=⟨N-1,by omega⟩;constructor
   ·(rewrite [CB,N7];delta uM;rw[dC (O3 (by rw[bF];omega))])
   ·(rewrite [CB,N7];delta uM;rw[dC (O3 (by rw[bF];omega))])
  have hend: ∀m,pg s w tabs m s.length=(s.length,false):=fun m=>by
   cases m with
   |zero=>rfl
   |succ m=>simp_all [pg]
  (rewrite [CB,N7];delta uM;rw[bI (pq (by rw[bF];omega))])
  by_cases e:i<iU s f
  ·have hi:i<s.length:=by omega
   rw[bI (dZ (by rw[bF];omega)),bI (dN (by omega) (by omega)),byte_at hi,dL fun h=>XE hfi e hi (UInt8.toNat_inj.1 (by grind))];simp only[aB,cond_true];rw[bZ (by omega) (by omega),show(i:Int)+1=((i+1:Nat):Int) by omega];exact Je hs tabs N f (i+1) (M+1) (by omega) (by omega) (by omega) hf hM
  ·have hi:i=iU s f:=by omega
   obtain⟨k',t1,t2,t3,t4⟩:=YD (w:=w) hs (i:=i) (by omega) tabs bH f (dB (by omega)) hfi;have hT:sub s (k':Int) (i:Int)=xy s tabs f:=by
    simp_all [xy,sub]
   by_cases hl:i<s.length
   ·have h10:s[i]=10:=by subst hi;exact Ue hl
    have hnx:nV s f=i+1:=by unfold nV;grind
    rw[bI (dZ (by rw[bF];omega)),bI (dN (by omega) (by omega)),byte_at hl,h10,show bJ (((10:UInt8).toNat:Nat):Int) 10=true from rfl];simp only[ay,cond_false];rw[dC (dL (by rw[bF];omega)),t1,bu];simp only[dE];rw[bI (fO (by omega) (by omega) (by rw[bF];omega)),hT,ew,pg,if_pos (by omega),hnx];rw[bI (dZ (by rw[bF];omega)),bZ (by omega) (by omega),show(i:Int)+1=((i+1:Nat):Int) by omega];by_cases hw:xy s tabs f=w
    ·rw[decide_eq_true hw,cond_true,if_pos hw];rfl
    ·rw[decide_eq_false hw,cond_false,if_neg hw];exact Je hs tabs N (i+1) (i+1) M (by omega) (ae _) (xx s _) (by omega) (by omega)
   ·have hi2:i=s.length:=by omega
    rw[dC (jZ (by rw[bF];omega)),bI (eH (by rw[bF];omega))];by_cases hfi2:f=i
    ·rw[bI (eH (by omega)),bZ (by omega) (by omega),show(i:Int)+1=((s.length+1:Nat):Int) by omega,(stop N (by omega)).2,hfi2,hi2,hend];rfl
    ·have hnx:nV s f=s.length:=by simp_all [nV]
     rw[dC (dL (by omega)),t1,bu];simp only[dE];rw[bI (fO (by omega) (by omega) (by rw[bF];omega)),hT,ew,pg,if_pos (by omega),hnx];rw[dC (jZ (by rw[bF];omega))];by_cases hw:xy s tabs f=w
     ·rw[decide_eq_true hw,cond_true,if_pos hw,hi2];rfl
     ·rw[decide_eq_false hw,cond_false,if_neg hw,hend,bZ (by omega) (by omega),show(i:Int)+1=((s.length+1:Nat):Int) by omega,(stop N (by omega)).1];rfl
theorem MR (s w:bM) (tabs:Bool): ∀(N a:Nat),s.length-a<N->a<=s.length->(pg s w tabs N a).1<=s.length/\((pg s w tabs N a).2=false->(pg s w tabs N a).1=s.length)/\(a<s.length->a<(pg s w tabs N a).1)
 |0,a,h,_=>by omega
 |N+1,a,h,ha=>by
  rw[pg];by_cases e:a<s.length
  ·have hn:=ae2 e;rw[if_pos e];split
   ·simp_all
   ·have ih:=MR s w tabs N (nV s a) (by omega) hn.2;refine⟨ih.1,ih.2.1,fun _=> ?_⟩;rcases aI (nV s a) s.length with h'|h'
    ·omega
    ·cases N with
     |zero=>omega
     |succ N=>simp_all [pg,if_neg]
  grind
theorem aEt {s:List UInt8} (hs:s.length<1000000) (d:bM×Bool×Unit) {a:Nat} (ha:a<=s.length):azf s a d=some ((((Dx s d.1 d.2.1 a).1:Nat):Int),((if(Dx s d.1 d.2.1 a).2=true then 1 else 0),())):=by
 rw[azf,Je hs d.2.1 bH a a bH (dB (by omega)) (ae _) (xx s a) ha (dB (by omega)),bu]
 grind [MR,dB,aI6,Dx,dE,bF]
theorem awM {s:fH} (hg:iy s):Ls s=(fG (so s) [84]||fG (so s) [84,76]):=by
 rw[awR hg,amM hg]
 match s,hg with
 |[],hg=>cases hg
 |[f],hg=>have h:f.1=0:=hg;simp[Ls,h]
 |[f,g],hg=>
  have h1:=hg.1;have h0:g.1=0:=hg.2.2.2
  grind [Ls]
 |f::g::h::r,hg=>
  have h1:=hg.2.2.2.1;have h2:=hg.2.2.1
  grind [Ug,Ls]
end
section
open Bool renaming not_true → ay, not_false → aB
open Nat renaming le_trans → aG
open Go.RowKit
theorem ayY {a b:List UInt8}:fG a b=true↔a=b:=by simp[fG]
theorem Hq {a b:List UInt8} (h:a≠b):fG a b=false:=by simp[fG];exact h
theorem Xh {a b:List UInt8} (h:a=b):fG a b=true:=ayY.2 h
def Qe:List bM:=[[33],[123],[125],[99,97,115,101],[100,111],[100,111,110,101],[101,108,105,102],[101,108,115,101],[101,115,97,99],[102,105],[102,111,114],[105,102],[105,110],[116,104,101,110],[117,110,116,105,108],[119,104,105,108,101]]
def aeC:bM:=[32,33,32,123,32,125,32,99,97,115,101,32,100,111,32,100,111,110,101,32,101,108,105,102,32,101,108,115,101,32,101,115,97,99,32,102,105,32,102,111,114,32,105,102,32,105,110,32,116,104,101,110,32,117,110,116,105,108,32,119,104,105,108,101,32]
theorem aho: ∀i:Fin 66,∀n:Fin 66,(sub aeC (i.val:Int) ((i.val:Int)+((n.val:Int)+2))).getD 0 0=32->
  (sub aeC (i.val:Int) ((i.val:Int)+((n.val:Int)+2))).getD (n.val+1) 0=32->
  (((sub aeC (i.val:Int) ((i.val:Int)+((n.val:Int)+2))).drop 1).take n.val).contains 32=false->n.val≠0->i.val+n.val+2<=65->
  Qe.contains (((sub aeC (i.val:Int) ((i.val:Int)+((n.val:Int)+2))).drop 1).take n.val)=true:=by decide+kernel
theorem akf (x:bM) (hx:x.length<=3000000): ∀(n k:Nat),k<=x.length->x.length-k<n->
  CE n 32 x (k:Int)=some (.inl ((),()))/\(∀j,k<=j->j<x.length->bT x (j:Int)≠32)\/CE n 32 x (k:Int)=some (.inr ((true,()),()))
 |0,k,h1,h2=>by omega
 |n+1,k,h1,h2=>by
  rw[CE];unfold Vl;by_cases hk:k<x.length
  ·rw[bI (dZ (by rw[bF];omega)),bI (dN (by omega) (by omega))];by_cases hb:bT x (k:Int)=32
   ·simp_all [eH]
   ·rw[dC (dL hb),bZ (by omega) (by omega)];rcases akf x hx n (k+1) (by omega) (by omega)with ⟨h,h'⟩|h
    all_goals grind
  ·rw[dC (fV (by rw[bF];omega))]
   grind
theorem avm {x:List UInt8} (h: ∀j,0<=j->j<x.length->bT x ((j:Nat):Int)≠32):x.contains 32=false:=by
 rw[Bool.eq_false_iff];intro hc;rw[List.contains_iff_mem]at hc;obtain⟨j,hj,he⟩:=List.mem_iff_getElem.1 hc;refine h j (by omega) hj ?_;simp_all [bT]
theorem afq (x:bM) (hx:x.length<=3000000) (h0:x.length≠0) (hb:x.contains 32=false) (hw:Qe.contains x=false): ∀(n i:Nat),i<=66->66-i<n->
  Uj n (bG (bG [32] x) [32]) (i:Int)=some (.inl ((),()))
 |0,i,h1,h2=>by omega
 |n+1,i,h1,h2=>by
  have hl:(bG (bG [32] x) [32]).length=x.length+2:=by simp[bG]
  rw[Uj];unfold acN;by_cases hi:i+x.length+2<=65
  ·rw[bI (pq (by grind [bF,bZ]))];rw[bI (fO (by omega) (by grind [bF,bZ]) (by rw[bF,bF,hl,bZ (by omega) (by omega)];show _<=(65:Int);omega))];rw[dC (Hq ?_)]
   ·rw[bZ (by omega) (by omega)];exact afq x hx h0 hb hw n (i+1) (by omega) (by omega)
   ·intro he;rw[bF,hl,bZ (by omega) (by omega)]at he;change sub aeC _ _=_ at he;have:=aho ⟨i,by omega⟩ ⟨x.length,by omega⟩;simp_all [bG]
  ·rw[dC (Dy (by grind [bF,bZ]))]
theorem al2 (x:bM) (hx:x.length<=3000000) (hw:Qe.contains x=false):aou x=some (false,()):=by
 unfold aou;by_cases h0:x.length=0
 ·simp_all [eH,bF]
 rw[dC (dL (by rw[bF];omega))];unfold Eg;rcases akf x hx bH 0 (by omega) (dB (by omega))with ⟨h,h'⟩|h
 ·rw[show(0:Int)=((0:Nat):Int) from rfl,h];simp only[bu,avD,cond_false];rw[bI (show eP [32] x=true by unfold eP lC;grind)];rw[bI (show eP (bG [32] x) [32]=true by unfold eP lC bG;grind)];rw[afq x hx h0 (avm h') hw bH 0 (by omega) (dB (by omega))];rfl
 ·rw[show(0:Int)=((0:Nat):Int) from rfl,h];rfl
theorem afg: ∀k:Fin 17,ajT ((k.val:Int)+1)=some (Nz.getD k.val [],())/\Zr ((k.val:Int)+1)=some (Nz.getD k.val [],()):=by
 intro k
 match k with
 |⟨0,_⟩=>exact⟨by kernel_rfl,by kernel_rfl⟩
 |⟨1,_⟩=>exact⟨by kernel_rfl,by kernel_rfl⟩
 |⟨2,_⟩=>exact⟨by kernel_rfl,by kernel_rfl⟩
 |⟨3,_⟩=>exact⟨by kernel_rfl,by kernel_rfl⟩
 |⟨4,_⟩=>exact⟨by kernel_rfl,by kernel_rfl⟩
 |⟨5,_⟩=>exact⟨by kernel_rfl,by kernel_rfl⟩
 |⟨6,_⟩=>exact⟨by kernel_rfl,by kernel_rfl⟩
 |⟨7,_⟩=>exact⟨by kernel_rfl,by kernel_rfl⟩
 |⟨8,_⟩=>exact⟨by kernel_rfl,by kernel_rfl⟩
 |⟨9,_⟩=>exact⟨by kernel_rfl,by kernel_rfl⟩
 |⟨10,_⟩=>exact⟨by kernel_rfl,by kernel_rfl⟩
 |⟨11,_⟩=>exact⟨by kernel_rfl,by kernel_rfl⟩
 |⟨12,_⟩=>exact⟨by kernel_rfl,by kernel_rfl⟩
 |⟨13,_⟩=>exact⟨by kernel_rfl,by kernel_rfl⟩
 |⟨14,_⟩=>exact⟨by kernel_rfl,by kernel_rfl⟩
 |⟨15,_⟩=>exact⟨by kernel_rfl,by kernel_rfl⟩
 |⟨16,_⟩=>exact⟨by kernel_rfl,by kernel_rfl⟩
 |⟨n+17,h⟩=>omega
theorem aCy {x:List UInt8} (hw:Nz.contains x=false) {k:Nat} (hk:k<17):Nz.getD k []≠x:=by
 rintro rfl;rw[Bool.eq_false_iff]at hw;apply hw;rw[List.contains_iff_mem,List.getD_eq_getElem?_getD,List.getElem?_eq_getElem (show k<Nz.length from hk)];simp
theorem Yi (x:bM) (hw:Nz.contains x=false): ∀(n k:Nat),k<=17->17-k<n->Ci n x ((k:Int)+1)=some (.inl ((),()))
 |0,k,h1,h2=>by omega
 |n+1,k,h1,h2=>by
  rw[Ci];unfold LC;by_cases hk:k<17
  ·rw[bI (pq (by omega)),(afg ⟨k,hk⟩).1,bu,dC (Hq (aCy hw hk)),bZ (by omega) (by omega)];exact Yi x hw n (k+1) (by omega) (by omega)
  ·rw[dC (Dy (by omega))]
theorem amJ (x:bM) (hw:Nz.contains x=false) (a b c:Int): ∀(n k:Nat),k<=17->17-k<n->Uh n ((k:Int)+1) a x b c=some (.inl ((),()))
 |0,k,h1,h2=>by omega
 |n+1,k,h1,h2=>by
  rw[Uh];unfold acD;by_cases hk:k<17
  ·rw[bI (pq (by omega)),(afg ⟨k,hk⟩).2,bu,dC (Hq (aCy hw hk)),bZ (by omega) (by omega)];exact amJ x hw a b c n (k+1) (by omega) (by omega)
  ·rw[dC (Dy (by omega))]
theorem Qp {x:List UInt8} (h:Qe.contains x=true):x=[33]\/x=[123]\/x=[125]\/x=[99,97,115,101]\/x=[100,111]\/x=[100,111,110,101]\/x=[101,108,105,102]\/x=[101,108,115,101]\/x=[101,115,97,99]\/x=[102,105]\/x=[102,111,114]\/x=[105,102]\/x=[105,110]\/x=[116,104,101,110]\/x=[117,110,116,105,108]\/x=[119,104,105,108,101]:=by
 simp_all [Qe]
theorem aFM {x:List UInt8} (h:Nz.contains x=true):x=[38,38]\/x=[124,124]\/x=[59,59]\/x=[60,60]\/x=[60,60,45]\/x=[62,62]\/x=[60,38]\/x=[62,38]\/x=[60,62]\/x=[62,124]\/x=[60]\/x=[62]\/x=[38]\/x=[59]\/x=[124]\/x=[40]\/x=[41]:=by
 simp_all [Nz]
theorem aqg (x:bM) (hx:x.length<=10000) (a b:Int): ∃c:UInt8,ajW x=some ((c.toNat:Int),())/\TD (6,(x,(a,(b,()))))=some ([c],()):=by
 cases hw:Qe.contains x with
 |true=>
  rcases Qp hw with h|h|h|h|h|h|h|h|h|h|h|h|h|h|h|h
  ·subst h;exact⟨33,by kernel_rfl,by kernel_rfl⟩
  ·subst h;exact⟨123,by kernel_rfl,by kernel_rfl⟩
  ·subst h;exact⟨125,by kernel_rfl,by kernel_rfl⟩
  ·subst h;exact⟨99,by kernel_rfl,by kernel_rfl⟩
  ·subst h;exact⟨100,by kernel_rfl,by kernel_rfl⟩
  ·subst h;exact⟨103,by kernel_rfl,by kernel_rfl⟩
  ·subst h;exact⟨101,by kernel_rfl,by kernel_rfl⟩
  ·subst h;exact⟨108,by kernel_rfl,by kernel_rfl⟩
  ·subst h;exact⟨122,by kernel_rfl,by kernel_rfl⟩
  ·subst h;exact⟨102,by kernel_rfl,by kernel_rfl⟩
  ·subst h;exact⟨114,by kernel_rfl,by kernel_rfl⟩
  ·subst h;exact⟨105,by kernel_rfl,by kernel_rfl⟩
  ·subst h;exact⟨107,by kernel_rfl,by kernel_rfl⟩
  ·subst h;exact⟨116,by kernel_rfl,by kernel_rfl⟩
  ·subst h;exact⟨119,by kernel_rfl,by kernel_rfl⟩
  ·subst h;exact⟨119,by kernel_rfl,by kernel_rfl⟩
 |false=>
  refine⟨120, ?_, ?_⟩
  ·have e: ∀l,Qe.contains l=true->fG x l=false:=fun l hl=>Hq fun he=>by simp_all
   (unfold ajW;delta Qm Zk)
   simp only[e [33] rfl,e [123] rfl,e [125] rfl,e [99,97,115,101] rfl,e [100,111] rfl,e [100,111,110,101] rfl,e [101,108,105,102] rfl,e [101,108,115,101] rfl,e [101,115,97,99] rfl,e [102,105] rfl,e [102,111,114] rfl,e [105,102] rfl,e [105,110] rfl,e [116,104,101,110] rfl,e [117,110,116,105,108] rfl,e [119,104,105,108,101] rfl,cond_false];rfl
  ·unfold TD;simp only[show bJ 6 2=false from rfl,show bJ 6 5=false from rfl,show bJ 6 4=false from rfl,show bJ 6 6=true from rfl,ay,cond_false,al2 x (aG hx (by omega)) hw,bu,aB,cond_true]
theorem ao4 (x:bM) (hx:x.length<=10000) (a b:Int): ∃c:UInt8,ajV x=some ((c.toNat:Int),())/\TD (4,(x,(a,(b,()))))=some ([c],())/\c≠120:=by
 cases hw:Nz.contains x with
 |true=>
  rcases aFM hw with h|h|h|h|h|h|h|h|h|h|h|h|h|h|h|h|h
  ·subst h;exact⟨97,by kernel_rfl,by kernel_rfl,by decide⟩
  ·subst h;exact⟨111,by kernel_rfl,by kernel_rfl,by decide⟩
  ·subst h;exact⟨121,by kernel_rfl,by kernel_rfl,by decide⟩
  ·subst h;exact⟨60,by kernel_rfl,by kernel_rfl,by decide⟩
  ·subst h;exact⟨60,by kernel_rfl,by kernel_rfl,by decide⟩
  ·subst h;exact⟨60,by kernel_rfl,by kernel_rfl,by decide⟩
  ·subst h;exact⟨60,by kernel_rfl,by kernel_rfl,by decide⟩
  ·subst h;exact⟨60,by kernel_rfl,by kernel_rfl,by decide⟩
  ·subst h;exact⟨60,by kernel_rfl,by kernel_rfl,by decide⟩
  ·subst h;exact⟨60,by kernel_rfl,by kernel_rfl,by decide⟩
  ·subst h;exact⟨60,by kernel_rfl,by kernel_rfl,by decide⟩
  ·subst h;exact⟨60,by kernel_rfl,by kernel_rfl,by decide⟩
  ·subst h;exact⟨38,by kernel_rfl,by kernel_rfl,by decide⟩
  ·subst h;exact⟨59,by kernel_rfl,by kernel_rfl,by decide⟩
  ·subst h;exact⟨124,by kernel_rfl,by kernel_rfl,by decide⟩
  ·subst h;exact⟨40,by kernel_rfl,by kernel_rfl,by decide⟩
  ·subst h;exact⟨41,by kernel_rfl,by kernel_rfl,by decide⟩
 |false=>
  refine⟨63, ?_, ?_,by decide⟩
  ·unfold ajV;have:OH x=some (0,()):=by
    unfold OH;by_cases h0:x=[]
    ·rw[bI (Xh h0)]
    ·rw[dC (Hq h0),show(1:Int)=((0:Nat):Int)+1 from rfl,Yi x hw bH 0 (by omega) (dB (by omega))];rfl
   rw[this];rfl
  ·unfold TD;simp only[show bJ 4 2=false from rfl,show bJ 4 5=false from rfl,show bJ 4 4=true from rfl,cond_false,cond_true];rw[show(1:Int)=((0:Nat):Int)+1 from rfl,amJ x hw 4 a b bH 0 (by omega) (dB (by omega))];rfl
theorem aCH (k:Int) (x:bM) (hx:x.length<=10000) (a b:Int): ∃c:UInt8,Tz (k,(x,(a,(b,()))))=some ((c.toNat:Int),())/\TD (k,(x,(a,(b,()))))=some ([c],())/\(c=120->k=6):=by
 by_cases h2:k=2
 ·subst h2;exact⟨110,rfl,rfl,fun h=>absurd h (by decide)⟩
 by_cases h5:k=5
 ·subst h5;exact⟨35,rfl,rfl,fun h=>absurd h (by decide)⟩
 by_cases h4:k=4
 ·subst h4;obtain⟨c,h,h',h''⟩:=ao4 x hx a b;refine⟨c, ?_,h',fun e=>absurd e h''⟩;unfold Tz;simp only[show bJ 4 2=false from rfl,show bJ 4 4=true from rfl,cond_false,cond_true,h,bu]
 by_cases h6:k=6
 ·subst h6;obtain⟨c,h,h'⟩:=aqg x hx a b;refine⟨c, ?_,h',fun _=>rfl⟩;unfold Tz;simp only[show bJ 6 2=false from rfl,show bJ 6 4=false from rfl,show bJ 6 5=false from rfl,show bJ 6 6=true from rfl,cond_false,cond_true,h,bu]
 refine⟨63, ?_, ?_,fun h=>absurd h (by decide)⟩
 ·unfold Tz;simp only[dL h2,dL h4,dL h5,dL h6,cond_false];rfl
 ·unfold TD;simp only[dL h2,dL h4,dL h5,dL h6,cond_false,aB,cond_true]
abbrev Lf:=Int×List UInt8×Int×Int×Unit
def dLf:Lf:=(0,([],(0,(0,()))))
def sgn (f:Lf):UInt8:=match TD f with
 |some ([c],_)=>c
 |_=>0
theorem awL {f:Lf} (h:f.2.1.length<=10000):Tz f=some (((sgn f).toNat:Int),())/\TD f=some ([sgn f],()):=by
 obtain⟨k,x,a,b,u⟩:=f;obtain⟨c,h1,h2,_⟩:=aCH k x h a b;simp_all [sgn]
theorem aCG {f:Lf} (h:f.2.1.length<=10000) (hx:sgn f=120):f.1=6:=by
 obtain⟨k,x,a,b,u⟩:=f;obtain⟨c,h1,h2,h3⟩:=aCH k x h a b;simp_all [sgn]
end
section
open Bool renaming and_true → ax, not_false → aB
open List renaming append_assoc → ah, length_append → ai, drop_of_length_le → az, drop_eq_getElem_cons → aA, nil_append → aO, drop_zero → aQ, length_singleton → aU, take_of_length_le → bg
open Nat renaming le_trans → aG
open Go.RowKit
abbrev Pce:=Bool×Bool×List UInt8×Unit
def jG (l:List Pce):bM:=(l.map (·.2.2.1)).flatten
theorem xO (a b:List Pce):jG (a++b)=jG a++jG b:=by simp[jG]
theorem FC (x y:Bool) (t:bM):jG [(x,(y,(t,())))]=t:=by simp[jG]
theorem Xl (L:List kJ) (hl:L.length<1000000) (v m f t u:Int) (o:Bool): ∀(N k:Nat),L.length-k<N->k<=L.length->
  Gj N L v (k:Int) m f t u o=some (match(L.drop k).find? (fun p=>p.2.1==v)with
   |none=>.inl ((),((m,f,t,u,o,()),()))
   |some p=>.inr ((1,()),((p.1,p.2.1,p.2.2.1,p.2.2.2.1,p.2.2.2.2.1,()),())))
 |0,k,h,_=>by omega
 |N+1,k,h,hk=>by
  rw[Gj,QQ];by_cases e:k<L.length
  ·have hg:dQ L (0,(0,(0,(0,(false,()))))) (k:Int)=L[k]:=by
    simp_all [dQ]
   rw[bI (dZ (by rw[bF];omega)),bI (dN (by omega) (by omega)),hg,aA e,List.find?_cons];by_cases h1:L[k].2.1=v
   ·simp_all [eH,dN]
   ·have:(L[k].2.1==v)=false:=by simpa using h1
    rw[dC (dL h1),bZ (by omega) (by omega),show(k:Int)+1=((k+1:Nat):Int) by omega,Xl L hl v m f t u o N (k+1) (by omega) (by omega),this]
  simp_all [fV,bF,az]
theorem as7 (L:List kJ) (hl:L.length<1000000) (v:Int):adP L v=some (match xg L v with
  |none=>((0,(0,(0,(0,(false,()))))),(0,()))
  |some p=>(p,(1,()))):=by
 rw[adP];have h:=Xl L hl v 0 0 0 0 false bH 0 (dB (by omega)) (by omega);rw[show Gj bH L v 0 0 0 0 0 false=_ from h,bu,aQ];unfold xg;cases L.find? (fun p=>p.2.1==v)with
 |none=>rfl
 |some p=>rfl
theorem jv {a b:List UInt8} (h:a.length+b.length<=140737488355328):eP a b=true:=by
 grind [eP,lC]
theorem kN {α:Type} {l:List α} {k:Nat} (h:l.length*k<=140737488355328):dO l k=true:=by
 grind [dO,lC]
theorem SL (s:bM) (hs:s.length<=10000) {to_:Int} (hto:to_<=s.length): ∀(N:Nat) (at_:Int) (here:bM) (out:List Pce),0<N->to_-at_<N->0<=at_->at_<=s.length->(here.length:Int)<=10000*at_->(out.length:Int)<=2*at_->
  ∃here' out',vI N s (cu s) to_ here at_ out=some (.inl ((here',()),(out',())))/\jG out'++here'=jG out++here++rU s (cu s) to_ N at_/\(here'.length:Int)<=10000*s.length/\(out'.length:Int)<=2*s.length
 |0,at_,here,out,hN,_,_,_,_,_=>by
  omega
 |N+1,at_,here,out,hN,h,h0,h1,hh,ho=>by
  (rewrite [vI,QR];delta GN wM;rw[rU])
  by_cases e:at_<to_
  ·have hpl:=Dc s;have hup:= @Vu s at_;have hsl:=N8 s (cu s) at_;have keep: ∀(c:bM) (nx:Int),c=(iG s (cu s) at_).2.1->nx=(iG s (cu s) at_).1->nx<=s.length->
     ∃here' out',vI N s (cu s) to_ (bG here c) nx out=some (.inl ((here',()),(out',())))/\jG out'++here'=jG out++here++((iG s (cu s) at_).2.1++rU s (cu s) to_ N (iG s (cu s) at_).1)/\(here'.length:Int)<=10000*s.length/\(out'.length:Int)<=2*s.length:=by
    intro c nx hc hnx hle;subst hc hnx;obtain⟨here',out',r1,r2,r3,r4⟩:=SL s hs hto N (iG s (cu s) at_).1 (bG here (iG s (cu s) at_).2.1) out (by omega) (by omega) (by omega) hle (by grind [bG]) (by omega)
    grind [bG]
   have push: ∀(l:List Pce) (nx:Int),jG l=here++(iG s (cu s) at_).2.1->l.length<=2->nx=(iG s (cu s) at_).1->nx<=s.length->
     ∃here' out',vI N s (cu s) to_ [] nx (out++l)=some (.inl ((here',()),(out',())))/\jG out'++here'=jG out++here++((iG s (cu s) at_).2.1++rU s (cu s) to_ N (iG s (cu s) at_).1)/\(here'.length:Int)<=10000*s.length/\(out'.length:Int)<=2*s.length:=by
    intro l nx hl hl2 hnx hle;subst hnx;obtain⟨here',out',r1,r2,r3,r4⟩:=SL s hs hto N (iG s (cu s) at_).1 [] (out++l) (by omega) (by omega) (by omega) hle (by simp;omega) (by grind)
    grind [xO]
   have hroom: ∀c:bM,c.length<=10000->eP here c=true:=fun c hc=>jv (by omega);have hfit1: ∀x,dO (bG out [x]) 24=true:=fun x=>kN (by grind [bG]);have hfit2: ∀x y,dO (bG (bG out [x]) [y]) 24=true:=fun x y=>kN (by grind [bG]);have hsub: ∀a b:Int,(sub s a b).length<=10000:=fun a b=>aG (Jh s a b) hs;have ha1:bU .i64 at_ 1=at_+1:=bZ (by omega) (by omega);have ha2:bU .i64 at_ 2=at_+2:=bZ (by omega) (by omega);have hp1:eU (bC s) at_ (at_+1)=true:=fO h0 (by omega) (by rw[bF];omega);rw[bI (dZ e),if_pos e,as7 (cu s) (by omega),bu];cases hf:xg (cu s) at_ with
   |none=>
    have hst:iG s (cu s) at_=(at_+1,sub s at_ (at_+1),false):=by unfold iG;rw[hf]
    simp only[ha1];rw[show bJ 0 0=true from rfl,cond_true,hp1,cond_true,hroom _ (hsub _ _),cond_true]
    grind
   |some p=>
    obtain⟨pf,hpe⟩:=xh hf;have t0:=pf.t0;have t1:=pf.t1;simp only[ha1,ha2];rw[show bJ 1 0=false from rfl,cond_false];by_cases hlone:lone p=true
    ·have hst:iG s (cu s) at_=(at_+1,sub s at_ (at_+1),false):=by simp_all [iG]
     simp_all [lone,eH]
    ·have hl': ¬(p.1=12/\p.2.2.1=at_+1):=fun h=>hlone (by simp_all [lone]);have hp2:eU (bC s) at_ p.2.2.1=true:=fO h0 (by omega) (by rw[bF];omega);by_cases h13:p.1=13
     ·have hst:iG s (cu s) at_=(p.2.2.1,We s p,false):=by simp_all [iG]
      rw[dC (dL (by omega)),bI (eH h13)];by_cases hto2:p.2.2.1=at_+2
      ·have hin:fB s (at_+1)=true:=dN (by omega) (by omega);have hp3:eU (bC s) (at_+1) (at_+2)=true:=fO (by omega) (by omega) (by rw[bF];omega);have hp4:eU (bC s) at_ (at_+2)=true:=fO (by omega) (by omega) (by rw[bF];omega);have hesc:We s p=(if bT s (at_+1)=36\/bT s (at_+1)=96\/bT s (at_+1)=34\/bT s (at_+1)=92 then sub s (at_+1) (at_+2)
         else if bT s (at_+1)=10 then []else sub s at_ (at_+2)):=by
        simp_all [We,nN]
       rw[bI (eH hto2),hin,cond_true];by_cases b1:bT s (at_+1)=36
       ·simp_all [eH]
       ·rw[dC (dL b1)];by_cases b2:bT s (at_+1)=96
        ·simp_all [eH]
        ·rw[dC (dL b2)];by_cases b3:bT s (at_+1)=34
         ·simp_all [eH]
         ·rw[dC (dL b3)];by_cases b4:bT s (at_+1)=92
          ·simp_all [eH]
          ·rw[dC (dL b4)];have hno: ¬(bT s (at_+1)=36\/bT s (at_+1)=96\/bT s (at_+1)=34\/bT s (at_+1)=92):=by omega
           by_cases b5:bT s (at_+1)=10
           ·simp_all [eH,bG]
           simp_all [dL]
      simp_all [dL,We,bG]
     ·have hst:iG s (cu s) at_=(p.2.2.1,nN s p,true):=by simp_all [iG]
      have hby:nN s p=sub s at_ p.2.2.1:=by unfold nN;rw[hpe]
      have fin: ∃here' out',(bif !fG here []then
        bif dO (bG out [(false,(true,(here,())))]) 24 then
         bif eU (bC s) at_ p.2.2.1 then
          bif dO (bG (bG out [(false,(true,(here,())))]) [(true,(true,(sub s at_ p.2.2.1,())))]) 24 then
           vI N s (cu s) to_ [] p.2.2.1 (bG (bG out [(false,(true,(here,())))]) [(true,(true,(sub s at_ p.2.2.1,())))])
          else none
         else none
        else none
       else bif eU (bC s) at_ p.2.2.1 then
        bif dO (bG out [(true,(true,(sub s at_ p.2.2.1,())))]) 24 then
         vI N s (cu s) to_ [] p.2.2.1 (bG out [(true,(true,(sub s at_ p.2.2.1,())))])
        else none
       else none)=some (.inl ((here',()),(out',())))/\jG out'++here'=jG out++here++((iG s (cu s) at_).2.1++rU s (cu s) to_ N (iG s (cu s) at_).1)/\(here'.length:Int)<=10000*s.length/\(out'.length:Int)<=2*s.length:=by
       by_cases he:here=[]
       ·have:=push [(true,(true,(sub s at_ p.2.2.1,())))] p.2.2.1 (by simp_all [FC]) (by simp) (by rw[hst]) (by omega);rw[show(!fG here [])=false by rw[he];rfl,cond_false,hp2,cond_true,hfit1,cond_true];exact this
       ·have:=push ([(false,(true,(here,())))]++[(true,(true,(sub s at_ p.2.2.1,())))]) p.2.2.1 (by grind [xO,FC]) (by simp) (by rw[hst]) (by omega);rw[show(!fG here [])=true by simp_all [fG],cond_true,hfit1,cond_true,hp2,cond_true,hfit2,cond_true];rw[<-ah]at this;exact this
      by_cases h12:p.1=12
      ·simp_all [dL]
      simp_all [dL]
  ·rw[dC (fV e),if_neg e]
   grind
theorem aqk (s:bM) (hs:s.length<=10000) {from_ to_:Int} (h0:0<=from_) (h1:from_<=s.length) (hto:to_<=s.length):
  ∃out,OG s (cu s) from_ to_=some (out,())/\jG out=rU s (cu s) to_ s.length from_/\out.length<=2*s.length+1:=by
 obtain⟨here,out,r1,r2,r3,r4⟩:=SL s hs hto bH from_ [] [] (by unfold bH;omega) (by have:=dB (n:=s.length) (by omega);omega) h0 h1 (by simp;omega) (by simp;omega);have hm:rU s (cu s) to_ bH from_=rU s (cu s) to_ s.length from_:=MC s to_ _ _ _ (by have:=dB (n:=s.length) (by omega);omega) (by omega);rw[hm,show jG []=([]:bM) from rfl,aO,aO]at r2;rw[OG,r1,bu];simp only[dE];have hfit: ∀x,dO (bG out [x]) 24=true:=fun x=>kN (by grind [bG]);by_cases he:here=[]
 ·rw[show(!fG here [])=false by rw[he];rfl,cond_false];subst he;rw[List.append_nil]at r2;by_cases ho:out.length=0
  ·rw[bI (eH (by rw[bF];omega)),hfit,cond_true];exact⟨_,rfl,by grind [bG,xO,FC],by simp_all [bG]⟩
  ·rw[dC (dL (by rw[bF];omega))]
   grind
 ·rw[show(!fG here [])=true by simp_all [fG],cond_true,hfit,cond_true];exact⟨_,rfl,by unfold bG;rw[xO,FC,r2],by grind [bG]⟩
theorem rF (l:List Pce) (x:Pce):jG (l++[x])=jG l++x.2.2.1:=by simp[jG]
theorem avL (out:List Pce) (t:bM) (fresh:Bool) (ho:out.length<1000000000) (ht:(jG out).length+t.length<=100000000000000):
  ∃out',Xo out t fresh=some (out',())/\jG out'=jG out++t/\out'.length<=out.length+1:=by
 have one: ∃out',(bif dO (bG [] out) 24 then bif dO (bG (bG [] out) [(false,(false,(t,())))]) 24 then some ((bG (bG [] out) [(false,(false,(t,())))]),())else none else none)=some (out',())/\jG out'=jG out++t/\out'.length<=out.length+1:=by
  rw[bI (kN (by grind [bG])),bI (kN (by grind [bG]))];exact⟨_,rfl,by simp_all [bG,xO,FC],by unfold bG;simp⟩
 (rewrite [Xo];delta Zh tq jJ lJ vG jI qO iV fJ)
 rcases List.eq_nil_or_concat out with rfl|⟨l,x,rfl⟩
 ·assumption
 ·rw[List.concat_eq_append]at*;cases fresh with
  |true=>
   simp_all
  |false=>
   rw[rF,ai]at ht;rw[ai,aU]at ho;have hL:dR .i64 (bC (l++[x])) 1=(l.length:Int):=by grind [bF,gQ]
   have hg:dQ (l++[x]) (false,(false,([],()))) (l.length:Int)=x:=Au rfl;have hin:fB (l++[x]) (l.length:Int)=true:=dN (by omega) (by grind);have hpt:eU (bC (l++[x])) 0 (l.length:Int)=true:=fO (by omega) (by omega) (by grind [bF]);have hsb:sub (l++[x]) 0 (l.length:Int)=l:=by simp[sub]
   have hrm:eP x.2.2.1 t=true:=jv (by omega);have hf1:dO (bG [] l) 24=true:=kN (by grind [bG]);have hf2: ∀y,dO (bG (bG [] l) [y]) 24=true:=fun y=>kN (by grind [bG]);rw[bI (dZ (by simp_all [bF]))];simp only[aB,cond_true,hL,hg,hin,hpt,hsb,hrm,hf1,hf2,dU,mD,iw,gJ,ax,bu];exact⟨_,rfl,by grind [bG,rF],by unfold bG;simp⟩
theorem Po (s:bM) (hs:s.length<=10000): ∀(N:Nat) (at_:Int) (fresh:Bool) (out:List Pce),(s.length:Int)-at_<N->0<=at_->at_<=s.length->((jG out).length:Int)<=100010000*at_->(out.length:Int)<=30000*at_->
  ∃out',ql N s (cu s) fresh at_ out=some (.inl ((),(out',())))/\jG out'=jG out++lu s (cu s) N at_/\(out'.length:Int)<=30000*s.length
 |0,at_,fresh,out,h,_,_,_,_=>by omega
 |N+1,at_,fresh,out,h,h0,h1,ht,ho=>by
  (rewrite [ql,acU];delta LQ Fg;rw[lu])
  by_cases e:at_<s.length
  ·have hpl:=Dc s;have hup:= @Vw s at_;have hle:=afI (s:=s) e;have hsl:(stepT s (cu s) at_).2.length<=100010000:=by
    have h1:=N9 s (cu s) at_;have h2:s.length*s.length<=10000*10000:=Nat.mul_le_mul hs hs;omega
   have go: ∀(l:List Pce) (f:Bool),jG l=jG out++(stepT s (cu s) at_).2->l.length<=out.length+20002->
     ∃out',ql N s (cu s) f (stepT s (cu s) at_).1 l=some (.inl ((),(out',())))/\jG out'=jG out++((stepT s (cu s) at_).2++lu s (cu s) N (stepT s (cu s) at_).1)/\(out'.length:Int)<=30000*s.length:=by
    intro l f hl hn;obtain⟨out',r1,r2,r3⟩:=Po s hs N (stepT s (cu s) at_).1 f l (by omega) (by omega) hle (by grind) (by omega)
    grind
   have pln: ∀(t:bM) (nx:Int),t=(stepT s (cu s) at_).2->nx=(stepT s (cu s) at_).1->
     ∃out',(bz (Xo out t fresh) fun y1=>ql N s (cu s) false nx y1.1)=some (.inl ((),(out',())))/\jG out'=jG out++((stepT s (cu s) at_).2++lu s (cu s) N (stepT s (cu s) at_).1)/\(out'.length:Int)<=30000*s.length:=by
    intro t nx e1 e2;subst e1 e2;obtain⟨o,p1,p2,p3⟩:=avL out (stepT s (cu s) at_).2 fresh (by omega) (by omega);rw[p1,bu];exact go o false p2 (by omega)
   have psh: ∀(x:Pce) (nx:Int),x.2.2.1=(stepT s (cu s) at_).2->nx=(stepT s (cu s) at_).1->
     ∃out',(bif dO (bG out [x]) 24 then ql N s (cu s) true nx (bG out [x])else none)=some (.inl ((),(out',())))/\jG out'=jG out++((stepT s (cu s) at_).2++lu s (cu s) N (stepT s (cu s) at_).1)/\(out'.length:Int)<=30000*s.length:=by
    intro x nx e1 e2;subst e2;rw[bI (kN (by grind [bG]))];simp_all [bG,rF]
   have skip: ∀(nx:Int),(stepT s (cu s) at_).2=[]->nx=(stepT s (cu s) at_).1->
     ∃out',ql N s (cu s) fresh nx out=some (.inl ((),(out',())))/\jG out'=jG out++((stepT s (cu s) at_).2++lu s (cu s) N (stepT s (cu s) at_).1)/\(out'.length:Int)<=30000*s.length:=by
    intro nx e1 e2;subst e2;exact go out fresh (by simp_all) (by omega)
   have ha1:bU .i64 at_ 1=at_+1:=bZ (by omega) (by omega);have hp1:eU (bC s) at_ (at_+1)=true:=fO h0 (by omega) (by rw[bF];omega);rw[bI (dZ (b:=bC s) e),if_pos e,as7 (cu s) (by omega),bu];cases hf:xg (cu s) at_ with
   |none=>
    have hst:stepT s (cu s) at_=(at_+1,sub s at_ (at_+1)):=by unfold stepT;rw[hf]
    simp only[ha1];rw[show bJ 0 0=true from rfl,cond_true,show bJ 0 1=false from rfl,cond_false,hp1,cond_true];simp_all
   |some p=>
    obtain⟨pf,hpe⟩:=xh hf;have t0:=pf.t0;have t1:=pf.t1;have hby:nN s p=sub s at_ p.2.2.1:=by unfold nN;rw[hpe]
    have hp2:eU (bC s) at_ p.2.2.1=true:=fO h0 (by omega) (by rw[bF];omega);have ha1':bU .i64 p.2.1 1=at_+1:=by rw[hpe];exact ha1
    have ha2':bU .i64 p.2.1 2=at_+2:=by grind [bZ]
    have hs1:dR .i64 p.2.2.1 1=p.2.2.1-1:=gQ (by omega) (by omega);simp only[ha1,ha1',ha2',hs1];rw[show bJ 1 0=false from rfl,cond_false,show bJ 1 1=true from rfl];simp only[cond_true];by_cases hpl':lone p=true\/p.1=14
    ·have hst:stepT s (cu s) at_=(p.2.2.1,nN s p):=by simp_all [stepT]
     have:=pln (sub s at_ p.2.2.1) p.2.2.1 (by rw[hst,hby]) (by rw[hst]);by_cases h14:p.1=14
     ·simp_all [eH]
     simp_all [lone,eH]
    ·have hl': ¬(p.1=12/\p.2.2.1=at_+1):=fun h=>hpl' (.inl (by simp_all [lone]));have h14:p.1≠14:=fun h=>hpl' (.inr h);rw[dC (dL h14)];by_cases h13:p.1=13
     ·have hst:stepT s (cu s) at_=(p.2.2.1,Wh s p):=by simp_all [stepT]
      rw[dC (dL (by omega)),bI (eH h13)];by_cases hto2:p.2.2.1=at_+2
      ·rw[bI (eH hto2),bI (dN (by omega) (by omega))];by_cases b5:bT s (at_+1)=10
       ·simp_all [eH,Wh]
       ·rw[dL b5];simp only[aB,cond_true];rw[bI (fO (by omega) (by omega) (by rw[bF];omega))];simp_all [Wh]
      simp_all [dL,Wh]
     ·have rest: ∃out',(bif bJ p.1 4 then
        bif p.2.2.2.2.1 then
         bif eU (bC s) (at_+1) p.2.2.1 then
          bif dO (bG out [(false,(true,(sub s (at_+1) p.2.2.1,())))]) 24 then
           ql N s (cu s) true p.2.2.1 (bG out [(false,(true,(sub s (at_+1) p.2.2.1,())))])
          else none
         else none
        else bif eU (bC s) (at_+1) (p.2.2.1-1)then
         bif dO (bG out [(false,(true,(sub s (at_+1) (p.2.2.1-1),())))]) 24 then
          ql N s (cu s) true p.2.2.1 (bG out [(false,(true,(sub s (at_+1) (p.2.2.1-1),())))])
         else none
        else none
       else bif bJ p.1 5 then
        bif p.2.2.2.2.1 then
         bz (OG s (cu s) (at_+1) p.2.2.1) fun y1=>
          bif dO (bG out y1.1) 24 then ql N s (cu s) true p.2.2.1 (bG out y1.1)else none
        else
         bz (OG s (cu s) (at_+1) (p.2.2.1-1)) fun y1=>
          bif dO (bG out y1.1) 24 then ql N s (cu s) true p.2.2.1 (bG out y1.1)else none
       else bif eU (bC s) p.2.1 p.2.2.1 then
        bif dO (bG out [(true,(false,(sub s p.2.1 p.2.2.1,())))]) 24 then
         ql N s (cu s) true p.2.2.1 (bG out [(true,(false,(sub s p.2.1 p.2.2.1,())))])
        else none
       else none)=some (.inl ((),(out',())))/\jG out'=jG out++((stepT s (cu s) at_).2++lu s (cu s) N (stepT s (cu s) at_).1)/\(out'.length:Int)<=30000*s.length:=by
       by_cases h4:p.1=4
       ·have hst:stepT s (cu s) at_=(p.2.2.1,sub s (p.2.1+1) (xR p)):=by simp_all [stepT]
        rw[bI (eH h4)];cases hop:p.2.2.2.2.1 with
        |true=>
         rw[cond_true,bI (fO (by omega) (by omega) (by rw[bF];omega))];exact psh _ _ (by rw[hst,hpe];unfold xR;rw[hop,if_pos rfl]) (by rw[hst])
        |false=>
         have:=pf.sh hop (by omega);rw[cond_false,bI (fO (by omega) (by omega) (by rw[bF];omega))];simp_all [xR]
       ·rw[dC (dL h4)];by_cases h5:p.1=5
        ·have hst:stepT s (cu s) at_=(p.2.2.1,rU s (cu s) (xR p) s.length (p.2.1+1)):=by simp_all [stepT]
         rw[bI (eH h5)];have dbl: ∀to_:Int,to_=xR p->to_<=s.length-> ∃out',(bz (OG s (cu s) (at_+1) to_) fun y1=>
           bif dO (bG out y1.1) 24 then ql N s (cu s) true p.2.2.1 (bG out y1.1)else none)=some (.inl ((),(out',())))/\jG out'=jG out++((stepT s (cu s) at_).2++lu s (cu s) N (stepT s (cu s) at_).1)/\(out'.length:Int)<=30000*s.length:=by
          intro to_ hte hto;obtain⟨o,d1,d2,d3⟩:=aqk s hs (from_:=at_+1) (to_:=to_) (by omega) (by omega) hto;rw[d1,bu];simp only;rw[bI (kN (by grind [bG]))];have:=go (bG out o) true (by simp_all [bG,xO]) (by grind [bG]);simp_all
         cases hop:p.2.2.2.2.1 with
         |true=>rw[cond_true];exact dbl _ (by unfold xR;rw[hop,if_pos rfl]) (by omega)
         |false=>rw[cond_false];exact dbl _ (by simp_all [xR]) (by omega)
        ·have hst:stepT s (cu s) at_=(p.2.2.1,nN s p):=by simp_all [stepT]
         simp_all [dL]
      by_cases h12:p.1=12
      ·simp_all [dL]
      simp_all [dL]
  ·rw[dC (fV (by rw[bF];omega)),if_neg e]
   grind
theorem U2 (l:List Pce) (hl:l.length<1000000000) (ht:(jG l).length<=100000000000000): ∀(N k:Nat),l.length-k<N->k<=l.length->
  Nk N l (jG (l.take k)) (k:Int)=some (.inl ((jG l,()),()))
 |0,k,h,_=>by omega
 |N+1,k,h,hk=>by
  rw[Nk,acM];by_cases e:k<l.length
  ·have hg:dQ l (false,(false,([],()))) (k:Int)=l[k]:=by
    simp_all [dQ]
   have hts:jG (l.take (k+1))=jG (l.take k)++l[k].2.2.1:=by grind [List.take_add_one,rF]
   have hlen:(jG (l.take (k+1))).length<=(jG l).length:=by
    grind [List.take_append_drop,xO]
   rw[bI (dZ (by rw[bF];omega)),bI (dN (by omega) (by omega)),hg,bI (jv (by grind)),bZ (by omega) (by omega),show(k:Int)+1=((k+1:Nat):Int) by omega,
    show bG (jG (l.take k)) l[k].2.2.1=jG (l.take (k+1)) from hts.symm]
   exact U2 l hl ht N (k+1) (by omega) (by omega)
  simp_all [fV,bF,bg]
theorem ank (s:bM) (hs:s.length<=10000):(DY s).length<=1000100000000:=by
 have h:=Md s (cu s) s.length 0;have h2:s.length*s.length<=10000*10000:=Nat.mul_le_mul hs hs;have h3:s.length*(s.length*s.length+s.length)<=10000*(10000*10000+10000):=Nat.mul_le_mul hs (by omega);unfold DY;omega
theorem aDw (s:bM) (hs:s.length<=10000):atg s=some (DY s,()):=by
 obtain⟨out,h1,h2,h3⟩:=Po s hs bH 0 true [] (by have:=dB (n:=s.length) (by omega);omega) (by omega) (by omega) (by simp[jG]) (by simp);have hm:lu s (cu s) bH 0=DY s:=Iy s _ _ _ (by have:=dB (n:=s.length) (by omega);omega) (by omega);have hp:azn s=some (out,()):=by
  rw[azn,aJ2 s (by omega),bu];simp only;rw[h1,bu];rfl
 have ht:jG out=DY s:=by rw[h2,hm];rfl
 have hbl:=ank s hs;rw[atg,hp,bu];simp only;have h4:=U2 out (by omega) (by rw[ht];omega) bH 0 (dB (by omega)) (by omega);rw[show Nk bH out [] 0=_ from h4,bu,<-ht];rfl
end
section
open List renaming drop_eq_getElem_cons → aA, length_drop → aS
open Go.RowKit
abbrev Tok:=Int×Int×Int×Bool×Unit
abbrev Dlm:=List UInt8×Bool×Unit
abbrev WT:=Int×List Dlm×Bool×Unit
def dDl:Dlm:=([],(false,()))
def uP (s:bM) (a:Nat):Nat:=a+DJ (s.drop a) a fE
def V9 (s:bM) (a b:Nat):bM:=(s.take b).drop a
def amI (w:bM):Bool:=Ls (mX w 0 fE).1
theorem VX {s:List UInt8} {a:Nat} (h:a<=s.length):a<=uP s a/\uP s a<=s.length:=by
 grind [ajm,uP]
def jP (s:bM) (a:Nat):Tok:=if wX (s.drop a)≠0 then(1,a,((a+wX (s.drop a):Nat):Int),false,())else if bT s a=10 then(2,a,((a+1:Nat):Int),false,())else if bT s a=35 then(3,a,(iU s a:Nat),false,())else if(CQ (s.drop a)).2≠0 then(4,a,((a+(CQ (s.drop a)).2:Nat):Int),false,())else if CO (s.drop a)≠0 then(5,a,((a+CO (s.drop a):Nat):Int),false,())else(6,a,(uP s a:Nat), !amI (V9 s a (uP s a)),())
def kK (s:bM) (a:Nat) (x:WT):WT:=if wX (s.drop a)≠0 then(x.1,x.2.1,false,())else if bT s a=10 then(0,x.2.1,decide (0<x.2.1.length),())else if bT s a=35 then(0,x.2.1,false,())else if(CQ (s.drop a)).2≠0 then((if(CQ (s.drop a)).1=4\/(CQ (s.drop a)).1=5 then(((CQ (s.drop a)).1:Nat):Int)else 0),x.2.1,false,())else if CO (s.drop a)≠0 then(0,x.2.1,false,())else(0,(if x.1=0 then x.2.1 else x.2.1++[(DY (V9 s a (uP s a)),decide (x.1=5),())]),false,())
def kw (s:bM) (a:Nat) (x:WT):Tok×WT:=if x.2.2.1=true then(if(Dx s (x.2.1.headD dDl).1 (x.2.1.headD dDl).2.1 a).2=true then((7,a,((Dx s (x.2.1.headD dDl).1 (x.2.1.headD dDl).2.1 a).1:Nat),false,()),(x.1,x.2.1.tail,decide (1<x.2.1.length),()))else((7,a,((Dx s (x.2.1.headD dDl).1 (x.2.1.headD dDl).2.1 a).1:Nat),true,()),x))else(jP s a,kK s a x)
theorem avA {c:UInt8} {t:List UInt8} (h:H5 (c.toNat:Int)=true):(CQ (c::t)).2≠0:=by
 have h1:ofF [c]≠0:=by
  have: ∀n:Fin 256,H5 ((n.val:Nat):Int)=true->ofF [UInt8.ofNat n.val]≠0:=by decide+kernel
  have:=this ⟨c.toNat,c.toNat_lt⟩ h;simpa using this
 have h2: ∀n,(Qj (c::t) (n+1)).2≠0:=by
  intro n
  induction n with
  |zero=>simp_all [Qj]
  |succ n ih=>
   grind [Qj]
 grind [CQ]
theorem Fh {s:List UInt8} (hs:s.length<=10000) {a:Nat} (ha:a<s.length) (x:WT):(a:Int)<(kw s a x).1.2.2.1/\(kw s a x).1.2.2.1<=s.length/\(kw s a x).1.2.1=a:=by
 unfold kw;split
 ·have h:=MR s (x.2.1.headD dDl).1 (x.2.1.headD dDl).2.1 bH a (dB (by omega)) (by omega);have h2:=h.2.2 ha;have h1:=h.1;unfold Dx
  grind
 ·unfold jP;have hd:=aA ha;split
  ·have:=YS (s.drop a)
   grind
  ·split
   ·grind
   ·split
    ·rename_i h35
     have h1:=xx s a;have h2:=AL (s:=s) (a:=a) (by omega);have h3:iU s a≠a:=by
      intro e;have:=Ue (s:=s) (f:=a) (by omega);simp_all [byte_at]
     grind
    ·split
     ·have:=(Qr (s.drop a)).1
      grind
     ·split
      ·rename_i hn
       have h1:=QK (s.drop a);rw[aS]at h1;have:CO (s.drop a)<=kG (s.drop a):=by grind [CO]
       grind
      ·rename_i hb h10 _ ho _
       have hw:=VX (s:=s) (a:=a) (by omega);have:DJ (s.drop a) a fE≠0:=by
        rw[hd,DJ];have he:rJ fE.1 (jA s[a])=false:=by
         unfold rJ;have:Dw (jA s[a])=false:=by
          have hbl:qM (s[a].toNat:Int)=false:=by
           grind [Jw]
          have hme:H5 (s[a].toNat:Int)=false:=by
           grind [avA]
          simp_all [byte_at,qM,H5,Dw,jA]
         rw[this];rfl
        rw[he];simp
       unfold uP at hw ⊢
       grind
end
section
open Bool renaming false_eq_true → ag, and_true → ax, not_false → aB, not_eq_true → aW
open List renaming length_drop → aS
open Nat renaming le_refl → ae
open Go.RowKit
theorem adz {s:List UInt8} (hs:s.length<1000000) {a:Nat} (ha:a<=s.length) (v1 v3:Int) (v4:List Dlm) (v5:Bool) (v6:Int) (v7:Bool) (v8 v9 v10:Int) (v11:Bool): ∀(N i:Nat),s.length-i<N->a<=i->i<=iU s a->
  Kz N s v1 (i:Int) v3 v4 v5 v6 v7 v8 v9 v10 v11=some (.inl ((v1,((iU s a:Nat):Int),()),((v3,v4,v5,()),(v6,v7,()),(v8,v9,v10,v11,()),())))
 |0,i,h,_,hi=>by omega
 |N+1,i,h,hai,hi=>by
  have hle:=AL ha;rw[Kz,Rk];by_cases e:i<iU s a
  ·have hi':i<s.length:=by omega
   rw[bI (dZ (by rw[bF];omega)),bI (dN (by omega) (by omega)),byte_at hi',dL fun h=>XE hai e hi' (UInt8.toNat_inj.1 (by grind))];simp only[aB,cond_true];rw[bZ (by omega) (by omega),show(i:Int)+1=((i+1:Nat):Int) by omega];exact adz hs ha v1 v3 v4 v5 v6 v7 v8 v9 v10 v11 N (i+1) (by omega) (by omega) (by omega)
  ·have hi2:i=iU s a:=by omega
   by_cases hl:i<s.length
   ·have h10:s[i]=10:=by grind [Ue]
    rw[bI (dZ (by rw[bF];omega)),bI (dN (by omega) (by omega)),byte_at hl,h10,show bJ (((10:UInt8).toNat:Nat):Int) 10=true from rfl];simp_all
   simp_all [fV,bF]
theorem adD {s:List UInt8} (hs:s.length<1000000) {a:Nat} (ha:a<=s.length) (v1 v3:Int) (v4:List Dlm) (v5:Bool) (v6:Int) (v7:Bool) (v8 v9 v10:Int) (v11:Bool) (v12:Int) (v13:List Dlm) (v14:Bool): ∀(N k:Nat),s.length-(a+k)<N->k<=kG (s.drop a)->
  KA N s v1 ((a+k:Nat):Int) v3 v4 v5 v6 v7 v8 v9 v10 v11 v12 v13 v14=some (.inl ((s,v1,((a+kG (s.drop a):Nat):Int),()),((v3,v4,v5,()),(v6,v7,()),(v8,v9,v10,v11,()),(v12,v13,v14,()),())))
 |0,k,h,hk=>by omega
 |N+1,k,h,hk=>by
  have hle:=QK (s.drop a);have hld:=aS (i:=a) (l:=s);rw[KA,Rl];by_cases e:a+k<s.length
  ·have hkd:k<(s.drop a).length:=by omega
   have hg:(s.drop a)[k]=s[a+k]:=by simp
   obtain⟨_,_,c,h1,_,h2⟩:=oZ s[a+k];rw[bI (dZ (by rw[bF];omega)),bI (dN (by omega) (by omega)),byte_at e,h1,bu];simp only[h2];by_cases hk2:k<kG (s.drop a)
   ·have:=FB P9 (s.drop a) k hkd hk2;rw[hg]at this;rw[this,cond_true,bZ (by omega) (by omega),show((a+k:Nat):Int)+1=((a+(k+1):Nat):Int) by omega];exact adD hs ha v1 v3 v4 v5 v6 v7 v8 v9 v10 v11 v12 v13 v14 N (k+1) (by omega) (by omega)
   ·obtain rfl:k=kG (s.drop a):=by omega
    have:=zV P9 (s.drop a) hkd;rw[show P9 s[a+kG (s.drop a)]=false by rw[<-hg];exact this,cond_false]
  ·obtain rfl:k=kG (s.drop a):=by omega
   rw[dC (fV (by rw[bF];omega))]
theorem aqx (w:bM) (hw:w.length<=100000):ag5 w=some (amI w,()):=by
 have hg:=(Ej w 0 fE jY).1;rw[ag5,aHK w hw,bu]
 grind [amI,Ia,awM]
theorem acY {s:List UInt8} {a b:Nat}:sub s (a:Int) (b:Int)=V9 s a b:=by simp[sub,V9]
theorem SK {s:List UInt8} {a b:Nat}:(V9 s a b).length<=s.length:=by
 grind [V9]
theorem aqf {s:List UInt8} (hs:s.length<=10000) {a:Nat} (ha:a<s.length):aot s (a:Int)=some (((uP s a:Nat):Int),()):=by
 rw[aHG s (by omega) (by omega) (by omega),Int.toNat_natCast];rfl
theorem aDA {s:List UInt8} (hs:s.length<=10000) {a:Nat} (ha:a<s.length) (x:WT) (hp:x.2.2.1=true->x.2.1≠[]) (hl:x.2.1.length<=1000000):
  azb s a x=some ((kw s a x).1,((kw s a x).2,())):=by
 obtain⟨aw,pd,bd,u⟩:=x;cases u;simp only at hp hl;unfold kw
 (rewrite [azb];delta Zq ag3 ag2 zk)
 cases bd with
 |true=>
  obtain⟨d,r,rfl⟩: ∃d r,pd=d::r:=by
   cases pd with
   |nil=>simp_all
   |cons d r=>simp
  simp only[cond_true,if_true];rw[bI (dN (by omega) (by simp)),show dQ (d::r) ([],(false,())) 0=d from rfl,aEt (by omega) d (by omega),bu];simp only[List.headD_cons];by_cases hh:(Dx s d.1 d.2.1 a).2=true
  rotate_left
  ·rw[aW]at hh;simp only[hh,ag,if_false,show bJ 0 0=true from rfl,cond_true,dU,gJ,iw,ax]
  ·have hsb:sub (d::r) 1 (bC (d::r))=r:=by simp[sub,bF]
   have hlt:gU 1 (bC (d::r))=decide (1<(d::r).length):=by
    unfold gU bC
    grind
   simp only[hh,if_true,show bJ 1 0=false from rfl,cond_false,cond_true,dU,gJ,iw,ax,hsb];have hpt:eU (bC (d::r)) 1 (bC (d::r))=true:=fO (by omega) (by grind [bF]) (by omega);simp_all
 |false=>
  have hlt:gU 0 (bC pd)=decide (0<pd.length):=by
   simp_all [gU,bC]
  have hin:fB s (a:Int)=true:=dN (by omega) (by omega);simp only[cond_false,ag,if_false];rw[ayI (by omega) (by omega),bu];simp only;by_cases hb:wX (s.drop a)=0
  ·rw[dC (jZ (by omega)),hin,cond_true];by_cases h10:bT s a=10
   ·rw[bI (eH h10)];simp only[dU,gJ,iw,ax,cond_true,hlt,show bJ 0 0=true from rfl]
    grind [bZ,jP,kK]
   ·rw[dC (dL h10)];by_cases h35:bT s a=35
    ·rw[bI (eH h35),adz (by omega) (a:=a) (by omega) _ _ _ _ _ _ _ _ _ _ bH a (dB (by omega)) (ae _) (xx s a),bu];simp_all [dE,dU,gJ,iw,jP,kK]
    ·obtain⟨t1,t2⟩:=aA8 (s.drop a);obtain⟨o1,o2,o3⟩:=Qr (s.drop a);rw[aS]at o1;rw[dC (dL h35),aI3 s (by omega) (by omega),bu];simp only;by_cases ho:(CQ (s.drop a)).2=0
     ·have ho1:=o2.1 ho;rw[ho1,dC (show gU 0 ((0:Nat):Int)=false from rfl)];have hd:=adD (s:=s) (by omega) (a:=a) (by omega) (a:Int) 0 pd false 0 false 0 0 0 false aw pd false bH 0 (dB (by omega)) (by omega);rw[Nat.add_zero]at hd;rw[hd,bu];simp only[dE];have hrg:=QK (s.drop a);rw[aS]at hrg;have hwl:=VX (s:=s) (a:=a) (by omega);have word: ∀(hn:CO (s.drop a)=0),(bz (aot s (a:Int)) fun y4=>
        bif eU (bC s) (a:Int) y4.1 then
         bif !bJ aw 0 then
          bif nH PZ pd pd then
           bif fG (sub s (a:Int) y4.1) (sub s (a:Int) y4.1)then
            bif bJ aw aw then
             bif jl (bJ aw 5) (bJ aw 5)then
              bif dO (bG [] pd) 24 then
               bif fG (sub s (a:Int) y4.1) (sub s (a:Int) y4.1)then
                bif bJ aw aw then
                 bif jl (bJ aw 5) (bJ aw 5)then
                  bz (atg (sub s (a:Int) y4.1)) fun y5=>
                   bif nH PZ pd pd then
                    bif fG (sub s (a:Int) y4.1) (sub s (a:Int) y4.1)then
                     bif bJ aw aw then
                      bif jl (bJ aw 5) (bJ aw 5)then
                       bif((fG (sub s (a:Int) y4.1) (sub s (a:Int) y4.1)&&true)&&(fG y5.1 y5.1&&true))then
                        bif dO (bG (bG [] pd) [(y5.1,(bJ aw 5,()))]) 24 then
                         bif nH PZ pd pd then
                          bif fG (sub s (a:Int) y4.1) (sub s (a:Int) y4.1)then
                           bif bJ aw aw then
                            bif jl (bJ aw 5) (bJ aw 5)then
                             bif(fG y5.1 y5.1&&(jl (bJ aw 5) (bJ aw 5)&&true))then
                              bz (ag5 (sub s (a:Int) y4.1)) fun y6=>
                               bif(bJ 0 0&&(jl false false&&true))then
                                some (((6:Int),((a:Int),(y4.1,(!y6.1,())))),(((0:Int),(bG (bG [] pd) [(y5.1,(bJ aw 5,()))],(false,()))),()))
                               else none
                             else none
                            else none
                           else none
                          else none
                         else none
                        else none
                       else none
                      else none
                     else none
                    else none
                   else none
                 else none
                else none
               else none
              else none
             else none
            else none
           else none
          else none
         else bz (ag5 (sub s (a:Int) y4.1)) fun y5=>
          bif(bJ 0 0&&(nH PZ pd pd&&(jl false false&&true)))then
           some (((6:Int),((a:Int),(y4.1,(!y5.1,())))),(((0:Int),(pd,(false,()))),()))
          else none
        else none)=some (((6:Int),((a:Int),(((uP s a:Nat):Int),(!amI (V9 s a (uP s a)),())))),(((0:Int),((if aw=0 then pd else pd++[(DY (V9 s a (uP s a)),decide (aw=5),())]),(false,()))),())):=by
       intro hn;have hcl:=SK (s:=s) (a:=a) (b:=uP s a);rw[aqf hs ha,bu];simp only;rw[bI (fO (by omega) (by omega) (by rw[bF];omega)),acY];by_cases h0:aw=0
       ·subst h0;rw[show(!bJ 0 0)=false from rfl,cond_false,aqx _ (by omega),bu,if_pos rfl];simp_all [dU,gJ,iw]
       ·rw[dL h0,if_neg h0];have hf1:dO (bG [] pd) 24=true:=kN (by grind [bG]);have hf2: ∀y,dO (bG (bG [] pd) [y]) 24=true:=fun y=>kN (by grind [bG]);simp only[aB,dU,mD,gJ,iw,ax,cond_true,hf1];rw[aDw _ (by omega),bu];simp only[dU,mD,gJ,iw,ax,cond_true,hf2];rw[aqx _ (by omega),bu];rfl
      by_cases hg:kG (s.drop a)=0
      ·simp_all [CO,jZ,jP,kK]
      ·rw[bI (dZ (by omega))];by_cases h1:a+kG (s.drop a)<s.length
       ·have hdd:((s.drop a).drop (kG (s.drop a))).head?=some s[a+kG (s.drop a)]:=by
         simp
        have hin2:fB s ((a+kG (s.drop a):Nat):Int)=true:=dN (by omega) (by omega);rw[bI (dZ (by rw[bF];omega)),hin2,cond_true,byte_at h1];by_cases e1:s[a+kG (s.drop a)]=60
        ·have hn:CO (s.drop a)=kG (s.drop a):=by unfold CO;simp_all
         rw[e1,show bJ (((60:UInt8).toNat:Nat):Int) 60=true from rfl];simp_all [dU,gJ,iw,jP,kK]
        ·rw[dC (dL fun h=>e1 (UInt8.toNat_inj.1 (by grind))),cond_true];by_cases e2:s[a+kG (s.drop a)]=62
         ·have hn:CO (s.drop a)=kG (s.drop a):=by unfold CO;simp_all
          rw[e2,show bJ (((62:UInt8).toNat:Nat):Int) 62=true from rfl];simp_all [dU,gJ,iw,jP,kK]
         ·have hn:CO (s.drop a)=0:=by simp_all [CO]
          rw[dC (dL fun h=>e2 (UInt8.toNat_inj.1 (by grind)))];simp_all [jP,kK]
       ·have hdd:((s.drop a).drop (kG (s.drop a))).head?=none:=by
         simp_all
        have hn:CO (s.drop a)=0:=by simp_all [CO]
        rw[dC (jZ (by rw[bF];omega))];simp_all [jP,kK]
     ·have ho1:(CQ (s.drop a)).1≠0:=fun h=>ho (o2.2 h);rw[bI (dZ (by omega))];have hadd:bU .i64 (a:Int) (bC (Qb (CQ (s.drop a)).1))=((a+(CQ (s.drop a)).2:Nat):Int):=by
       grind [bF,bZ]
      by_cases h4:(CQ (s.drop a)).1=4
      ·rw[bI (eH (by omega)),t1,bu];simp_all [dU,gJ,iw,jP,kK]
      ·rw[dC (dL (by omega))];by_cases h5:(CQ (s.drop a)).1=5
       ·rw[bI (eH (by omega)),t1,bu];simp_all [dU,gJ,iw,jP,kK]
       ·rw[dC (dL (by omega)),t1,bu];simp_all [dU,gJ,iw,jP,kK]
  ·rw[bI (dZ (by omega))];simp_all [dU,gJ,iw,jP,kK]
end
section
open List renaming getElem_mem → aH, take_of_length_le → bg
open Go.RowKit
def qR (s:bM):Nat->Nat->List Tok->WT->List Tok×WT
 |0,_,l,x=>(l,x)
 |n+1,a,l,x=>if a<s.length then qR s n (kw s a x).1.2.2.1.toNat (l++[(kw s a x).1]) (kw s a x).2 else(l,x)
def fK (s:bM):List Tok×WT:=qR s (s.length+1) 0 [] (0,[],false,())
def OkX (x:WT):Prop:=x.2.2.1=true->x.2.1≠[]
theorem Vx (s:bM) (a:Nat) {x:WT} (h:OkX x):OkX (kw s a x).2/\(kw s a x).2.2.1.length<=x.2.1.length+1:=by
 obtain⟨aw,pd,bd,u⟩:=x;unfold OkX at*;unfold kw;simp only at h ⊢;split
 ·grind
 ·unfold kK
  grind
theorem MS {s:List UInt8} (hs:s.length<=10000): ∀(n m a:Nat) (l:List Tok) (x:WT),s.length<n+a->s.length<m+a->qR s n a l x=qR s m a l x
 |0,0,a,l,x,_,_=>rfl
 |0,m+1,a,l,x,h,_=>by rw[qR,qR,if_neg (by omega)]
 |n+1,0,a,l,x,_,h=>by rw[qR,qR,if_neg (by omega)]
 |n+1,m+1,a,l,x,h1,h2=>by
  rw[qR,qR];split
  ·rename_i ha
   have:=Fh hs ha x;exact MS hs n m _ _ _ (by omega) (by omega)
  ·rfl
theorem aeB {s:List UInt8} (hs:s.length<=10000) (v6:Int) (v7:Bool): ∀(N a:Nat) (l:List Tok) (x:WT),s.length-a<N->a<=s.length->OkX x->x.2.1.length<=a->l.length<=a->
  MW N s (a:Int) l x.1 x.2.1 x.2.2.1 v6 v7=some (.inl ((),((qR s N a l x).1,((qR s N a l x).2.1,(qR s N a l x).2.2.1,(qR s N a l x).2.2.2.1,()),(v6,v7,()),())))
 |0,a,l,x,h,_,_,_,_=>by omega
 |N+1,a,l,x,h,ha,hx,hp,hl=>by
  rw[MW,acx,qR];by_cases e:a<s.length
  ·have hto:=Fh hs e x;have hok:=Vx s a hx;have hx':(x.1,(x.2.1,(x.2.2.1,())))=x:=rfl;rw[bI (dZ (by rw[bF];omega)),hx',aDA hs e x hx (by omega),bu,if_pos e];simp only;rw[bI (kN (by grind [bG]))];obtain⟨b,hb⟩: ∃b:Nat,(kw s a x).1.2.2.1=(b:Int):=⟨(kw s a x).1.2.2.1.toNat,by omega⟩;have ih:=aeB hs v6 v7 N b (l++[(kw s a x).1]) (kw s a x).2 (by omega) (by omega) hok.1 (by omega) (by grind);rw[hb,Int.toNat_natCast];rw[<-ih];rw[<-hb];rfl
  simp_all [fV,bF,if_neg]
theorem aqr {s:List UInt8} (hs:s.length<=10000):aop s=some ((fK s).1,((fK s).2,())):=by
 have h:=aeB hs 0 false bH 0 [] (0,[],false,()) (dB (by omega)) (by omega) (fun h=>by cases h) (by simp) (by simp);have hm:qR s bH 0 [] (0,[],false,())=fK s:=MS hs _ _ _ _ _ (by have:=dB (n:=s.length) (by omega);omega) (by omega);rw[aop,show MW bH s 0 [] 0 [] false 0 false=_ from h,bu,hm];rfl
structure OkT (s:bM) (t:Tok):Prop where
 f0:0<=t.2.1
 ft:t.2.1<t.2.2.1
 t1:t.2.2.1<=s.length
theorem akB {s:List UInt8} (hs:s.length<=10000): ∀(n a:Nat) (l:List Tok) (x:WT),OkX x->l.length<=a->a<=s.length->(∀t∈l,OkT s t)->(∀t∈(qR s n a l x).1,OkT s t)/\OkX (qR s n a l x).2/\(qR s n a l x).1.length<=s.length
 |0,a,l,x,hx,hl,ha,h=>⟨h,hx,by grind [qR]⟩
 |n+1,a,l,x,hx,hl,ha,h=>by
  rw[qR];split
  ·rename_i e
   have hto:=Fh hs e x;exact akB hs n _ _ _ (Vx s a hx).1 (by grind) (by omega) (fun t ht=>by
    rcases List.mem_append.1 ht with h1|h1
    ·exact h t h1
    ·rw[List.mem_singleton.1 h1];exact⟨by omega,by omega,by omega⟩)
  grind
theorem Cb {s:List UInt8} (hs:s.length<=10000):(∀t∈(fK s).1,OkT s t)/\OkX (fK s).2/\(fK s).1.length<=s.length:=
 akB hs _ _ _ _ (fun h=>by cases h) (by simp) (by omega) (fun t ht=>by cases ht)
def aeh (t:Tok):Bool:=decide (t.1=2)||decide (t.1=4)||decide (t.1=5)||decide (t.1=6)
def aur (s:bM) (t:Tok):Int×List UInt8×Int×Int×Unit:=(t.1,sub s t.2.1 t.2.2.1,t.2.1,t.2.2.1,())
def eF (s:bM) (l:List Tok):List (Int×List UInt8×Int×Int×Unit):=(l.filter aeh).map (aur s)
theorem O4 {s:List UInt8} (hs:s.length<=10000) (l:List Tok) (hl:l.length<=10000) (hok: ∀t∈l,OkT s t): ∀(N k:Nat),l.length-k<N->k<=l.length->
  IW N s l (k:Int) (eF s (l.take k))=some (.inl ((),(eF s l,())))
 |0,k,h,_=>by omega
 |N+1,k,h,hk=>by
  (rewrite [IW,acy];delta Bh jq)
  by_cases e:k<l.length
  ·have hg:dQ l (0,(0,(0,(false,())))) (k:Int)=l[k]:=by
    simp_all [dQ]
   have hin:fB l (k:Int)=true:=dN (by omega) (by omega);obtain⟨o1,o2,o3⟩:=hok _ (aH e);have hpt:eU (bC s) l[k].2.1 l[k].2.2.1=true:=fO o1 (by omega) (by rw[bF];omega);have hlen:(eF s (l.take k)).length<=10000:=by
    grind [eF]
   have hfit: ∀y,dO (bG (eF s (l.take k)) [y]) 40=true:=fun y=>kN (by grind [bG]);have ih:=O4 hs l hl hok N (k+1) (by omega) (by omega);have hts:l.take (k+1)=l.take k++[l[k]]:=by simp
   have hadd:bU .i64 (k:Int) 1=((k+1:Nat):Int):=by grind [bZ]
   have yes:aeh l[k]=true->IW N s l ((k+1:Nat):Int) (bG (eF s (l.take k)) [(l[k].1,(sub s l[k].2.1 l[k].2.2.1,(l[k].2.1,(l[k].2.2.1,()))))])=some (.inl ((),(eF s l,()))):=fun hy=>by
    rw[<-ih];congr 1;unfold eF;rw[hts,List.filter_append,List.map_append,List.filter_cons_of_pos hy];rfl
   rw[bI (dZ (by rw[bF];omega)),hin];simp only[cond_true,hg,hpt,hfit,hadd];unfold aeh at yes;by_cases h2:l[k].1=2
   ·rw[bI (eH h2)];grind
   ·rw[dC (dL h2)];by_cases h4:l[k].1=4
    ·rw[bI (eH h4)];grind
    ·rw[dC (dL h4)];by_cases h5:l[k].1=5
     ·rw[bI (eH h5)];grind
     ·rw[dC (dL h5)];by_cases h6:l[k].1=6
      ·rw[bI (eH h6)];grind
      ·rw[dC (dL h6),<-ih]
       grind [eF,aeh]
  simp_all [fV,bF,bg]
theorem aqp {s:List UInt8} (hs:s.length<=10000):ay5 s=some (eF s (fK s).1,()):=by
 obtain⟨h1,h2,h3⟩:=Cb hs;rw[ay5,aqr hs,bu];simp only;have h:=O4 hs (fK s).1 (by omega) h1 bH 0 (dB (by omega)) (by omega);rw[show IW bH s (fK s).1 0 []=_ from h,bu];rfl
end
section
open Bool renaming not_false → aB
open List renaming append_assoc → ah, length_append → ai, drop_of_length_le → az, drop_eq_getElem_cons → aA, nil_append → aO, drop_zero → aQ
open Go.RowKit
theorem ana (t:bM):(dh t).length=t.length:=by simp[dh]
theorem CP (t:bM):ofBytes (dh t)=t:=by simp[ofBytes,dh,Function.comp_def]
theorem rE (a b:bM):bG (dh a) (dh b)=dh (a++b):=by simp[bG,dh]
theorem ac8 {s:List UInt8} {i:Int} (h0:0<=i) (h:i<s.length):[bT s i]=dh (sub s i (i+1)):=by
 obtain⟨n,rfl⟩:=Int.eq_ofNat_of_zero_le h0;have hn:n<s.length:=by omega
 rw[show(n:Int)+1=((n+1:Nat):Int) by omega,Bq,aA hn,List.take_succ_cons,List.take_zero,byte_at hn];rfl
theorem ane (M:List uN) (a b c:Int):qG (uZ M a b) c=if c=a then b else qG M c:=by
 unfold qG
 induction M with
 |nil=>
  unfold uZ Ez;by_cases h:c=a
  ·simp_all [eH]
  ·rw[dC (dL h),if_neg h];rfl
 |cons e M ih=>
  obtain⟨k,v⟩:=e;unfold uZ;by_cases h1:a=k
  ·rw[bI (eH h1)];subst h1;unfold Ez;by_cases h:c=a
   ·simp_all [eH]
   simp_all [dL]
  ·rw[dC (dL h1)];unfold Ez;by_cases h:c=k
   ·grind
   simp_all [dL]
def Px (M:List uN):Nat->List kJ->List uN
 |_,[]=>M
 |k,p::l=>Px (uZ M p.2.1 ((k+1:Nat):Int)) (k+1) l
theorem Jb (c:Int): ∀(l:List kJ) (M:List uN) (k:Nat),l.Pairwise (fun p q=>p.2.1<q.2.1)->
  (xg l c=none/\qG (Px M k l) c=qG M c)\/(∃p,xg l c=some p/\ ∃j,l[j]? =some p/\qG (Px M k l) c=((k+j+1:Nat):Int))
 |[],M,k,_=>.inl ⟨rfl,rfl⟩
 |p::l,M,k,h=>by
  obtain⟨h1,h2⟩:=List.pairwise_cons.1 h;have ih:=Jb c l (uZ M p.2.1 ((k+1:Nat):Int)) (k+1) h2;rw[Px];unfold xg at*;rw[List.find?_cons];by_cases e:p.2.1=c
  ·rw[show(p.2.1==c)=true by simpa using e];refine .inr ⟨p,rfl,0,rfl, ?_⟩;rcases ih with ⟨i1,i2⟩|⟨q,i1,j,i2,i3⟩
   ·simp_all [ane]
   grind
  ·rw[show(p.2.1==c)=false by simpa using e];rcases ih with ⟨i1,i2⟩|⟨q,i1,j,i2,i3⟩
   ·exact .inl ⟨i1,by rw[i2,ane,if_neg (fun h=>e h.symm)]⟩
   ·exact .inr ⟨q,i1,j+1,i2,by omega⟩
def Qq (s:bM):List uN:=Px [] 0 (cu s)
theorem aeZ {s:List UInt8} {c:Int} (h:xg (cu s) c=none):qG (Qq s) c=0:=by
 rcases Jb c (cu s) [] 0 (XW s)with ⟨_,h2⟩|⟨p,h1,_⟩
 ·exact h2
 simp_all
theorem ae0 {s:List UInt8} (hs:s.length<=10000) {c:Int} {p:kJ} (h:xg (cu s) c=some p):
  bJ (qG (Qq s) c) 0=false/\fB (cu s) (dR .i64 (qG (Qq s) c) 1)=true/\dQ (cu s) (0,(0,(0,(0,(false,()))))) (dR .i64 (qG (Qq s) c) 1)=p:=by
 rcases Jb c (cu s) [] 0 (XW s)with ⟨h1,_⟩|⟨q,h1,j,h2,h3⟩
 ·simp_all
 ·rw[h]at h1;cases h1;obtain⟨hj,hv⟩:=List.getElem?_eq_some_iff.1 h2
  grind [Dc,Qq,gQ,dL,dN,dQ]
theorem X7 (L:List kJ) (hl:L.length<1000000) (a b c d:bM) (e:List kJ) (f:List Int): ∀(N k:Nat) (M:List uN),L.length-k<N->k<=L.length->
  qy N L (bC L) (k:Int) a b c d e M f=some (.inl ((),((a,b,c,()),(),()),((d,e,()),Px M k (L.drop k),(),f,())))
 |0,k,M,h,_=>by omega
 |N+1,k,M,h,hk=>by
  rw[qy,yS];by_cases e1:k<L.length
  ·have hg:dQ L (0,(0,(0,(0,(false,()))))) (k:Int)=L[k]:=by
    simp_all [dQ]
   rw[bI (dZ (by rw[bF];omega)),bI (dN (by omega) (by omega)),hg,bZ (by omega) (by omega),show(k:Int)+1=((k+1:Nat):Int) by omega,
    X7 L hl a b c d e f N (k+1) _ (by omega) (by omega),aA e1,Px]
  ·rw[dC (fV (by rw[bF];omega)),az (by omega)];rfl
theorem auA {p:kJ} (h0:0<=p.2.1) (h1:p.2.1<1000000):ad1 (p.1,(p.2.1,(p.2.2.1,(p.2.2.2.1,(p.2.2.2.2.1,())))))=some (lone p,()):=by
 rw[ad1,lone];simp only;rw[bZ (by omega) (by omega)];by_cases h:p.1=12
 ·rw[bI (eH h)]
  grind [eH,dL]
 simp_all [dL]
theorem aef {s:List UInt8} (hs:s.length<=10000) {p:kJ} (pf:PF s p) (h:p.1=4\/p.1=5):
  aj8 (p.1,(p.2.1,(p.2.2.1,(p.2.2.2.1,(p.2.2.2.2.1,())))))=some (p.2.1+1,(xR p,())):=by
 have h0:=pf.f0;have h1:=pf.f1;have h2:=pf.t0;have h3:=pf.t1;have h4:=pf.sh;obtain⟨m,f,t,u,o,⟨⟩⟩:=p;have hb:aj8 (m,(f,(t,(u,(o,())))))=bif o then some (bU .i64 f 1,(CJ (dR .i64 t 0) (bU .i64 f 1),()))else some (bU .i64 f 1,(CJ (dR .i64 t 1) (bU .i64 f 1),())):=by
  rcases h with h|h
  ·simp only at h;subst h;rfl
  ·simp only at h;subst h;rfl
 simp only at h0 h1 h2 h3 h4 h ⊢;rw[hb];unfold xR CJ;cases o with
 |true=>rw[cond_true,bZ (by omega) (by omega),gQ (by omega) (by omega),Int.sub_zero,if_neg (by omega)];rfl
 |false=>
  have:=h4 rfl (by omega);rw[cond_false,bZ (by omega) (by omega),gQ (by omega) (by omega),if_neg (by omega)];rfl
theorem Eb {a:List UInt8} (h:a.length<=140737488355328):dO (dh a) 1=true:=kN (by rw[ana];omega)
theorem XP (h:bM):(h=[]/\bC (dh h)=0)\/(h≠[]/\0<bC (dh h)):=by
 rw[bF,ana];cases h with
 |nil=>simp
 |cons a l=>simp
theorem MB (s:bM) (hs:s.length<=10000) {to_:Int} (hto:to_<=s.length) (B:Int) (hB:B<=10000000000000) (w3:Int) (w4 w5:Bool) (w6:kJ) (w7:bM) (w9 w10 w11 w12:Int) (w13:Bool) (w14:List Int) (w18:bM):
  ∀(N:Nat) (at_:Int) (ex:Bool) (h o:bM),0<N->to_-at_<N->0<=at_->at_<=s.length->(o.length:Int)+h.length<=B+10000*at_->
  ∃ex' h' o',kV N to_ ex at_ w3 w4 w5 w6 w7 (dh h) w9 w10 w11 w12 w13 w14 s (cu s) (Qq s) w18 (dh o)=
   some (.inl ((ex',()),((w3,w4,w5,w6,()),(w7,()),(),(),()),(dh h',(w9,w10,w11,w12,w13,()),w14,(),(),(s,cu s,()),Qq s,(),(w18,()),dh o',(),())))/\
   o'++h'=o++h++rU s (cu s) to_ N at_/\(o'.length:Int)+h'.length<=B+10000*s.length
 |0,at_,ex,h,o,hN,_,_,_,_=>by omega
 |N+1,at_,ex,h,o,hN,hlt,h0,h1,hh=>by
  (rewrite [kV,yU];delta mQ mP jT iI eG;rw[rU])
  by_cases e:at_<to_
  ·have hup:= @Vu s at_;have hsl:=N8 s (cu s) at_;have keep: ∀(c:bM) (nx:Int),c=(iG s (cu s) at_).2.1->nx=(iG s (cu s) at_).1->nx<=s.length->
     ∃ex' h' o',(bif dO (dh (h++c)) 1 then kV N to_ ex nx w3 w4 w5 w6 w7 (dh (h++c)) w9 w10 w11 w12 w13 w14 s (cu s) (Qq s) w18 (dh o)else none)=
      some (.inl ((ex',()),((w3,w4,w5,w6,()),(w7,()),(),(),()),(dh h',(w9,w10,w11,w12,w13,()),w14,(),(),(s,cu s,()),Qq s,(),(w18,()),dh o',(),())))/\
      o'++h'=o++h++((iG s (cu s) at_).2.1++rU s (cu s) to_ N (iG s (cu s) at_).1)/\(o'.length:Int)+h'.length<=B+10000*s.length:=by
    intro c nx hc hnx hle;subst hc hnx;rw[bI (Eb (by grind))];obtain⟨ex',h',o',r1,r2,r3⟩:=MB s hs hto B hB w3 w4 w5 w6 w7 w9 w10 w11 w12 w13 w14 w18 N (iG s (cu s) at_).1 ex (h++(iG s (cu s) at_).2.1) o (by omega) (by omega) (by omega) hle (by grind)
    grind
   have push: ∀(l:bM) (nx:Int),l=o++h++(iG s (cu s) at_).2.1->nx=(iG s (cu s) at_).1->nx<=s.length->
     ∃ex' h' o',(bif dO (dh l) 1 then kV N to_ true nx w3 w4 w5 w6 w7 [] w9 w10 w11 w12 w13 w14 s (cu s) (Qq s) w18 (dh l)else none)=
      some (.inl ((ex',()),((w3,w4,w5,w6,()),(w7,()),(),(),()),(dh h',(w9,w10,w11,w12,w13,()),w14,(),(),(s,cu s,()),Qq s,(),(w18,()),dh o',(),())))/\
      o'++h'=o++h++((iG s (cu s) at_).2.1++rU s (cu s) to_ N (iG s (cu s) at_).1)/\(o'.length:Int)+h'.length<=B+10000*s.length:=by
    intro l nx hl hnx hle;subst hl hnx;rw[bI (Eb (by grind))];obtain⟨ex',h',o',r1,r2,r3⟩:=MB s hs hto B hB w3 w4 w5 w6 w7 w9 w10 w11 w12 w13 w14 w18 N (iG s (cu s) at_).1 true [] (o++h++(iG s (cu s) at_).2.1) (by omega) (by omega) (by omega) hle (by grind);refine⟨ex',h',o',r1, ?_,r3⟩;simp_all
   have ha1:bU .i64 at_ 1=at_+1:=bZ (by omega) (by omega);rw[bI (dZ e),if_pos e];cases hf:xg (cu s) at_ with
   |none=>
    have hst:iG s (cu s) at_=(at_+1,sub s at_ (at_+1),false):=by unfold iG;rw[hf]
    rw[aeZ hf,show bJ 0 0=true from rfl,cond_true,bI (dN h0 (by omega)),ac8 h0 (by omega),rE,ha1]
    grind
   |some p=>
    obtain⟨pf,hpe⟩:=xh hf;have t0:=pf.t0;have t1:=pf.t1;obtain⟨m1,m2,m3⟩:=ae0 hs hf;rw[m1,cond_false,m2,cond_true];simp only[m3];rw[auA pf.f0 (by omega),bu];by_cases hlone:lone p=true
    ·have hst:iG s (cu s) at_=(at_+1,sub s at_ (at_+1),false):=by simp_all [iG]
     rw[hlone,cond_true,bI (dN h0 (by omega)),ac8 h0 (by omega),rE,ha1]
     grind
    ·rw[show lone p=false by simpa using hlone,cond_false];have hs2:dR .i64 p.2.2.1 p.2.1=p.2.2.1-p.2.1:=gQ (by omega) (by omega);have ha2:bU .i64 p.2.1 1=p.2.1+1:=bZ (by omega) (by omega);simp only[hs2,ha2,rE];by_cases h13:p.1=13
     ·have hes:=pf.es h13;have hst:iG s (cu s) at_=(p.2.2.1,We s p,false):=by simp_all [iG]
      rw[bI (eH h13)];by_cases hto2:p.2.2.1=p.2.1+2
      ·rw[dC (jZ (by omega)),bI (dN (by omega) (by omega))];have hesc:We s p=(if bT s (p.2.1+1)=36\/bT s (p.2.1+1)=96\/bT s (p.2.1+1)=34\/bT s (p.2.1+1)=92 then sub s (p.2.1+1) p.2.2.1
         else if bT s (p.2.1+1)=10 then []else nN s p):=by
        simp_all [We]
       have hone:ofBytes [bT s (p.2.1+1)]=sub s (p.2.1+1) p.2.2.1:=by
        grind [ac8,CP]
       simp only[hone];by_cases b1:bT s (p.2.1+1)=36
       ·simp_all [eH]
       ·rw[dC (dL b1)];by_cases b2:bT s (p.2.1+1)=96
        ·simp_all [eH]
        ·rw[dC (dL b2)];by_cases b3:bT s (p.2.1+1)=34
         ·simp_all [eH]
         ·rw[dC (dL b3)];by_cases b4:bT s (p.2.1+1)=92
          ·simp_all [eH]
          ·rw[dC (dL b4)];have hno: ¬(bT s (p.2.1+1)=36\/bT s (p.2.1+1)=96\/bT s (p.2.1+1)=34\/bT s (p.2.1+1)=92):=by omega
           by_cases b5:bT s (p.2.1+1)=10
           ·rw[bI (eH b5)]
            grind
           ·rw[dC (dL b5),bI (fO pf.f0 (by omega) (by rw[bF];omega))];exact keep _ _ (by rw[hst,hesc,if_neg hno,if_neg b5];rfl) (by rw[hst]) (by omega)
      ·rw[bI (dZ (by omega))];exact keep _ _ (by simp_all [We]) (by rw[hst]) (by omega)
     ·have hst:iG s (cu s) at_=(p.2.2.1,nN s p,true):=by simp_all [iG]
      rw[dC (dL h13)];have hpt:eU (bC s) p.2.1 p.2.2.1=true:=fO pf.f0 (by omega) (by rw[bF];omega);simp only[CP,rE,hpt,cond_true];rcases XP h with ⟨he,hl⟩|⟨he,hl⟩
      ·subst he;rw[dC (jZ (by omega))];exact push _ _ (by rw[hst,List.append_nil];rfl) (by rw[hst]) (by omega)
      ·rw[bI (dZ hl),bI (Eb (by grind))];exact push _ _ (by rw[hst];rfl) (by rw[hst]) (by omega)
  ·rw[dC (fV e),if_neg e]
   grind
theorem SS (s:bM) (hs:s.length<=10000) (w1 w6:bM): ∀(N:Nat) (at_:Int) (h o:bM),(s.length:Int)-at_<N->0<=at_->at_<=s.length->(o.length:Int)+h.length<=200000000*at_->
  ∃h' o',jh N at_ w1 (dh h) s (cu s) (Qq s) w6 (dh o)=
   some (.inl ((),((w1,()),(),(),()),(dh h',(),(),(s,cu s,()),Qq s,(),(w6,()),dh o',(),())))/\
   o'++h'=o++h++lu s (cu s) N at_/\(o'.length:Int)+h'.length<=200000000*s.length
 |0,at_,h,o,hN,_,_,_=>by omega
 |N+1,at_,h,o,hN,h0,h1,hh=>by
  (rewrite [jh,yT];delta tZ tY tX tV tN iD jS jR pF cZ;rw[lu])
  by_cases e:at_<s.length
  ·have hup:= @Vw s at_;have hle:=afI (s:=s) e;have hsl:(stepT s (cu s) at_).2.length<=100010000:=by
    have h1:=N9 s (cu s) at_;have h2:s.length*s.length<=10000*10000:=Nat.mul_le_mul hs hs;omega
   have go: ∀(g l:bM) (nx:Int),l++g=o++h++(stepT s (cu s) at_).2->nx=(stepT s (cu s) at_).1->
     ∃h' o',jh N nx w1 (dh g) s (cu s) (Qq s) w6 (dh l)=
      some (.inl ((),((w1,()),(),(),()),(dh h',(),(),(s,cu s,()),Qq s,(),(w6,()),dh o',(),())))/\
      o'++h'=o++h++((stepT s (cu s) at_).2++lu s (cu s) N (stepT s (cu s) at_).1)/\(o'.length:Int)+h'.length<=200000000*s.length:=by
    intro g l nx hl hnx;subst hnx;have hlen:=congrArg List.length hl;simp only[ai]at hlen;obtain⟨h',o',r1,r2,r3⟩:=SS s hs w1 w6 N (stepT s (cu s) at_).1 g l (by omega) (by omega) hle (by omega)
    grind
   have hb1: ∀x:bM,x.length<=200000000->dO (dh (h++x)) 1=true:=fun x hx=>Eb (by grind);have hb2: ∀x:bM,x.length<=200000000->dO (dh (o++x)) 1=true:=fun x hx=>Eb (by grind);have hb4:dO (dh (o++h)) 1=true:=Eb (by grind);have hb3: ∀x:bM,x.length<=200000000->dO (dh (o++h++x)) 1=true:=fun x hx=>Eb (by grind);have ha1:bU .i64 at_ 1=at_+1:=bZ (by omega) (by omega);have hsub: ∀a b,(sub s a b).length<=200000000:=fun a b=>by grind [Jh]
   rw[bI (dZ (b:=bC s) e),if_pos e];cases hf:xg (cu s) at_ with
   |none=>
    have hst:stepT s (cu s) at_=(at_+1,sub s at_ (at_+1)):=by unfold stepT;rw[hf]
    rw[aeZ hf,show bJ 0 0=true from rfl,cond_true];simp_all [ac8,rE,dN,mD,dU]
   |some p=>
    obtain⟨pf,hpe⟩:=xh hf;have t0:=pf.t0;have t1:=pf.t1;obtain⟨m1,m2,m3⟩:=ae0 hs hf;have hpt:eU (bC s) p.2.1 p.2.2.1=true:=fO pf.f0 (by omega) (by rw[bF];omega);have hpt1:eU (bC s) (p.2.1+1) p.2.2.1=true:=fO (by omega) (by omega) (by rw[bF];omega);have ha2:bU .i64 p.2.1 1=p.2.1+1:=bZ (by omega) (by omega);rw[m1,cond_false,m2,cond_true];simp only[m3];rw[auA pf.f0 (by omega),bu];simp only[ha2,hpt,hpt1,CP,rE,cond_true,hb1 _ (hsub _ _),hb2 _ (hsub _ _),hb3 _ (hsub _ _),hb4];have flush: ∀(x:bM),x.length<=200000000->x=(stepT s (cu s) at_).2->p.2.2.1=(stepT s (cu s) at_).1->
     ∃h' o',(bif fG h []then jh N p.2.2.1 w1 [] s (cu s) (Qq s) w6 (dh (o++x))
      else jh N p.2.2.1 w1 [] s (cu s) (Qq s) w6 (dh (o++h++x)))=
      some (.inl ((),((w1,()),(),(),()),(dh h',(),(),(s,cu s,()),Qq s,(),(w6,()),dh o',(),())))/\
      o'++h'=o++h++((stepT s (cu s) at_).2++lu s (cu s) N (stepT s (cu s) at_).1)/\(o'.length:Int)+h'.length<=200000000*s.length:=by
     intro x hx hxe hnx;by_cases he:h=[]
     ·subst he;rw[bI (by rfl)];exact go [] _ _ (by rw[<-hxe];simp) hnx
     ·rw[dC (by simpa [fG] using he)];exact go [] _ _ (by rw[<-hxe];simp) hnx
    by_cases hpl':lone p=true\/p.1=14
    ·have hst:stepT s (cu s) at_=(p.2.2.1,nN s p):=by simp_all [stepT]
     have:=go (h++sub s p.2.1 p.2.2.1) o p.2.2.1 (by rw[hst,ah];rfl) (by rw[hst]);by_cases hlone:lone p=true
     ·simp_all
     ·have h14:p.1=14:=hpl'.resolve_left hlone;simp only[show lone p=false by simpa using hlone,h14,show bJ 14 14=true from rfl,cond_true,cond_false];exact this
    ·have hlone:lone p=false:=by
      simp_all
     have h14:p.1≠14:=fun h=>hpl' (.inr h);simp only[hlone,dL h14,cond_false];by_cases h13:p.1=13
     ·have hes:=pf.es h13;have hst:stepT s (cu s) at_=(p.2.2.1,Wh s p):=by simp_all [stepT]
      simp only[eH h13,dL (show p.1≠4 by omega),cond_true,cond_false];by_cases hto2:p.2.2.1=p.2.1+2
      ·have hone:sub s (p.2.1+1) p.2.2.1=[s.getD (p.2.1+1).toNat 0]:=by
        obtain⟨n,hn⟩:=Int.eq_ofNat_of_zero_le (show 0<=p.2.1+1 by omega);have hn2:n<s.length:=by omega
        rw[hn,show p.2.2.1=((n+1:Nat):Int) by omega,Bq,aA hn2,List.take_succ_cons,List.take_zero,Int.toNat_natCast,List.getD_eq_getElem?_getD,List.getElem?_eq_getElem hn2];rfl
       have hne:fG (sub s (p.2.1+1) p.2.2.1) []=false:=by rw[hone];simp[fG]
       rw[hne,aB,cond_true];by_cases b5:bT s (p.2.1+1)=10
       ·have:fG (sub s (p.2.1+1) p.2.2.1) [10]=true:=by
         rw[hone];unfold bT at b5;have h10:s.getD (p.2.1+1).toNat 0=10:=UInt8.toNat_inj.1 (by show _=10;omega);rw[h10];rfl
        simp_all [Wh]
       ·have:fG (sub s (p.2.1+1) p.2.2.1) [10]=false:=by
         rw[hone];have hq:s.getD (p.2.1+1).toNat 0≠10:=fun h=>b5 (by unfold bT;rw[h];rfl);simpa [fG] using hq
        rw[this,aB,cond_true];exact flush _ (hsub _ _) (by simp_all [Wh]) (by rw[hst])
      ·have hnil:sub s (p.2.1+1) p.2.2.1=[]:=by
        grind [sub]
       rw[hnil,show(!fG ([]:bM) [])=false from rfl,cond_false];simp_all [Wh]
     ·simp only[dL h13,cond_false];by_cases h4:p.1=4
      ·have hst:stepT s (cu s) at_=(p.2.2.1,sub s (p.2.1+1) (xR p)):=by simp_all [stepT]
       have hen:p.2.1+1<=xR p/\xR p<=p.2.2.1:=by
        unfold xR;by_cases ho:p.2.2.2.2.1=true
        ·grind
        ·rw[if_neg ho];have:=pf.sh (by simpa using ho) (by omega);omega
       simp only[eH h4,cond_true];rw[aef hs pf (.inl h4),bu];simp only[fO (n:=bC s) (lo:=p.2.1+1) (hi:=xR p) (by omega) hen.1 (by rw[bF];omega),cond_true,hb2 _ (hsub _ _),hb3 _ (hsub _ _)];exact flush _ (hsub _ _) (by rw[hst]) (by rw[hst])
      ·simp only[dL h4,cond_false];by_cases h5:p.1=5
       ·have hst:stepT s (cu s) at_=(p.2.2.1,rU s (cu s) (xR p) s.length (p.2.1+1)):=by simp_all [stepT]
        have hen:p.2.1+1<=xR p/\xR p<=p.2.2.1:=by
         unfold xR;by_cases ho:p.2.2.2.2.1=true
         ·grind
         ·rw[if_neg ho];have:=pf.sh (by simpa using ho) (by omega);omega
        simp only[eH h5,cond_true,aef hs pf (.inr h5),bu];have dbl: ∀(q:bM),q=o++h-> ∃ex' h' o',kV bH (xR p) false (p.2.1+1) p.2.2.1 true true (p.1,(p.2.1,(p.2.2.1,(p.2.2.2.1,(p.2.2.2.2.1,()))))) w1 [] p.1 p.2.1 p.2.2.1 p.2.2.2.1 p.2.2.2.2.1 (dh h) s (cu s) (Qq s) w6 (dh q)=
          some (.inl ((ex',()),((p.2.2.1,true,true,(p.1,(p.2.1,(p.2.2.1,(p.2.2.2.1,(p.2.2.2.2.1,()))))),()),(w1,()),(),(),()),(dh h',(p.1,p.2.1,p.2.2.1,p.2.2.2.1,p.2.2.2.2.1,()),dh h,(),(),(s,cu s,()),Qq s,(),(w6,()),dh o',(),())))/\
          o'++h'=o++h++(stepT s (cu s) at_).2:=by
         intro q hq;obtain⟨ex',h',o',r1,r2,r3⟩:=MB s hs (to_:=xR p) (by omega) 10000000000000 (by omega) p.2.2.1 true true (p.1,(p.2.1,(p.2.2.1,(p.2.2.2.1,(p.2.2.2.2.1,()))))) w1 p.1 p.2.1 p.2.2.1 p.2.2.2.1 p.2.2.2.2.1 (dh h) w6 bH (p.2.1+1) false [] q (by unfold bH;omega) (by have:=dB (n:=s.length) (by omega);omega) (by omega) (by omega) (by grind);refine⟨ex',h',o',r1, ?_⟩
         grind [MC,bH]
        have tail: ∀(ex':Bool) (h' o':bM),o'++h'=o++h++(stepT s (cu s) at_).2->
          ∃h'' o'',(bif bJ (bC (dh h')) 0 then
            bif ex' then jh N p.2.2.1 w1 [] s (cu s) (Qq s) w6 (dh o')
            else bif dO (dh (o'++h')) 1 then jh N p.2.2.1 w1 [] s (cu s) (Qq s) w6 (dh (o'++h'))else none
           else bif dO (dh (o'++h')) 1 then jh N p.2.2.1 w1 [] s (cu s) (Qq s) w6 (dh (o'++h'))else none)=
           some (.inl ((),((w1,()),(),(),()),(dh h'',(),(),(s,cu s,()),Qq s,(),(w6,()),dh o'',(),())))/\
           o''++h''=o++h++((stepT s (cu s) at_).2++lu s (cu s) N (stepT s (cu s) at_).1)/\(o''.length:Int)+h''.length<=200000000*s.length:=by
         intro ex' h' o' ho;have hlen:=congrArg List.length ho;simp only[ai]at hlen;have hfit:dO (dh (o'++h')) 1=true:=Eb (by grind);have g1:=go [] (o'++h') p.2.2.1 (by simp_all) (by rw[hst]);rw[hfit,cond_true];rcases XP h' with ⟨he,hl⟩|⟨he,hl⟩
         ·rw[bI (eH hl)];rw[he,List.append_nil]at g1 ⊢;cases ex'<;>exact g1
         ·rw[dC (dL (by omega))];exact g1
        by_cases he:h=[]
        ·rw[bI (by rw[he];rfl)];obtain⟨ex',h',o',r1,r2⟩:=dbl o (by simp_all);rw[r1,bu];simp only[dE,cond_true,CP,rE];exact tail ex' h' o' r2
        ·rw[dC (by simpa [fG] using he)];obtain⟨ex',h',o',r1,r2⟩:=dbl (o++h) rfl;rw[r1,bu];simp only[dE,cond_true,CP,rE];exact tail ex' h' o' r2
       ·have hst:stepT s (cu s) at_=(p.2.2.1,nN s p):=by simp_all [stepT]
        simp only[dL h5,cond_false];exact flush _ (hsub _ _) (by rw[hst];rfl) (by rw[hst])
  ·rw[dC (fV (by rw[bF];omega)),if_neg e]
   grind
theorem aDv (s:bM) (hs:s.length<=10000):ajH s=some (DY s,()):=by
 have hl:=Dc s;rw[ajH,aJ1 s (by omega),bu];simp only;have h1:=X7 (cu s) (by omega) s [] s s (cu s) [] bH 0 [] (dB (by omega)) (by omega);rw[show qy bH (cu s) (bC (cu s)) 0 s [] s s (cu s) [] []=_ from h1,bu];simp only[dE,aQ];obtain⟨h',o',r1,r2,r3⟩:=SS s hs [] [] bH 0 [] [] (by have:=dB (n:=s.length) (by omega);omega) (by omega) (by omega) (by simp);rw[show jh bH 0 [] [] s (cu s) (Px [] 0 (cu s)) [] []=_ from r1,bu];have hm:lu s (cu s) bH 0=DY s:=Iy s _ _ _ (by have:=dB (n:=s.length) (by omega);omega) (by omega);rw[hm,aO,aO]at r2;simp only[dE,CP,rE,dU,cond_true];rw[bI (Eb (by grind)),r2];by_cases he:h'=[]
 ·simp_all
 simp_all [dC,fG]
end
section
open Bool renaming false_eq_true → ag, and_true → ax, not_true → ay, not_false → aB, not_eq_true → aW
open List renaming drop_eq_getElem_cons → aA, length_cons → aF, length_drop → aS
open Go.RowKit
theorem ajk {l:List Dlm} (h:l.length<=1000000):rP l=some (l,()):=by
 grind [rP,wG,kN]
theorem aqe {s:List UInt8} (hs:s.length<=10000) {a:Nat} (ha:a<s.length):adU s (a:Int)=some (((uP s a:Nat):Int),()):=by
 grind [aHF,uP]
theorem aqI {s:List UInt8} {a:Nat} (ha:a<s.length):wX (s.drop a)≠0↔qM (bT s a)=true\/Ae (s.drop a)=true:=by
 grind [byte_at,aA,Jw]
theorem aqy (t:bM): ∀n,(Qj t n).2≠0->ofF (t.take (Qj t n).2)=(Qj t n).1
 |0,h=>absurd rfl h
 |n+1,h=>by
  rw[Qj]at h ⊢;split
  ·rfl
  ·rename_i h1
   rw[if_neg h1]at h;exact aqy t n h
theorem ayk {s:List UInt8} (hs:s.length<=10000) {a:Nat} (ha:a<s.length):ajw s (a:Int)=some (jP s a,()):=by
 have hin:fB s (a:Int)=true:=dN (by omega) (by omega);obtain⟨k,h1,h2,h3⟩:=aFU (lL s a);have hz:=aqI ha
 (rewrite [ajw];delta Zg;rw[aJY (by omega) ha,bu,bI hin,h1,bu])
 simp only[h2,hin,cond_true,arp (show a<=s.length by omega),bu,ayH (show s.length<1000000 by omega) (show a<=s.length by omega)];by_cases hb:wX (s.drop a)≠0
 ·have hpl:jP s a=(1,(a:Int),((a+wX (s.drop a):Nat):Int),false,()):=by simp_all [jP]
  grind
 ·have h4:qM (bT s (a:Int))=false:=by
   simp_all
  have h5:Ae (s.drop a)=false:=by
   simp_all
  rw[h4,h5,cond_false,cond_false];unfold jP;rw[if_neg hb];by_cases h10:bT s (a:Int)=10
  ·rw[bI (eH h10),if_pos h10,bZ (by omega) (by omega)];rfl
  ·rw[dC (dL h10),if_neg h10];by_cases h35:bT s (a:Int)=35
   ·rw[bI (eH h35),if_pos h35,aut (by omega) (by omega),bu]
   ·rw[dC (dL h35),if_neg h35];have ho:=(Qr (s.drop a)).1;rw[aS]at ho;by_cases hop:(CQ (s.drop a)).2≠0
    ·rw[bI (dZ (by omega)),if_pos hop]
     grind [bZ]
    ·rw[dC (jZ (by omega)),if_neg hop,avn (by omega) (by omega),bu];by_cases hn:CO (s.drop a)≠0
     ·rw[bI (dZ (by omega)),if_pos hn,bu]
     ·rw[dC (jZ (by omega)),if_neg hn,aqe hs ha,bu];have hw:=VX (s:=s) (a:=a) (by omega);have hc:=SK (s:=s) (a:=a) (b:=uP s a);obtain⟨t,t1,t2⟩:=anf (V9 s a (uP s a)) (by omega);simp only;rw[bI (fO (by omega) (by omega) (by rw[bF];omega)),acY,t1,bu];simp only;rw[t2];rfl
theorem aqG {s:List UInt8} (hs:s.length<=10000) {a:Nat} (ha:a<s.length) {x:WT} (hl:x.2.1.length<=100000):
  ajx (sub s (jP s a).2.1 (jP s a).2.2.1) (jP s a).1 (x.1,(x.2.1,(x.2.2.1,())))=some (kK s a x,()):=by
 rw[ajx];simp only[ajk (show x.2.1.length<=1000000 by omega),bu];unfold jP kK;by_cases hb:wX (s.drop a)≠0
 ·rw[if_pos hb,if_pos hb];rfl
 ·rw[if_neg hb,if_neg hb];by_cases h10:bT s (a:Int)=10
  ·have hlt:gU 0 (bC x.2.1)=decide (0<x.2.1.length):=by
    simp_all [gU,bC]
   rw[if_pos h10,if_pos h10,<-hlt];rfl
  ·rw[if_neg h10,if_neg h10];by_cases h35:bT s (a:Int)=35
   ·rw[if_pos h35,if_pos h35];rfl
   ·rw[if_neg h35,if_neg h35];by_cases hop:(CQ (s.drop a)).2≠0
    ·rw[if_pos hop,if_pos hop];simp only;rw[show bJ 4 1=false from rfl,cond_false,show bJ 4 2=false from rfl,cond_false,show bJ 4 4=true from rfl,cond_true,Bq,avp,bu];have:ofF ((s.drop a).take (CQ (s.drop a)).2)=(CQ (s.drop a)).1:=aqy _ _ hop;rw[this];simp only;by_cases h4:(CQ (s.drop a)).1=4
     ·simp_all [eH]
     ·rw[dC (dL (by omega))];by_cases h5:(CQ (s.drop a)).1=5
      ·simp_all [eH]
      ·rw[dC (dL (by omega)),if_neg (by omega)]
    ·rw[if_neg hop,if_neg hop];by_cases hn:CO (s.drop a)≠0
     ·rw[if_pos hn,if_pos hn];rfl
     ·rw[if_neg hn,if_neg hn];have hc:=SK (s:=s) (a:=a) (b:=uP s a);simp only;rw[show bJ 6 1=false from rfl,cond_false,show bJ 6 2=false from rfl,cond_false,show bJ 6 4=false from rfl,cond_false,show bJ 6 6=true from rfl,cond_true,acY];by_cases h0:x.1=0
      ·simp_all [eH]
      ·have h5:bJ x.1 5=decide (x.1=5):=rfl;have hfit: ∀y,dO (bG x.2.1 [y]) 24=true:=fun y=>kN (by grind [bG]);rw[dL h0,aB,cond_true,if_neg h0,aDv _ (by omega),bu];simp only[mD,dU,iw,hfit,cond_true,ax];rfl
theorem aDz {s:List UInt8} (hs:s.length<=10000) {a:Nat} (ha:a<s.length) (x:WT) (hp:x.2.2.1=true->x.2.1≠[]) (hl:x.2.1.length<=100000):
  azi s (a:Int) x=some ((kw s a x).1,((kw s a x).2,())):=by
 obtain⟨aw,pd,bd,u⟩:=x;cases u;simp only at hp hl
 (rewrite [azi];delta ag7 ag6;rw[dC (jZ (by omega)),dC (O3 (by rw[bF];omega))])
 unfold kw;cases bd with
 |true=>
  obtain⟨d,r,rfl⟩: ∃d r,pd=d::r:=by
   cases pd with
   |nil=>simp_all
   |cons d r=>simp
  simp only[cond_true,if_true];rw[bI (dZ (by simp_all [bF])),ata];simp only;rw[bI (dN (by omega) (by simp)),show dQ (d::r) ([],(false,())) 0=d from rfl,aEs (by omega) d (by omega),bu];simp only[List.headD_cons];by_cases hh:(Dx s d.1 d.2.1 a).2=true
  rotate_left
  ·rw[aW]at hh;simp only[hh,ag,if_false,aB,cond_true,dU,gJ,iw,ax,bu]
  ·have hsb:sub (d::r) 1 (bC (d::r))=r:=by simp[sub,bF]
   have hlt:gU 0 (bC r)=decide (1<(d::r).length):=by
    simp_all [gU,bC]
   have hpt:eU (bC (d::r)) 1 (bC (d::r))=true:=fO (by omega) (by grind [bF]) (by omega);rw[aF]at hl;simp only[hh,if_true,ay,cond_false,hpt,hsb,cond_true,ajk (show r.length<=1000000 by omega),bu,dU,iw,ax,hlt];rfl
 |false=>
  simp only[cond_false,ag,if_false];have ht:=Fh hs ha (aw,(pd,(false,())));have hs1:kw s a (aw,(pd,(false,())))=(jP s a,kK s a (aw,(pd,(false,())))):=by rfl
  rw[hs1]at ht;simp only at ht;rw[ayk hs ha,bu];simp only;have hpt:eU (bC s) (jP s a).2.1 (jP s a).2.2.1=true:=fO (by omega) (by omega) (by rw[bF];omega);rw[hpt,cond_true,aqG hs ha (x:=(aw,(pd,(false,())))) hl,bu];simp only[mD,dU,iw,gJ,cond_true,ax]
theorem XD {s:List UInt8} (hs:s.length<=10000) (v13:Int) (v14:Bool): ∀(N a:Nat) (l:List Tok) (x:WT) (t:Tok),s.length-a<N->a<=s.length->OkX x->x.2.1.length<=a->l.length<=a->
  wK N (a:Int) t.1 t.2.1 t.2.2.1 t.2.2.2.1 x.1 x.2.1 x.2.2.1 s l x.1 x.2.1 x.2.2.1 v13 v14=
   some (.inl ((),((),(),(),()),((s,()),(),(qR s N a l x).1,((qR s N a l x).2.1,(qR s N a l x).2.2.1,(qR s N a l x).2.2.2.1,()),(),(v13,v14,()),())))
 |0,a,l,x,t,h,_,_,_,_=>by omega
 |N+1,a,l,x,t,h,ha,hx,hp,hl=>by
  rw[wK,GU,qR];by_cases e:a<s.length
  ·have hto:=Fh hs e x;have hok:=Vx s a hx;have hx':(x.1,(x.2.1,(x.2.2.1,())))=x:=rfl;rw[bI (dZ (by rw[bF];omega)),hx',aDz hs e x hx (by omega),bu,if_pos e];have hfit: ∀y,dO (bG l [y]) 32=true:=fun y=>kN (by grind [bG]);simp only[hfit,dU,iw,gJ,cond_true,ax];obtain⟨b,hb⟩: ∃b:Nat,(kw s a x).1.2.2.1=(b:Int):=⟨(kw s a x).1.2.2.1.toNat,by omega⟩;have ih:=XD hs v13 v14 N b (l++[(kw s a x).1]) (kw s a x).2 (kw s a x).1 (by omega) (by omega) hok.1 (by omega) (by grind);rw[hb]at ih ⊢;rw[Int.toNat_natCast,<-ih];rw[<-hb];rfl
  simp_all [fV,bF,if_neg]
theorem aHH {s:List UInt8} (hs:s.length<=10000):ay7 s=some ((fK s).1,((fK s).2,())):=by
 have h:=XD hs 0 false bH 0 [] (0,[],false,()) (0,0,0,false,()) (dB (by omega)) (by omega) (fun h=>by cases h) (by simp) (by simp);have hm:qR s bH 0 [] (0,[],false,())=fK s:=MS hs _ _ _ _ _ (by have:=dB (n:=s.length) (by omega);omega) (by omega);rw[ay7,show wK bH 0 0 0 0 false 0 [] false s [] 0 [] false 0 false=_ from h,bu,hm];rfl
end
section
open Bool renaming and_true → ax
open List renaming length_append → ai, getElem_mem → aH, length_map → aK, length_singleton → aU, take_of_length_le → bg
open Go.RowKit
theorem J4 {s:List UInt8} (hs:s.length<=10000) (l:List Tok) (hl:l.length<=10000) (hok: ∀t∈l,OkT s t): ∀(N k:Nat),l.length-k<N->k<=l.length->
  Es N s l (bC l) (k:Int) (eF s (l.take k))=some (.inl ((),(eF s l,())))
 |0,k,h,_=>by omega
 |N+1,k,h,hk=>by
  (rewrite [Es,acC];delta Bi uK dV)
  by_cases e:k<l.length
  ·have hg:dQ l (0,(0,(0,(false,())))) (k:Int)=l[k]:=by
    unfold dQ;rw[Int.toNat_natCast,List.getD_eq_getElem?_getD,List.getElem?_eq_getElem e];rfl
   have hin:fB l (k:Int)=true:=dN (by omega) (by omega);obtain⟨o1,o2,o3⟩:=hok _ (aH e);have hpt:eU (bC s) l[k].2.1 l[k].2.2.1=true:=fO o1 (by omega) (by rw[bF];omega);have hlen:(eF s (l.take k)).length<=10000:=by
    unfold eF;rw[aK];have:=List.length_filter_le aeh (l.take k);rw[List.length_take]at this;omega
   have hfit: ∀y,dO (bG (eF s (l.take k)) [y]) 40=true:=fun y=>kN (by unfold bG;simp only[ai,aU];omega);have ih:=J4 hs l hl hok N (k+1) (by omega) (by omega);have hts:l.take (k+1)=l.take k++[l[k]]:=by rw[List.take_add_one,List.getElem?_eq_getElem e];rfl
   have hadd:bU .i64 (k:Int) 1=((k+1:Nat):Int):=by rw[bZ (by omega) (by omega)];omega
   have t1:gU l[k].2.1 0=false:=jZ (by omega);have t2:gU l[k].2.2.1 l[k].2.1=false:=jZ (by omega);have t3:gU (bC s) l[k].2.2.1=false:=jZ (by rw[bF];omega);have htx:azd s (l[k].1,(l[k].2.1,(l[k].2.2.1,(l[k].2.2.2.1,()))))=some (sub s l[k].2.1 l[k].2.2.1,()):=by
    rw[azd];simp only[t1,t2,t3,hpt,cond_true,cond_false]
   have yes:aeh l[k]=true->Es N s l (bC l) ((k+1:Nat):Int) (bG (eF s (l.take k)) [(l[k].1,(sub s l[k].2.1 l[k].2.2.1,(l[k].2.1,(l[k].2.2.1,()))))])=some (.inl ((),(eF s l,()))):=fun hy=>by
    rw[<-ih];congr 1;unfold eF;rw[hts,List.filter_append,List.map_append,List.filter_cons_of_pos hy];rfl
   have no:aeh l[k]=false->Es N s l (bC l) ((k+1:Nat):Int) (eF s (l.take k))=some (.inl ((),(eF s l,()))):=fun hy=>by
    rw[<-ih];congr 1;unfold eF;rw[hts,List.filter_append,List.filter_cons_of_neg (by rw[hy];simp)];simp
   rw[bI (dZ (by rw[bF];omega)),hin,cond_true];simp only[hg,t1,t2,t3,cond_false,hadd,htx,bu,dU,mD,iw,ax,cond_true,hfit];unfold aeh at yes no;by_cases h4:l[k].1=4
   ·simp only[eH h4,cond_true];exact yes (by simp[h4])
   ·by_cases h5:l[k].1=5
    ·simp only[dL h4,eH h5,cond_true,cond_false];exact yes (by simp[h5])
    ·by_cases h6:l[k].1=6
     ·simp only[dL h4,dL h5,eH h6,cond_true,cond_false];exact yes (by simp[h6])
     ·by_cases h2:l[k].1=2
      ·simp only[dL h4,dL h5,dL h6,eH h2,cond_true,cond_false];exact yes (by simp[h2])
      ·simp only[dL h4,dL h5,dL h6,dL h2,cond_true,cond_false];exact no (by simp[h2,h4,h5,h6])
  ·rw[dC (fV (by rw[bF];omega)),bg (by omega)]
theorem aqo {s:List UInt8} (hs:s.length<=10000):ay8 s (fK s).1=some (eF s (fK s).1,()):=by
 obtain⟨h1,h2,h3⟩:=Cb hs;have h:=J4 hs (fK s).1 (by omega) h1 bH 0 (dB (by omega)) (by omega);rw[ay8,show Es bH s (fK s).1 (bC (fK s).1) 0 []=_ from h,bu];rfl
end
section
open Bool renaming and_eq_true → af, not_true → ay, not_false → aB, true_and → aJ
open List renaming append_assoc → ah, drop_of_length_le → az, length_cons → aF, drop_zero → aQ, all_cons → aV, takeWhile_cons → aZ
open Nat renaming le_refl → ae
open Go.RowKit
def Vd (c:UInt8):Bool:=match atj (c.toNat:Int)with
 |some (b,_)=>b
 |none=>false
def aGI:Bool:=(List.range 256).all fun b=>match ajy (b:Int),atj (b:Int),Eg (b:Int) [36,96,34,92]with
 |some (x,_),some (y,_),some (z,_)=>(x==y)&&(z==(bJ b 36||(bJ b 96||(bJ b 34||bJ b 92))))
 |_,_,_=>false
theorem aBd:aGI=true:=by kernel_rfl
theorem ack (c:UInt8):ajy (c.toNat:Int)=some (Vd c,())/\atj (c.toNat:Int)=some (Vd c,())/\Eg (c.toNat:Int) [36,96,34,92]=some ((bJ (c.toNat:Int) 36||(bJ (c.toNat:Int) 96||(bJ (c.toNat:Int) 34||bJ (c.toNat:Int) 92))),()):=by
 have h:=List.all_eq_true.1 aBd c.toNat (List.mem_range.2 (by have:=c.toNat_lt;omega));split at h
 ·rename_i x u y v k w h1 h2 h3
  simp only[af,beq_iff_eq]at h;unfold Vd;simp_all
 ·cases h
theorem aeE {c n:UInt8} (h:c=n):bJ (c.toNat:Int) (n.toNat:Int)=true:=eH (by rw[h])
theorem aeD {c n:UInt8} (h:c≠n):bJ (c.toNat:Int) (n.toNat:Int)=false:=dL fun e=>h (UInt8.toNat_inj.1 (by omega))
def U7 (s:bM):Bool:=Qe.contains s
theorem agc {s:List UInt8} (hs:s.length<=2000000):aou s=some (U7 s,()):=by
 by_cases h:Qe.contains s=true
 ·unfold U7;rw[h];rcases Qp h with rfl|rfl|rfl|rfl|rfl|rfl|rfl|rfl|rfl|rfl|rfl|rfl|rfl|rfl|rfl|rfl<;>kernel_rfl
 grind [U7,al2]
theorem agb (s:bM):ajI s=some (U7 s,()):=by
 by_cases h:Qe.contains s=true
 ·unfold U7;rw[h];rcases Qp h with rfl|rfl|rfl|rfl|rfl|rfl|rfl|rfl|rfl|rfl|rfl|rfl|rfl|rfl|rfl|rfl<;>kernel_rfl
 ·have h':Qe.contains s=false:=by simpa using h
  have hne: ∀w∈Qe,fG s w=false:=fun w hw=>Hq fun e=>by simp_all
  unfold U7;(rewrite [h',ajI];delta kP);simp only[hne [33] (by decide),hne [123] (by decide),hne [125] (by decide),hne [99,97,115,101] (by decide),hne [100,111] (by decide),hne [100,111,110,101] (by decide),hne [101,108,105,102] (by decide),hne [101,108,115,101] (by decide),hne [101,115,97,99] (by decide),hne [102,105] (by decide),hne [102,111,114] (by decide),hne [105,102] (by decide),hne [105,110] (by decide),hne [116,104,101,110] (by decide),hne [117,110,116,105,108] (by decide),hne [119,104,105,108,101] (by decide),cond_false];rfl
theorem Rz {s:List UInt8} (hs:s.length<4000000): ∀(N k:Nat),s.length-k<N->k<=s.length->
  Nl N s 6 (k:Int)=some (if(s.drop k).all P9=true then .inl ((),())else .inr ((false,()),()))
 |0,k,h,_=>by omega
 |N+1,k,h,hk=>by
  rw[Nl,acQ];by_cases e:k<s.length
  ·obtain⟨_,_,x,h1,_,h3⟩:=oZ s[k];rw[bI (dZ (by rw[bF];omega)),bI (dN (by omega) (by omega)),byte_at e,h1,bu,ou e,aV,bZ (by omega) (by omega),show(k:Int)+1=((k+1:Nat):Int) by omega,Rz hs N (k+1) (by omega) (by omega),h3]
   grind
  simp_all [fV,bF,az]
theorem aHE {s:List UInt8} (hs:s.length<4000000):azh s 6=some (s.all P9,()):=by
 rw[azh,show Nl bH s 6 0=_ from Rz hs bH 0 (dB (by omega)) (by omega),bu,aQ];cases s.all P9 with
 |true=>rfl
 |false=>rfl
theorem al4: ∀s:bM,bJ ((kG s:Nat):Int) (bC s)=s.all P9
 |[]=>rfl
 |c::s=>by
  have ih:=al4 s;unfold kG at ih ⊢;rw[aZ,aV];cases P9 c with
  |true=>
   rw[aJ,<-ih];simp only[if_true,aF,bF]
   grind [eH,dL]
  |false=>rfl
def Lh (s:bM):Bool:=U7 s||(!s.isEmpty&&s.all P9)
theorem aBc {s:List UInt8} (hs:s.length<4000000):ajz s=some (Lh s,()):=by
 rw[ajz,agb,bu];unfold Lh;cases U7 s with
 |true=>rfl
 |false=>
  cases s with
  |nil=>rfl
  |cons c r=>
   simp only[cond_false,Bool.false_or,List.isEmpty_cons,aB,aJ];rw[bI (by rfl),show Aq (c::r) 0=_ from Ru hs (Nat.zero_le _),bu,aQ]
   grind [al4]
def pl1 (risk:Bool) (c:UInt8):bM:=if c=10 then [39,10,39]else if Vd c=false\/risk=true then [92,c]else [c]
def uU (s:bM):bM:=s.flatMap (pl1 false)
def sH (s:bM):bM:=match s with
 |[]=>[39,39]
 |c::r=>pl1 (Lh s) c++uU r
theorem QG (b:Bool) (c:UInt8):(pl1 b c).length<=3:=by grind [pl1]
theorem Sl (c:UInt8) (r:bM):uU (c::r)=pl1 false c++uU r:=rfl
theorem Xa: ∀s:bM,(uU s).length<=3*s.length
 |[]=>ae _
 |c::r=>by have:=Xa r;grind [QG,Sl]
theorem Pv {s:List UInt8} (hs:s.length<=2000000) (N k:Nat) (out:bM) (e:k<s.length) (ho:out.length<=3*k):
  CG (N+1) s (bC s) (k:Int) (dh out)=CG N s (bC s) ((k+1:Nat):Int) (dh (out++pl1 (decide (k=0)&&Lh s) s[k])):=by
 (rewrite [CG,Vm];delta Bj Ff)
 have hin:fB s (k:Int)=true:=dN (by omega) (by omega);have hk:bU .i64 (k:Int) 1=((k+1:Nat):Int):=by grind [bZ]
 have hc:[((s[k].toNat:Nat):Int)]=dh [s[k]]:=rfl;have h92:[(92:Int)]=dh [92]:=rfl;have f1: ∀x:bM,x.length<=3->dO (dh (out++x)) 1=true:=fun x hx=>Eb (by grind);rw[bI (dZ (by rw[bF];omega))];simp only[hin,cond_true,byte_at e,hk,(ack s[k]).1,bu,hc,h92,rE,ah,f1 _ (show([39,10,39]:bM).length<=3 by decide),f1 _ (show([92]:bM).length<=3 by decide),f1 _ (show([s[k]]:bM).length<=3 by simp),f1 _ (show(([92]:bM)++[s[k]]).length<=3 by simp)];unfold pl1;by_cases h:s[k]=10
 ·rw[show(10:Int)=(((10:UInt8).toNat:Nat):Int) from rfl,aeE h,if_pos h];rfl
 ·rw[show(10:Int)=(((10:UInt8).toNat:Nat):Int) from rfl,aeD h,if_neg h,cond_false];cases hsf:Vd s[k]with
  |false=>rfl
  |true=>
   simp only[ay,cond_false];by_cases h0:k=0
   ·subst h0;rw[bI (b:=bJ ((0:Nat):Int) 0) (eH rfl),aBc (by omega),bu,decide_eq_true rfl,aJ]
    grind
   simp_all [dL]
theorem Pq {s:List UInt8} (hs:s.length<=2000000): ∀(N k:Nat) (out:bM),s.length-k<N->1<=k->k<=s.length->out.length<=3*k->
  CG N s (bC s) (k:Int) (dh out)=some (.inl ((),((),dh (out++uU (s.drop k)),())))
 |0,k,out,h,_,_,_=>by omega
 |N+1,k,out,h,h1,hk,ho=>by
  by_cases e:k<s.length
  ·have hp:=QG (decide (k=0)&&Lh s) s[k];rw[Pv hs N k out e ho,Pq hs N (k+1) _ (by omega) (by omega) (by omega) (by grind),ou e,Sl,ah,decide_eq_false (by omega),Bool.false_and]
  simp_all [CG,Vm,fV,bF,az,uU,Ff,Bj]
theorem avK {s:List UInt8} (hs:s.length<=2000000):azj s=some (sH s,()):=by
 rw[azj];cases s with
 |nil=>rfl
 |cons c r=>
  have h1:=Pv (s:=c::r) hs (bH-1) 0 [] (by simp) (by simp);rw[show bH-1+1=bH by unfold bH;omega]at h1;have hp:=QG (Lh (c::r)) c;rw[aF]at hs;have h2:=Pq (s:=c::r) (by assumption) (bH-1) 1 (pl1 (Lh (c::r)) c) (by grind [bH]) (ae _) (by simp) (by omega);rw[dC (Hq (by simp)),show CG bH (c::r) (bC (c::r)) 0 []=_ from h1.trans h2,bu];simp only[dE,dU,cond_true,CP];rfl
end
section
open Bool renaming false_eq_true → ag
open List renaming append_assoc → ah, drop_of_length_le → az, length_cons → aF, nil_append → aO, drop_zero → aQ, length_singleton → aU
open Nat renaming le_refl → ae
open Go.RowKit
def aBe (c:UInt8):bM:=if c=39 then [39,92,39,39]else [c]
def Qg (s:bM):bM:=s.flatMap aBe
def db1 (c:UInt8):bM:=if(bJ (c.toNat:Int) 36||(bJ (c.toNat:Int) 96||(bJ (c.toNat:Int) 34||bJ (c.toNat:Int) 92)))=true then [92,c]else [c]
def IE (s:bM):bM:=s.flatMap db1
theorem avU (new:bM) (b:UInt8) (hb:b≠39) (l:bM): ∀k,Lib.replaceK [39] new k (b::l)=b::Lib.replaceK [39] new k l
 |0=>rfl
 |k+1=>by
  have hp:List.isPrefixOf [39] (b::l)=false:=by grind
  have hi:Lib.index (b::l) [39]=if Lib.index l [39]== -1 then-1 else Lib.index l [39]+1:=by rw[Lib.index,hp];rfl
  rw[Lib.replaceK,Lib.replaceK,hi];have hge:=Lib.index_ge l [39];by_cases h:Lib.index l [39]= -1
  ·simp[h]
  ·have e1:(Lib.index l [39]== -1)=false:=by simpa using h
   have e2:(Lib.index l [39]+1== -1)=false:=by simp;omega
   have e3:(Lib.index l [39]+1).toNat=(Lib.index l [39]).toNat+1:=by omega
   simp_all
theorem aro (b:UInt8) (hb:b≠39) (l:bM): ∀f,Lib.countFrom [39] f (b::l)=Lib.countFrom [39] f l
 |0=>rfl
 |f+1=>by
  have hp:List.isPrefixOf [39] (b::l)=false:=by grind
  have hi:Lib.index (b::l) [39]=if Lib.index l [39]== -1 then-1 else Lib.index l [39]+1:=by rw[Lib.index,hp];rfl
  rw[Lib.countFrom,Lib.countFrom,hi];have hge:=Lib.index_ge l [39];by_cases h:Lib.index l [39]= -1
  ·simp[h]
  ·have e1:(Lib.index l [39]== -1)=false:=by simpa using h
   have e2:(Lib.index l [39]+1== -1)=false:=by simp;omega
   have e3:(Lib.index l [39]+1).toNat=(Lib.index l [39]).toNat+1:=by omega
   simp_all
theorem aiJ (new:bM): ∀(s:bM) (f:Nat),s.length<f->Lib.replaceK [39] new (Lib.countFrom [39] f s) s=s.flatMap fun c=>if c=39 then new else [c]
 |[],f,h=>by
  obtain⟨f,rfl⟩: ∃g,f=g+1:=⟨f-1,by simp at h;omega⟩;rfl
 |c::s,f,h=>by
  rw[aF]at h;by_cases hc:c=39
  ·subst hc;obtain⟨f,rfl⟩: ∃g,f=g+1:=⟨f-1,by omega⟩;have hi:Lib.index (39::s) [39]=0:=by rfl
   rw[Lib.countFrom,hi];simp only[show((0:Int)== -1)=false from rfl,ag,if_false,Int.toNat_zero,Nat.zero_add,aU,List.drop_succ_cons,aQ];rw[Nat.add_comm 1,Lib.replaceK,hi];simp only[show((0:Int)== -1)=false from rfl,ag,if_false,Int.toNat_zero,Nat.zero_add,aU,List.drop_succ_cons,aQ,List.take_zero,aO];rw[aiJ new s f (by omega),List.flatMap_cons,if_pos rfl]
  ·rw[aro c hc,avU new c hc,aiJ new s f (by omega),List.flatMap_cons,if_neg hc];rfl
theorem Fb: ∀s:bM,(Qg s).length<=4*s.length
 |[]=>ae _
 |c::r=>by have:=Fb r;grind [aBe,Qg]
theorem JD: ∀s:bM,(IE s).length<=2*s.length
 |[]=>ae _
 |c::r=>by have:=JD r;grind [db1,IE]
theorem awO {s:List UInt8} (hs:s.length<=2000000):azk s=some ([39]++Qg s,()):=by
 have h1:=Fb s;have h2:Lib.replaceAll s [39] [39,92,39,39]=Qg s:=aiJ [39,92,39,39] s (s.length+1) (by omega);have h3:X9 s [39] [39,92,39,39]=some (Qg s,()):=by
  grind [X9]
 rw[azk,h3,bu,bI (jv (by simp;omega))];rfl
theorem OC {s:List UInt8} (hs:s.length<=2000000): ∀(N k:Nat) (out:bM),s.length-k<N->k<=s.length->out.length<=2*k+1->
  IZ N s (bC s) (k:Int) (dh out)=some (.inl ((),((),dh (out++IE (s.drop k)),())))
 |0,k,out,h,_,_=>by omega
 |N+1,k,out,h,hk,ho=>by
  (rewrite [IZ,acS];delta Bo Bl)
  by_cases e:k<s.length
  ·have hin:fB s (k:Int)=true:=dN (by omega) (by omega);have hadd:bU .i64 (k:Int) 1=((k+1:Nat):Int):=by grind [bZ]
   have hc:[((s[k].toNat:Nat):Int)]=dh [s[k]]:=rfl;have h92:[(92:Int)]=dh [92]:=rfl;have f1: ∀x:bM,x.length<=2->dO (dh (out++x)) 1=true:=fun x hx=>Eb (by grind);have ih: ∀x:bM,x.length<=2->IZ N s (bC s) ((k+1:Nat):Int) (dh (out++x))=some (.inl ((),((),dh (out++x++IE (s.drop (k+1))),()))):=fun x hx=>OC hs N (k+1) _ (by omega) (by omega) (by grind);have hd:IE (s.drop k)=db1 s[k]++IE (s.drop (k+1)):=by rw[ou e];rfl
   rw[bI (dZ (by rw[bF];omega)),hd];simp only[hin,cond_true,byte_at e,hadd,hc,h92,rE,ah out [92],f1 _ (show([92]:bM).length<=2 by decide),f1 _ (show([s[k]]:bM).length<=2 by simp),f1 _ (show(([92]:bM)++[s[k]]).length<=2 by simp),ih _ (show([s[k]]:bM).length<=2 by simp),ih _ (show(([92]:bM)++[s[k]]).length<=2 by simp)]
   grind [db1]
  simp_all [fV,bF,az,IE]
theorem arq {s:List UInt8} (hs:s.length<=2000000):azl s=some ([34]++IE s,()):=by
 rw[azl];refine(bI (show dO (bG ([]:List Int) [34]) 1=true by kernel_rfl)).trans ?_;rw[show IZ bH s (bC s) 0 (bG [] [34])=_ from OC hs bH 0 [34] (dB (by omega)) (by omega) (by simp),bu];simp_all [dE,dU,CP]
def o9 (s:bM) (k:Nat):bM:=if k=4 then [39]++Qg s++[39]else if k=5 then [34]++IE s++[34]else sH s
theorem FY {s:List UInt8} (hs:s.length<=2000000) (k:Nat):(o9 s k).length<=8000002:=by
 have h1:=Fb s;have h2:=JD s;unfold o9;split
 ·simp;omega
 ·split
  ·simp;omega
  ·unfold sH;grind [Xa,QG]
theorem Jr {s:List UInt8} (hs:s.length<=2000000) (k:Nat):aze s (k:Int) true=some (o9 s k,()):=by
 have h1:=Fb s;have h2:=JD s;have h3:=FY hs k;rw[aze,avK hs,bu];unfold o9 at h3 ⊢;by_cases h4:k=4
 ·rw[bI (eH (by omega)),awO hs,bu,cond_true,bI (jv (by simp;omega)),if_pos h4];rfl
 ·rw[dC (dL (by omega)),if_neg h4];rw[if_neg h4]at h3;by_cases h5:k=5
  ·rw[bI (eH (by omega)),arq hs,bu,cond_true,bI (jv (by simp;omega)),if_pos h5];rfl
  ·rw[if_neg h5]at h3;rw[dC (dL (by omega)),if_neg h5,cond_true,bI (jv (by simp;omega))];simp[bG]
def xH (s:bM):bM:=
 let a:=if(o9 s 4).length<(sH s).length then o9 s 4 else sH s
 if(o9 s 5).length<a.length then o9 s 5 else a
theorem X4 (s:bM):sH s≠[]:=by
 cases s with
 |nil=>simp[sH]
 |cons c r=>grind [sH,pl1]
theorem atn (s:bM) (k:Nat):o9 s k≠[]:=by
 grind [o9,X4]
theorem Rw {s:List UInt8} (hs:s.length<=2000000):aor s=some (xH s,()):=by
 have e0:=Jr hs 0;have e4:=Jr hs 4;have e5:=Jr hs 5;have hp:o9 s 0=sH s:=rfl;have st: ∀(N:Nat) (b:bM) (i k:Nat) (h:i<3),([0,4,5]:List Int)[i]'(by simpa using h)=(k:Int)->b≠[]->uT (N+1) s b 3 (i:Int) [0,4,5]=uT N s (if(o9 s k).length<b.length then o9 s k else b) 3 ((i+1:Nat):Int) [0,4,5]:=fun N b i k h hk hb=>by
  rw[uT,Vk,bI (dZ (by omega)),bI (dN (by omega) (by grind)),bI (oM (by simp[dm];omega))];have hn:dA ([0,4,5]:List Int) 0 (dm (i:Int))=(k:Int):=by simp_all [dA,dm]
  rw[hn,Jr hs k,bu,bI (by rw[Hq hb];rfl),bZ (by omega) (by omega),show(i:Int)+1=((i+1:Nat):Int) by omega];simp only[bF];by_cases hl:(o9 s k).length<b.length
  ·simp_all [O3]
  simp_all [pq,if_neg]
 have h0:uT (bH-4+1+1+1+1) s [] 3 0 [0,4,5]=uT (bH-4+1+1+1) s (sH s) 3 ((1:Nat):Int) [0,4,5]:=by
  rw[uT,Vk,bI (show gU 0 3=true from rfl),bI (show fB ([0,4,5]:List Int) 0=true from rfl),bI (show nD (dm 0) ([0,4,5]:List Int)=true from rfl),show dA ([0,4,5]:List Int) 0 (dm 0)=((0:Nat):Int) from rfl,e0,bu,dC (by rw[Xh rfl];rfl)];rfl
 have hend: ∀b:bM,uT (bH-4+1) s b 3 ((3:Nat):Int) [0,4,5]=some (.inl ((b,()),())):=fun b=>by
  rfl
 have hf:bH=bH-4+1+1+1+1:=by unfold bH;omega
 have hall:uT bH s [] 3 0 [0,4,5]=some (.inl ((xH s,()),())):=by
  rw[hf,h0,st _ _ 1 4 (by omega) rfl (X4 s),st _ _ 2 5 (by omega) rfl (by grind [atn]),hend];rfl
 rw[aor,show uT bH s [] (bC [0,4,5]) 0 [0,4,5]=_ from hall,bu];rfl
end
section
open Bool renaming and_eq_true → af, not_false → aB, true_and → aJ
open List renaming append_assoc → ah, drop_of_length_le → az, drop_zero → aQ, all_cons → aV
open Go.RowKit
theorem Vy {s:List UInt8} {k:Nat} (h:k<s.length):sub s (k:Int) ((k+1:Nat):Int)=[s[k]]:=by
 unfold sub
 grind [Int.toNat_natCast,List.take_add_one,List.length_take,List.drop_take]
theorem Xf {s:List UInt8} (hs:s.length<=2000000) (b:Bool): ∀(N k:Nat) (out:bM),s.length-k<N->k<=s.length->out.length<=4*k+1->
  IY N s b out (k:Int)=some (.inl ((b,out++Qg (s.drop k),()),()))
 |0,k,out,h,_,_=>by omega
 |N+1,k,out,h,hk,ho=>by
  rw[IY,acE];by_cases e:k<s.length
  ·have hadd:bU .i64 (k:Int) 1=((k+1:Nat):Int):=by grind [bZ]
   have f1: ∀x:bM,x.length<=4->eP out x=true:=fun x hx=>jv (by omega);have ih: ∀x:bM,x.length<=4->IY N s b (bG out x) ((k+1:Nat):Int)=some (.inl ((b,bG out x++Qg (s.drop (k+1)),()),())):=fun x hx=>Xf hs b N (k+1) _ (by omega) (by omega) (by grind [bG]);have hd:Qg (s.drop k)=aBe s[k]++Qg (s.drop (k+1)):=by rw[ou e];rfl
   rw[bI (dZ (by rw[bF];omega)),bI (dN (by omega) (by omega)),hd,hadd,show eU (bC s) (k:Int) ((k+1:Nat):Int)=true from fO (by omega) (by omega) (by rw[bF];omega),byte_at e,Vy e,f1 [39,92,39,39] (by decide),f1 [s[k]] (by simp),ih [39,92,39,39] (by decide),ih [s[k]] (by simp)];unfold aBe bG;by_cases h:s[k]=39
   ·rw[show(39:Int)=(((39:UInt8).toNat:Nat):Int) from rfl,aeE h,if_pos h];simp
   ·rw[show(39:Int)=(((39:UInt8).toNat:Nat):Int) from rfl,aeD h,if_neg h];simp
  simp_all [fV,bF,az,Qg]
theorem SV {s:List UInt8} (hs:s.length<=2000000) (b:Bool): ∀(N k:Nat) (out:bM),s.length-k<N->k<=s.length->out.length<=2*k+1->
  Cm N s b out (k:Int)=some (.inl ((b,out++IE (s.drop k),()),()))
 |0,k,out,h,_,_=>by omega
 |N+1,k,out,h,hk,ho=>by
  rw[Cm,Rn];by_cases e:k<s.length
  ·have hadd:bU .i64 (k:Int) 1=((k+1:Nat):Int):=by grind [bZ]
   have ih: ∀o2:bM,o2.length<=2*(k+1)+1->Cm N s b o2 ((k+1:Nat):Int)=some (.inl ((b,o2++IE (s.drop (k+1)),()),())):=fun o2 hx=>SV hs b N (k+1) _ (by omega) (by omega) hx;have hd:IE (s.drop k)=db1 s[k]++IE (s.drop (k+1)):=by rw[ou e];rfl
   rw[bI (dZ (by rw[bF];omega)),bI (dN (by omega) (by omega)),hd,hadd,show eU (bC s) (k:Int) ((k+1:Nat):Int)=true from fO (by omega) (by omega) (by rw[bF];omega),byte_at e,Vy e,(ack s[k]).2.2,bu]
   grind [jv,bG,db1]
  simp_all [fV,bF,az,IE]
theorem IG {s:List UInt8} (hs:s.length<=2000000): ∀(N k:Nat) (out:bM),s.length-k<N->k<=s.length->out.length<=3*k+1->
  qW N s out (k:Int)=some (.inl ((out++uU (s.drop k),()),()))
 |0,k,out,h,_,_=>by omega
 |N+1,k,out,h,hk,ho=>by
  rw[qW,Ro];by_cases e:k<s.length
  ·have hadd:bU .i64 (k:Int) 1=((k+1:Nat):Int):=by grind [bZ]
   have ih: ∀o2:bM,o2.length<=3*(k+1)+1->qW N s o2 ((k+1:Nat):Int)=some (.inl ((o2++uU (s.drop (k+1)),()),())):=fun o2 hx=>IG hs N (k+1) _ (by omega) (by omega) hx;have hd:uU (s.drop k)=pl1 false s[k]++uU (s.drop (k+1)):=by rw[ou e];rfl
   rw[bI (dZ (by rw[bF];omega)),bI (dN (by omega) (by omega)),bI (dN (by omega) (by omega)),hd,hadd,show eU (bC s) (k:Int) ((k+1:Nat):Int)=true from fO (by omega) (by omega) (by rw[bF];omega),byte_at e,Vy e,(ack s[k]).2.1,bu];rw[show eP out [39,10,39]=true from jv (by simp;omega),show eP out [92]=true from jv (by simp;omega),show eP (bG out [92]) [s[k]]=true from jv (by simp[bG];omega),show eP out [s[k]]=true from jv (by simp;omega),ih _ (by simp[bG];omega),ih _ (by simp[bG];omega),ih _ (by simp[bG];omega)];unfold pl1 bG;by_cases h:s[k]=10
   ·rw[show(10:Int)=(((10:UInt8).toNat:Nat):Int) from rfl,aeE h,if_pos h];simp
   ·rw[show(10:Int)=(((10:UInt8).toNat:Nat):Int) from rfl,aeD h,if_neg h]
    grind
  simp_all [fV,bF,az,uU]
theorem headD {s:List UInt8} (h0:s≠[]):sH s=(if(s.all P9||U7 s)=true/\ ¬(s.length=1/\P9 (s.headD 0)=false)then [92]else [])++uU s:=by
 cases s with
 |nil=>exact absurd rfl h0
 |cons c r=>
  show pl1 (Lh (c::r)) c++uU r=_++(pl1 false c++uU r);rw[<-ah];congr 1;unfold Lh;rw[List.isEmpty_cons,aB,aJ];by_cases hr:U7 (c::r)=true
  ·rcases Qp (x:=c::r) hr with h|h|h|h|h|h|h|h|h|h|h|h|h|h|h|h<;>(rw[List.cons.injEq]at h;obtain⟨rfl,rfl⟩:=h;decide+kernel)
  ·have hr:U7 (c::r)=false:=by simpa using hr
   rw[hr,Bool.false_or,Bool.or_false];cases ha:(c::r).all P9 with
   |false=>simp
   |true=>
    rw[aV,af]at ha;have hsf:P9 c=true->Vd c=true/\c≠10:=by
     have: ∀n:Fin 256,P9 (UInt8.ofNat n.val)=true->Vd (UInt8.ofNat n.val)=true/\UInt8.ofNat n.val≠10:=by decide+kernel
     have h:=this ⟨c.toNat,c.toNat_lt⟩;simpa using h
    obtain⟨s1,s2⟩:=hsf ha.1;unfold pl1;simp_all
theorem adg {s:List UInt8} (hs:s.length<=2000000) (k:Nat):aos s (k:Int) true=some (o9 s k,()):=by
 have h1:=Fb s;have h2:=JD s
 (rewrite [aos];delta ag4)
 unfold o9;by_cases h4:k=4
 ·rw[bI (eH (by omega)),show IY bH s true [39] 0=_ from Xf hs true bH 0 [39] (dB (by omega)) (by omega) (by simp),bu,if_pos h4];simp only[dE,cond_true,aQ];rw[show eP ([39]++Qg s) [39]=true from jv (by simp;omega)];rfl
 ·rw[dC (dL (by omega)),if_neg h4];by_cases h5:k=5
  ·rw[bI (eH (by omega)),show Cm bH s true [34] 0=_ from SV hs true bH 0 [34] (dB (by omega)) (by omega) (by simp),bu,if_pos h5];simp only[dE,cond_true,aQ];rw[show eP ([34]++IE s) [34]=true from jv (by simp;omega)];rfl
  ·rw[dC (dL (by omega)),if_neg h5];by_cases h0:s=[]
   ·subst h0;rfl
   ·have l0:qW bH s [] 0=some (.inl ((uU s,()),())):=by
     have:=IG hs bH 0 [] (dB (by omega)) (by omega) (by simp)
     assumption
    have l1:qW bH s [92] 0=some (.inl (([92]++uU s,()),())):=by
     have:=IG hs bH 0 [92] (dB (by omega)) (by omega) (by simp)
     assumption
    have hl:0<s.length:=List.length_pos_iff.2 h0;obtain⟨_,_,x,c1,_,c3⟩:=oZ s[0];have hb:bT s 0=((s[0].toNat:Nat):Int):=byte_at (i:=0) hl;have hh:s.headD 0=s[0]:=by cases s with
     |nil=>exact absurd rfl h0
     |cons c r=>rfl
    rw[dC (Hq h0),aHE (by omega),bu,agc hs,bu,headD h0,hh,hb,bI (dN (by omega) (by omega)),c1,bu,l0,l1,c3];simp only[bu,dE];have he:bJ (bC s) 1=decide (s.length=1):=by
     grind [eH,bF,dL]
    grind
theorem Rx {s:List UInt8} (hs:s.length<=2000000):atd s=some (xH s,()):=by
 have st: ∀(N:Nat) (b:bM) (k:Nat),k<=5->Cj (N+1) s b (k:Int)=Cj N s (if(o9 s k).length<b.length then o9 s k else b) ((k+1:Nat):Int):=fun N b k h=>by
  rw[Cj,acB,bI (pq (by omega)),adg hs k,bu,bZ (by omega) (by omega),show(k:Int)+1=((k+1:Nat):Int) by omega];simp only[bF];by_cases hl:(o9 s k).length<b.length
  ·simp_all [dZ]
  simp_all [jZ,if_neg]
 have hend: ∀b:bM,Cj (bH-3+1) s b ((6:Nat):Int)=some (.inl ((b,()),())):=fun b=>by
  rfl
 have hf:bH=bH-3+1+1+1:=by unfold bH;omega
 have hall:Cj bH s (sH s) ((4:Nat):Int)=some (.inl ((xH s,()),())):=by
  rw[hf,st _ _ 4 (by omega),st _ _ 5 (by omega),hend];rfl
 rw[atd,show aos s 0 true=_ from adg hs 0,bu,show Cj bH s (o9 s 0) 4=_ from hall,bu];rfl
end
section
open List renaming getElem_mem → aH
open Nat renaming le_refl → ae
open Go.RowKit
def zY (u:bM):Nat->List Int
 |0=>[]
 |k+1=>if u.getD k 0=10 then zY u k++[(k:Int)]else zY u k
def P6 (u:bM):Nat->Int×Int
 |0=>(0,0)
 |k+1=>if u.getD k 0=10 then((P6 u k).1+1,0)else((P6 u k).1,(P6 u k).2+1)
theorem ahE (u:bM): ∀(k:Nat),∀x∈zY u k,0<=x/\x<k
 |0,x,h=>by cases h
 |k+1,x,h=>by
  have ih:=ahE u k x
  grind [zY]
theorem Gx (u:bM): ∀(k:Nat),(zY u k).length<=k
 |0=>ae _
 |k+1=>by
  have ih:=Gx u k
  grind [zY]
theorem ale (u:bM) (a:Nat): ∀(n:Nat),a<=n-> ∃B,zY u n=zY u a++B/\ ∀x∈B,(a:Int)<=x
 |n,h=>by
  by_cases e:a=n
  ·simp_all
  ·obtain⟨n,rfl⟩: ∃m,n=m+1:=⟨n-1,by omega⟩;obtain⟨B,h1,h2⟩:=ale u a n (by omega);rw[zY,h1]
   grind
theorem adc (u:bM): ∀(k:Nat),(P6 u k).1=(zY u k).length/\(P6 u k).2=(k:Int)-(if zY u k=[]then 0 else(zY u k).getLastD 0+1)/\0<=(P6 u k).2/\(P6 u k).2<=k
 |0=>⟨rfl,rfl,Int.le_refl _,Int.le_refl _⟩
 |k+1=>by
  obtain⟨h1,h2,h3,h4⟩:=adc u k;rw[P6,zY]
  grind
theorem VW {u:List UInt8} (hu:u.length<=10000) {a:Nat} (ha:a<=u.length): ∀(N k:Nat),a-k<N->k<=a->
  MZ N u (a:Int) (P6 u k).1 (P6 u k).2 (k:Int)=some (.inl (((P6 u a).1,(P6 u a).2,()),()))
 |0,k,h,_=>by omega
 |N+1,k,h,hk=>by
  rw[MZ,acF];by_cases e:k<a
  ·have ih:=VW hu ha N (k+1) (by omega) (by omega);obtain⟨h1,_,h3,h4⟩:=adc u k;have hl:=Gx u k;have hg:u.getD k 0=u[k]:=by grind
   rw[P6,hg]at ih;rw[bI (dZ (by omega)),bI (dN (by omega) (by omega)),byte_at (by omega),bZ (a:=(k:Int)) (by omega) (by omega),show(k:Int)+1=((k+1:Nat):Int) by omega,bZ (a:=(P6 u k).1) (by omega) (by omega),bZ (a:=(P6 u k).2) (by omega) (by omega)];by_cases h:u[k]=10
   ·rw[if_pos h]at ih;rw[show(10:Int)=(((10:UInt8).toNat:Nat):Int) from rfl,aeE h,cond_true];exact ih
   ·rw[if_neg h]at ih;rw[show(10:Int)=(((10:UInt8).toNat:Nat):Int) from rfl,aeD h,cond_false];exact ih
  ·obtain rfl:k=a:=by omega
   simp_all [fV]
theorem ayB {u:List UInt8} (hu:u.length<=10000) {a:Nat} (ha:a<=u.length):azc u (a:Int)=some ((P6 u a).1,((P6 u a).2,())):=by
 rw[azc,show MZ bH u (a:Int) 0 0 0=_ from VW hu ha bH 0 (dB (by omega)) (by omega),bu];rfl
theorem aEE (a b:Int):ajA a b=some (gU a b,()):=by
 rw[ajA,ajJ,dU];rfl
theorem aFN {i j:Nat} (h:i+j<1000000):IntKind.i64.wrap (WN .u64 (IntKind.u64.wrap (bU .i64 (i:Int) (j:Int))) 1)=((i+j)/2:Nat):=by
 rw[bZ (by omega) (by omega),IntKind.wrap_u64];unfold WN;rw[show(2:Int)^(min (Int.toNat 1) IntKind.u64.bits)=2 from rfl,IntKind.wrap_i64]
 grind
theorem Si {L:List Int} {t:Int} {c:Nat} (hc:c<=L.length) (hL:L.length<=10000) (h1: ∀(m:Nat) (h:m<L.length),m<c->L[m]<t) (h2: ∀(m:Nat) (h:m<L.length),c<=m->t<=L[m]) (n:Int): ∀(N i j:Nat),j-i<N->i<=c->c<=j->j<=L.length->
  Np N L t n (i:Int) (j:Int)=some (.inl ((L,t,n,(c:Int),()),()))
 |0,i,j,h,_,_,_=>by omega
 |N+1,i,j,h,hi,hj,hl=>by
  rw[Np,acT];by_cases e:i<j
  ·have hm:(i+j)/2<L.length:=by omega
   rw[bI (dZ (by omega)),bI (show leI 0 1=true from rfl)];simp only[L8,aFN (i:=i) (j:=j) (by omega)];have hg:dQ L 0 (((i+j)/2:Nat):Int)=L[(i+j)/2]:=by
    grind [dQ]
   rw[bI (dN (by omega) (by omega)),hg,aEE,bu,bZ (by omega) (by omega),show(((i+j)/2:Nat):Int)+1=(((i+j)/2+1:Nat):Int) by omega];by_cases hlt:(i+j)/2<c
   ·rw[dZ (h1 _ hm hlt),cond_true];exact Si hc hL h1 h2 n N _ j (by omega) (by omega) hj hl
   ·rw[jZ (h2 _ hm (by omega)),cond_false];exact Si hc hL h1 h2 n N i _ (by omega) hi (by omega) (by omega)
  ·rw[dC (fV (by omega)),show i=c by omega]
theorem aHW {L:List Int} {t:Int} {c:Nat} (hc:c<=L.length) (hL:L.length<=10000) (h1: ∀(m:Nat) (h:m<L.length),m<c->L[m]<t) (h2: ∀(m:Nat) (h:m<L.length),c<=m->t<=L[m]): ∃b,azm L t=some ((c:Int),(b,())):=by
 have h:=Si hc hL h1 h2 (L.length:Int) bH 0 L.length (dB (by omega)) (by omega) hc (ae _);rw[azm,show Np bH L t (bC L) 0 (bC L)=_ from h,bu];simp only[dE];by_cases e:c<L.length
 ·rw[bI (dZ (by omega)),bI (dN (by omega) (by omega)),bI (dN (by omega) (by omega)),ajB,dU];cases bJ (dQ L 0 (c:Int)) t with
  |true=>simp
  |false=>exact⟨false,rfl⟩
 ·rw[dC (fV (by omega))];simp
theorem ayA {u:List UInt8} (hu:u.length<=10000) {a:Nat} (ha:a<=u.length):
  ad5 (u.length:Int) (zY u u.length) (a:Int)=some (((u.length:Int),(zY u u.length,())),((P6 u a).1,((P6 u a).2,(0,())))):=by
 obtain⟨B,hB,hB2⟩:=ale u a u.length ha;have hlen:=Gx u u.length;have hla:=Gx u a;obtain⟨w1,w2,w3,w4⟩:=adc u a;have hcl:(zY u a).length<=(zY u u.length).length:=by simp_all
 obtain⟨b,hb⟩:=aHW (L:=zY u u.length) (t:=(a:Int)) (c:=(zY u a).length) hcl (by omega)
  (fun m h hm=>by
   have:(zY u u.length)[m]=(zY u a)[m]:=by simp_all
   rw[this];exact(ahE u a _ (aH hm)).2)
  (fun m h hm=>by
   simp_all)
 rw[ad5,dC (jZ (by omega)),dC (jZ (by omega)),aEm,hb,bu,bu];simp only;rw[aEn];by_cases h0:zY u a=[]
 ·have hz:((zY u a).length:Int)=0:=by rw[h0];rfl
  rw[bI (eH hz),bu];simp only;rw[gQ (by omega) (by omega),w1,w2,if_pos h0]
 ·have hpos:0<(zY u a).length:=List.length_pos_iff.2 h0;have hlast:dA (zY u u.length) 0 (dm (dR .i64 ((zY u a).length:Int) 1))=(zY u a).getLastD 0:=by
   rw[gQ (by omega) (by omega)];unfold dA dm;rw[show(((zY u a).length:Int)-1).toNat=(zY u a).length-1 by omega,hB,List.getD_eq_getElem?_getD,List.getElem?_append_left (by omega),List.getLastD_eq_getLast?,List.getLast?_eq_getElem?]
  have hx:=ahE u a ((zY u a).getLastD 0) (by
   grind)
  rw[dC (dL (by omega)),bI (dN (by grind [gQ]) (by grind [gQ])),bI (oM (by grind [gQ,dm])),hlast,bu];simp only;rw[bZ (by omega) (by omega),gQ (by omega) (by omega),w1,w2,if_neg h0]
end
section
open Bool renaming and_true → ax, not_true → ay, true_and → aJ
open List renaming getElem_mem → aH
open Nat renaming le_refl → ae
open Go.RowKit
abbrev Nd:=Int×Int×Int×Int×Unit
def Xc:Nd:=(0,(0,(0,(0,()))))
structure WU (F:List Lf):Prop where
 len:F.length<=10000
 txt: ∀f∈F,f.2.1.length<=10000
def DR (F:List Lf) (a:Nat):UInt8:=if h:a<F.length then sgn F[a]else 0
def fF (F:List Lf) (a:Nat) (o:bM):Bool:=decide (a<F.length)&&o.contains (DR F a)
theorem acn {F:List Lf} {a:Nat} (h:a<F.length):DR F a=sgn F[a]:=by simp_all [DR]
theorem Lp {F:List Lf} {a:Nat} (h:F.length<=a):DR F a=0:=by simp_all [DR,dif_neg]
theorem gW {F:List Lf} {a:Nat} {o:List UInt8} (h:fF F a o=true):a<F.length:=by
 simp_all [fF]
theorem AC {F:List Lf} {a:Nat} (h:a<F.length):dQ F (0,([],(0,(0,())))) (a:Int)=F[a]:=by
 simp_all [dQ]
theorem aB1 {α:Type} {l:List α} {k:Nat} (h:l.length*k<=140737488355328):dO l k=true:=by
 grind [dO,lC]
variable {F:List Lf} (hF:WU F)
include hF
theorem awN (a k:Nat) (l:List Nd) (u d:Int) (ha:a+k<1000000000):yl F (a:Int) l u d (k:Int)=some ((F,((a:Int),(l,(u,(d,()))))),(((DR F (a+k)).toNat:Int),())):=by
 have:=hF.len;rw[yl,bZ (by omega) (by omega),show(a:Int)+(k:Int)=((a+k:Nat):Int) by omega];by_cases h:a+k<F.length
 ·rw[dC (Dy (by rw[bF];omega)),bI (dN (by omega) (by omega)),AC h,(awL (hF.txt _ (aH h))).1,bu,acn h]
 ·rw[bI (pq (by rw[bF];omega)),Lp (by omega)];rfl
theorem oJ (a:Nat) (l:List Nd) (u d:Int) (ha:a<100000000):yl F (a:Int) l u d 0=some ((F,((a:Int),(l,(u,(d,()))))),(((DR F a).toNat:Int),())):=awN hF a 0 l u d (by omega)
theorem amK (a:Nat) (l:List Nd) (u d:Int) (ha:a<100000000):yl F (a:Int) l u d 1=some ((F,((a:Int),(l,(u,(d,()))))),(((DR F (a+1)).toNat:Int),())):=awN hF a 1 l u d (by omega)
omit hF in
theorem azu (S:bM) (c:UInt8):leI 0 (ibW S (c.toNat:Int))=S.contains c:=by
 have:ibW S (c.toNat:Int)=Lib.indexByte S c:=by unfold ibW;congr 1;simp
 rw[this,aty];by_cases h:(S.takeWhile (· !=c)).length<S.length
 ·rw[if_pos h,pq (by omega)];have:=zV (· !=c) S h
  grind
 ·rw[if_neg h,Dy (by omega)];have hall: ∀x∈S,x≠c:=fun x hx=>by
   obtain⟨i,hi,rfl⟩:=List.getElem_of_mem hx
   grind [FB]
  grind
theorem Y1 (a:Nat) (l:List Nd) (u d:Int) (ha:a<100000000) (o:bM) (h0:o.contains 0=false):Xn F (a:Int) l u d o=some ((F,((a:Int),(l,(u,(d,()))))),(fF F a o,())):=by
 rw[Xn,oJ hF a l u d ha,bu];simp only;unfold fF;by_cases h:DR F a=0
 ·rw[h,show(!bJ (((0:UInt8).toNat:Nat):Int) 0)=false from rfl,cond_false,h0,Bool.and_false]
 ·have hlt:a<F.length:=by
   grind [Lp]
  rw[dL fun e=>h (UInt8.toNat_inj.1 (by simp_all))];simp_all [adV,ajU,bu,azu]
def tk (F:List Lf) (a:Nat) (o:bM):Nat:=if fF F a o=true then a+1 else a
theorem mr (a:Nat) (l:List Nd) (u d:Int) (ha:a<100000000) (o:bM) (h0:o.contains 0=false):rG F (a:Int) l u d o=some ((F,(((tk F a o:Nat):Int),(l,(u,(d,()))))),(fF F a o,())):=by
 rw[rG,Y1 hF a l u d ha o h0,bu];simp only;unfold tk;cases h:fF F a o with
 |false=>rfl
 |true=>
  simp only[ay,cond_false,if_true]
  grind [bZ]
def lnF (F:List Lf):Nat->Nat->Nat
 |0,a=>a
 |n+1,a=>if fF F a [110]=true then lnF F n (a+1)else a
def ln (F:List Lf) (a:Nat):Nat:=lnF F (F.length+1) a
omit hF in
theorem aeG: ∀(n m a:Nat),F.length<n+a->F.length<m+a->lnF F n a=lnF F m a
 |0,0,a,_,_=>rfl
 |0,m+1,a,h,_=>by
  rw[lnF,lnF,if_neg];intro h';have:=gW h';omega
 |n+1,0,a,_,h=>by
  rw[lnF,lnF,if_neg];intro h';have:=gW h';omega
 |n+1,m+1,a,h1,h2=>by
  rw[lnF,lnF];split
  ·exact aeG n m (a+1) (by omega) (by omega)
  ·rfl
omit hF in
theorem J6 (a:Nat):ln F a=if fF F a [110]=true then ln F (a+1)else a:=by
 grind [ln,lnF,aeG]
omit hF in
theorem ahp: ∀(n a:Nat),a<=lnF F n a
 |0,a=>ae _
 |n+1,a=>by
  rw[lnF];split
  ·have:=ahp n (a+1);omega
  omega
omit hF in
theorem xA (a:Nat):a<=ln F a:=ahp _ _
omit hF in
theorem auu: ∀(n a:Nat),a<=F.length->lnF F n a<=F.length
 |0,a,h=>h
 |n+1,a,h=>by
  rw[lnF];split
  ·rename_i h'
   exact auu n (a+1) (gW h')
  ·exact h
omit hF in
theorem yF {a:Nat} (h:a<=F.length):ln F a<=F.length:=auu _ _ h
theorem Uf (l:List Nd) (u d:Int) (v:Bool): ∀(N a:Nat),F.length+1-a<N->a<=F.length->
  J8 N v F (a:Int) u d l=some (.inl ((v,()),((),()),((F,((ln F a:Nat):Int),u,d,()),l,())))
 |0,a,h,_=>by omega
 |N+1,a,h,ha=>by
  have:=hF.len;rw[J8,QN,mr hF a l u d (by omega) [110] rfl,bu,J6];simp only;unfold tk;cases h':fF F a [110]with
  |false=>rfl
  |true=>
   simp only[cond_true,if_true];exact Uf l u d v N (a+1) (by omega) (gW h')
theorem nz (a:Nat) (l:List Nd) (u d:Int) (ha:a<=F.length):o5 F (a:Int) l u d=some ((F,(((ln F a:Nat):Int),(l,(u,(d,()))))),(fF F a [110],())):=by
 have:=hF.len;rw[o5,mr hF a l u d (by omega) [110] rfl,bu];simp only;have hl:tk F a [110]<=F.length:=by
  unfold tk;split
  ·rename_i h;exact gW h
  ·exact ha
 rw[Uf hF l u d _ bH (tk F a [110]) (dB (by omega)) hl,bu];simp only[dE];have:ln F (tk F a [110])=ln F a:=by
  unfold tk;split
  ·rename_i h;rw[J6 a,if_pos h]
  ·rfl
 rw[this]
omit hF in
theorem ae3 (l:List Nd) (k a u t:Int):ig (bG l [(k,(a,(0,(u,()))))]) (dm (bC l)) ((dA (bG l [(k,(a,(0,(u,()))))]) (0,(0,(0,(0,())))) (dm (bC l))).1,((dA (bG l [(k,(a,(0,(u,()))))]) (0,(0,(0,(0,())))) (dm (bC l))).2.1,(t,((dA (bG l [(k,(a,(0,(u,()))))]) (0,(0,(0,(0,())))) (dm (bC l))).2.2.2.1,()))))=l++[(k,a,t,u,())]:=by
 simp_all [dm,bF,ig,bG,dA]
omit hF in
theorem kX (l:List Nd) (x:Nd) (hl:l.length<1000000000):dO (bG l [x]) 32=true/\fB (bG l [x]) (bC l)=true/\nD (dm (bC l)) (bG l [x])=true:=
 ⟨aB1 (by grind [bG]),dN (by rw[bF];omega) (by grind [bF,bG]),oM (by unfold bG;simp[dm,bF])⟩
omit hF in
theorem IV (a:Nat) (l:List Nd) (u d k:Int) (ha:a<100000000) (hl:l.length<1000000000):TG F (a:Int) l u d k=some ((F,(((a+1:Nat):Int),(l++[(k,(a:Int),((a+1:Nat):Int),u,())],(u,(d,()))))),()):=by
 obtain⟨h1,h2,h3⟩:=kX l (k,((a:Int),(0,(u,())))) hl;rw[TG];simp only[dU,ax,cond_true,h1,h2,h3,ae3]
 grind [bZ]
omit hF in
theorem mO (a:Nat) (l:List Nd) (u d:Int) (hl:l.length<1000000000):yx F (a:Int) l u d=some ((F,((a:Int),(l++[(18,(a:Int),(a:Int),u,())],(u,(d,()))))),()):=by
 simp_all [kX,yx,dU,ae3]
def qg (F:List Lf) (a:Nat) (o:bM):Nat:=tk F a o
def wnL (F:List Lf) (a:Nat) (o:bM) (l:List Nd) (u:Int):List Nd:=if fF F a o=true then l else l++[(18,(a:Int),(a:Int),u,())]
theorem zW (a:Nat) (l:List Nd) (u d:Int) (ha:a<100000000) (hl:l.length<1000000000) (o:bM) (h0:o.contains 0=false):rM F (a:Int) l u d o=some ((F,(((qg F a o:Nat):Int),(wnL F a o l u,(u,(d,()))))),()):=by
 rw[rM,mr hF a l u d ha o h0,bu];unfold qg wnL tk;cases h:fF F a o with
 |true=>rfl
 |false=>
  simp_all [mO,bu]
def DL (F:List Lf) (a:Nat):Bool:=if h:a<F.length then decide (F[a].1=6)else false
omit hF in
theorem ZA {a:Nat} (h:DL F a=true):a<F.length:=by
 grind [DL]
omit hF in
theorem Az (a:Nat) (l:List Nd) (u d:Int):OM F (a:Int) l u d=some ((F,((a:Int),(l,(u,(d,()))))),(DL F a,())):=by
 rw[OM];unfold DL;by_cases h:a<F.length
 ·simp_all [dZ,bF,dN,AC,gY]
 simp_all [fV,bF,dif_neg]
def DU (F:List Lf) (a:Nat):Nat:=if DL F a=true then a+1 else a
def wdL (F:List Lf) (a:Nat) (l:List Nd) (u:Int):List Nd:=if DL F a=true then l++[(7,(a:Int),((a+1:Nat):Int),u,())]else l++[(18,(a:Int),(a:Int),u,())]
omit hF in
theorem VY (a:Nat) (l:List Nd) (u d:Int) (ha:a<100000000) (hl:l.length<1000000000):OL F (a:Int) l u d=some ((F,(((DU F a:Nat):Int),(wdL F a l u,(u,(d,()))))),()):=by
 rw[OL,Az a l u d,bu];unfold DU wdL;cases h:DL F a with
 |true=>
  simp_all [IV,bu]
 |false=>
  simp_all [mO,bu]
def DN (F:List Lf) (a:Nat):Bool:=fF F a [60]||fF F a [35]&&decide (DR F (a+1)=60)
def IC (F:List Lf) (a:Nat) (d:Int):Bool:=decide (d<200)&&fF F a [123,40,105,119,114,99]
def JA (F:List Lf) (a:Nat) (d:Int):Bool:=fF F a [120]||(DN F a||IC F a d)
def qo (F:List Lf) (a:Nat) (d:Int):Bool:=fF F a [33]||JA F a d
omit hF in
theorem Yh (a:Nat) (c:UInt8) (hc:c≠0):bJ ((DR F a).toNat:Int) (c.toNat:Int)=fF F a [c]:=by
 unfold fF;rw[gY];by_cases h:a<F.length
 ·rw[decide_eq_true h,aJ,Bool.eq_iff_iff,decide_eq_true_eq];simp only[List.contains_cons,List.contains_nil,Bool.or_false,beq_iff_eq]
  grind [UInt8.toNat_inj]
 ·rw[decide_eq_false h,Bool.false_and,Lp (by omega)];refine decide_eq_false fun e=>hc (UInt8.toNat_inj.1 ?_);omega
theorem E9 (a:Nat) (l:List Nd) (u d:Int) (ha:a<10000000):adW F (a:Int) l u d=some ((F,((a:Int),(l,(u,(d,()))))),(DN F a,())):=by
 rw[adW,oJ hF a l u d (by omega),bu];simp only;rw[show bJ ((DR F a).toNat:Int) 60=fF F a [60] from Yh a 60 (by decide),show bJ ((DR F a).toNat:Int) 35=fF F a [35] from Yh a 35 (by decide)];unfold DN;cases fF F a [60]with
 |true=>rfl
 |false=>
  cases fF F a [35]with
  |false=>rfl
  |true=>
   simp only[cond_true,cond_false,Bool.false_or,aJ];rw[amK hF a l u d (by omega),bu];simp only[gY];congr 3;rw[decide_eq_decide];constructor
   ·intro e;exact UInt8.toNat_inj.1 (by grind)
   simp_all
theorem D5 (a:Nat) (l:List Nd) (u d:Int) (ha:a<10000000):Xp F (a:Int) l u d=some ((F,((a:Int),(l,(u,(d,()))))),(IC F a d,())):=by
 rw[Xp];unfold IC;by_cases h:d<200
 ·rw[bI (dZ h),Y1 hF a l u d (by omega) _ rfl,bu,decide_eq_true h,aJ]
 simp_all [fV,decide_eq_false]
theorem SH (a:Nat) (l:List Nd) (u d:Int) (ha:a<10000000):adO F (a:Int) l u d=some ((F,((a:Int),(l,(u,(d,()))))),(JA F a d,())):=by
 rw[adO,oJ hF a l u d (by omega),bu];simp only;rw[show bJ ((DR F a).toNat:Int) 120=fF F a [120] from Yh a 120 (by decide)];unfold JA;cases fF F a [120]with
 |true=>rfl
 |false=>
  simp only[cond_false,Bool.false_or];rw[E9 hF a l u d ha,bu];simp only;cases DN F a with
  |true=>rfl
  |false=>
   simp_all [D5,bu]
theorem Df (a:Nat) (l:List Nd) (u d:Int) (ha:a<10000000):Zt F (a:Int) l u d=some ((F,((a:Int),(l,(u,(d,()))))),(qo F a d,())):=by
 rw[Zt,oJ hF a l u d (by omega),bu];simp only;rw[show bJ ((DR F a).toNat:Int) 33=fF F a [33] from Yh a 33 (by decide)];unfold qo;cases fF F a [33]with
 |true=>rfl
 |false=>
  simp_all [SH,bu]
end
section
open Bool renaming false_eq_true → ag, and_true → ax, true_and → aJ
open List renaming drop_of_length_le → az, drop_eq_getElem_cons → aA, drop_zero → aQ
open Go.RowKit
theorem aee (c:UInt8) (o:bM) (ho:o.length<1000000): ∀(N k:Nat),o.length-k<N->k<=o.length->
  CE N (c.toNat:Int) o (k:Int)=some (if(o.drop k).contains c=true then .inr ((true,()),())else .inl ((),()))
 |0,k,h,_=>by omega
 |N+1,k,h,hk=>by
  rw[CE,Vl];by_cases e:k<o.length
  ·rw[bI (dZ (by rw[bF];omega)),bI (dN (by omega) (by omega)),byte_at e,aA e];by_cases h1:o[k]=c
   ·simp_all [eH]
   ·rw[dC (dL fun h=>h1 (UInt8.toNat_inj.1 (by omega))),bZ (by omega) (by omega),show(k:Int)+1=((k+1:Nat):Int) by omega,aee c o ho N (k+1) (by omega) (by omega)]
    grind
  simp_all [fV,bF,az]
theorem aJZ (c:UInt8) (o:bM) (ho:o.length<1000000):Eg (c.toNat:Int) o=some (o.contains c,()):=by
 have h:=aee c o ho bH 0 (dB (by omega)) (by omega);rw[Eg,show CE bH (c.toNat:Int) o 0=_ from h,bu,aQ];cases o.contains c with
 |true=>rfl
 |false=>rfl
abbrev iK (F:List Lf):bM:=F.map sgn
variable {F:List Lf} (hF:WU F)
include hF
omit hF in
theorem zT {a:Nat} (h:a<F.length):bT (iK F) (a:Int)=((DR F a).toNat:Int):=by
 simp_all [byte_at,acn]
omit hF in
theorem jd (a:Nat) (l:List Nd) (u d:Int) (o:bM) (ho:o.length<1000000):nI F (iK F) l (a:Int) u d o=some ((F,(iK F,(l,((a:Int),(u,(d,())))))),(fF F a o,())):=by
 rw[nI];unfold fF;by_cases h:a<F.length
 ·rw[bI (dZ (by simp_all [bF])),bI (dN (by omega) (by simp_all)),zT h,aJZ _ o ho,bu,decide_eq_true h,aJ]
 simp_all [fV,bF,decide_eq_false]
theorem J5 (l:List Nd) (u d:Int): ∀(N a:Nat) (v:Int),F.length+1-a<N->a<=F.length->0<=v->v<=a->
  ∃v':Int,Ul N v F (iK F) (a:Int) u d l=some (.inl ((v',()),((),()),((F,iK F,((ln F a:Nat):Int),u,d,()),l,())))/\v'=v+((ln F a:Nat):Int)-a
 |0,a,v,h,_,_,_=>by omega
 |N+1,a,v,h,ha,hv,hva=>by
  have:=hF.len;rw[Ul,acP,jd a l u d [110] (by simp),bu,J6];simp only;cases h':fF F a [110]with
  |false=>simp
  |true=>
   simp only[cond_true,if_true];rw[bZ (by omega) (by omega),bZ (by omega) (by omega),show(a:Int)+1=((a+1:Nat):Int) by omega];obtain⟨v',h1,h2⟩:=J5 l u d N (a+1) (v+1) (by omega) (gW h') (by omega) (by omega)
   grind
omit hF in
theorem aIm (a:Nat):fF F a [110]=decide (a<ln F a):=by
 rw[J6];cases h:fF F a [110]with
 |false=>simp
 |true=>
  have:=xA (F:=F) (a+1)
  grind
theorem lZ (a:Nat) (l:List Nd) (u d:Int) (ha:a<=F.length):rV F (iK F) l (a:Int) u d=some ((F,(iK F,(l,(((ln F a:Nat):Int),(u,(d,())))))),(((ln F a:Nat):Int)-a,())):=by
 have:=hF.len;rw[rV];obtain⟨v',h1,h2⟩:=J5 hF l u d bH a 0 (dB (by omega)) ha (by omega) (by omega);simp_all [bu,dE]
def jB (k:Int):Bool:=decide (9<=k)&&decide (k<=14)||decide (k=16)
omit hF in
theorem ald {k:Int} (h1:1<=k) (h2:k<=18):ath k=some (jB k,()):=by
 have: ∀n:Fin 19,n.val≠0->ath ((n.val:Nat):Int)=some (jB ((n.val:Nat):Int),()):=by decide+kernel
 have:=this ⟨k.toNat,by omega⟩ (by simp only;omega)
 grind
omit hF in
theorem lH (a:Nat) (l:List Nd) (u d:Int) {k:Int} (h1:1<=k) (h2:k<=18) (hl:l.length<1000000000) (hd:0<=d) (hd2:d<1000000000):
  DK F (iK F) l (a:Int) u d k=some ((F,(iK F,(l++[(k,(a:Int),0,u,())],((a:Int),(((l.length:Nat):Int),((if jB k=true then d+1 else d),())))))),(u,())):=by
 have hfit:dO (bG l [(k,((a:Int),(0,(u,()))))]) 32=true:=aB1 (by grind [bG]);have hsub:dR .i64 (bC (bG l [(k,((a:Int),(0,(u,()))))])) 1=((l.length:Nat):Int):=by
  grind [bG,bF,gQ]
 rw[DK];simp only[dU,ax,cond_true,hfit,ald h1 h2,bu,hsub];cases jB k with
 |true=>
  simp only[cond_true,if_true];rw[bZ (by omega) (by omega)];rfl
 |false=>rfl
def adE (l:List Nd) (i:Nat) (t:Int):List Nd:=ig l i ((dA l Xc i).1,(dA l Xc i).2.1,t,(dA l Xc i).2.2.2.1,())
omit hF in
theorem ars (l:List Nd) (i:Nat) (t:Int):(adE l i t).length=l.length:=wB
omit hF in
theorem uX (a:Nat) (l:List Nd) (u d:Int) (i:Nat) (hi:i<l.length) {k:Int} (hk:(dA l Xc i).1=k) (h1:1<=k) (h2:k<=18) (hd:0<=d) (hd2:d<1000000000):
  o8 F (iK F) l (a:Int) ((i:Nat):Int) d u=some ((F,(iK F,(adE l i (a:Int),((a:Int),(u,((if jB k=true then d-1 else d),())))))),()):=by
 have hn:dm ((i:Nat):Int)=i:=by simp[dm]
 have hin: ∀x,fB (ig l i x) ((i:Nat):Int)=true:=fun x=>dN (by omega) (by rw[wB];omega);have hlt: ∀x,nD i (ig l i x)=true:=fun x=>oM (by rw[wB];exact hi);have ji: ∀x,dA (ig l i x) (0,(0,(0,(0,())))) i=x:=fun x=>Gz hi
 (rewrite [o8];delta MN;rw[bI (dN (by omega) (by omega)),hn,bI (oM hi)])
 simp only[hin,hlt,ji,cond_true];have hk':(dA l (0,(0,(0,(0,())))) i).1=k:=hk;rw[hk',ald h1 h2,bu];simp only;unfold adE;rw[show Xc=(0,(0,(0,(0,())))) from rfl,hk'];cases jB k with
 |true=>
  simp only[cond_true,if_true]
  grind [gQ]
 |false=>rfl
omit hF in
theorem UC (l:List Nd) (x:Nd):dA (l++[x]) Xc l.length=x:=by
 simp_all [dA]
omit hF in
theorem Xg (l:List Nd) (k a u t:Int):adE (l++[(k,a,0,u,())]) l.length t=l++[(k,a,t,u,())]:=by
 grind [adE,UC,ig]
omit hF in
theorem xC (a:Nat) (l:List Nd) (u d:Int) (hl:l.length<1000000000) (hd:0<=d) (hd2:d<1000000000):
  uA F (iK F) l (a:Int) u d=some ((F,(iK F,(l++[(18,(a:Int),(a:Int),u,())],((a:Int),(u,(d,())))))),()):=by
 rw[uA,lH a l u d (by omega) (by omega) hl hd hd2,bu];simp only;rw[show jB 18=false from rfl,if_neg (by simp),uX a _ u d l.length (by simp) (by rw[UC]) (by omega) (by omega) hd hd2,bu];simp only[Xg,show jB 18=false from rfl,ag,if_false]
omit hF in
theorem Pm (a:Nat) (l:List Nd) (u d:Int) {k:Int} (h1:1<=k) (h2:k<=18) (hn:jB k=false) (ha:a<100000000) (hl:l.length<1000000000) (hd:0<=d) (hd2:d<1000000000):
  MM F (iK F) l (a:Int) u d k=some ((F,(iK F,(l++[(k,(a:Int),((a+1:Nat):Int),u,())],(((a+1:Nat):Int),(u,(d,())))))),()):=by
 rw[MM,lH a l u d h1 h2 hl hd hd2,bu];simp only;rw[hn,if_neg (by simp),bZ (by omega) (by omega),show(a:Int)+1=((a+1:Nat):Int) by omega,uX (a+1) _ u d l.length (by simp) (by rw[UC]) h1 h2 hd hd2,bu];simp_all [Xg]
omit hF in
theorem zX (a:Nat) (l:List Nd) (u d:Int) (ha:a<100000000) (hl:l.length<1000000000) (hd:0<=d) (hd2:d<1000000000) (o:bM) (ho:o.length<1000000):
  mF F (iK F) l (a:Int) u d o=some ((F,(iK F,(wnL F a o l u,(((qg F a o:Nat):Int),(u,(d,())))))),()):=by
 rw[mF,jd a l u d o ho,bu];unfold qg wnL tk;cases h:fF F a o with
 |true=>
  simp only[cond_true,if_true]
  grind [bZ]
 |false=>
  simp_all [xC,bu]
omit hF in
theorem ade (a:Nat) (l:List Nd) (u d:Int) (ha:a<100000000) (hl:l.length<1000000000) (hd:0<=d) (hd2:d<1000000000):
  xm F (iK F) l (a:Int) u d=some ((F,(iK F,(wdL F a l u,(((DU F a:Nat):Int),(u,(d,())))))),()):=by
 rw[xm];unfold wdL DU DL;by_cases h:a<F.length
 ·rw[bI (dZ (by rw[bF];omega)),bI (dN (by omega) (by omega)),AC h];simp only[dif_pos h,decide_eq_true_eq];by_cases h6:F[a].1=6
  ·rw[bI (eH h6),Pm a l u d (by omega) (by omega) rfl ha hl hd hd2,bu,if_pos h6,if_pos h6]
  simp_all [dL,xC,bu]
 simp_all [fV,bF,xC,bu,dif_neg]
omit hF in
theorem zh (a:Nat) (l:List Nd) (u d:Int) (ha:a<10000000):Xm F (iK F) l (a:Int) u d=some ((F,(iK F,(l,((a:Int),(u,(d,())))))),(DN F a,())):=by
 rw[Xm,jd a l u d [60] (by simp),bu];unfold DN;simp only;cases fF F a [60]with
 |true=>rfl
 |false=>
  simp only[cond_false,Bool.false_or];rw[jd a l u d [35] (by simp),bu];simp only;cases fF F a [35]with
  |false=>rfl
  |true=>
   simp only[cond_true,aJ];rw[bZ (by omega) (by omega),show(a:Int)+1=((a+1:Nat):Int) by omega];by_cases h:a+1<F.length
   ·rw[bI (dZ (by grind [bF])),bI (dN (by omega) (by grind)),zT h];simp only[gY];congr 3;rw[decide_eq_decide];constructor
    ·intro e;exact UInt8.toNat_inj.1 (by grind)
    simp_all
   ·rw[dC (fV (by grind [bF])),Lp (by omega)];rfl
omit hF in
theorem wV (a:Nat) (l:List Nd) (u d:Int):Tv F (iK F) l (a:Int) u d=some ((F,(iK F,(l,((a:Int),(u,(d,())))))),(IC F a d,())):=by
 rw[Tv,jd a l u d _ (by simp),bu]
 grind [IC,gU]
omit hF in
theorem WS (a:Nat) (l:List Nd) (u d:Int) (ha:a<10000000):ati F (iK F) l (a:Int) u d=some ((F,(iK F,(l,((a:Int),(u,(d,())))))),(JA F a d,())):=by
 rw[ati,jd a l u d [120] (by simp),bu];unfold JA;simp only;cases fF F a [120]with
 |true=>rfl
 |false=>
  simp only[cond_false,Bool.false_or];rw[zh a l u d ha,bu];simp only;cases DN F a with
  |true=>rfl
  |false=>
   simp_all [wV,bu]
omit hF in
theorem Ir (a:Nat) (l:List Nd) (u d:Int) (ha:a<10000000):P7 F (iK F) l (a:Int) u d=some ((F,(iK F,(l,((a:Int),(u,(d,())))))),(qo F a d,())):=by
 rw[P7,jd a l u d [33] (by simp),bu];unfold qo;simp only;cases fF F a [33]with
 |true=>rfl
 |false=>
  simp_all [WS,bu]
end
section
open List renaming append_assoc → ah, length_append → ai, length_singleton → aU
open Nat renaming le_refl → ae
open Go.RowKit
abbrev opn (k:Int) (a:Nat) (u:Int):Nd:=(k,((a:Int),(0,(u,()))))
abbrev PR (F:List Lf) (a:Nat) (l:List Nd) (u d:Int):List Lf×Int×List Nd×Int×Int×Unit:=(F,((a:Int),(l,(u,(d,())))))
abbrev RR (F:List Lf) (a:Nat) (l:List Nd) (u d:Int):List Lf×List UInt8×List Nd×Int×Int×Int×Unit:=(F,(iK F,(l,((a:Int),(u,(d,()))))))
theorem lI (l m:List Nd) (k a u t:Int):ig (bG l [(k,(a,(0,(u,()))))]++m) (dm (bC l)) ((dA (bG l [(k,(a,(0,(u,()))))]++m) (0,(0,(0,(0,())))) (dm (bC l))).1,((dA (bG l [(k,(a,(0,(u,()))))]++m) (0,(0,(0,(0,())))) (dm (bC l))).2.1,(t,((dA (bG l [(k,(a,(0,(u,()))))]++m) (0,(0,(0,(0,())))) (dm (bC l))).2.2.2.1,()))))=l++(k,a,t,u,())::m:=by
 have hn:dm (bC l)=l.length:=by simp[dm,bF]
 simp_all [dA,bG,ig]
theorem qm (l m:List Nd) (x:Nd):fB (bG l [x]++m) (bC l)=true/\nD (dm (bC l)) (bG l [x]++m)=true:=
 ⟨dN (by rw[bF];omega) (by grind [bF,bG]),oM (by unfold bG;simp[dm,bF])⟩
theorem oq (l m:List Nd) (k a u t:Int):adE ((l++[(k,a,0,u,())])++m) l.length t=l++(k,a,t,u,())::m:=by
 unfold adE;simp_all [dA,ig]
theorem oD (l m:List Nd) (k a u:Int):(dA ((l++[(k,a,0,u,())])++m) Xc l.length).1=k:=by
 simp_all [dA]
inductive Tr:Nat->Nat->Int->Nat->List Nd->Prop
 |nil {a b:Nat} {u:Int} {k:Nat} (h:a<=b):Tr a b u k []
 |leaf {a b f t:Nat} {u:Int} {k:Nat} {kd:Int} {m:List Nd} (h1:a<=f) (hk:kd=18/\t=f\/(kd=6\/kd=7\/kd=17)/\t=f+1) (h2:Tr t b u (k+1) m):Tr a b u k ((kd,(f:Int),(t:Int),u,())::m)
 |node {a b f t:Nat} {u:Int} {k:Nat} {kd:Int} {m n:List Nd} (h1:a<=f) (hk:2<=kd/\kd<=16/\kd≠6/\kd≠7) (h:Tr f t (k:Int) (k+1) m) (h2:Tr t b u (k+1+m.length) n):Tr a b u k ((kd,(f:Int),(t:Int),u,())::(m++n))
theorem Tr.le {a b:Nat} {u:Int} {k:Nat} {m:List Nd} (h:Tr a b u k m):a<=b:=by
 induction h with
 |nil h=>exact h
 |leaf h1 hk _ ih=>omega
 |node h1 _ _ _ ih1 ih2=>omega
theorem Tr.wide {a b:Nat} {u:Int} {k:Nat} {m:List Nd} (h:Tr a b u k m): ∀{a' b':Nat},a'<=a->b<=b'->Tr a' b' u k m:=by
 induction h with
 |nil h=>exact fun h1 h2=>.nil (by omega)
 |leaf h1 hk _ ih=>exact fun h3 h4=>.leaf (by omega) hk (ih (ae _) h4)
 |node h1 hk h _ _ ih2=>exact fun h3 h4=>.node (by omega) hk h (ih2 (ae _) h4)
theorem Tr.app {a b:Nat} {u:Int} {k:Nat} {m:List Nd} (h:Tr a b u k m): ∀{c e j:Nat} {n:List Nd},Tr c e u j n->b<=c->j=k+m.length->Tr a e u k (m++n):=by
 induction h with
 |nil h=>exact fun h1 h2 h3=>by subst h3;exact h1.wide (by omega) (ae _)
 |leaf h1 hk _ ih=>exact fun h3 h4 h5=>.leaf h1 hk (ih h3 h4 (by grind))
 | @node a b f t u k kd m n' h1 hk h _ _ ih2=>
  intro c e j n h3 h4 h5;rw[List.cons_append,ah];exact .node h1 hk h (ih2 h3 h4 (by grind))
theorem Tr.ap {a b c e:Nat} {u:Int} {k j:Nat} {m n:List Nd} (h:Tr a b u k m) (h2:Tr c e u j n) (h3:b<=c:=by omega) (h4:j=k+m.length:=by first|omega|grind):Tr a e u k (m++n):=h.app h2 h3 h4
theorem Tr.apA {a b c e:Nat} {u:Int} {k:Nat} {m n:List Nd} (h:Tr a b u k m) (h2: ∀j,Tr c e u j n) (h3:b<=c:=by omega):Tr a e u k (m++n):=h.app (h2 _) h3 rfl
theorem Tr.one {a b f t:Nat} {u:Int} {k j:Nat} {kd:Int} {m:List Nd} (h:Tr f t (j:Int) (j+1) m) (h1:a<=f) (h2:t<=b) (hk:2<=kd/\kd<=16/\kd≠6/\kd≠7) (hj:j=k):Tr a b u k ((kd,(f:Int),(t:Int),u,())::m):=by
 subst hj;have:=Tr.node (n:=[]) (u:=u) h1 hk h (.nil h2);simp_all
theorem Tr.mis {a b f:Nat} {u:Int} {k:Nat} (h1:a<=f) (h2:f<=b):Tr a b u k [(18,(f:Int),(f:Int),u,())]:=.leaf h1 (.inl ⟨rfl,rfl⟩) (.nil h2)
theorem Tr.lf {a b f:Nat} {u:Int} {k:Nat} {kd:Int} (h1:a<=f) (h2:f+1<=b) (hk:kd=6\/kd=7\/kd=17):Tr a b u k [(kd,(f:Int),((f+1:Nat):Int),u,())]:=.leaf h1 (.inr ⟨hk,rfl⟩) (.nil h2)
structure Jo (F:List Lf) (a:Nat) (l:List Nd) (d:Int) (K:Nat):Prop where
 len:a<=F.length
 nod:l.length<=16*a+K
 d0:0<=d
 d1:d<=200
structure All (F:List Lf) (n:Nat):Prop where
 list: ∀(a:Nat) (l:List Nd) (u d:Int) (r r':Nat),16*(F.length-a)+12<n->n<=r->n<=r'->Jo F a l d 110->qo F a d=true->
  ∃(a':Nat) (m:List Nd),(gB r).q89 F (a:Int) (bG l [opn 2 a u]) (bC l) d=some (PR F a' (bG l [opn 2 a u]++m) (bC l) d,())/\
   (gK r').q48 F (iK F) l (a:Int) u d=some (RR F a' (l++(2,(a:Int),(a':Int),u,())::m) u d,())/\a<a'/\a'<=F.length/\m.length+1<=16*(a'-a)/\Tr a a' (bC l) (l.length+1) m
 andor: ∀(a:Nat) (l:List Nd) (u d:Int) (r r':Nat),16*(F.length-a)+11<n->n<=r->n<=r'->Jo F a l d 111->qo F a d=true->
  ∃(a':Nat) (m:List Nd),(gB r).q114 F (a:Int) (bG l [opn 3 a u]) (bC l) d=some (PR F a' (bG l [opn 3 a u]++m) (bC l) d,())/\
   (gK r').q79 F (iK F) l (a:Int) u d=some (RR F a' (l++(3,(a:Int),(a':Int),u,())::m) u d,())/\a<a'/\a'<=F.length/\m.length+2<=16*(a'-a)/\Tr a a' (bC l) (l.length+1) m
 pipe: ∀(a:Nat) (l:List Nd) (u d:Int) (r r':Nat),16*(F.length-a)+10<n->n<=r->n<=r'->Jo F a l d 112->qo F a d=true->
  ∃(a':Nat) (m:List Nd),(gB r).q152 F (a:Int) l u d=some (PR F a' (l++m) u d,())/\
   (gK r').q102 F (iK F) l (a:Int) u d=some (RR F a' (l++m) u d,())/\a<a'/\a'<=F.length/\m.length+2<=16*(a'-a)/\Tr a a' u l.length m
 nopipe: ∀(a:Nat) (l:List Nd) (u d:Int) (r:Nat),10<n->n<=r->Jo F a l d 130->qo F a d=false->
  (gB r).q152 F (a:Int) l u d=some (PR F a (l++[(18,(a:Int),(a:Int),u,())]) u d,())
 command: ∀(a:Nat) (l:List Nd) (u d:Int) (r r':Nat),16*(F.length-a)+9<n->n<=r->n<=r'->Jo F a l d 113->
  ∃(a':Nat) (m:List Nd),(gB r).q186 F (a:Int) l u d=some (PR F a' (l++m) u d,())/\
   (gK r').q130 F (iK F) l (a:Int) u d=some (RR F a' (l++m) u d,())/\a<=a'/\a'<=F.length/\(m.length<=16*(a'-a)+1/\Tr a a' u l.length m)/\(JA F a d=true->a<a'/\m.length+3<=16*(a'-a))
 compound: ∀(a:Nat) (l:List Nd) (u d:Int) (r r':Nat),16*(F.length-a)+8<n->n<=r->n<=r'->Jo F a l d 113->IC F a d=true->
  ∃(a':Nat) (m:List Nd),(gB r).q223 F (a:Int) l u d=some (PR F a' (l++m) u d,())/\
   (gK r').q163 F (iK F) l (a:Int) u d=some (RR F a' (l++m) u d,())/\a<a'/\a'<=F.length/\m.length+3<=16*(a'-a)/\Tr a a' u l.length m
 body: ∀(a:Nat) (l:List Nd) (u d:Int) (r r':Nat),16*(F.length-a)+13<n->n<=r->n<=r'->Jo F a l d 110->
  ∃(a':Nat) (m:List Nd),(gB r).q266 F (a:Int) l u d=some (PR F a' (l++m) u d,())/\
   (gK r').q194 F (iK F) l (a:Int) u d=some (RR F a' (l++m) u d,())/\a<=a'/\a'<=F.length/\m.length<=16*(a'-a)+1/\Tr a a' u l.length m
variable {F:List Lf} (hF:WU F)
include hF
theorem ann {n:Nat} (h:All F n) (a:Nat) (l:List Nd) (u d:Int) (r r':Nat) (hm:16*(F.length-a)+13<n+1) (hr:n+1<=r) (hr':n+1<=r') (hp:Jo F a l d 110):
  ∃(a':Nat) (m:List Nd),(gB r).q266 F (a:Int) l u d=some (PR F a' (l++m) u d,())/\
   (gK r').q194 F (iK F) l (a:Int) u d=some (RR F a' (l++m) u d,())/\a<=a'/\a'<=F.length/\m.length<=16*(a'-a)+1/\Tr a a' u l.length m:=by
 obtain⟨p1,p2,p3,p4⟩:=hp;have hFl:=hF.len;obtain⟨q,rfl⟩: ∃q,r=q+1:=⟨r-1,by omega⟩;obtain⟨q',rfl⟩: ∃q',r'=q'+1:=⟨r'-1,by omega⟩;have hge:=xA (F:=F) a;have hle:=yF (F:=F) p1;show ∃(a':Nat) (m:List Nd),as4 (gB q) F (a:Int) l u d=_/\asT (gK q') F (iK F) l (a:Int) u d=_/\_;rw[as4,asT,nz hF a l u d p1,lZ hF a l u d p1,bu,bu];simp only;rw[Df hF (ln F a) l u d (by omega),Ir (ln F a) l u d (by omega),bu,bu];simp only;cases hb:qo F (ln F a) d with
 |true=>
  obtain⟨n1,n2,n3⟩:=kX l (opn 2 (ln F a) u) (by omega);obtain⟨a',m,e1,e2,e3,e4,e5⟩:=h.list (ln F a) l u d q q' (by omega) (by omega) (by omega) ⟨hle,by omega,p3,p4⟩ hb;obtain⟨c1,c2⟩:=qm l m (opn 2 (ln F a) u);refine⟨a',(2,((ln F a:Nat):Int),(a':Int),u,())::m, ?_, ?_,by omega,e4,by grind,e5.2.one hge (ae _) (by omega) rfl⟩
  ·simp_all [dU,bu,lI]
  simp_all [bu]
 |false=>
  refine⟨ln F a,[(18,((ln F a:Nat):Int),((ln F a:Nat):Int),u,())], ?_, ?_,hge,hle,by simp,.mis hge (ae _)⟩
  ·simp only[cond_false]
   grind [mO,bu]
  ·simp only[cond_false]
   grind [xC,bu]
end
section
open Bool renaming false_eq_true → ag
open List renaming append_assoc → ah, length_append → ai, length_singleton → aU
open Nat renaming le_refl → ae
open Go.RowKit
variable {F:List Lf} (hF:WU F)
include hF
omit hF in
theorem mY {a:Nat} {o:List UInt8} (h:fF F a o=true):tk F a o=a+1:=by unfold tk;rw[if_pos h]
omit hF in
theorem xN {a:Nat} {o:List UInt8} (h:fF F a o=false):tk F a o=a:=by unfold tk;rw[if_neg (by rw[h];simp)]
theorem Iw {n:Nat} (h:All F n) {q q':Nat} (hq:n<=q) (hq':n<=q') (u d v:Int) (hd:0<=d/\d<=200): ∀(N a:Nat) (L:List Nd),F.length-a<N->a<=F.length->16*(F.length-a)+10<n->L.length<=16*a+112->
  ∃(a':Nat) (m:List Nd),J7 (gB q) N F (a:Int) u d L=some (.inl ((),((),()),((F,(a':Int),u,d,()),L++m,())))/\
   Uk (gK q') N v F (iK F) (a:Int) u d L=some (.inl ((v,()),((),()),((F,iK F,(a':Int),u,d,()),L++m,())))/\a<=a'/\a'<=F.length/\m.length<=16*(a'-a)/\Tr a a' u L.length m
 |0,a,L,hN,_,_,_=>by omega
 |N+1,a,L,hN,ha,hn,hL=>by
  have hFl:=hF.len;rw[J7,QM,Uk,acO,mr hF a L u d (by omega) [97,111] rfl,jd a L u d [97,111] (by simp),bu,bu];simp only;cases hb:fF F a [97,111]with
  |false=>
   rw[xN hb];exact⟨a,[],by simp,by simp,ae _,ha,by simp,.nil (ae _)⟩
  |true=>
   have hlt:=gW hb;have hge:=xA (F:=F) (a+1);have hle:=yF (F:=F) (a:=a+1) (by omega);rw[mY hb];simp only[cond_true];rw[bZ (by omega) (by omega),show(a:Int)+1=((a+1:Nat):Int) by omega,nz hF (a+1) L u d (by omega),lZ hF (a+1) L u d (by omega),bu,bu];simp only;rw[Ir (ln F (a+1)) L u d (by omega),bu];simp only;cases hp:qo F (ln F (a+1)) d with
   |true=>
    obtain⟨a1,m1,e1,e2,e3,e4,e5⟩:=h.pipe (ln F (a+1)) L u d q q' (by omega) hq hq' ⟨hle,by omega,hd.1,hd.2⟩ hp;rw[e1,bu];simp only[cond_true];rw[e2,bu];simp only;obtain⟨a',m,f1,f2,f3,f4,f5⟩:=Iw h hq hq' u d v hd N a1 (L++m1) (by omega) e4 (by omega) (by rw[ai];omega);exact⟨a',m1++m,by rw[f1,ah],by rw[f2,ah],by omega,f4,by rw[ai];omega,(e5.2.wide (by omega) (ae _)).app f5.2 (ae _) (ai ..)⟩
   |false=>
    rw[h.nopipe (ln F (a+1)) L u d q (by omega) hq ⟨hle,by omega,hd.1,hd.2⟩ hp,bu];simp only[cond_false];rw[xC (ln F (a+1)) L u d (by omega) hd.1 (by omega),bu];simp only;obtain⟨a',m,f1,f2,f3,f4,f5⟩:=Iw h hq hq' u d v hd N (ln F (a+1)) (L++[(18,((ln F (a+1):Nat):Int),((ln F (a+1):Nat):Int),u,())]) (by omega) hle (by omega) (by rw[ai,aU];omega);exact⟨a',[(18,((ln F (a+1):Nat):Int),((ln F (a+1):Nat):Int),u,())]++m,by rw[f1,ah],by rw[f2,ah],by omega,f4,by rw[ai,aU];omega,(Tr.mis (by omega) (ae _)).app f5.2 (ae _) (ai ..)⟩
theorem age {n:Nat} (h:All F n) (a:Nat) (l:List Nd) (u d:Int) (r r':Nat) (hm:16*(F.length-a)+11<n+1) (hr:n+1<=r) (hr':n+1<=r') (hp:Jo F a l d 111) (hb:qo F a d=true):
  ∃(a':Nat) (m:List Nd),(gB r).q114 F (a:Int) (bG l [opn 3 a u]) (bC l) d=some (PR F a' (bG l [opn 3 a u]++m) (bC l) d,())/\
   (gK r').q79 F (iK F) l (a:Int) u d=some (RR F a' (l++(3,(a:Int),(a':Int),u,())::m) u d,())/\a<a'/\a'<=F.length/\m.length+2<=16*(a'-a)/\Tr a a' (bC l) (l.length+1) m:=by
 obtain⟨p1,p2,p3,p4⟩:=hp;have hFl:=hF.len;obtain⟨q,rfl⟩: ∃q,r=q+1:=⟨r-1,by omega⟩;obtain⟨q',rfl⟩: ∃q',r'=q'+1:=⟨r'-1,by omega⟩;show ∃(a':Nat) (m:List Nd),asO (gB q) F (a:Int) _ _ d=_/\aEh (gK q') F (iK F) l (a:Int) u d=_/\_;have hcl:(bG l [opn 3 a u]).length=l.length+1:=by unfold bG;simp
 obtain⟨a1,m1,e1,e2,e3,e4,e5⟩:=h.pipe a (bG l [opn 3 a u]) (bC l) d q q' (by omega) (by omega) (by omega) ⟨p1,by rw[hcl];omega,p3,p4⟩ hb;obtain⟨a',m,f1,f2,f3,f4,f5⟩:=Iw hF h (q:=q) (q':=q') (by omega) (by omega) (bC l) d u ⟨p3,p4⟩ bH a1 (bG l [opn 3 a u]++m1) (dB (by omega)) e4 (by omega) (by rw[ai,hcl];omega);have hcat:bG l [opn 3 a u]=l++[(3,(a:Int),0,u,())]:=rfl;refine⟨a',m1++m, ?_, ?_,by omega,f4,by rw[ai];omega,(hcl▸e5.2).app f5.2 (ae _) (by rw[ai,hcl])⟩
 ·rw[asO,e1,bu];simp only;rw[f1,bu];simp only[dE,ah]
 ·rw[aEh,lH a l u d (by omega) (by omega) (by omega) p3 (by omega),bu];simp only[show jB 3=false from rfl,ag,if_false];rw[hcat]at e2 f2;rw[show((l.length:Nat):Int)=bC l from rfl,e2,bu];simp only;rw[f2,bu];simp only[dE];rw[ah (l++_),show bC l=((l.length:Nat):Int) from rfl,uX a' _ u d l.length (by simp only[ai,aU];omega) (oD l _ 3 _ _) (by omega) (by omega) p3 (by omega),bu];simp only[oq,show jB 3=false from rfl,ag,if_false]
end
section
open Bool renaming false_eq_true → ag, and_true → ax, not_true → ay, not_false → aB
open List renaming append_assoc → ah, length_append → ai
open Nat renaming le_refl → ae
open Go.RowKit
variable {F:List Lf} (hF:WU F)
include hF
theorem X3 {n:Nat} (h:All F n) {q q':Nat} (hq:n<=q) (hq':n<=q') (u d v v0 v1:Int) (hd:0<=d/\d<=200): ∀(N a:Nat) (L:List Nd),F.length-a<N->a<=F.length->16*(F.length-a)+9<n+16->L.length<=16*a+114->
  ∃(a':Nat) (m:List Nd),uC (gB q) N v0 v1 F (a:Int) u d L=some (.inl ((),((v0,v1,()),(),(),()),((),(F,(a':Int),u,d,()),L++m,())))/\
   Cc (gK q') N v F (iK F) (a:Int) u d L=some (.inl ((v,()),((),()),((F,iK F,(a':Int),u,d,()),L++m,())))/\a<=a'/\a'<=F.length/\m.length<=16*(a'-a)/\Tr a a' u L.length m
 |0,a,L,hN,_,_,_=>by omega
 |N+1,a,L,hN,ha,hn,hL=>by
  have hFl:=hF.len;rw[uC,yV,Cc,QL,mr hF a L u d (by omega) [124] rfl,jd a L u d [124] (by simp),bu,bu];simp only;cases hb:fF F a [124]with
  |false=>
   rw[xN hb];exact⟨a,[],by simp,by simp,ae _,ha,by simp,.nil (ae _)⟩
  |true=>
   have hlt:=gW hb;have hge:=xA (F:=F) (a+1);have hle:=yF (F:=F) (a:=a+1) (by omega);rw[mY hb];simp only[cond_true];rw[bZ (by omega) (by omega),show(a:Int)+1=((a+1:Nat):Int) by omega,nz hF (a+1) L u d (by omega),lZ hF (a+1) L u d (by omega),bu,bu];simp only;obtain⟨a1,m1,e1,e2,e3,e4,e5,_⟩:=h.command (ln F (a+1)) L u d q q' (by omega) hq hq' ⟨hle,by omega,hd.1,hd.2⟩;rw[e1,e2,bu,bu];simp only;obtain⟨a',m,f1,f2,f3,f4,f5⟩:=X3 h hq hq' u d v v0 v1 hd N a1 (L++m1) (by omega) e4 (by omega) (by grind);exact⟨a',m1++m,by simp_all,by simp_all,by omega,f4,by grind,(e5.2.wide (by omega) (ae _)).app f5.2 (ae _) (ai ..)⟩
theorem ae4 {n:Nat} (a:Nat) (l:List Nd) (u d:Int) (r:Nat) (hr:n+1<=r) (hp:Jo F a l d 130) (hb:qo F a d=false):
  (gB r).q152 F (a:Int) l u d=some (PR F a (l++[(18,(a:Int),(a:Int),u,())]) u d,()):=by
 obtain⟨p1,p2,p3,p4⟩:=hp;have hFl:=hF.len;obtain⟨q,rfl⟩: ∃q,r=q+1:=⟨r-1,by omega⟩;show adL (gB q) F (a:Int) l u d=_;rw[adL,Df hF a l u d (by omega),bu,hb];simp only[aB,cond_true]
 grind [mO,bu]
theorem ao9 {n:Nat} (h:All F n) (a:Nat) (l:List Nd) (u d:Int) (r r':Nat) (hm:16*(F.length-a)+10<n+1) (hr:n+1<=r) (hr':n+1<=r') (hp:Jo F a l d 112) (hb:qo F a d=true):
  ∃(a':Nat) (m:List Nd),(gB r).q152 F (a:Int) l u d=some (PR F a' (l++m) u d,())/\
   (gK r').q102 F (iK F) l (a:Int) u d=some (RR F a' (l++m) u d,())/\a<a'/\a'<=F.length/\m.length+2<=16*(a'-a)/\Tr a a' u l.length m:=by
 obtain⟨p1,p2,p3,p4⟩:=hp;have hFl:=hF.len;obtain⟨q,rfl⟩: ∃q,r=q+1:=⟨r-1,by omega⟩;obtain⟨q',rfl⟩: ∃q',r'=q'+1:=⟨r'-1,by omega⟩;have hcl:(bG l [opn 4 a u]).length=l.length+1:=by unfold bG;simp
 have hcat:bG l [opn 4 a u]=l++[(4,(a:Int),0,u,())]:=rfl;obtain⟨n1,_,_⟩:=kX l (opn 4 a u) (by omega);have htk:tk F a [33]<=F.length/\a<=tk F a [33]:=by
  unfold tk;split
  ·rename_i h';exact⟨gW h',by omega⟩
  omega
 obtain⟨a1,m1,e1,e2,e3,e4,e5,e6⟩:=h.command (tk F a [33]) (bG l [opn 4 a u]) (bC l) d q q' (by omega) (by omega) (by omega) ⟨htk.1,by rw[hcl];omega,p3,p4⟩;have hlt:a<a1/\m1.length+1+2<=16*(a1-a):=by
  cases h33:fF F a [33]with
  |true=>grind [mY]
  |false=>
   simp_all [xN,qo]
 obtain⟨a',m,f1,f2,f3,f4,f5⟩:=X3 hF h (q:=q) (q':=q') (by omega) (by omega) (bC l) d u (bC l) u ⟨p3,p4⟩ bH a1 (bG l [opn 4 a u]++m1) (dB (by omega)) e4 (by omega) (by grind);obtain⟨c1,c2⟩:=qm l (m1++m) (opn 4 a u);refine⟨a',(4,(a:Int),(a':Int),u,())::(m1++m), ?_, ?_,by omega,f4,by grind,Tr.one (((hcl▸e5.2).wide htk.2 (ae _)).app f5.2 (ae _) (by grind)) (ae _) (ae _) (by omega) rfl⟩
 ·show adL (gB q) F (a:Int) l u d=_;rw[adL,Df hF a l u d (by omega),bu,hb];simp only[ay,cond_false,dU,ax,cond_true,n1];rw[mr hF a _ _ d (by omega) [33] rfl,bu];simp only;rw[e1,bu];simp only;rw[f1,bu];simp only[dE,ah,c1,c2,cond_true,lI]
 ·show asN (gK q') F (iK F) l (a:Int) u d=_;rw[asN,lH a l u d (by omega) (by omega) (by omega) p3 (by omega),bu];simp only[show jB 4=false from rfl,ag,if_false];rw[jd a _ _ d [33] (by simp),bu];simp only;rw[hcat]at e2 f2;have hend:bz (Cc (gK q') bH u F (iK F) (a1:Int) (bC l) d (l++[(4,(a:Int),0,u,())]++m1)) (fun y3=>dE y3 (fun a4=>
    bz (o8 a4.2.2.1.1 a4.2.2.1.2.1 a4.2.2.2.1 a4.2.2.1.2.2.1 a4.2.2.1.2.2.2.1 a4.2.2.1.2.2.2.2.1 a4.1.1) fun y5=>
     some ((y5.1.1,(y5.1.2.1,(y5.1.2.2.1,(y5.1.2.2.2.1,(y5.1.2.2.2.2.1,(y5.1.2.2.2.2.2.1,())))))),())) (fun b4=>none))=some (RR F a' (l++(4,(a:Int),(a':Int),u,())::(m1++m)) u d,()):=by
   rw[f2,bu];simp only[dE];rw[ah (l++_),show bC l=((l.length:Nat):Int) from rfl,uX a' _ u d l.length (by simp) (oD l _ 4 _ _) (by omega) (by omega) p3 (by omega),bu];simp only[oq,show jB 4=false from rfl,ag,if_false]
  cases h33:fF F a [33]with
  |true=>
   rw[mY h33]at e2;simp only[cond_true];rw[bZ (by omega) (by omega),show(a:Int)+1=((a+1:Nat):Int) by omega,show((l.length:Nat):Int)=bC l from rfl,e2,bu];exact hend
  |false=>
   rw[xN h33]at e2;simp only[cond_false];rw[show((l.length:Nat):Int)=bC l from rfl,e2,bu];exact hend
theorem XF {n:Nat} (h:All F n) {q q':Nat} (hq:n<=q) (hq':n<=q') (u d v:Int) (hd:0<=d/\d<=200): ∀(N a:Nat) (L:List Nd),F.length-a<N->a<=F.length->16*(F.length-a)+11<n->L.length<=16*a+111->qo F a d=true->
  ∃(a' a1:Nat) (m m1:List Nd),Et (gB q) N F (a:Int) u d L=some (.inl ((),((),()),((F,(a':Int),u,d,()),L++m,())))/\
   (gK q').q79 F (iK F) L (a:Int) u d=some (RR F a1 (L++m1) u d,())/\
   zl (gK q') N v F (iK F) (a1:Int) u d (L++m1)=some (.inl ((v,()),((),()),((F,iK F,(a':Int),u,d,()),L++m,())))/\a<a'/\a'<=F.length/\m.length+1<=16*(a'-a)/\Tr a a' u L.length m
 |0,a,L,hN,_,_,_,_=>by omega
 |N+1,a,L,hN,ha,hn,hL,hb=>by
  have hFl:=hF.len;obtain⟨a1,m1,e1,e2,e3,e4,e5⟩:=h.andor a L u d q q' hn hq hq' ⟨ha,by omega,hd.1,hd.2⟩ hb;obtain⟨n1,_,_⟩:=kX L (opn 3 a u) (by omega);obtain⟨c1,c2⟩:=qm L m1 (opn 3 a u);have hP: ∀K:Option _,Et (gB q) (N+1) F (a:Int) u d L=K->Et (gB q) (N+1) F (a:Int) u d L=K:=fun _ h=>h;rw[Et,acR];simp only[dU,ax,cond_true,n1];rw[e1,bu];simp only[c1,c2,cond_true,lI];rw[mr hF a1 _ u d (by omega) [59,38] rfl,bu];simp only;have hL1:(L++(3,(a:Int),(a1:Int),u,())::m1).length=L.length+1+m1.length:=by grind
  have stop: ∀b:Nat,a1<=b->b<=F.length->((3,(a:Int),(a1:Int),u,())::m1).length+1<=16*(b-a)/\Tr a b u L.length ((3,(a:Int),(a1:Int),u,())::m1):=fun b h1 h2=>⟨by grind,e5.2.one (ae _) h1 (by omega) rfl⟩;have next: ∀b:Nat,a1<=b->b<=F.length->qo F b d=true->a1<b-> ∃(a':Nat) (m:List Nd) (a2:Nat) (m2:List Nd),
    Et (gB q) N F (b:Int) u d (L++(3,(a:Int),(a1:Int),u,())::m1)=some (.inl ((),((),()),((F,(a':Int),u,d,()),L++m,())))/\
    (gK q').q79 F (iK F) (L++(3,(a:Int),(a1:Int),u,())::m1) (b:Int) u d=some (RR F a2 ((L++(3,(a:Int),(a1:Int),u,())::m1)++m2) u d,())/\
    zl (gK q') N v F (iK F) (a2:Int) u d ((L++(3,(a:Int),(a1:Int),u,())::m1)++m2)=some (.inl ((v,()),((),()),((F,iK F,(a':Int),u,d,()),L++m,())))/\a<a'/\a'<=F.length/\m.length+1<=16*(a'-a)/\Tr a a' u L.length m:=fun b h1 h2 hb2 hlt=>by
   obtain⟨a',a2,m,m2,f1,f2,f3,f4,f5,f6⟩:=XF h hq hq' u d v hd N b (L++(3,(a:Int),(a1:Int),u,())::m1) (by omega) h2 (by omega) (by rw[hL1];omega) hb2;exact⟨a',((3,(a:Int),(a1:Int),u,())::m1)++m,a2,m2,by simp_all,f2,by simp_all,by omega,f5,by grind,(stop b h1 h2).2.app f6.2 (ae _) (ai ..)⟩
  cases hs:fF F a1 [59,38]with
  |true=>
   have hlt:=gW hs;have hge:=xA (F:=F) (a1+1);have hle:=yF (F:=F) (a:=a1+1) (by omega);rw[mY hs];simp only[cond_true];rw[nz hF (a1+1) _ u d (by omega),bu];simp only;rw[Df hF _ _ u d (by omega),bu];simp only;cases hb2:qo F (ln F (a1+1)) d with
   |false=>
    refine⟨ln F (a1+1),a1,_,_,rfl,e2, ?_,by omega,hle,stop _ (by omega) hle⟩;rw[zl,NZ,jd a1 _ u d [59,38] (by simp),bu,hs];simp only[cond_true];rw[bZ (by omega) (by omega),show(a1:Int)+1=((a1+1:Nat):Int) by omega,lZ hF (a1+1) _ u d (by omega),bu]
    grind [Ir,bu]
   |true=>
    obtain⟨a',m,a2,m2,g1,g2,g3,g4,g5,g6⟩:=next _ (by omega) hle hb2 (by omega)
    refine⟨a',a1,m,_,g1,e2, ?_,g4,g5,g6⟩;rw[zl,NZ,jd a1 _ u d [59,38] (by simp),bu,hs];simp only[cond_true];rw[bZ (by omega) (by omega),show(a1:Int)+1=((a1+1:Nat):Int) by omega,lZ hF (a1+1) _ u d (by omega),bu];simp only;rw[Ir _ _ u d (by omega),bu,hb2];simp_all [bu]
  |false=>
   have hge:=xA (F:=F) a1;have hle:=yF (F:=F) e4;have hR:zl (gK q') (N+1) v F (iK F) (a1:Int) u d (L++(3,(a:Int),(a1:Int),u,())::m1)=
     (bif bJ (((ln F a1:Nat):Int)-a1) 0 then(some (.inl ((v,()),((),()),((F,iK F,((ln F a1:Nat):Int),u,d,()),L++(3,(a:Int),(a1:Int),u,())::m1,()))):Option (abq.den⊕ab5.den))
     else bif !qo F (ln F a1) d then some (.inl ((v,()),((),()),((F,iK F,((ln F a1:Nat):Int),u,d,()),L++(3,(a:Int),(a1:Int),u,())::m1,())))
      else bz ((gK q').q79 F (iK F) (L++(3,(a:Int),(a1:Int),u,())::m1) ((ln F a1:Nat):Int) u d) fun y3=>zl (gK q') N v y3.1.1 y3.1.2.1 y3.1.2.2.2.1 y3.1.2.2.2.2.1 y3.1.2.2.2.2.2.1 y3.1.2.2.1):=by
    rw[zl,NZ,jd a1 _ u d [59,38] (by simp),bu,hs];simp only[cond_false];rw[lZ hF a1 _ u d e4,bu];simp only;cases bJ (((ln F a1:Nat):Int)-a1) 0 with
    |true=>rfl
    |false=>
     simp only[cond_false]
     grind [Ir,bu]
   rw[xN hs];simp only[cond_false];rw[nz hF a1 _ u d e4,bu];simp only;cases hln:fF F a1 [110]with
   |false=>
    have hl0:ln F a1=a1:=by rw[J6,hln];rfl
    rw[hl0]at hR ⊢;refine⟨a1,a1,_,_,rfl,e2, ?_,e3,e4,stop _ (ae _) e4⟩;simp_all [eH]
   |true=>
    have hlt:a1<ln F a1:=by simp_all [aIm]
    simp only[ay,cond_false];rw[dC (dL (by omega))]at hR;rw[Df hF _ _ u d (by omega),bu];simp only;cases hb2:qo F (ln F a1) d with
    |false=>
     refine⟨ln F a1,a1,_,_,rfl,e2, ?_,by omega,hle,stop _ (by omega) hle⟩;rw[hR,hb2];rfl
    |true=>
     obtain⟨a',m,a2,m2,g1,g2,g3,g4,g5,g6⟩:=next _ (by omega) hle hb2 hlt
     refine⟨a',a1,m,_,g1,e2, ?_,g4,g5,g6⟩;simp_all [bu]
theorem aoL {n:Nat} (h:All F n) (a:Nat) (l:List Nd) (u d:Int) (r r':Nat) (hm:16*(F.length-a)+12<n+1) (hr:n+1<=r) (hr':n+1<=r') (hp:Jo F a l d 110) (hb:qo F a d=true):
  ∃(a':Nat) (m:List Nd),(gB r).q89 F (a:Int) (bG l [opn 2 a u]) (bC l) d=some (PR F a' (bG l [opn 2 a u]++m) (bC l) d,())/\
   (gK r').q48 F (iK F) l (a:Int) u d=some (RR F a' (l++(2,(a:Int),(a':Int),u,())::m) u d,())/\a<a'/\a'<=F.length/\m.length+1<=16*(a'-a)/\Tr a a' (bC l) (l.length+1) m:=by
 obtain⟨p1,p2,p3,p4⟩:=hp;have hFl:=hF.len;obtain⟨q,rfl⟩: ∃q,r=q+1:=⟨r-1,by omega⟩;obtain⟨q',rfl⟩: ∃q',r'=q'+1:=⟨r'-1,by omega⟩;have hcl:(bG l [opn 2 a u]).length=l.length+1:=by unfold bG;simp
 have hcat:bG l [opn 2 a u]=l++[(2,(a:Int),0,u,())]:=rfl;obtain⟨a',a1,m,m1,f1,f2,f3,f4,f5,f6⟩:=XF hF h (q:=q) (q':=q') (by omega) (by omega) (bC l) d u ⟨p3,p4⟩ bH a (bG l [opn 2 a u]) (dB (by omega)) p1 (by omega) (by rw[hcl];omega) hb;refine⟨a',m, ?_, ?_,f4,f5,f6.1,hcl▸f6.2⟩
 ·show aEi (gB q) F (a:Int) _ _ d=_;rw[aEi,f1,bu];rfl
 ·show aEg (gK q') F (iK F) l (a:Int) u d=_;rw[aEg,lH a l u d (by omega) (by omega) (by omega) p3 (by omega),bu];simp only[show jB 2=false from rfl,ag,if_false];rw[hcat]at f2 f3;rw[show((l.length:Nat):Int)=bC l from rfl,f2,bu];simp only;rw[f3,bu];simp only[dE];rw[show bC l=((l.length:Nat):Int) from rfl,uX a' _ u d l.length (by simp) (oD l _ 2 _ _) (by omega) (by omega) p3 (by omega),bu];simp only[oq,show jB 2=false from rfl,ag,if_false]
end
section
open Bool renaming and_eq_true → af, not_true → ay, not_false → aB
open Nat renaming lt_of_lt_of_le → aX
open Go.RowKit
theorem ae1 {s:List UInt8} (hs:s.length<1000000):TC s 0=some (((nl s:Nat):Int),()):=by
 have:=aqt (aX hs (by omega)) (a:=0) (Nat.zero_le _);simpa using this
theorem OY {s:List UInt8} (hs:s.length<1000000):ad3 s=some (decide (nl s≠0/\nl s=s.length),()):=by
 rw[ad3];by_cases h0:s=[]
 ·subst h0;rfl
 have hp:0<s.length:=List.length_pos_iff.2 h0;rw[Hq h0];simp only[aB,cond_true];rw[ae1 hs,bu];congr 2;by_cases h:nl s=s.length
 ·rw[eH (by rw[bF];omega),decide_eq_true ⟨by omega,h⟩]
 ·rw[dL (by rw[bF];omega),decide_eq_false (fun h'=>h h'.2)]
def jy (s:bM):Bool:=decide (nl s≠0/\nl s<s.length)&&decide (s.getD (nl s) 0=61)
theorem adl {s:List UInt8} (hs:s.length<1000000): ∃x y,akc s=some (x,(y,(jy s,()))):=by
 have hle:nl s<=s.length:=by unfold nl;split;omega;exact L6 XA s
 rw[akc,ae1 hs,bu];simp only;by_cases h0:nl s=0
 ·exact⟨[],[],by rw[bI (eH (by omega)),jy,decide_eq_false (fun h=>h.1 h0)];rfl⟩
 rw[dC (dL (by omega))];by_cases h1:nl s=s.length
 ·exact⟨[],[],by rw[bI (eH (by rw[bF];omega)),jy,decide_eq_false (fun h=>by omega)];rfl⟩
 have h2:nl s<s.length:=by omega
 rw[dC (dL (by rw[bF];omega)),bI (dN (by omega) (by omega)),byte_at h2];have hg:s.getD (nl s) 0=s[nl s]:=by rw[List.getD_eq_getElem?_getD,List.getElem?_eq_getElem h2];rfl
 by_cases h3:s[nl s]=61
 ·rw[h3,show bJ ((61:UInt8).toNat:Int) 61=true from rfl];simp only[ay,cond_false];rw[bZ (by omega) (by omega),bI (fO (by omega) (by omega) (by rw[bF];omega)),bI (fO (by omega) (by rw[bF];omega) (by omega))];exact⟨_,_,by rw[jy,decide_eq_true ⟨h0,h2⟩,hg,decide_eq_true h3];rfl⟩
 ·rw[dL (fun h=>h3 (UInt8.toNat_inj.1 (by have:((61:UInt8).toNat:Int)=61:=rfl;omega)))];exact⟨[],[],by rw[jy,hg,decide_eq_false h3,Bool.and_false];rfl⟩
theorem aGL (s:bM) (i:Nat):sub s 0 (i:Int)=s.take i:=by simp[sub]
theorem avk {s:List UInt8} {i:Nat} (hi:i<s.length) (h61:s[i]=61):(nl (s.take i)≠0/\nl (s.take i)=(s.take i).length)↔(nl s≠0/\nl s=i):=by
 have hN:XA (61:UInt8)=false:=by decide
 have hL:isL (61:UInt8)=false:=by decide
 have len:(s.take i).length=i:=by simp;omega
 have cut: ∀p:UInt8->Bool,p 61=false->(((s.take i).takeWhile p).length=i↔(s.takeWhile p).length=i)/\((((s.take i).takeWhile p).length=0)↔((s.takeWhile p).length=0)):=by
  intro p hp;have hle:(s.takeWhile p).length<=i:=by
   by_cases c:(s.takeWhile p).length<=i
   ·exact c
   ·have:=FB p s i hi (by omega);rw[h61,hp]at this;cases this
  have e:((s.take i).takeWhile p).length=(s.takeWhile p).length:=by
   refine aJN p _ _ (by omega) (fun j hj h=> ?_) fun h=> ?_
   ·rw[List.getElem_take];exact FB p s j (by omega) h
   ·rw[List.getElem_take];exact zV p s (by omega)
  rw[e];exact⟨Iff.rfl,Iff.rfl⟩
 have c1:=cut XA hN;have c2:=cut isL hL;unfold nl Hg runN;rw[len];by_cases h:(s.takeWhile isL).length=0
 ·rw[if_pos h,if_pos (c2.2.2 h)]
 ·rw[if_neg h,if_neg (fun h'=>h (c2.2.1 h'))];constructor
  ·rintro ⟨a,b⟩;exact⟨fun h'=>a (c1.2.2 h'),c1.1.1 b⟩
  ·rintro ⟨a,b⟩;exact⟨fun h'=>a (c1.2.1 h'),c1.1.2 b⟩
theorem DW {s:List UInt8} (hs:s.length<1000000): ∀(N k:Nat),s.length-k<N->1<=k->k<=s.length->(jy s=true->k<=nl s)->
  ∃r,Gn N s (k:Int)=some r/\(jy s=true-> ∃n:Nat,r=.inr (((n:Int),()),())/\0<n)/\(jy s=false->r=.inl ((),()))
 |0,k,h,_,_,_=>by omega
 |N+1,k,h,hk1,hk,ha=>by
  rw[Gn,QY];by_cases h1:k<s.length
  ·have ea:bU .i64 (k:Int) 1=((k+1:Nat):Int):=by rw[bZ (by omega) (by omega)];rfl
   rw[bI (dZ (by rw[bF];omega)),bI (dN (by omega) (by omega)),byte_at h1,ea];have hg:s.getD k 0=s[k]:=by rw[List.getD_eq_getElem?_getD,List.getElem?_eq_getElem h1];rfl
   by_cases h2:s[k]=61
   ·rw[h2,show bJ ((61:UInt8).toNat:Int) 61=true from rfl];simp only[cond_true];rw[bI (fO (by omega) (by omega) (by rw[bF];omega)),aGL,xu (by simp;omega),bu];simp only;have hn:=avk h1 h2;by_cases h3:nl s≠0/\nl s=k
    ·rw[decide_eq_true (hn.2 h3)];refine⟨_,rfl,fun _=>⟨k,rfl,by omega⟩,fun hf=> ?_⟩;have:jy s=true:=by rw[jy,decide_eq_true ⟨h3.1,by omega⟩,h3.2,hg,decide_eq_true h2];rfl
     rw[this]at hf;cases hf
    ·rw[decide_eq_false (fun h'=>h3 (hn.1 h'))];refine DW hs N (k+1) (by omega) (by omega) (by omega) fun h'=> ?_;have h4:=ha h';unfold jy at h';simp only[af,decide_eq_true_eq]at h';omega
   ·rw[dL (fun h=>h2 (UInt8.toNat_inj.1 (by have:((61:UInt8).toNat:Int)=61:=rfl;omega)))];refine DW hs N (k+1) (by omega) (by omega) (by omega) fun h'=> ?_;have h4:=ha h';unfold jy at h';simp only[af,decide_eq_true_eq]at h';by_cases e:k=nl s
    ·subst e;rw[hg]at h';exact absurd h'.2 h2
    ·omega
  ·rw[dC (fV (by rw[bF];omega))];refine⟨_,rfl,fun h'=> ?_,fun _=>rfl⟩;have h4:=ha h';unfold jy at h';simp only[af,decide_eq_true_eq]at h';omega
theorem agj {s:List UInt8} (hs:s.length<1000000): ∃n:Int,ajN s=some (n,())/\gU 0 n=jy s/\bJ n 0= !jy s:=by
 rw[ajN];by_cases h0:s=[]
 ·subst h0;exact⟨0,rfl,rfl,rfl⟩
 have hp:0<s.length:=List.length_pos_iff.2 h0;obtain⟨r,h1,h2,h3⟩:=DW hs bH 1 (dB (by omega)) (by omega) (by omega) (fun h=>by
  unfold jy at h;simp only[af,decide_eq_true_eq]at h;omega)
 rw[show Gn bH s 1=_ from h1];cases ha:jy s with
 |true=>
  obtain⟨n,e,hn⟩:=h2 ha;subst e;exact⟨n,rfl,dZ (by omega),dL (by omega)⟩
 |false=>
  have e:=h3 ha;subst e;exact⟨0,rfl,rfl,rfl⟩
theorem ani {s:List UInt8} (hs:s.length<1000000):akb s=some (jy s,()):=by
 obtain⟨x,y,h⟩:=adl hs;rw[akb,h,bu]
end
section
open Bool renaming false_eq_true → ag, and_true → ax, not_true → ay, not_false → aB, true_and → aJ
open List renaming append_assoc → ah, length_append → ai, getElem_mem → aH
open Nat renaming le_refl → ae
open Go.RowKit
variable {F:List Lf} (hF:WU F)
include hF
omit hF in
theorem UD {a:Nat} {c:UInt8} (h:fF F a [c]=true):DR F a=c:=by
 simp_all [fF]
omit hF in
theorem Vg {a:Nat} {c:UInt8} (hc:c≠0) (h:DR F a=c):fF F a [c]=true:=by
 grind [Lp,fF]
def P5 (F:List Lf) (a:Nat) (u:Int):Nd:=if DL F a=true then(7,(a:Int),((a+1:Nat):Int),u,())else(18,(a:Int),(a:Int),u,())
omit hF in
theorem Jk (a:Nat) (l:List Nd) (u:Int):wdL F a l u=l++[P5 F a u]:=by grind [wdL,P5]
omit hF in
theorem aHw (a:Nat):a<=DU F a/\(a<=F.length->DU F a<=F.length):=by
 unfold DU;split
 ·grind [ZA]
 omega
omit hF in
theorem VU {a b c:Nat} {u:Int} {k:Nat} (h1:a<=c) (h2:DU F c<=b):Tr a b u k [P5 F c u]:=by
 unfold DU at h2;unfold P5;split at h2
 ·rename_i h;rw[if_pos h];exact .lf h1 h2 (by omega)
 ·rename_i h;rw[if_neg h];exact .mis h1 h2
theorem PG (a:Nat) (l:List Nd) (u d:Int) (ha:a<=F.length) (hl:l.length<100000000) (hd:0<=d) (hd2:d<1000000) (h:DN F a=true):
  ∃(a':Nat) (m:List Nd),Ar F (a:Int) l u d=some (PR F a' (l++m) u d,(true,()))/\adY F (iK F) l (a:Int) u d=some (RR F a' (l++m) u d,())/\a<a'/\a'<=F.length/\m.length=2/\Tr a a' u l.length m:=by
 have hFl:=hF.len;obtain⟨n1,_,_⟩:=kX l (opn 8 a u) (by omega);have hcl:(bG l [opn 8 a u]).length=l.length+1:=by unfold bG;simp
 obtain⟨b,hb1,hb2,hb3,hb4⟩: ∃b:Nat,a<b/\b<=F.length/\tk F (tk F a [35]) [60]=b/\(if fF F a [35]=true then a+2 else a+1)=b:=by
  cases h35:fF F a [35]with
  |true=>
   have h1:=UD h35;unfold DN at h;have h60:fF F a [60]=false:=by
    simp_all [fF]
   rw[h60,h35,Bool.false_or,aJ,decide_eq_true_eq]at h;have h2:=Vg (by decide) h;exact⟨a+2,by omega,gW h2,by grind [mY],by simp⟩
  |false=>
   unfold DN at h;rw[h35,Bool.false_and,Bool.or_false]at h;exact⟨a+1,by omega,gW h,by rw[xN h35,mY h],by simp⟩
 have htk:tk F a [35]<=F.length:=by
  grind [tk]
 obtain⟨w1,w2⟩:=aHw (F:=F) b;obtain⟨c1,c2⟩:=qm l [P5 F b (bC l)] (opn 8 a u);have hcat:bG l [opn 8 a u]=l++[(8,(a:Int),0,u,())]:=rfl;refine⟨DU F b,[(8,(a:Int),((DU F b:Nat):Int),u,()),P5 F b (bC l)], ?_, ?_,by omega,w2 hb2,rfl,Tr.one (VU (Nat.le_of_lt hb1) (ae _)) (ae _) (ae _) (by omega) rfl⟩
 ·rw[Ar,E9 hF a l u d (by omega),bu,h];simp only[ay,cond_false,dU,ax,cond_true,n1];rw[mr hF a _ _ d (by omega) [35] rfl,bu];simp only;rw[mr hF _ _ _ d (by omega) [60] rfl,bu,hb3];simp only;rw[VY b _ _ d (by omega) (by rw[hcl];omega),bu];simp only[Jk,c1,c2,cond_true,lI]
 ·rw[adY,lH a l u d (by omega) (by omega) (by omega) hd (by omega),bu];simp only[show jB 8=false from rfl,ag,if_false];rw[jd a _ _ d [35] (by simp),bu];simp only;have hend:bz (xm F (iK F) (l++[(8,(a:Int),0,u,())]) (b:Int) ((l.length:Nat):Int) d) (fun y2=>bz (o8 y2.1.1 y2.1.2.1 y2.1.2.2.1 y2.1.2.2.2.1 y2.1.2.2.2.2.1 y2.1.2.2.2.2.2.1 u) fun y3=>
    some ((y3.1.1,(y3.1.2.1,(y3.1.2.2.1,(y3.1.2.2.2.1,(y3.1.2.2.2.2.1,(y3.1.2.2.2.2.2.1,())))))),()))=some (RR F (DU F b) (l++[(8,(a:Int),((DU F b:Nat):Int),u,()),P5 F b (bC l)]) u d,()):=by
   rw[ade b _ _ d (by omega) (by grind) hd (by omega),bu];simp only[Jk];rw[uX (DU F b) _ u d l.length (by simp) (oD l _ 8 _ _) (by omega) (by omega) hd (by omega),bu];simp only[oq,show jB 8=false from rfl,ag,if_false];rfl
  cases h35:fF F a [35]with
  |true=>
   rw[h35,if_pos rfl]at hb4;simp only[cond_true]
   grind [bZ]
  |false=>
   rw[h35,if_neg (by simp)]at hb4;simp only[cond_false]
   grind [bZ]
theorem nX (a:Nat) (l:List Nd) (u d:Int) (ha:a<=F.length) (h:DN F a=false):Ar F (a:Int) l u d=some (PR F a l u d,(false,())):=by
 have hFl:=hF.len
 grind [Ar,E9,bu]
theorem Fa {q':iQ} (u d v:Int) (hd:0<=d/\d<=201): ∀(N a:Nat) (L:List Nd) (nm:Bool) (w:Int),F.length-a<N->a<=F.length->L.length<=16*a+1000->0<=w->w<=a->(nm=true↔w≠0)->
  ∃(a':Nat) (m:List Nd),Gs N nm F (a:Int) u d L=some (.inl ((),((),()),((F,(a':Int),u,d,()),L++m,())))/\
   AP q' N v w F (iK F) (a:Int) u d L=some (.inl ((v,()),((),()),((F,iK F,(a':Int),u,d,()),L++m,())))/\a<=a'/\a'<=F.length/\(m.length<=2*(a'-a)/\Tr a a' u L.length m)/\((DN F a||DL F a)=true->a<a')
 |0,a,L,nm,w,hN,_,_,_,_,_=>by omega
 |N+1,a,L,nm,w,hN,ha,hL,hw0,hwa,hnm=>by
  have hFl:=hF.len;rw[Gs,Q8,AP,Lu,zh a L u d (by omega),bu];simp only;cases hr:DN F a with
  |true=>
   obtain⟨a1,m1,e1,e2,e3,e4,e5⟩:=PG hF a L u d ha (by omega) hd.1 (by omega) hr;rw[e1,bu];simp only[cond_true];rw[e2,bu];simp only;obtain⟨a',m,f1,f2,f3,f4,f5,_⟩:=Fa u d v hd N a1 (L++m1) nm w (by omega) e4 (by grind) hw0 (by omega) hnm;exact⟨a',m1++m,by simp_all,by rw[f2,ah],by omega,f4,⟨by grind,e5.2.app f5.2 (ae _) (ai ..)⟩,fun _=>by omega⟩
  |false=>
   rw[nX hF a L u d ha hr,bu];simp only[cond_false];rw[Az a L u d,bu];simp only;cases hi:DL F a with
   |false=>
    refine⟨a,[],by simp, ?_,ae _,ha,⟨by simp,.nil (ae _)⟩,fun h=>by simp at h⟩;by_cases h:a<F.length
    ·have h6:F[a].1≠6:=by
      simp_all [DL]
     simp_all [dN,AC,dL]
    simp_all [fV,bF]
   |true=>
    have h:=ZA hi;have h6:F[a].1=6:=by
     simp_all [DL]
    have hin:fB F (a:Int)=true:=dN (by omega) (by omega);have hg:=hF.txt _ (aH h);obtain⟨y,y1,y2,y3⟩:=agj (s:=F[a].2.1) (by omega);simp only[ay,cond_false];rw[bI (dZ (by rw[bF];omega)),hin];simp only[cond_true,AC h,eH h6];rw[ani (by omega),bu,y1,bu];simp only[y2];have go: ∀(k:Int) (nm':Bool) (w':Int),k=6\/k=7->0<=w'->w'<=((a+1:Nat):Int)->(nm'=true↔w'≠0)-> ∃(a':Nat) (m:List Nd),
      Gs N nm' F ((a+1:Nat):Int) u d (L++[(k,(a:Int),((a+1:Nat):Int),u,())])=some (.inl ((),((),()),((F,(a':Int),u,d,()),L++m,())))/\
      AP q' N v w' F (iK F) ((a+1:Nat):Int) u d (L++[(k,(a:Int),((a+1:Nat):Int),u,())])=some (.inl ((v,()),((),()),((F,iK F,(a':Int),u,d,()),L++m,())))/\a<=a'/\a'<=F.length/\(m.length<=2*(a'-a)/\Tr a a' u L.length m)/\((false||true)=true->a<a'):=fun k nm' w' hk h1 h2 h3=>by
     obtain⟨a',m,f1,f2,f3,f4,f5,_⟩:=Fa u d v hd N (a+1) (L++[(k,(a:Int),((a+1:Nat):Int),u,())]) nm' w' (by omega) (by omega) (by grind) h1 h2 h3;exact⟨a',[(k,(a:Int),((a+1:Nat):Int),u,())]++m,by simp_all,by rw[f2,ah],by omega,f4,⟨by grind,(Tr.lf (ae _) (ae _) (by omega)).app f5.2 (ae _) (ai ..)⟩,fun _=>by omega⟩
    have hadd:bU .i64 w 1=w+1:=bZ (by omega) (by omega);have yes: ∀w',w'=w+1->(true=true↔w'≠0):=fun w' e=>⟨fun _=>by omega,fun _=>rfl⟩;have l6:=IV (F:=F) a L u d 6 (by omega) (by omega);have l7:=IV (F:=F) a L u d 7 (by omega) (by omega);have o6:=Pm (F:=F) a L u d (k:=6) (by omega) (by omega) rfl (by omega) (by omega) hd.1 (by omega);have o7:=Pm (F:=F) a L u d (k:=7) (by omega) (by omega) rfl (by omega) (by omega) hd.1 (by omega);by_cases hw:w=0
    ·have hnf:nm=false:=by
      simp_all
     subst hnf;rw[eH hw];simp only[aB,cond_true];cases jy F[a].2.1 with
     |true=>
      simp only[cond_true];rw[l6,o6,bu,bu];exact go 6 false w (.inl rfl) hw0 (by omega) ⟨fun h=>(by cases h),fun h=>absurd hw h⟩
     |false=>
      simp only[cond_false];rw[l7,o7,bu,bu];simp only[hadd];exact go 7 true (w+1) (.inr rfl) (by omega) (by omega) (yes _ rfl)
    ·have hnt:nm=true:=hnm.2 hw;subst hnt;rw[dL hw];simp only[ay,cond_false];rw[l7,o7,bu,bu];simp only[hadd];exact go 7 true (w+1) (.inr rfl) (by omega) (by omega) (yes _ rfl)
end
section
open Bool renaming and_eq_true → af, true_and → aJ
open List renaming append_assoc → ah, getElem_mem → aH
open Nat renaming le_refl → ae
open Go.RowKit
variable {F:List Lf} (hF:WU F)
include hF
def fnB (F:List Lf) (a:Nat) (d:Int):Bool:=fF F a [120]&&(decide (DR F (a+1)=40)&&(decide (d<200)&&(if h:a<F.length then decide (nl F[a].2.1≠0/\nl F[a].2.1=F[a].2.1.length)else false)))
omit hF in
theorem aiL (a:Nat) (c:UInt8):bJ ((DR F a).toNat:Int) (c.toNat:Int)=decide (DR F a=c):=by
 rw[gY,decide_eq_decide]
 grind [UInt8.toNat_inj]
theorem aha (a:Nat) (l:List Nd) (u d:Int) (ha:a<=F.length):aj1 F (a:Int) l u d=some (PR F a l u d,(fnB F a d,())):=by
 have hFl:=hF.len;rw[aj1,oJ hF a l u d (by omega),bu];simp only;rw[show bJ ((DR F a).toNat:Int) 120=fF F a [120] from Yh a 120 (by decide)];unfold fnB;cases hx:fF F a [120]with
 |false=>rfl
 |true=>
  have h:=gW hx;simp only[cond_true,aJ];rw[amK hF a l u d (by omega),bu];simp only;rw[show bJ ((DR F (a+1)).toNat:Int) 40=decide (DR F (a+1)=40) from aiL (a+1) 40];cases decide (DR F (a+1)=40)with
  |false=>rfl
  |true=>
   simp only[cond_true,aJ];by_cases hd:d<200
   ·rw[bI (dZ hd),bI (dN (by omega) (by omega)),AC h,OY (by have:=hF.txt _ (aH h);omega),bu,dif_pos h,decide_eq_true hd,aJ]
   simp_all [fV,decide_eq_false]
omit hF in
theorem Ip (a:Nat) (o:bM):a<=qg F a o/\(a<=F.length->qg F a o<=F.length):=by
 unfold qg tk;split
 ·grind [gW]
 omega
def uO (F:List Lf) (a:Nat) (o:bM) (u:Int):List Nd:=if fF F a o=true then []else [(18,(a:Int),(a:Int),u,())]
omit hF in
theorem lS (a:Nat) (o:bM) (l:List Nd) (u:Int):wnL F a o l u=l++uO F a o u:=by
 grind [wnL,uO]
omit hF in
theorem xP {a b c:Nat} {o:List UInt8} {u:Int} {k:Nat} (h1:a<=c) (h2:c<=b):Tr a b u k (uO F c o u):=by
 unfold uO;split
 ·exact .nil (by omega)
 ·exact .mis h1 h2
omit hF in
theorem uh (a:Nat) (o:bM) (u:Int):(uO F a o u).length<=1:=by grind [uO]
theorem ant {n:Nat} (h:All F n) (h1:All F (n-1)) (a:Nat) (l:List Nd) (u d:Int) (q q':Nat) (hm:16*(F.length-a)+9<n+1) (hq:n<=q) (hq':n<=q') (hp:Jo F a l d 113) (hb:fnB F a d=true):
  ∃(a':Nat) (m:List Nd),(gB q).q226 F (a:Int) (bG l [opn 16 a u]) (bC l) (d+1)=some (PR F a' (bG l [opn 16 a u]++m) (bC l) (d+1),())/\
   (bz (DK F (iK F) l (a:Int) u d 16) fun y4=>
    bz (MM y4.1.1 y4.1.2.1 y4.1.2.2.1 y4.1.2.2.2.1 y4.1.2.2.2.2.1 y4.1.2.2.2.2.2.1 7) fun y5=>
     bz (mF y5.1.1 y5.1.2.1 y5.1.2.2.1 (bU .i64 y5.1.2.2.2.1 1) y5.1.2.2.2.2.1 y5.1.2.2.2.2.2.1 [41]) fun y6=>
      bz (rV y6.1.1 y6.1.2.1 y6.1.2.2.1 y6.1.2.2.2.1 y6.1.2.2.2.2.1 y6.1.2.2.2.2.2.1) fun y7=>
       bz (Tv y7.1.1 y7.1.2.1 y7.1.2.2.1 y7.1.2.2.2.1 y7.1.2.2.2.2.1 y7.1.2.2.2.2.2.1) fun y8=>
        bif y8.2.1 then
         bz ((gK q').q163 y8.1.1 y8.1.2.1 y8.1.2.2.1 y8.1.2.2.2.1 y8.1.2.2.2.2.1 y8.1.2.2.2.2.2.1) fun y9=>
          bz (o8 y9.1.1 y9.1.2.1 y9.1.2.2.1 y9.1.2.2.2.1 y9.1.2.2.2.2.1 y9.1.2.2.2.2.2.1 y4.2.1) fun y10=>
           some ((y10.1.1,(y10.1.2.1,(y10.1.2.2.1,(y10.1.2.2.2.1,(y10.1.2.2.2.2.1,(y10.1.2.2.2.2.2.1,())))))),())
        else
        bz (uA y8.1.1 y8.1.2.1 y8.1.2.2.1 y8.1.2.2.2.1 y8.1.2.2.2.2.1 y8.1.2.2.2.2.2.1) fun y9=>
         bz (o8 y9.1.1 y9.1.2.1 y9.1.2.2.1 y9.1.2.2.2.1 y9.1.2.2.2.2.1 y9.1.2.2.2.2.2.1 y4.2.1) fun y10=>
          some ((y10.1.1,(y10.1.2.1,(y10.1.2.2.1,(y10.1.2.2.2.1,(y10.1.2.2.2.2.1,(y10.1.2.2.2.2.2.1,())))))),()))=some (RR F a' (l++(16,(a:Int),(a':Int),u,())::m) u d,())/\a<a'/\a'<=F.length/\m.length+4<=16*(a'-a)/\Tr a a' (bC l) (l.length+1) m:=by
 obtain⟨p1,p2,p3,p4⟩:=hp;have hFl:=hF.len;unfold fnB at hb;simp only[af,decide_eq_true_eq]at hb;obtain⟨b1,b2,b3,_⟩:=hb;have hlt:=gW b1;have hx:DL F a=true:=by
  unfold DL;rw[dif_pos hlt];have h1:=UD b1;rw[acn hlt]at h1;exact decide_eq_true (aCG (hF.txt _ (aH hlt)) h1)
 have h40:=Vg (F:=F) (a:=a+1) (c:=40) (by decide) b2;have hlt2:=gW h40;obtain⟨q1,rfl⟩: ∃q1,q=q1+1:=⟨q-1,by omega⟩;have hcat:bG l [opn 16 a u]=l++[(16,(a:Int),0,u,())]:=rfl;have hcl:(bG l [opn 16 a u]).length=l.length+1:=by unfold bG;simp
 have hw1:=Ip (F:=F) (a+2) [41];have hw2:=hw1.2 (by omega);have hwm:=uh (F:=F) (a+2) [41] (bC l);have hge:=xA (F:=F) (qg F (a+2) [41]);have hle:=yF (F:=F) hw2;have hend: ∀(a':Nat) (m:List Nd),bz (o8 F (iK F) ((l++[(16,(a:Int),0,u,())])++m) (a':Int) ((l.length:Nat):Int) (d+1) u) (fun y10=>some ((y10.1.1,(y10.1.2.1,(y10.1.2.2.1,(y10.1.2.2.2.1,(y10.1.2.2.2.2.1,(y10.1.2.2.2.2.2.1,())))))),()))=some (RR F a' (l++(16,(a:Int),(a':Int),u,())::m) u d,()):=fun a' m=>by
  rw[uX a' _ u (d+1) l.length (by simp) (oD l _ 16 _ _) (by omega) (by omega) (by omega) (by omega),bu];simp only[oq,show jB 16=true from rfl,if_true,show d+1-1=d by omega]
 have hcmp: ∃(a':Nat) (m:List Nd),(bif IC F (ln F (qg F (a+2) [41])) (d+1)then
    (gB q1).q223 F ((ln F (qg F (a+2) [41]):Nat):Int) ((bG l [opn 16 a u]++[(7,(a:Int),((a+1:Nat):Int),bC l,())])++uO F (a+2) [41] (bC l)) (bC l) (d+1)
   else yx F ((ln F (qg F (a+2) [41]):Nat):Int) ((bG l [opn 16 a u]++[(7,(a:Int),((a+1:Nat):Int),bC l,())])++uO F (a+2) [41] (bC l)) (bC l) (d+1))=some (PR F a' (((bG l [opn 16 a u]++[(7,(a:Int),((a+1:Nat):Int),bC l,())])++uO F (a+2) [41] (bC l))++m) (bC l) (d+1),())/\
   (bif IC F (ln F (qg F (a+2) [41])) (d+1)then
    (gK q').q163 F (iK F) ((bG l [opn 16 a u]++[(7,(a:Int),((a+1:Nat):Int),bC l,())])++uO F (a+2) [41] (bC l)) ((ln F (qg F (a+2) [41]):Nat):Int) (bC l) (d+1)
   else uA F (iK F) ((bG l [opn 16 a u]++[(7,(a:Int),((a+1:Nat):Int),bC l,())])++uO F (a+2) [41] (bC l)) ((ln F (qg F (a+2) [41]):Nat):Int) (bC l) (d+1))=some (RR F a' (((bG l [opn 16 a u]++[(7,(a:Int),((a+1:Nat):Int),bC l,())])++uO F (a+2) [41] (bC l))++m) (bC l) (d+1),())/\ln F (qg F (a+2) [41])<=a'/\a'<=F.length/\m.length<=16*(a'-ln F (qg F (a+2) [41]))+1/\Tr (ln F (qg F (a+2) [41])) a' (bC l) ((bG l [opn 16 a u]++[(7,(a:Int),((a+1:Nat):Int),bC l,())])++uO F (a+2) [41] (bC l)).length m:=by
  have hlen:((bG l [opn 16 a u]++[(7,(a:Int),((a+1:Nat):Int),bC l,())])++uO F (a+2) [41] (bC l)).length<=l.length+3:=by
   simp_all
  cases hc:IC F (ln F (qg F (a+2) [41])) (d+1)with
  |true=>
   obtain⟨a',m,e1,e2,e3,e4,e5⟩:=h1.compound (ln F (qg F (a+2) [41])) ((bG l [opn 16 a u]++[(7,(a:Int),((a+1:Nat):Int),bC l,())])++uO F (a+2) [41] (bC l)) (bC l) (d+1) q1 q' (by omega) (by omega) (by omega) ⟨hle,by omega,by omega,by omega⟩ hc
   grind
  |false=>
   refine⟨ln F (qg F (a+2) [41]),[(18,((ln F (qg F (a+2) [41]):Nat):Int),((ln F (qg F (a+2) [41]):Nat):Int),bC l,())], ?_, ?_,ae _,hle,by simp,.mis (ae _) (ae _)⟩
   ·rw[cond_false,mO _ ((bG l [opn 16 a u]++[(7,(a:Int),((a+1:Nat):Int),bC l,())])++uO F (a+2) [41] (bC l)) _ _ (by omega)]
   ·rw[cond_false,xC _ ((bG l [opn 16 a u]++[(7,(a:Int),((a+1:Nat):Int),bC l,())])++uO F (a+2) [41] (bC l)) _ _ (by omega) (by omega) (by omega)]
 obtain⟨a',m,e1,e2,e3,e4,e5⟩:=hcmp;refine⟨a',[(7,(a:Int),((a+1:Nat):Int),bC l,())]++uO F (a+2) [41] (bC l)++m, ?_, ?_,by omega,e4,by grind,((Tr.lf (ae a) (ae _) (by omega)).app (xP (a:=a+1) (by omega) hw1.1) (ae _) rfl).app e5.2 hge (by grind)⟩
 ·show asX (gB q1) F (a:Int) _ _ _=_;rw[asX,VY a _ _ _ (by omega) (by rw[hcl];omega),bu];simp only[wdL,DU,hx,if_true];rw[mr hF (a+1) _ _ _ (by omega) [40] rfl,mY h40,bu];simp only;rw[show a+1+1=a+2 from rfl,zW hF (a+2) _ _ _ (by omega) (by grind) [41] rfl,bu];simp only[lS];rw[nz hF _ _ _ _ hw2,bu];simp only;rw[D5 hF _ _ _ _ (by omega),bu];simp only;cases hc:IC F (ln F (qg F (a+2) [41])) (d+1)with
  |true=>
   simp_all [bu]
  |false=>
   simp_all [bu]
 ·rw[lH a l u d (by omega) (by omega) (by omega) p3 (by omega),bu];simp only[show jB 16=true from rfl,if_true];rw[Pm a _ _ _ (k:=7) (by omega) (by omega) rfl (by omega) (by grind) (by omega) (by omega),bu];simp only;rw[bZ (by omega) (by omega),show((a+1:Nat):Int)+1=((a+2:Nat):Int) by omega,zX (a+2) _ _ _ (by omega) (by grind) (by omega) (by omega) [41] (by simp),bu];simp only[lS];rw[lZ hF _ _ _ _ hw2,bu];simp only;rw[wV,bu];simp only;rw[hcat]at e2;rw[show((l.length:Nat):Int)=bC l from rfl];cases hc:IC F (ln F (qg F (a+2) [41])) (d+1)with
  |true=>
   rw[hc,cond_true]at e2;rw[cond_true,e2,bu];simp only;rw[ah,ah,show bC l=((l.length:Nat):Int) from rfl,hend];rfl
  |false=>
   rw[hc,cond_false]at e2;rw[cond_false,e2,bu];simp only;rw[ah,ah,show bC l=((l.length:Nat):Int) from rfl,hend];rfl
end
end Go.Proofs.YtldbkoijjlaaeaaGreatDoor
