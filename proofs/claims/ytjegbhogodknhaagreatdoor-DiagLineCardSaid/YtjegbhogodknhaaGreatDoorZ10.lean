/- Parts of the proof, joined and shortened by a program: the plain machine, the functions as it prints them, and the mathematics over them. -/
import Derived.Test.YtjegbhogodknhaaGreatDoorZ4
import Derived.Test.YtjegbhogodknhaaGreatDoorZ5
import Derived.Test.YtjegbhogodknhaaGreatDoorZ8
set_option linter.unusedVariables false
set_option linter.unusedSimpArgs false
set_option maxRecDepth 100000
set_option maxHeartbeats 4000000
namespace Go.Proofs.YtjegbhogodknhaaGreatDoor
section
open List renaming length_map → aJ, length_drop → aP
open Nat renaming le_trans → aK
open Go.RowKit
theorem yF {s:List UInt8} (d:s.length<=10000):yT (eH s (gQ s).1):=by
 refine⟨?_,fun f e=> ?_⟩
 .have h:=(Ee d).2.2;unfold eH;rw[aJ];exact aK (List.length_filter_le _ _) (aK h d)
 .unfold eH at e;obtain⟨t,_,rfl⟩:=List.mem_map.1 e;refine aK ?_ d;unfold qf sub;simp only[List.length_take,aP];omega
theorem aDG {s:List UInt8} (d:s.length<=10000): ∃l,TZ (eH s (gQ s).1)=some (l,())/\aw1 (eH s (gQ s).1)=some (l,())/\l.length<=16*(eH s (gQ s).1).length+1/\ ∃m,l=(1,0,((eH s (gQ s).1).length:Int),-1,())::m/\Tr (eH s (gQ s).1) 0 (eH s (gQ s).1).length 0 1 m:=
 atD (yF d)
end
section
open List renaming map_cons → ay, mem_cons_of_mem → aB, getElem_mem → aI, mem_cons_self → aU, map_append → aZ, mem_append_right → bH, mem_append_left → bJ
open Nat renaming lt_or_ge → ak
open Go.RowKit
theorem aDW {x y:Lf} (hl:x.2.1.length<=10000) (e:x.1=y.1) (h2:x.2.1=y.2.1):sgn x=sgn y:=by
 have g:=(ab7 (f:=x) hl).1;have i:=(ab7 (f:=y) (by rw[<-h2];exact hl)).1;have d:FI x=FI y:=by rw[FI,FI,e,h2]
 rw[g,i]at d;injection d with d
 injection d with d _
 exact UInt8.toNat_inj.1 (by omega)
structure Cf (E:Prop) (F G:List Lf) (s:Nat):Prop where
 f:yT F
 g:yT G
 at_: ∀(p:Nat) (h:p<F.length),∃h2:p+s<G.length,G[p+s].1=F[p].1/\G[p+s].2.1=F[p].2.1
 end_:E->qo G (F.length+s)=0\/qo G (F.length+s)=110
 nw:E->qX G (F.length+s)=false
 lst: ∀p,p+1=F.length->qo F p≠110->E
 le:F.length+s<=G.length
section
variable {E:Prop} {F G:List Lf} {s:Nat} (h:Cf E F G s)
include h
theorem Cf.sg {p:Nat} (hp:p<F.length):qo G (p+s)=qo F p:=by
 obtain⟨d,e,g⟩:=h.at_ p hp;rw[BX hp,BX d,<-aDW (by have:=h.f.txt _ (aI hp);omega) e.symm g.symm]
theorem Cf.nxt {p:Nat} (hp:p<F.length) (e:qo F p≠110):p+1<F.length\/E:=by
 rcases ak (p+1) F.length with d|d
 .exact .inl d
 .exact .inr (h.lst p (by omega) e)
theorem Cf.nx {p:Nat} (hp:p<=F.length) (f:p<F.length\/E) {o:List UInt8} (g:o.contains 110=false) (i:o.contains 0=false):dW G (p+s) o=dW F p o:=by
 unfold dW;rcases ak p F.length with d|m
 .obtain⟨j,e⟩:=h.at_ p d;rw[h.sg d,decide_eq_true d,decide_eq_true j]
 .have l:p=F.length:=by omega
  rw[decide_eq_false (show ¬p<F.length by omega),Bool.false_and,l];rcases h.end_ (f.resolve_left (by omega))with e|e
  .rw[e,i,Bool.and_false]
  .rw[e,g,Bool.and_false]
theorem Cf.n1 {p:Nat} (hp:p<F.length) (o:List UInt8):dW G (p+s) o=dW F p o:=by
 unfold dW;obtain⟨d,e⟩:=h.at_ p hp;rw[h.sg hp,decide_eq_true hp,decide_eq_true d]
theorem Cf.sg1 {p:Nat} (hp:p<=F.length) (f:p<F.length\/E) {c:UInt8} (g:c≠110) (d:c≠0):decide (qo G (p+s)=c)=decide (qo F p=c):=by
 rcases ak p F.length with i|j
 .rw[h.sg i]
 .have l:p=F.length:=by omega
  rw[AQ (F:=F) j,l,decide_eq_false (show ¬(0:UInt8)=c from fun e=>d e.symm),decide_eq_false];rcases h.end_ (f.resolve_left (by omega))with e|e
  .rw[e];exact fun e=>d e.symm
  .rw[e];exact fun e=>g e.symm
theorem Cf.red {p:Nat} (hp:p<=F.length) (d:p<F.length\/E):lT G (p+s)=lT F p:=by
 unfold lT;rw[h.nx hp d (by decide) (by decide),h.nx hp d (by decide) (by decide)];cases h35:dW F p [35]with
 |false=>rfl
 |true=>
  have:=eQ h35;have e:=h.sg1 (p:=p+1) (by omega) (h.nxt this (by rw[rY h35];decide)) (c:=60) (by decide) (by decide);rw[show p+1+s=p+s+1 by omega]at e;rw[e]
theorem Cf.cmp {p:Nat} (hp:p<=F.length) (e:p<F.length\/E) (d:Int):oH G (p+s) d=oH F p d:=by
 unfold oH;rw[h.nx hp e (by decide) (by decide)]
theorem Cf.cmd {p:Nat} (hp:p<=F.length) (e:p<F.length\/E) (d:Int):uG G (p+s) d=uG F p d:=by
 unfold uG;rw[h.nx hp e (by decide) (by decide),h.red hp e,h.cmp hp e]
theorem Cf.pip {p:Nat} (hp:p<=F.length) (e:p<F.length\/E) (d:Int):ji G (p+s) d=ji F p d:=by
 unfold ji;rw[h.nx hp e (by decide) (by decide),h.cmd hp e]
theorem Cf.isw {p:Nat} (hp:p<=F.length) (f:p<F.length\/E):qX G (p+s)=qX F p:=by
 rcases ak p F.length with d|j
 .obtain⟨g,e⟩:=h.at_ p d;unfold qX;rw[dif_pos d,dif_pos g,e.1]
 .have i:p=F.length:=by omega
  subst i;rw[h.nw (f.resolve_left (by omega))];unfold qX;rw[dif_neg (by omega)]
theorem Cf.fnb {p:Nat} (hp:p<=F.length) (i:p<F.length\/E) (d:Int):QV G (p+s) d=QV F p d:=by
 unfold QV;rw[h.nx hp i (by decide) (by decide)];cases hx:dW F p [120]with
 |false=>rfl
 |true=>
  have f:=eQ hx;obtain⟨j,e⟩:=h.at_ p f;have g:=h.sg1 (p:=p+1) (by omega) (h.nxt f (by rw[rY hx];decide)) (c:=40) (by decide) (by decide);rw[show p+1+s=p+s+1 by omega]at g;rw[g,dif_pos f,dif_pos j,e.2]
theorem Cf.ln_ {p:Nat}: ∀(n p:Nat),F.length-p<n->p<=F.length->ln F p<F.length->ln G (p+s)=ln F p+s
 |0,_,f,_,_=>by omega
 |n+1,p,f,i,d=>by
  rw[mY (F:=F)]at d;rw[mY (F:=G),mY (F:=F)];have e:p<F.length:=by
   rcases ak p F.length with e|j
   .exact e
   .have g:dW F p [110]=false:=by
     cases hb:dW F p [110]with
     |false=>rfl
     |true=>have:=eQ hb;omega
    rw[g,aq (by simp)]at d;omega
  rw[h.n1 e];cases hb:dW F p [110]with
  |false=>simp
  |true=>
   rw[hb,am rfl]at d;have:=Cf.ln_ (p:=p) n (p+1) (by omega) (by omega) d;rw[show p+1+s=p+s+1 by omega]at this;simpa using this
theorem Cf.lns {p:Nat} (hp:p<=F.length) (hl:ln F p<F.length):ln G (p+s)=ln F p+s:=Cf.ln_ h (p:=p) _ p (Nat.lt_succ_self _) hp hl
theorem Cf.tks {p:Nat} (hp:p<=F.length) (d:p<F.length\/E) {o:List UInt8} (e:o.contains 110=false) (f:o.contains 0=false):tk G (p+s) o=tk F p o+s:=by
 unfold tk;rw[h.nx hp d e f];split<;>omega
end
def KK (d m:List Nd):Prop:=d.map (·.1)=m.map (·.1)
def wo (m:List Nd):Prop:= ∀n∈m,n.1≠17/\n.1≠18
theorem KK.app {a b c d:List Nd} (h:KK a b) (h2:KK c d):KK (a++c) (b++d):=by unfold KK at*;rw[aZ,aZ,h,h2]
theorem KK.cons {k:Int} {x y:Int×Int×Int×Unit} {c d:List Nd} (h2:KK c d):KK ((k,x)::c) ((k,y)::d):=by unfold KK at*;rw[ay,ay,h2]
theorem KK.nil:KK [] []:=rfl
theorem KK.one {k:Int} {x y:Int×Int×Int×Unit}:KK [(k,x)] [(k,y)]:=rfl
theorem KK.len {a b:List Nd} (h:KK a b):a.length=b.length:=by
 have:=congrArg List.length h;simpa using this
theorem KK.cln {a b:List Nd} (h:KK a b) (hb:wo b):wo a:=fun n d=>by
 have:n.1∈b.map (·.1):=by rw[<-h];exact List.mem_map_of_mem d
 obtain⟨x,f,e⟩:=List.mem_map.1 this;have:=hb x f;rw[<-e];exact this
theorem wo.l {a b:List Nd} (h:wo (a++b)):wo a:=fun n d=>h n (bJ _ d)
theorem wo.r {a b:List Nd} (h:wo (a++b)):wo b:=fun n d=>h n (bH _ d)
theorem wo.t {x:Nd} {b:List Nd} (h:wo (x::b)):wo b:=fun n d=>h n (aB _ d)
theorem wo.no {x:Nd} {b:List Nd} (h:wo (x::b)):x.1≠17/\x.1≠18:=h x (aU ..)
end
section
open Bool renaming and_eq_true → ah, and_true → aj, not_true → au, not_false → aF, true_and → aS, false_or → bg, or_eq_true → bi
open List renaming append_assoc → ag, getElem_mem → aI
open Nat renaming le_refl → af
open Go.RowKit
def Cq (E:Prop) (F:List Lf) (a:Nat) (m:List Nd):Prop:=a<F.length\/(E/\wo m)
theorem Cq.at {E:Prop} {F:List Lf} {a b:Nat} {m:List Nd} (h:Cq E F b m) (d:a<=b):a<F.length\/E:=by
 rcases h with h|h
 .exact .inl (by omega)
 .exact .inr h.1
theorem abW {F:List Lf} {a:Nat} (h:lT F a=true):a<F.length:=by
 unfold lT at h;rw[bi,ah]at h;rcases h with h|h
 .exact eQ h
 .exact eQ h.1
theorem atT (F:List Lf):lT F F.length=false:=by
 cases hb:lT F F.length with
 |false=>rfl
 |true=>have:=abW hb;omega
theorem MO {F:List Lf} (hF:yT F) (a:Nat) (l:List Nd) (u d:Int) (z:a<=F.length) (hl:l.length<100000000) (e:lT F a=true):
  ∃b:Nat,b=tk F a [35]+1/\a<b/\b<=F.length/\qo F (b-1)≠110/\ui F (a:Int) l u d=some (PR F (uF F b) (l++[(8,(a:Int),((uF F b:Nat):Int),u,()),Bd F b (bV l)]) u d,(true,())):=by
 have A:=hF.len;obtain⟨n1,_,_⟩:=iJ l (opn 8 a u) (by omega);have g:(bZ l [opn 8 a u]).length=l.length+1:=by unfold bZ;simp
 obtain⟨b,i,j,m,p,q⟩: ∃b:Nat,b=tk F a [35]+1/\a<b/\b<=F.length/\qo F (b-1)≠110/\tk F (tk F a [35]) [60]=b:=by
  cases h35:dW F a [35]with
  |true=>
   have B:=rY h35;unfold lT at e;have v:dW F a [60]=false:=by
    simp_all [dW]
   rw[v,h35,bg,aS,decide_eq_true_eq]at e;have f:=zI (by decide) e;exact⟨a+2,by rw[iR h35],by omega,eQ f,by rw[show a+2-1=a+1 from rfl,rY f];decide,by rw[iR h35,iR f]⟩
  |false=>
   unfold lT at e;rw[h35,Bool.false_and,Bool.or_false]at e;exact⟨a+1,by rw[jR h35],by omega,eQ e,by rw[show a+1-1=a from rfl,rY e];decide,by rw[jR h35,iR e]⟩
 refine⟨b,i,j,m,p, ?_⟩;have D:tk F a [35]<=F.length:=by omega
 obtain⟨x,y⟩:=jC l [Bd F b (bV l)] (opn 8 a u);rw[ui,AO hF a l u d (by omega),bT,e];simp only[au,ac,eU,aj,aa,n1];rw[iF hF a _ _ d (by omega) [35] rfl,bT];simp only;rw[iF hF _ _ _ d (by omega) [60] rfl,bT,q];simp only;rw[zT b _ _ d (by omega) (by rw[g];omega),bT];simp only[xm,x,y,aa,iI]
section
variable {E:Prop} {F G:List Lf} {s:Nat} (h:Cf E F G s)
include h
theorem qL (a:Nat) (l:List Nd) (u d:Int) (e:List Nd) (u':Int) (i:a<=F.length) (hl:l.length<100000000) (A:e.length<100000000) (j:lT F a=true):
  ∃(q:Nat) (m v:List Nd),ui F (a:Int) l u d=some (PR F q (l++m) u d,(true,()))/\a<q/\q<=F.length/\m.length=2/\v.length=m.length/\
   (Cq E F q m->ui G ((a+s:Nat):Int) e u' d=some (PR G (q+s) (e++v) u' d,(true,()))/\KK v m):=by
 have N:=h.f.len;have O:=h.g.len;have S:=h.le;have one: ∀{F:List Lf} (hF:yT F) (a:Nat) (l:List Nd) (u:Int),a<=F.length->l.length<100000000->lT F a=true->
   ∃b:Nat,b=tk F a [35]+1/\a<b/\b<=F.length/\qo F (b-1)≠110/\ui F (a:Int) l u d=some (PR F (uF F b) (l++[(8,(a:Int),((uF F b:Nat):Int),u,()),Bd F b (bV l)]) u d,(true,())):=fun hF a l u i hl j=>MO hF a l u d i hl j
 have y:=abW j;obtain⟨b,b0,U,x,B,D⟩:=one h.f a l u i hl j;obtain⟨c,I,V,W,_,J⟩:=one h.g (a+s) e u' (by omega) A (by rw[h.red i (.inl y)];exact j);have z:b<F.length\/E:=by
  have:=h.nxt (p:=b-1) (by omega) B;rwa [show b-1+1=b by omega]at this
 obtain⟨X,K⟩:=Wl (F:=F) b;have L:c=b+s:=by
  rw[I,b0,h.tks i (.inl y) (by decide) (by decide)];omega
 subst L;refine⟨uF F b,_,[(8,((a+s:Nat):Int),((uF G (b+s):Nat):Int),u',()),Bd G (b+s) (bV e)],D,by omega,K x,rfl,rfl,fun _=> ?_⟩;have M:uF G (b+s)=uF F b+s:=by
  unfold uF;rw[h.isw x z];split<;>omega
 refine⟨by rw[J,M], ?_⟩;unfold Bd;rw[h.isw x z];split<;>exact KK.cons KK.one
theorem O5 (u d u':Int): ∀(N v a:Nat) (L L':List Nd) (p:Bool),F.length-a<N->F.length-a<v->a<=F.length->L.length<=16*a+1000->L'.length<=16*(a+s)+1000->
  ∃(i:Nat) (m j:List Nd),oD N p F (a:Int) u d L=some (.inl ((),((),()),((F,(i:Int),u,d,()),L++m,())))/\a<=i/\i<=F.length/\m.length<=2*(i-a)/\j.length=m.length/\
   (Cq E F i m->oD v p G ((a+s:Nat):Int) u' d L'=some (.inl ((),((),()),((G,((i+s:Nat):Int),u',d,()),L'++j,())))/\KK j m)
 |0,_,a,L,L',p,M,_,_,_,_=>by omega
 |_+1,0,a,L,L',p,_,M,_,_,_=>by omega
 |N+1,v+1,a,L,L',p,M,ak,q,hL,al=>by
  have an:=h.f.len;have ao:=h.g.len;have av:=h.le;rw[oD,EO];by_cases hE:a<F.length\/E
  case neg=>
   have U:a=F.length:=by omega
   subst U;have V:qX F F.length=false:=by unfold qX;rw[dif_neg (by omega)]
   rw[gp h.f _ L u d q (atT F),bT];simp only[ac];rw[ku _ L u d,bT];simp only;rw[V];exact⟨F.length,[],[],by simp,af _,q,by simp,rfl,fun e=>absurd (e.at (af _)) hE⟩
  rw[oD,EO];cases hr:lT F a with
  |true=>
   obtain⟨O,y,S,W,e2,X,e4,e6,Y⟩:=qL h a L u d L' u' q (by omega) (by omega) hr;obtain⟨i,m,j,z,Z,A,f4,f6,B⟩:=O5 u d u' N v O (L++y) (L'++S) p (by omega) (by omega) X (by grind) (by grind);rw[W,bT];simp only[aa];refine⟨i,y++m,S++j,by rw[z,ag],by omega,A,by grind,by grind,fun e=> ?_⟩;have ab:Cq E F O y:=by
    rcases e with e|e
    .exact .inl (by omega)
    .exact .inr ⟨e.1,e.2.l⟩
   have D:Cq E F i m:=by
    rcases e with e|e
    .exact .inl e
    .exact .inr ⟨e.1,e.2.r⟩
   obtain⟨g1,g2⟩:=Y ab;obtain⟨k1,k2⟩:=B D;rw[g1,bT];simp only[aa];exact⟨by rw[k1,ag],g2.app k2⟩
  |false=>
   have ad:lT G (a+s)=false:=by rw[h.red q hE];exact hr
   rw[gp h.f a L u d q hr,bT,gp h.g (a+s) L' u' d (by omega) ad,bT];simp only[ac];rw[ku a L u d,bT,ku (a+s) L' u' d,bT];simp only;rw[h.isw q hE];cases hi:qX F a with
   |false=>exact⟨a,[],[],by simp,af _,q,by simp,rfl,fun _=>⟨by simp,KK.nil⟩⟩
   |true=>
    have I:=Uk hi;obtain⟨h2,he⟩:=h.at_ a I;have ae:iy F (a:Int)=true:=fD;have ai:iy G ((a+s:Nat):Int)=true:=fD;have hg:=h.f.txt _ (aI I);have J:=fun k=>qG (F:=F) a L u d k (by omega) (by omega);have K:=fun k=>qG (F:=G) (a+s) L' u' d k (by omega) (by omega);have go: ∀(k:Int) (x:Bool),∃(i:Nat) (m j:List Nd),
      oD N x F ((a+1:Nat):Int) u d (L++[(k,(a:Int),((a+1:Nat):Int),u,())])=some (.inl ((),((),()),((F,(i:Int),u,d,()),L++m,())))/\a<=i/\i<=F.length/\m.length<=2*(i-a)/\j.length=m.length/\
      (Cq E F i m->oD v x G ((a+s+1:Nat):Int) u' d (L'++[(k,((a+s:Nat):Int),((a+s+1:Nat):Int),u',())])=some (.inl ((),((),()),((G,((i+s:Nat):Int),u',d,()),L'++j,())))/\KK j m):=fun k x=>by
     obtain⟨i,m,j,z,Z,A,f4,f6,B⟩:=O5 u d u' N v (a+1) (L++[(k,(a:Int),((a+1:Nat):Int),u,())]) (L'++[(k,((a+s:Nat):Int),((a+s+1:Nat):Int),u',())]) x (by omega) (by omega) (by omega) (by grind) (by simp;omega);refine⟨i,[(k,(a:Int),((a+1:Nat):Int),u,())]++m,[(k,((a+s:Nat):Int),((a+s+1:Nat):Int),u',())]++j,by rw[z,ag],by omega,A,by grind,by grind,fun e=> ?_⟩;have D:Cq E F i m:=by
      rcases e with e|e
      .exact .inl e
      .exact .inr ⟨e.1,e.2.r⟩
     obtain⟨k1,k2⟩:=B D;rw[show a+1+s=a+s+1 by omega]at k1;exact⟨by rw[k1,ag],KK.one.app k2⟩
    simp only[au,ac,ae,ai,aa,um I,um h2,he];cases p with
    |true=>
     simp only[au,ac];rw[J,K,bT,bT];exact go 7 true
    |false=>
     simp only[aF,aa];rw[NI,bT,bT];simp only;cases kH F[a].2.1 with
     |true=>
      simp only[aa];rw[J,K,bT,bT];exact go 6 false
     |false=>
      simp only[ac];rw[J,K,bT,bT];exact go 7 true
end
end
section
open Option renaming some → a6, none → a7
open Bool renaming and_true → aj
open List renaming length_append → ae, append_assoc → ag, append_nil → aG, append_cancel_left → bK
open Nat renaming le_refl → af, lt_or_ge → ak
open Go.RowKit
structure Tw (E:Prop) (F G:List Lf) (s n:Nat):Prop where
 list: ∀(a:Nat) (l l':List Nd) (u u' d:Int) (r r' a':Nat) (m:List Nd),16*(F.length-a)+12<n->n<=r->n<=r'->jD F a l d 110->jD G (a+s) l' d 110->ji F a d=true->
  (dA r).q73 F (a:Int) (bZ l [opn 2 a u]) (bV l) d=a6 (PR F a' (bZ l [opn 2 a u]++m) (bV l) d,())->a'<F.length->
  ∃m',(dA r').q73 G ((a+s:Nat):Int) (bZ l' [opn 2 (a+s) u']) (bV l') d=a6 (PR G (a'+s) (bZ l' [opn 2 (a+s) u']++m') (bV l') d,())/\KK m' m
 andor: ∀(a:Nat) (l l':List Nd) (u u' d:Int) (r r' a':Nat) (m:List Nd),16*(F.length-a)+11<n->n<=r->n<=r'->jD F a l d 111->jD G (a+s) l' d 111->ji F a d=true->
  (dA r).q98 F (a:Int) (bZ l [opn 3 a u]) (bV l) d=a6 (PR F a' (bZ l [opn 3 a u]++m) (bV l) d,())->Cq E F a' m->
  ∃m',(dA r').q98 G ((a+s:Nat):Int) (bZ l' [opn 3 (a+s) u']) (bV l') d=a6 (PR G (a'+s) (bZ l' [opn 3 (a+s) u']++m') (bV l') d,())/\KK m' m
 pipe: ∀(a:Nat) (l l':List Nd) (u u' d:Int) (r r' a':Nat) (m:List Nd),16*(F.length-a)+10<n->n<=r->n<=r'->jD F a l d 112->jD G (a+s) l' d 112->ji F a d=true->
  (dA r).q139 F (a:Int) l u d=a6 (PR F a' (l++m) u d,())->Cq E F a' m->
  ∃m',(dA r').q139 G ((a+s:Nat):Int) l' u' d=a6 (PR G (a'+s) (l'++m') u' d,())/\KK m' m
 command: ∀(a:Nat) (l l':List Nd) (u u' d:Int) (r r' a':Nat) (m:List Nd),16*(F.length-a)+9<n->n<=r->n<=r'->jD F a l d 113->jD G (a+s) l' d 113->
  (dA r).q174 F (a:Int) l u d=a6 (PR F a' (l++m) u d,())->Cq E F a' m->
  ∃m',(dA r').q174 G ((a+s:Nat):Int) l' u' d=a6 (PR G (a'+s) (l'++m') u' d,())/\KK m' m
 compound: ∀(a:Nat) (l l':List Nd) (u u' d:Int) (r r' a':Nat) (m:List Nd),16*(F.length-a)+8<n->n<=r->n<=r'->jD F a l d 113->jD G (a+s) l' d 113->oH F a d=true->
  (dA r).q212 F (a:Int) l u d=a6 (PR F a' (l++m) u d,())->Cq E F a' m->
  ∃m',(dA r').q212 G ((a+s:Nat):Int) l' u' d=a6 (PR G (a'+s) (l'++m') u' d,())/\KK m' m
 body: ∀(a:Nat) (l l':List Nd) (u u' d:Int) (r r' a':Nat) (m:List Nd),16*(F.length-a)+13<n->n<=r->n<=r'->jD F a l d 110->jD G (a+s) l' d 110->
  (dA r).q255 F (a:Int) l u d=a6 (PR F a' (l++m) u d,())->a'<F.length->
  ∃m',(dA r').q255 G ((a+s:Nat):Int) l' u' d=a6 (PR G (a'+s) (l'++m') u' d,())/\KK m' m
theorem jv {F:List Lf} {a b:Nat} {l m n:List Nd} {u d:Int} (h:(a6 (PR F a (l++m) u d,()):Option _)=a6 (PR F b (l++n) u d,())):a=b/\m=n:=by
 injection h with h
 injection h with h _
 injection h with _ h
 injection h with h1 h
 injection h with h2 _
 exact⟨by omega,bK h2⟩
theorem oJ {e f:Type} {F:List Lf} {a b:Nat} {l m n:List Nd} {u d:Int} {x:e} (h:(a6 (.inl (x,(((),()):Unit×Unit),((F,(a:Int),u,d,()),l++m,()))):Option (_⊕f))=a6 (.inl (x,((),()),((F,(b:Int),u,d,()),l++n,())))):a=b/\m=n:=by
 injection h with h
 injection h with h
 injection h with _ h
 injection h with _ h
 injection h with h1 h2
 injection h1 with _ h1
 injection h1 with h1 _
 injection h2 with h2 _
 exact⟨by omega,bK h2⟩
theorem rO {F:List Lf} {o:List UInt8}:dW F F.length o=false:=by
 cases h:dW F F.length o with
 |false=>rfl
 |true=>have:=eQ h;omega
theorem qh (F:List Lf) (d:Int):ji F F.length d=false:=by
 unfold ji uG lT oH;simp[rO]
theorem adc {a:Int} {b:Int×Int×Unit} {m n:List Nd}: ¬wo (m++(18,a,b)::n):=fun h=>(h (18,a,b) (by simp)).2 rfl
theorem jD.up {F:List Lf} {a:Nat} {l:List Nd} {d:Int} {K:Nat} (h:jD F a l d K) {b:Nat} {m:List Nd} {e:Nat} (hb:b<=F.length) (f:l.length+m.length<=16*b+e):jD F b (l++m) d e:=⟨hb,by rw[ae];exact f,h.d0,h.d1⟩
section
variable {E:Prop} {F G:List Lf} {s:Nat} (h:Cf E F G s)
include h
theorem awv {n:Nat} (t:Tw E F G s n) (a:Nat) (l i:List Nd) (u u' d:Int) (r j p:Nat) (m:List Nd) (Y:16*(F.length-a)+13<n+1) (Z:n+1<=r) (ab:n+1<=j) (hp:jD F a l d 110) (hp':jD G (a+s) i d 110)
  (e:(dA r).q255 F (a:Int) l u d=a6 (PR F p (l++m) u d,())) (K:p<F.length):
  ∃x,(dA j).q255 G ((a+s:Nat):Int) i u' d=a6 (PR G (p+s) (i++x) u' d,())/\KK x m:=by
 obtain⟨y,p2,z,A⟩:=hp;obtain⟨L,ad,_,_⟩:=hp';have ah:=h.f.len;have ai:=h.g.len;have al:=h.le;obtain⟨q,rfl⟩: ∃q,r=q+1:=⟨r-1,by omega⟩;obtain⟨v,rfl⟩: ∃v,j=v+1:=⟨j-1,by omega⟩;have an:=lV (F:=F) a;have B:=kQ (F:=F) y;replace e:KW (dA q) F (a:Int) l u d=a6 (PR F p (l++m) u d,()):=e;show ∃x,KW (dA v) G ((a+s:Nat):Int) i u' d=_/\_;rw[KW,iO h.f a l u d y,bT]at e;simp only at e;rw[jO h.f (ln F a) l u d (by omega),bT]at e;simp only at e;rw[KW,iO h.g (a+s) i u' d L,bT];simp only;by_cases hl:ln F a<F.length
 .rw[h.lns y hl,jO h.g (ln F a+s) i u' d (by omega),bT];simp only;rw[h.pip B (.inl hl)];cases hb:ji F (ln F a) d with
  |true=>
   rw[hb]at e;obtain⟨n1,_,_⟩:=iJ l (opn 2 (ln F a) u) (by omega);obtain⟨M,_,_⟩:=iJ i (opn 2 (ln F a+s) u') (by omega);obtain⟨b,D,I,_,e3,e4,e5⟩:=(kN h.f n).list (ln F a) l u d q q (by omega) (by omega) (by omega) ⟨B,by omega,z,A⟩ hb;obtain⟨N,O⟩:=jC l D (opn 2 (ln F a) u);simp only[aa,eU,aj,n1,I,bT,N,O,iI]at e;obtain⟨rfl,rfl⟩:=jv e;obtain⟨J,S,U⟩:=t.list (ln F a) l i u u' d q v b D (by omega) (by omega) (by omega) ⟨B,by omega,z,A⟩ ⟨by omega,by omega,z,A⟩ hb I K;obtain⟨V,W⟩:=jC i J (opn 2 (ln F a+s) u');refine⟨(2,((ln F a+s:Nat):Int),((b+s:Nat):Int),u',())::J, ?_,U.cons⟩;simp only[aa,eU,aj,M,S,bT,V,W,iI]
  |false=>
   rw[hb]at e;simp only[ac]at e;rw[iQ _ l u d (by omega),bT]at e;obtain⟨rfl,rfl⟩:=jv e;simp only[ac];rw[iQ _ i u' d (by omega),bT];exact⟨_,rfl,KK.one⟩
 .have X:ln F a=F.length:=by omega
  rw[X,qh]at e;simp only[ac]at e;rw[iQ _ l u d (by omega),bT]at e;obtain⟨rfl,_⟩:=jv e;omega
theorem acY {n:Nat} (t:Tw E F G s n) {q q':Nat} (p:n<=q) (O:n<=q') (u u' d:Int) (hd:0<=d/\d<=200): ∀(N J a:Nat) (L L':List Nd) (y:Nat) (m:List Nd),F.length-a<N->F.length-a<J->a<=F.length->16*(F.length-a)+10<n->L.length<=16*a+112->L'.length<=16*(a+s)+112->
  xk (dA q) N F (a:Int) u d L=a6 (.inl ((),((),()),((F,(y:Int),u,d,()),L++m,())))->Cq E F y m->
  ∃Y,xk (dA q') J G ((a+s:Nat):Int) u' d L'=a6 (.inl ((),((),()),((G,((y+s:Nat):Int),u',d,()),L'++Y,())))/\KK Y m
 |0,_,a,L,L',y,m,S,_,_,_,_,_,_,_=>by omega
 |_+1,0,a,L,L',y,m,_,S,_,_,_,_,_,_=>by omega
 |N+1,J+1,a,L,L',y,m,S,an,U,hn,hL,ao,e,i=>by
  have au:=h.f.len;have av:=h.g.len;have aw:=h.le;have z:=kN h.f n;have Z:a<F.length\/E:=by
   obtain⟨V,W,K,_,f3,_⟩:=qp h.f z p p u d 0 hd (N+1) a L S U hn hL;rw[K]at e;obtain⟨rfl,_⟩:=oJ e;exact i.at f3
  rw[xk,JX,iF h.f a L u d (by omega) [97,111] rfl,bT]at e;simp only at e;rw[xk,JX,iF h.g (a+s) L' u' d (by omega) [97,111] rfl,bT,h.nx U Z (by decide) (by decide),h.tks U Z (by decide) (by decide)];simp only;cases hb:dW F a [97,111]with
  |false=>
   rw[hb,jR hb]at e;rw[jR hb];simp only[ac]at e ⊢;obtain⟨rfl,rfl⟩:a=y/\[]=m:=oJ (by rw[aG];exact e);exact⟨[],by rw[aG],KK.nil⟩
  |true=>
   have ax:=eQ hb;have ay:=lV (F:=F) (a+1);have A:=kQ (F:=F) (a:=a+1) (by omega);rw[hb,iR hb]at e;rw[iR hb];simp only[aa]at e ⊢;rw[iO h.f (a+1) L u d (by omega),bT]at e;simp only at e;rw[iO h.g (a+1+s) L' u' d (by omega),bT];simp only;have ab: ∃(j:Nat) (v:List Nd),(dA q).q139 F ((ln F (a+1):Nat):Int) L u d=a6 (PR F j (L++v) u d,())/\ln F (a+1)<=j/\j<=F.length/\v.length<=16*(j-a):=by
    cases hp:ji F (ln F (a+1)) d with
    |true=>
     obtain⟨j,v,x,_,e3,M,e5⟩:=z.pipe (ln F (a+1)) L u d q q (by omega) p p ⟨A,by omega,hd.1,hd.2⟩ hp;exact⟨j,v,x,by omega,M,by omega⟩
    |false=>
     exact⟨_,_,z.nopipe (ln F (a+1)) L u d q (by omega) p ⟨A,by omega,hd.1,hd.2⟩ hp,af _,A,by simp;omega⟩
   obtain⟨j,v,x,e3,M,e5⟩:=ab;rw[x,bT]at e;simp only at e;obtain⟨V,W,K,_,f3,f4,f5,_⟩:=qp h.f z p p u d 0 hd N j (L++v) (by omega) M (by omega) (by rw[ae];omega);rw[K,ag]at e;obtain⟨rfl,rfl⟩:=oJ e;have B:Cq E F j v:=by
    rcases i with i|i
    .exact .inl (by omega)
    .exact .inr ⟨i.1,i.2.l⟩
   have ad:Cq E F V W:=by
    rcases i with i|i
    .exact .inl i
    .exact .inr ⟨i.1,i.2.r⟩
   have D:ln F (a+1)<F.length:=by
    rcases ak (ln F (a+1)) F.length with D|D
    .exact D
    .exfalso;have ah:ln F (a+1)=F.length:=by omega
     rw[ah]at x;have X:=z.nopipe F.length L u d q (by omega) p ⟨af _,by omega,hd.1,hd.2⟩ (qh F d);rw[X]at x;obtain⟨x1,x2⟩:=jv x;rcases B with B|B
     .omega
     .rw[<-x2]at B;exact adc (m:=[]) (n:=[]) B.2
   rw[h.lns (by omega) D];have ai: ∃I,(dA q').q139 G ((ln F (a+1)+s:Nat):Int) L' u' d=a6 (PR G (j+s) (L'++I) u' d,())/\KK I v:=by
    cases hp:ji F (ln F (a+1)) d with
    |true=>exact t.pipe (ln F (a+1)) L L' u u' d q q' j v (by omega) p O ⟨A,by omega,hd.1,hd.2⟩ ⟨by omega,by omega,hd.1,hd.2⟩ hp x B
    |false=>
     have X:=z.nopipe (ln F (a+1)) L u d q (by omega) p ⟨A,by omega,hd.1,hd.2⟩ hp;rw[X]at x;obtain⟨rfl,rfl⟩:=jv x;exact⟨_,(kN h.g n).nopipe (ln F (a+1)+s) L' u' d q' (by omega) O ⟨by omega,by omega,hd.1,hd.2⟩ (by rw[h.pip A (.inl D)];exact hp),KK.one⟩
   obtain⟨I,g1,g2⟩:=ai;rw[g1,bT];simp only;have az:=g2.len;obtain⟨al,k1,k2⟩:=acY t p O u u' d hd N J j (L++v) (L'++I) V W (by omega) (by omega) M (by omega) (by rw[ae];omega) (by rw[ae];omega) (by rw[K]) ad;exact⟨I++al,by rw[k1,ag],g2.app k2⟩
end
end
section
open Option renaming some → a6, none → a7
open Bool renaming and_eq_true → ah, and_true → aj, not_true → au, not_false → aF, or_eq_true → bi
open List renaming length_append → ae, append_assoc → ag, length_cons → az, append_nil → aG, append_cancel_left → bK
open Nat renaming le_refl → af, lt_or_ge → ak
open Go.RowKit
theorem Cq.l {E:Prop} {F:List Lf} {a b:Nat} {m n:List Nd} (h:Cq E F b (m++n)) (d:a<=b):Cq E F a m:=by
 rcases h with h|h
 .exact .inl (by omega)
 .exact .inr ⟨h.1,h.2.l⟩
theorem Cq.r {E:Prop} {F:List Lf} {b:Nat} {m n:List Nd} (h:Cq E F b (m++n)):Cq E F b n:=by
 rcases h with h|h
 .exact .inl h
 .exact .inr ⟨h.1,h.2.r⟩
theorem Cq.t {E:Prop} {F:List Lf} {b:Nat} {x:Nd} {n:List Nd} (h:Cq E F b (x::n)):Cq E F b n:=by
 rcases h with h|h
 .exact .inl h
 .exact .inr ⟨h.1,h.2.t⟩
theorem Cq.no {E:Prop} {F:List Lf} {a b:Int×Int×Int×Unit} {m n:List Nd}: ¬Cq E F F.length (m++(18,a)::n):=fun h=>by
 rcases h with h|h
 .omega
 .exact(h.2 (18,a) (by simp)).2 rfl
section
variable {F:List Lf} (hF:yT F)
include hF
theorem NG (a:Nat) (l:List Nd) (u d:Int) (q:Nat) {f g:Nat} {e m2:List Nd}
  (i:(dA q).q139 F (a:Int) l u d=a6 (PR F f (l++e) u d,()))
  (e2:xk (dA q) bY F (f:Int) u d (l++e)=a6 (.inl ((),((),()),((F,(g:Int),u,d,()),(l++e)++m2,())))):
  (dA (q+1)).q98 F (a:Int) l u d=a6 (PR F g (l++(e++m2)) u d,()):=by
 have _:=hF;show ara (dA q) F (a:Int) l u d=_;rw[ara,i,bT];simp only;rw[e2,bT];simp only[dX,ag]
theorem Vj (a:Nat) (l:List Nd) (u d:Int) (q:Nat) (p:a<=F.length) (hl:l.length<100000000) (hb:ji F a d=true) {g f:Nat} {e m2:List Nd}
  (i:(dA q).q174 F ((tk F a [33]:Nat):Int) (bZ l [opn 4 a u]) (bV l) d=a6 (PR F g (bZ l [opn 4 a u]++e) (bV l) d,()))
  (e2:kM (dA q) bY (bV l) u F (g:Int) (bV l) d (bZ l [opn 4 a u]++e)=a6 (.inl ((),((bV l,u,()),(),(),()),((),(F,(f:Int),bV l,d,()),(bZ l [opn 4 a u]++e)++m2,())))):
  (dA (q+1)).q139 F (a:Int) l u d=a6 (PR F f (l++(4,(a:Int),(f:Int),u,())::(e++m2)) u d,()):=by
 have v:=hF.len;obtain⟨n1,_,_⟩:=iJ l (opn 4 a u) (by omega);obtain⟨j,m⟩:=jC l (e++m2) (opn 4 a u);show TM (dA q) F (a:Int) l u d=_;rw[TM,jO hF a l u d (by omega),bT,hb];simp only[au,ac,eU,aj,aa,n1];rw[iF hF a _ _ d (by omega) [33] rfl,bT];simp only;rw[i,bT];simp only;rw[e2,bT];simp only[dX,ag,j,m,aa,iI]
theorem awE (l:List Nd) (u d:Int) (q:Nat) (hl:l.length<100000000):
  (dA (q+1)).q174 F (F.length:Int) l u d=a6 (PR F F.length (l++[(18,(F.length:Int),(F.length:Int),u,())]) u d,()):=by
 have i:=hF.len;have e:oH F F.length d=false:=by unfold oH;rw[rO,Bool.and_false]
 have f:QV F F.length d=false:=by unfold QV;rw[rO,Bool.false_and]
 have g:uG F F.length d=false:=by unfold uG lT;rw[rO,rO,rO,e];rfl
 show CV (dA q) F (F.length:Int) l u d=_;rw[CV,nN hF _ l u d (by omega),bT];simp only;rw[e];simp only[ac];rw[zo hF _ l u d (af _),bT];simp only;rw[f];simp only[ac];rw[yX hF _ l u d (by omega),bT];simp only;rw[g];simp only[ac];rw[iQ _ l u d (by omega),bT]
end
section
variable {E:Prop} {F G:List Lf} {s:Nat} (h:Cf E F G s)
include h
omit h in
theorem ayO {F:List Lf} {a:Nat} {d:Int} (h:ji F a d=true):a<F.length:=by
 unfold ji uG oH at h;simp only[bi,ah]at h;rcases h with h|h|h|h
 .exact eQ h
 .exact eQ h
 .exact abW h
 .exact eQ h.2
theorem aoZ {n:Nat} (t:Tw E F G s n) (a:Nat) (l i:List Nd) (u u' d:Int) (r x z:Nat) (m:List Nd) (Y:16*(F.length-a)+11<n+1) (Z:n+1<=r) (ab:n+1<=x) (hp:jD F a l d 111) (hp':jD G (a+s) i d 111) (hb:ji F a d=true)
  (e:(dA r).q98 F (a:Int) (bZ l [opn 3 a u]) (bV l) d=a6 (PR F z (bZ l [opn 3 a u]++m) (bV l) d,())) (D:Cq E F z m):
  ∃I,(dA x).q98 G ((a+s:Nat):Int) (bZ i [opn 3 (a+s) u']) (bV i) d=a6 (PR G (z+s) (bZ i [opn 3 (a+s) u']++I) (bV i) d,())/\KK I m:=by
 obtain⟨J,p2,p,v⟩:=hp;obtain⟨S,ad,_,_⟩:=hp';have ai:=h.f.len;have al:=h.g.len;have an:=h.le;have K:=kN h.f n;obtain⟨q,rfl⟩: ∃q,r=q+1:=⟨r-1,by omega⟩;obtain⟨j,rfl⟩: ∃j,x=j+1:=⟨x-1,by omega⟩;have y:(bZ l [opn 3 a u]).length=l.length+1:=by unfold bZ;simp
 have L:(bZ i [opn 3 (a+s) u']).length=i.length+1:=by unfold bZ;simp
 obtain⟨A,B,M,_,e3,N,e5,_⟩:=K.pipe a (bZ l [opn 3 a u]) (bV l) d q q (by omega) (by omega) (by omega) ⟨J,by rw[y];omega,p,v⟩ hb;obtain⟨U,V,O,_,W,f4,f5,_⟩:=qp h.f K (q:=q) (q':=q) (by omega) (by omega) (bV l) d 0 ⟨p,v⟩ bY A (bZ l [opn 3 a u]++B) (di) N (by omega) (by rw[ae,y];omega);rw[NG h.f a (bZ l [opn 3 a u]) (bV l) d q M O]at e;obtain⟨rfl,rfl⟩:=jv e;obtain⟨X,g1,g2⟩:=t.pipe a (bZ l [opn 3 a u]) (bZ i [opn 3 (a+s) u']) (bV l) (bV i) d q j A B (by omega) (by omega) (by omega) ⟨J,by rw[y];omega,p,v⟩ ⟨S,by rw[L];omega,p,v⟩ hb M (D.l W);have ao:=g2.len;obtain⟨av,k1,k2⟩:=acY h t (q:=q) (q':=j) (by omega) (by omega) (bV l) (bV i) d ⟨p,v⟩ bY bY A (bZ l [opn 3 a u]++B) (bZ i [opn 3 (a+s) u']++X) U V (di) (di) N (by omega) (by rw[ae,y];omega) (by rw[ae,L];omega) O D.r;exact⟨_,NG h.g (a+s) (bZ i [opn 3 (a+s) u']) (bV i) d j g1 k1,g2.app k2⟩
theorem akN {n:Nat} (t:Tw E F G s n) {q q':Nat} (j:n<=q) (ab:n<=q') (u u' d v A O S:Int) (hd:0<=d/\d<=200): ∀(N B a:Nat) (L L':List Nd) (i:Nat) (m:List Nd),F.length-a<N->F.length-a<B->a<=F.length->16*(F.length-a)+9<n+16->0<n->L.length<=16*a+114->L'.length<=16*(a+s)+114->
  kM (dA q) N v A F (a:Int) u d L=a6 (.inl ((),((v,A,()),(),(),()),((),(F,(i:Int),u,d,()),L++m,())))->Cq E F i m->
  ∃m',kM (dA q') B O S G ((a+s:Nat):Int) u' d L'=a6 (.inl ((),((O,S,()),(),(),()),((),(G,((i+s:Nat):Int),u',d,()),L'++m',())))/\KK m' m
 |0,_,a,L,L',i,m,U,_,_,_,_,_,_,_,_=>by omega
 |_+1,0,a,L,L',i,m,_,U,_,_,_,_,_,_,_=>by omega
 |N+1,B+1,a,L,L',i,m,U,av,V,hn,al,hL,aw,e,D=>by
  have ax:=h.f.len;have ay:=h.g.len;have aA:=h.le;have W:=kN h.f n;have X: ∀{b:Nat} {p:List Nd},(a6 (.inl ((),((v,A,()),(),(),()),((),(F,(b:Int),u,d,()),L++p,()))):Option (qJ.den⊕qK.den))=a6 (.inl ((),((v,A,()),(),(),()),((),(F,(i:Int),u,d,()),L++m,())))->b=i/\p=m:=fun {b p} x=>by
   have y:((b:Int),L++p)=((i:Int),L++m):=by
    have:=congrArg (fun o:Option (qJ.den⊕qK.den)=>match o with
     |some (.inl z)=>((z.2.2.2.1.2.1,z.2.2.2.2.1):Int×List Nd)
     |_=>(0,[])) x
    exact this
   injection y with y1 y2
   exact⟨by omega,bK y2⟩
  have hE:a<F.length\/E:=by
   obtain⟨a2,p,I,_,Y,_⟩:=uY h.f W j j u d 0 v A hd (N+1) a L U V hn hL;rw[I]at e;obtain⟨rfl,_⟩:=X e;exact D.at Y
  rw[kM,qM,iF h.f a L u d (by omega) [124] rfl,bT]at e;simp only at e;rw[kM,qM,iF h.g (a+s) L' u' d (by omega) [124] rfl,bT,h.nx V hE (by decide) (by decide),h.tks V hE (by decide) (by decide)];simp only;cases hb:dW F a [124]with
  |false=>
   rw[hb,jR hb]at e;rw[jR hb];simp only[ac]at e ⊢;obtain⟨rfl,rfl⟩:=X (p:=[]) (by rw[aG];exact e);exact⟨[],by rw[aG],KK.nil⟩
  |true=>
   have aB:=eQ hb;have aH:=lV (F:=F) (a+1);have ad:=kQ (F:=F) (a:=a+1) (by omega);rw[hb,iR hb]at e;rw[iR hb];simp only[aa]at e ⊢;rw[iO h.f (a+1) L u d (by omega),bT]at e;simp only at e;rw[iO h.g (a+1+s) L' u' d (by omega),bT];simp only;obtain⟨Z,J,K,_,e3,e4,e5,_⟩:=W.command (ln F (a+1)) L u d q q (by omega) j j ⟨ad,by omega,hd.1,hd.2⟩;rw[K,bT]at e;simp only at e;obtain⟨a2,p,I,_,Y,f4,f5,_⟩:=uY h.f W j j u d 0 v A hd N Z (L++J) (by omega) e4 (by omega) (by rw[ae];omega);rw[I,ag]at e;obtain⟨rfl,rfl⟩:=X e;have M:ln F (a+1)<F.length:=by
    rcases ak (ln F (a+1)) F.length with M|M
    .exact M
    .exfalso;have an:ln F (a+1)=F.length:=by omega
     obtain⟨q0,rfl⟩: ∃q0,q=q0+1:=⟨q-1,by omega⟩;rw[an,awE h.f L u d q0 (by omega)]at K;obtain⟨x1,x2⟩:=jv K;have:=D.l (a:=F.length) (m:=J) (by omega);rw[<-x2]at this;exact Cq.no (b:=(0,0,0,())) (m:=[]) (n:=[]) this
   rw[h.lns (by omega) M];obtain⟨ai,g1,g2⟩:=t.command (ln F (a+1)) L L' u u' d q q' Z J (by omega) j ab ⟨ad,by omega,hd.1,hd.2⟩ ⟨by omega,by omega,hd.1,hd.2⟩ K (D.l Y);rw[g1,bT];simp only;have aI:=g2.len;obtain⟨ao,k1,k2⟩:=akN t j ab u u' d v A O S hd N B Z (L++J) (L'++ai) a2 p (by omega) (by omega) e4 (by omega) al (by rw[ae];omega) (by rw[ae];omega) I D.r;exact⟨ai++ao,by rw[k1,ag],g2.app k2⟩
theorem ayP {n:Nat} (t:Tw E F G s n) (a:Nat) (l i:List Nd) (u u' d:Int) (r y B:Nat) (m:List Nd) (hm:16*(F.length-a)+10<n+1) (hr:n+1<=r) (ad:n+1<=y) (hp:jD F a l d 112) (hp':jD G (a+s) i d 112) (hb:ji F a d=true)
  (e:(dA r).q139 F (a:Int) l u d=a6 (PR F B (l++m) u d,())) (V:Cq E F B m):
  ∃I,(dA y).q139 G ((a+s:Nat):Int) i u' d=a6 (PR G (B+s) (i++I) u' d,())/\KK I m:=by
 obtain⟨D,p2,p,v⟩:=hp;obtain⟨W,ai,_,_⟩:=hp';have al:=h.f.len;have an:=h.g.len;have ao:=h.le;have J:=kN h.f n;obtain⟨q,rfl⟩: ∃q,r=q+1:=⟨r-1,by omega⟩;obtain⟨j,rfl⟩: ∃j,y=j+1:=⟨y-1,by omega⟩;have z:(bZ l [opn 4 a u]).length=l.length+1:=by unfold bZ;simp
 have K:(bZ i [opn 4 (a+s) u']).length=i.length+1:=by unfold bZ;simp
 have L:tk F a [33]<=F.length/\a<=tk F a [33]:=by
  unfold tk;split
  .rename_i X;exact⟨eQ X,by omega⟩
  omega
 obtain⟨x,A,M,_,e3,N,e5,e6⟩:=J.command (tk F a [33]) (bZ l [opn 4 a u]) (bV l) d q q (by omega) (by omega) (by omega) ⟨L.1,by rw[z];omega,p,v⟩;have av:a<x/\A.length+1+2<=16*(x-a):=by
  cases h33:dW F a [33]with
  |true=>grind [iR]
  |false=>
   simp_all [jR,ji]
 obtain⟨Y,Z,O,_,f3,f4,f5,_⟩:=uY h.f J (q:=q) (q':=q) (by omega) (by omega) (bV l) d 0 (bV l) u ⟨p,v⟩ bY x (bZ l [opn 4 a u]++A) (di) N (by omega) (by rw[ae,z];omega);rw[Vj h.f a l u d q D (by omega) hb M O]at e;obtain⟨rfl,rfl⟩:=jv e;have S:=V.t;obtain⟨ab,g1,g2⟩:=t.command (tk F a [33]) (bZ l [opn 4 a u]) (bZ i [opn 4 (a+s) u']) (bV l) (bV i) d q j x A (by omega) (by omega) (by omega) ⟨L.1,by rw[z];omega,p,v⟩ ⟨by omega,by rw[K];omega,p,v⟩ M (S.l f3);have aw:=g2.len;obtain⟨ax,k1,k2⟩:=akN h t (q:=q) (q':=j) (by omega) (by omega) (bV l) (bV i) d (bV l) u (bV i) u' ⟨p,v⟩ bY bY x (bZ l [opn 4 a u]++A) (bZ i [opn 4 (a+s) u']++ab) Y Z (di) (di) N (by omega) (by omega) (by rw[ae,z];omega) (by rw[ae,K];omega) O S.r;have U:=ayO hb;rw[<-h.tks D (.inl U) (by decide) (by decide)]at g1;exact⟨_,Vj h.g (a+s) i u' d j W (by omega) (by rw[h.pip D (.inl U)];exact hb) g1 k1,(g2.app k2).cons⟩
theorem ajE {n:Nat} (t:Tw E F G s n) {q q':Nat} (O:n<=q) (W:n<=q') (u u' d:Int) (hd:0<=d/\d<=200): ∀(N I a:Nat) (L L':List Nd) (J:Nat) (m:List Nd),F.length-a<N->F.length-a<I->a<=F.length->16*(F.length-a)+11<n->L.length<=16*a+111->L'.length<=16*(a+s)+111->ji F a d=true->
  jX (dA q) N F (a:Int) u d L=a6 (.inl ((),((),()),((F,(J:Int),u,d,()),L++m,())))->J<F.length->
  ∃V,jX (dA q') I G ((a+s:Nat):Int) u' d L'=a6 (.inl ((),((),()),((G,((J+s:Nat):Int),u',d,()),L'++V,())))/\KK V m
 |0,_,a,L,L',J,m,X,_,_,_,_,_,_,_,_=>by omega
 |_+1,0,a,L,L',J,m,_,X,_,_,_,_,_,_,_=>by omega
 |N+1,I+1,a,L,L',J,m,X,aA,Y,Z,hL,aB,hb,e,al=>by
  have aH:=h.f.len;have aI:=h.g.len;have aJ:=h.le;have hA:=kN h.f n;obtain⟨i,D,e1,_,e3,x,e5,_⟩:=hA.andor a L u d q q Z O O ⟨Y,by omega,hd.1,hd.2⟩ hb;obtain⟨n1,_,_⟩:=iJ L (opn 3 a u) (by omega);obtain⟨c1,c2⟩:=jC L D (opn 3 a u);obtain⟨an,_,_⟩:=iJ L' (opn 3 (a+s) u') (by omega);have ab:(L++(3,(a:Int),(i:Int),u,())::D).length=L.length+1+D.length:=by grind
  rw[jX,JW]at e;simp only[eU,aj,aa,n1]at e;rw[e1,bT]at e;simp only[c1,c2,aa,iI]at e;rw[iF h.f i _ u d (by omega) [59,38] rfl,bT]at e;simp only at e;have go:i<F.length-> ∃v,(dA q').q98 G ((a+s:Nat):Int) (bZ L' [opn 3 (a+s) u']) (bV L') d=a6 (PR G (i+s) (bZ L' [opn 3 (a+s) u']++v) (bV L') d,())/\KK v D:=fun A=>
   t.andor a L L' u u' d q q' i D Z O W ⟨Y,by omega,hd.1,hd.2⟩ ⟨by omega,by omega,hd.1,hd.2⟩ hb e1 (.inl A)
  have run: ∀{v:List Nd},(dA q').q98 G ((a+s:Nat):Int) (bZ L' [opn 3 (a+s) u']) (bV L') d=a6 (PR G (i+s) (bZ L' [opn 3 (a+s) u']++v) (bV L') d,())->
    jX (dA q') (I+1) G ((a+s:Nat):Int) u' d L'=
    bU (qm G ((i+s:Nat):Int) (L'++(3,((a+s:Nat):Int),((i+s:Nat):Int),u',())::v) u' d [59,38]) fun y=>
     bif y.2.1 then
      bU (rJ y.1.1 y.1.2.1 y.1.2.2.1 y.1.2.2.2.1 y.1.2.2.2.2.1) fun p=>
       bU (Ud p.1.1 p.1.2.1 p.1.2.2.1 p.1.2.2.2.1 p.1.2.2.2.2.1) fun j=>
        bif(!j.2.1)then a6 (.inl ((),((),()),((j.1.1,j.1.2.1,j.1.2.2.2.1,j.1.2.2.2.2.1,()),j.1.2.2.1,())))
        else jX (dA q') I j.1.1 j.1.2.1 j.1.2.2.2.1 j.1.2.2.2.2.1 j.1.2.2.1
     else
      bU (rJ y.1.1 y.1.2.1 y.1.2.2.1 y.1.2.2.2.1 y.1.2.2.2.2.1) fun p=>
       bif(!p.2.1)then a6 (.inl ((),((),()),((p.1.1,p.1.2.1,p.1.2.2.2.1,p.1.2.2.2.2.1,()),p.1.2.2.1,())))
       else bU (Ud p.1.1 p.1.2.1 p.1.2.2.1 p.1.2.2.2.1 p.1.2.2.2.2.1) fun j=>
        bif(!j.2.1)then a6 (.inl ((),((),()),((j.1.1,j.1.2.1,j.1.2.2.2.1,j.1.2.2.2.2.1,()),j.1.2.2.1,())))
        else jX (dA q') I j.1.1 j.1.2.1 j.1.2.2.2.1 j.1.2.2.2.2.1 j.1.2.2.1:=fun {v} B=>by
   obtain⟨ao,av⟩:=jC L' v (opn 3 (a+s) u');rw[jX,JW];simp only[eU,aj,aa,an];rw[B,bT];simp only[ao,av,aa,iI]
  have next: ∀{b:Nat} {v:List Nd},KK v D->i<=b->b<=F.length->i<b->ji F b d=true->
    jX (dA q) N F (b:Int) u d (L++(3,(a:Int),(i:Int),u,())::D)=a6 (.inl ((),((),()),((F,(J:Int),u,d,()),L++m,())))->
    ∃V,jX (dA q') I G ((b+s:Nat):Int) u' d (L'++(3,((a+s:Nat):Int),((i+s:Nat):Int),u',())::v)=a6 (.inl ((),((),()),((G,((J+s:Nat):Int),u',d,()),L'++V,())))/\KK V m:=fun {b v} hk h1 h2 h3 l ee=>by
   have aK:=hk.len;obtain⟨a2,S,m2,U,B,_,_,_,f5,f6,_⟩:=uT h.f hA O O u d 0 hd N b (L++(3,(a:Int),(i:Int),u,())::D) (by omega) h2 (by omega) (by rw[ab];omega) l;rw[B]at ee;have ad:=ee;rw[ag]at ad;obtain⟨rfl,rfl⟩:=oJ ad;obtain⟨aw,g1,g2⟩:=ajE t O W u u' d hd N I b (L++(3,(a:Int),(i:Int),u,())::D) (L'++(3,((a+s:Nat):Int),((i+s:Nat):Int),u',())::v) a2 m2 (by omega) (by omega) h2 (by omega) (by rw[ab];omega) (by simp only[ae,az];omega) l B al;exact⟨((3,((a+s:Nat):Int),((i+s:Nat):Int),u',())::v)++aw,by rw[g1,ag],hk.cons.app g2⟩
  cases hs:dW F i [59,38]with
  |true=>
   have A:=eQ hs;obtain⟨v,B,K⟩:=go A;have ax:=lV (F:=F) (i+1);have M:=kQ (F:=F) (a:=i+1) (by omega);rw[hs,iR hs]at e;simp only[aa]at e;rw[iO h.f (i+1) _ u d (by omega),bT]at e;simp only at e;rw[jO h.f _ _ u d (by omega),bT]at e;simp only at e;rw[run B,iF h.g (i+s) _ u' d (by omega) [59,38] rfl,bT,h.nx x (.inl A) (by decide) (by decide),h.tks x (.inl A) (by decide) (by decide),hs,iR hs];simp only[aa];rw[iO h.g (i+1+s) _ u' d (by omega),bT];simp only;cases l:ji F (ln F (i+1)) d with
   |false=>
    rw[l]at e;simp only[aF,aa]at e;obtain⟨S,U⟩:=oJ e;rw[h.lns (by omega) (by omega),jO h.g _ _ u' d (by omega),bT];simp only;rw[h.pip M (.inl (by omega)),l,<-S,<-U];exact⟨_,rfl,K.cons⟩
   |true=>
    rw[l]at e;simp only[au,ac]at e;have z:ln F (i+1)<F.length:=by
     rcases ak (ln F (i+1)) F.length with z|z
     .exact z
     .exfalso;rw[show ln F (i+1)=F.length by omega,qh]at l;cases l
    rw[h.lns (by omega) z,jO h.g _ _ u' d (by omega),bT];simp only;rw[h.pip M (.inl z),l];simp only[au,ac];exact next K (by omega) M (by omega) l e
  |false=>
   have ax:=lV (F:=F) i;have M:=kQ (F:=F) x;rw[hs,jR hs]at e;simp only[ac]at e;rw[iO h.f i _ u d x,bT]at e;simp only at e;cases hln:dW F i [110]with
   |false=>
    have ai:ln F i=i:=by rw[mY,hln];rfl
    rw[hln,ai]at e;simp only[aF,aa]at e;obtain⟨S,U⟩:=oJ e;obtain⟨v,B,K⟩:=go (by omega);rw[run B,iF h.g (i+s) _ u' d (by omega) [59,38] rfl,bT,h.nx x (.inl (by omega)) (by decide) (by decide),h.tks x (.inl (by omega)) (by decide) (by decide),hs,jR hs];simp only[ac];rw[iO h.g (i+s) _ u' d (by omega),bT];simp only;rw[h.n1 (by omega),hln,h.lns x (by omega),ai,<-S,<-U];exact⟨_,rfl,K.cons⟩
   |true=>
    have A:=eQ hln;have ay:i<ln F i:=by simp_all [az8]
    obtain⟨v,B,K⟩:=go A;rw[hln]at e;simp only[au,ac]at e;rw[jO h.f _ _ u d (by omega),bT]at e;simp only at e;rw[run B,iF h.g (i+s) _ u' d (by omega) [59,38] rfl,bT,h.nx x (.inl A) (by decide) (by decide),h.tks x (.inl A) (by decide) (by decide),hs,jR hs];simp only[ac];rw[iO h.g (i+s) _ u' d (by omega),bT];simp only;rw[h.n1 A,hln];simp only[au,ac];cases l:ji F (ln F i) d with
    |false=>
     rw[l]at e;simp only[aF,aa]at e;obtain⟨S,U⟩:=oJ e;rw[h.lns x (by omega),jO h.g _ _ u' d (by omega),bT];simp only;rw[h.pip M (.inl (by omega)),l,<-S,<-U];exact⟨_,rfl,K.cons⟩
    |true=>
     rw[l]at e;simp only[au,ac]at e;have z:ln F i<F.length:=by
      rcases ak (ln F i) F.length with z|z
      .exact z
      .exfalso;rw[show ln F i=F.length by omega,qh]at l;cases l
     rw[h.lns x z,jO h.g _ _ u' d (by omega),bT];simp only;rw[h.pip M (.inl z),l];simp only[au,ac];exact next K (by omega) M ay l e
theorem axH {n:Nat} (t:Tw E F G s n) (a:Nat) (l i:List Nd) (u u' d:Int) (r v x:Nat) (m:List Nd) (N:16*(F.length-a)+12<n+1) (O:n+1<=r) (S:n+1<=v) (hp:jD F a l d 110) (hp':jD G (a+s) i d 110) (hb:ji F a d=true)
  (e:(dA r).q73 F (a:Int) (bZ l [opn 2 a u]) (bV l) d=a6 (PR F x (bZ l [opn 2 a u]++m) (bV l) d,())) (I:x<F.length):
  ∃p,(dA v).q73 G ((a+s:Nat):Int) (bZ i [opn 2 (a+s) u']) (bV i) d=a6 (PR G (x+s) (bZ i [opn 2 (a+s) u']++p) (bV i) d,())/\KK p m:=by
 obtain⟨y,U,z,A⟩:=hp;obtain⟨V,W,_,_⟩:=hp';have X:=h.f.len;have Y:=h.g.len;have Z:=h.le;have J:=kN h.f n;obtain⟨q,rfl⟩: ∃q,r=q+1:=⟨r-1,by omega⟩;obtain⟨j,rfl⟩: ∃j,v=j+1:=⟨v-1,by omega⟩;have B:(bZ l [opn 2 a u]).length=l.length+1:=by unfold bZ;simp
 have K:(bZ i [opn 2 (a+s) u']).length=i.length+1:=by unfold bZ;simp
 obtain⟨L,x1,M,x2,D,_,_,_,f5,f6,_⟩:=uT h.f J (q:=q) (q':=q) (by omega) (by omega) (bV l) d 0 ⟨z,A⟩ bY a (bZ l [opn 2 a u]) (di) y (by omega) (by rw[B];omega) hb;replace e:Zm (dA q) F (a:Int) (bZ l [opn 2 a u]) (bV l) d=a6 (PR F x (bZ l [opn 2 a u]++m) (bV l) d,()):=e;show ∃p,Zm (dA j) G ((a+s:Nat):Int) (bZ i [opn 2 (a+s) u']) (bV i) d=_/\_;rw[Zm,D,bT]at e;obtain⟨rfl,rfl⟩:=jv e;obtain⟨p,g1,g2⟩:=ajE h t (q:=q) (q':=j) (by omega) (by omega) (bV l) (bV i) d ⟨z,A⟩ bY bY a (bZ l [opn 2 a u]) (bZ i [opn 2 (a+s) u']) L M (di) (di) y (by omega) (by rw[B];omega) (by rw[K];omega) hb D I;refine⟨p, ?_,g2⟩;rw[Zm,g1,bT];rfl
end
end
section
open Option renaming some → a6, none → a7
open Bool renaming and_eq_true → ah, and_true → aj
open List renaming length_append → ae, append_assoc → ag, length_singleton → aA, getElem_mem → aI
open Nat renaming le_refl → af, lt_or_ge → ak
open Go.RowKit
section
variable {F:List Lf} (hF:yT F)
include hF
def YV (q:iK) (F:List Lf) (a:Nat) (l:List Nd) (u d:Int):Option ((List Lf×Int×List Nd×Int×Int×Unit)×Unit):=cond (oH F (ln F (nJ F (a+2) [41])) (d+1)) (q.q212 F ((ln F (nJ F (a+2) [41]):Nat):Int) ((bZ l [opn 16 a u]++[(7,(a:Int),((a+1:Nat):Int),bV l,())])++ny F (a+2) [41] (bV l)) (bV l) (d+1))<|qc F ((ln F (nJ F (a+2) [41]):Nat):Int) ((bZ l [opn 16 a u]++[(7,(a:Int),((a+1:Nat):Int),bV l,())])++ny F (a+2) [41] (bV l)) (bV l) (d+1)
theorem Jv (a:Nat) (l:List Nd) (u d:Int) (q:Nat) (hl:l.length<10000000) (hd:0<=d/\d<=200) (hb:QV F a d=true) {g:Nat} {m:List Nd}
  (e:YV (dA q) F a l u d=a6 (PR F g (((bZ l [opn 16 a u]++[(7,(a:Int),((a+1:Nat):Int),bV l,())])++ny F (a+2) [41] (bV l))++m) (bV l) (d+1),())):
  (dA (q+1)).q215 F (a:Int) (bZ l [opn 16 a u]) (bV l) (d+1)=a6 (PR F g (bZ l [opn 16 a u]++([(7,(a:Int),((a+1:Nat):Int),bV l,())]++ny F (a+2) [41] (bV l)++m)) (bV l) (d+1),()):=by
 have B:=hF.len;unfold QV at hb;simp only[ah,decide_eq_true_eq]at hb;obtain⟨i,y,D,_⟩:=hb;have f:=eQ i;have z:qX F a=true:=by
  unfold qX;rw[dif_pos f];have j:=rY i;rw[BX f]at j;exact decide_eq_true (alu (hF.txt _ (aI f)) j)
 have p:=zI (F:=F) (a:=a+1) (c:=40) (by decide) y;have I:=eQ p;have v:(bZ l [opn 16 a u]).length=l.length+1:=by unfold bZ;simp
 have A:=xA (F:=F) (a+2) [41];have x:=A.2 (by omega);have J:=nT (F:=F) (a+2) [41] (bV l);have K:=lV (F:=F) (nJ F (a+2) [41]);have L:=kQ (F:=F) x;show ads (dA q) F (a:Int) _ _ _=_;rw[ads,zT a _ _ _ (by omega) (by rw[v];omega),bT];simp only[wdL,uF,z,if_true];rw[iF hF (a+1) _ _ _ (by omega) [40] rfl,iR p,bT];simp only;rw[show a+1+1=a+2 from rfl,nI hF (a+2) _ _ _ (by omega) (by rw[ae,v];simp;omega) [41] rfl,bT];simp only[jM];rw[iO hF _ _ _ _ x,bT];simp only;rw[nN hF _ _ _ _ (by omega),bT];simp only;unfold YV at e;cases hc:oH F (ln F (nJ F (a+2) [41])) (d+1)with
 |true=>
  rw[hc,aa]at e;rw[aa,e,bT];simp only[ag]
 |false=>
  rw[hc,ac]at e;rw[ac,e,bT];simp only[ag]
theorem Y8 (a:Nat) (l:List Nd) (u d:Int) (q:Nat) (i:a<=F.length) (g:oH F a d=true) {f:Nat} {m:List Nd}
  (e:(dA q).q212 F (a:Int) l u d=a6 (PR F f (l++m) u d,())):
  (dA (q+1)).q174 F (a:Int) l u d=a6 (PR F f (l++m) u d,()):=by
 have j:=hF.len;show CV (dA q) F (a:Int) l u d=_;rw[CV,nN hF a l u d (by omega),bT];simp only;rw[g,aa,e,bT]
theorem af0 (a:Nat) (l:List Nd) (u d:Int) (q:Nat) (g:a<=F.length) (hl:l.length<10000000) (hd:0<=d/\d<=200) (i:oH F a d=false) (hb:QV F a d=true) {f:Nat} {m:List Nd}
  (e:(dA q).q215 F (a:Int) (bZ l [opn 16 a u]) (bV l) (d+1)=a6 (PR F f (bZ l [opn 16 a u]++m) (bV l) (d+1),())):
  (dA (q+1)).q174 F (a:Int) l u d=a6 (PR F f (l++(16,(a:Int),(f:Int),u,())::m) u d,()):=by
 have v:=hF.len;obtain⟨n1,_,_⟩:=iJ l (opn 16 a u) (by omega);obtain⟨j,p⟩:=jC l m (opn 16 a u);show CV (dA q) F (a:Int) l u d=_;rw[CV,nN hF a l u d (by omega),bT];simp only;rw[i,ac,zo hF a l u d g,bT];simp only;rw[hb];simp only[aa,eU,aj,n1];rw[dD,e,bT];simp only[j,p,aa,iI];rw[iH,show d+1-1=d by omega]
theorem Y9 (a:Nat) (l:List Nd) (u d:Int) (q:Nat) (g:a<=F.length) (hl:l.length<10000000) (i:oH F a d=false) (hb:QV F a d=false) (j:uG F a d=true) {f:Nat} {m:List Nd}
  (e:oD bY false F (a:Int) (bV l) d (bZ l [opn 5 a u])=a6 (.inl ((),((),()),((F,(f:Int),bV l,d,()),bZ l [opn 5 a u]++m,())))):
  (dA (q+1)).q174 F (a:Int) l u d=a6 (PR F f (l++(5,(a:Int),(f:Int),u,())::m) u d,()):=by
 have y:=hF.len;obtain⟨n1,_,_⟩:=iJ l (opn 5 a u) (by omega);obtain⟨p,v⟩:=jC l m (opn 5 a u);have x:XE F (a:Int) (bZ l [opn 5 a u]) (bV l) d=a6 (PR F f (bZ l [opn 5 a u]++m) (bV l) d,()):=by
  rw[XE,e,bT];rfl
 show CV (dA q) F (a:Int) l u d=_;rw[CV,nN hF a l u d (by omega),bT];simp only;rw[i,ac,zo hF a l u d g,bT];simp only;rw[hb,ac,yX hF a l u d (by omega),bT];simp only;rw[j];simp only[aa,eU,aj,n1];rw[x,bT];simp only[p,v,aa,iI]
theorem af1 (a:Nat) (l:List Nd) (u d:Int) (q:Nat) (e:a<=F.length) (hl:l.length<10000000) (f:oH F a d=false) (hb:QV F a d=false) (g:uG F a d=false):
  (dA (q+1)).q174 F (a:Int) l u d=a6 (PR F a (l++[(18,(a:Int),(a:Int),u,())]) u d,()):=by
 have i:=hF.len;show CV (dA q) F (a:Int) l u d=_;rw[CV,nN hF a l u d (by omega),bT];simp only;rw[f,ac,zo hF a l u d e,bT];simp only;rw[hb,ac,yX hF a l u d (by omega),bT];simp only;rw[g,ac,iQ _ l u d (by omega),bT]
end
section
variable {E:Prop} {F G:List Lf} {s:Nat} (h:Cf E F G s)
include h
theorem Cf.wna {a:Nat} (d:a<=F.length) (e:a<F.length\/E) {o:List UInt8} (f:o.contains 110=false) (g:o.contains 0=false):nJ G (a+s) o=nJ F a o+s:=h.tks d e f g
theorem Cf.wnm {a:Nat} (d:a<=F.length) (e:a<F.length\/E) {o:List UInt8} (f:o.contains 110=false) (g:o.contains 0=false) (u u':Int):KK (ny G (a+s) o u') (ny F a o u):=by
 unfold ny;rw[h.nx d e f g];split
 .exact KK.nil
 .exact KK.one
omit h in
theorem Wq (o:List UInt8) (u:Int):nJ F F.length o=F.length/\ny F F.length o u=[(18,(F.length:Int),(F.length:Int),u,())]:=by
 unfold nJ tk ny;rw[rO];exact⟨rfl,rfl⟩
theorem af2 {n:Nat} (t:Tw E F G s n) (t1:Tw E F G s (n-1)) (a:Nat) (l i:List Nd) (u u' d:Int) (r K V:Nat) (m:List Nd) (hm:16*(F.length-a)+9<n+1) (hr:n+1<=r) (aH:n+1<=K) (hp:jD F a l d 113) (hp':jD G (a+s) i d 113)
  (e:(dA r).q174 F (a:Int) l u d=a6 (PR F V (l++m) u d,())) (L:Cq E F V m):
  ∃M,(dA K).q174 G ((a+s:Nat):Int) i u' d=a6 (PR G (V+s) (i++M) u' d,())/\KK M m:=by
 have W:=hp;have av:=hp';obtain⟨p,p2,N,O⟩:=hp;obtain⟨S,aJ,_,_⟩:=hp';have aK:=h.f.len;have aO:=h.g.len;have aP:=h.le;have hA:=kN h.f n;have A:a<F.length\/E:=by
  obtain⟨v,x,j,_,X,_⟩:=(kN h.f (n+1)).command a l u d r r hm hr hr W;rw[j]at e;obtain⟨rfl,_⟩:=jv e;exact L.at X
 obtain⟨q,rfl⟩: ∃q,r=q+1:=⟨r-1,by omega⟩;obtain⟨y,rfl⟩: ∃y,K=y+1:=⟨K-1,by omega⟩;cases hcm:oH F a d with
 |true=>
  obtain⟨v,x,j,_,X,e4,e5,_⟩:=hA.compound a l u d q q (by omega) (by omega) (by omega) W hcm;rw[Y8 h.f a l u d q p hcm j]at e;obtain⟨rfl,rfl⟩:=jv e;obtain⟨M,g1,g2⟩:=t.compound a l i u u' d q y v x (by omega) (by omega) (by omega) W av hcm j L;exact⟨M,Y8 h.g (a+s) i u' d y S (by rw[h.cmp p A];exact hcm) g1,g2⟩
 |false=>
  have Y:oH G (a+s) d=false:=by rw[h.cmp p A];exact hcm
  cases hf:QV F a d with
  |true=>
   have D:QV G (a+s) d=true:=by rw[h.fnb p A];exact hf
   have Z:dW F a [120]=true/\qo F (a+1)=40/\d<200:=by
    have:=hf;unfold QV at this;simp only[ah,decide_eq_true_eq]at this;exact⟨this.1,this.2.1,this.2.2.1⟩
   have aQ:=eQ Z.1;have aw:=eQ (zI (F:=F) (a:=a+1) (c:=40) (by decide) Z.2.1);have an:a+2<F.length\/E:=h.nxt aw (by rw[Z.2.1];decide);have ax:=xA (F:=F) (a+2) [41];have ao:=ax.2 (by omega);have aS:=nT (F:=F) (a+2) [41] (bV l);have aU:=lV (F:=F) (nJ F (a+2) [41]);have ab:=kQ (F:=F) ao;obtain⟨z,rfl⟩: ∃z,q=z+1:=⟨q-1,by omega⟩;obtain⟨B,rfl⟩: ∃B,y=B+1:=⟨y-1,by omega⟩;have ad:(bZ l [opn 16 a u]).length=l.length+1:=by unfold bZ;simp
   have ai:(bZ i [opn 16 (a+s) u']).length=i.length+1:=by unfold bZ;simp
   have aV:((bZ l [opn 16 a u]++[(7,(a:Int),((a+1:Nat):Int),bV l,())])++ny F (a+2) [41] (bV l)).length<=l.length+3:=by
    simp only[ae,ad,aA];omega
   have ay: ∃(v:Nat) (x:List Nd),YV (dA z) F a l u d=a6 (PR F v (((bZ l [opn 16 a u]++[(7,(a:Int),((a+1:Nat):Int),bV l,())])++ny F (a+2) [41] (bV l))++x) (bV l) (d+1),())/\ln F (nJ F (a+2) [41])<=v:=by
    unfold YV;cases I:oH F (ln F (nJ F (a+2) [41])) (d+1)with
    |true=>
     obtain⟨v,x,j,_,X,_⟩:=(kN h.f (n-1)).compound (ln F (nJ F (a+2) [41])) ((bZ l [opn 16 a u]++[(7,(a:Int),((a+1:Nat):Int),bV l,())])++ny F (a+2) [41] (bV l)) (bV l) (d+1) z z (by omega) (by omega) (by omega) ⟨ab,by omega,by omega,by omega⟩ I;exact⟨v,x,j,by omega⟩
    |false=>exact⟨_,_,iQ _ _ _ _ (by omega),af _⟩
   obtain⟨v,x,j,e2⟩:=ay;rw[af0 h.f a l u d (z+1) p (by omega) ⟨N,O⟩ hcm hf (Jv h.f a l u d z (by omega) ⟨N,O⟩ hf j)]at e;obtain⟨rfl,rfl⟩:=jv e;have I:=L.t.r (m:=[(7,(a:Int),((a+1:Nat):Int),bV l,())]++ny F (a+2) [41] (bV l));have az:nJ G (a+s+2) [41]=nJ F (a+2) [41]+s:=by
    rw[show a+s+2=a+2+s by omega];exact h.wna (by omega) an (by decide) (by decide)
   have au:KK (ny G (a+s+2) [41] (bV i)) (ny F (a+2) [41] (bV l)):=by
    rw[show a+s+2=a+2+s by omega];exact h.wnm (by omega) an (by decide) (by decide) _ _
   have aW:=au.len;have aX:((bZ i [opn 16 (a+s) u']++[(7,((a+s:Nat):Int),((a+s+1:Nat):Int),bV i,())])++ny G (a+s+2) [41] (bV i)).length<=i.length+3:=by
    simp only[ae,ai,aA];omega
   have J:ln F (nJ F (a+2) [41])<F.length:=by
    rcases ak (ln F (nJ F (a+2) [41])) F.length with J|J
    .exact J
    .exfalso;have aB:ln F (nJ F (a+2) [41])=F.length:=by omega
     unfold YV at j;rw[aB,show oH F F.length (d+1)=false by unfold oH;rw[rO,Bool.and_false],ac,iQ _ _ _ _ (by omega)]at j;obtain⟨x1,x2⟩:=jv j;rw[<-x1,<-x2]at I;exact Cq.no (b:=(0,0,0,())) (m:=[]) (n:=[]) I
   have aF:=h.lns ao J;have aG: ∃U,YV (dA B) G (a+s) i u' d=a6 (PR G (v+s) (((bZ i [opn 16 (a+s) u']++[(7,((a+s:Nat):Int),((a+s+1:Nat):Int),bV i,())])++ny G (a+s+2) [41] (bV i))++U) (bV i) (d+1),())/\KK U x:=by
    unfold YV at j ⊢;rw[az,aF,h.cmp ab (.inl J)];cases hc2:oH F (ln F (nJ F (a+2) [41])) (d+1)with
    |true=>
     rw[hc2,aa]at j;exact t1.compound _ _ _ (bV l) (bV i) (d+1) z B v x (by omega) (by omega) (by omega) ⟨ab,by omega,by omega,by omega⟩ ⟨by omega,by omega,by omega,by omega⟩ hc2 j I
    |false=>
     rw[hc2,ac,iQ _ _ _ _ (by omega)]at j;obtain⟨rfl,rfl⟩:=jv j;rw[ac,iQ _ _ _ _ (by omega)];exact⟨_,rfl,KK.one⟩
   obtain⟨U,g1,g2⟩:=aG;refine⟨_,af0 h.g (a+s) i u' d (B+1) S (by omega) ⟨N,O⟩ Y D (Jv h.g (a+s) i u' d B (by omega) ⟨N,O⟩ D g1), ?_⟩;exact((KK.one.app au).app g2).cons
  |false=>
   have D:QV G (a+s) d=false:=by rw[h.fnb p A];exact hf
   cases hcd:uG F a d with
   |false=>
    have al:uG G (a+s) d=false:=by rw[h.cmd p A];exact hcd
    rw[af1 h.f a l u d q p (by omega) hcm hf hcd]at e;obtain⟨rfl,rfl⟩:=jv e;exact⟨_,af1 h.g (a+s) i u' d y S (by omega) Y D al,KK.one⟩
   |true=>
    have al:uG G (a+s) d=true:=by rw[h.cmd p A];exact hcd
    have ad:(bZ l [opn 5 a u]).length=l.length+1:=by unfold bZ;simp
    have ai:(bZ i [opn 5 (a+s) u']).length=i.length+1:=by unfold bZ;simp
    obtain⟨v,x,U,j,_,_,_,_,e6⟩:=O5 h (bV l) d (bV i) bY bY a (bZ l [opn 5 a u]) (bZ i [opn 5 (a+s) u']) false (di) (di) p (by rw[ad];omega) (by rw[ai];omega);rw[Y9 h.f a l u d q p (by omega) hcm hf hcd j]at e;obtain⟨rfl,rfl⟩:=jv e;obtain⟨g1,g2⟩:=e6 L.t;exact⟨_,Y9 h.g (a+s) i u' d y S (by omega) Y D al g1,g2.cons⟩
end
end
section
open List renaming length_append → ae, append_assoc → ag, append_nil → aG, append_cancel_left → bK
open Nat renaming le_refl → af, lt_or_ge → ak
open Go.RowKit
abbrev Fe:=List Lf×Int×List Nd×Int×Int×Unit
def Rn (F G:List Lf) (s:Nat) (C:Nat->List Nd->Prop) {f:Type} (x y:Option (Fe×f)) (a:Nat) (L L':List Nd) (u u' d:Int) (c:Nat):Prop:=
 ∃(e:Nat) (m:List Nd) (b:f),x=some (PR F e (L++m) u d,b)/\a<=e/\e<=F.length/\m.length<=16*(e-a)+c/\
  (C e m-> ∃g,y=some (PR G (e+s) (L'++g) u' d,b)/\KK g m)
abbrev DR (E:Prop) (F G:List Lf) (s:Nat) {d:Type}:= @Rn F G s (Cq E F) d
abbrev Rs (F G:List Lf) (s:Nat) {d:Type}:= @Rn F G s (fun a _=>a<F.length) d
def Bad (F:List Lf) {e:Type} (x:Option (Fe×e)) (L:List Nd) (u d:Int):Prop:= ∃(f:Nat) (m:List Nd) (b:e),x=some (PR F f (L++m) u d,b)/\F.length<=f/\ ¬wo m
section
variable {E:Prop} {F G:List Lf} {s:Nat}
theorem yu {e:Type} {a b:Nat} {l m n:List Nd} {u d:Int} {x y:e} (h:(some (PR F a (l++m) u d,x):Option (Fe×e))=some (PR F b (l++n) u d,y)):a=b/\m=n/\x=y:=by
 injection h with h
 injection h with h h3
 injection h with _ h
 injection h with h1 h
 injection h with h2 _
 exact⟨by omega,bK h2,h3⟩
theorem Rn.weak {f:Type} {x y:Option (Fe×f)} {a:Nat} {L L':List Nd} {u u' d:Int} {c e:Nat} (h:DR E F G s x y a L L' u u' d c) (v:c<=e):Rs F G s x y a L L' u u' d e:=by
 obtain⟨g,m,b,i,j,l,z,p⟩:=h;exact⟨g,m,b,i,j,l,by omega,fun q=>p (.inl q)⟩
theorem Rn.le {C:Nat->List Nd->Prop} {f:Type} {x y:Option (Fe×f)} {a:Nat} {L L':List Nd} {u u' d:Int} {c e:Nat} (h:Rn F G s C x y a L L' u u' d c) (q:c<=e):Rn F G s C x y a L L' u u' d e:=by
 obtain⟨g,m,b,i,j,l,v,p⟩:=h;exact⟨g,m,b,i,j,l,by omega,p⟩
theorem Rn.bind {g A:Type} {x y:Option (Fe×g)} {k i:Fe×g->Option (Fe×A)} {a:Nat} {L L':List Nd} {u u' d:Int} {c1 c2:Nat} (h:DR E F G s x y a L L' u u' d c1)
  (h2: ∀(e:Nat) (m f:List Nd) (b:g),a<=e->e<=F.length->m.length<=16*(e-a)+c1->f.length=m.length->DR E F G s (k (PR F e (L++m) u d,b)) (i (PR G (e+s) (L'++f) u' d,b)) e (L++m) (L'++f) u u' d c2):
  DR E F G s (bU x k) (bU y i) a L L' u u' d (c1+c2):=by
 obtain⟨e,m,b,B,j,p,q,D⟩:=h;obtain⟨I,J,K,v,M,N,V,_⟩:=h2 e m m b j p q rfl;refine⟨I,m++J,K,by rw[B,bT,v,ag],by omega,N,by rw[ae];omega,fun z=> ?_⟩;obtain⟨f,g1,g2⟩:=D (z.l M);obtain⟨W,X,Y,k1,k2,k3,k4,k5⟩:=h2 e m f b j p q g2.len;rw[v]at k1;obtain⟨rfl,rfl,rfl⟩:=yu k1;obtain⟨O,S,U⟩:=k5 z.r;exact⟨f++O,by rw[g1,bT,S,ag],g2.app U⟩
theorem Rn.bindS {i B:Type} {x y:Option (Fe×i)} {k q:Fe×i->Option (Fe×B)} {a:Nat} {L L':List Nd} {u u' d:Int} {c1 c2:Nat} (h:Rs F G s x y a L L' u u' d c1)
  (h2: ∀(e:Nat) (m f:List Nd) (b:i),a<=e->e<=F.length->m.length<=16*(e-a)+c1->f.length=m.length->DR E F G s (k (PR F e (L++m) u d,b)) (q (PR G (e+s) (L'++f) u' d,b)) e (L++m) (L'++f) u u' d c2)
  (D: ∀(m:List Nd) (b:i),m.length<=16*(F.length-a)+c1->Bad F (k (PR F F.length (L++m) u d,b)) (L++m) u d):
  DR E F G s (bU x k) (bU y q) a L L' u u' d (c1+c2):=by
 obtain⟨e,m,b,I,v,z,j,J⟩:=h;obtain⟨K,M,N,l,f2,O,f4,_⟩:=h2 e m m b v z j rfl;refine⟨K,m++M,N,by rw[I,bT,l,ag],by omega,O,by rw[ae];omega,fun g=> ?_⟩;have p:e<F.length:=by
  rcases ak e F.length with p|ab
  .exact p
  .exfalso;have S:e=F.length:=by omega
   subst S;obtain⟨U,V,W,A,z2,X⟩:=D m b j;rw[l]at A;obtain⟨rfl,rfl,_⟩:=yu A;rcases g with g|g
   .omega
   .exact X g.2.r
 obtain⟨f,g1,g2⟩:=J p;obtain⟨U,V,W,k1,k2,k3,k4,k5⟩:=h2 e m f b v z j g2.len;rw[l]at k1;obtain⟨rfl,rfl,rfl⟩:=yu k1;obtain⟨Y,Z,q2⟩:=k5 g.r;exact⟨f++Y,by rw[g1,bT,Z,ag],g2.app q2⟩
theorem Rn.bindW {g v:Type} {x y:Option (Fe×g)} {k i:Fe×g->Option (Fe×v)} {a:Nat} {L L':List Nd} {u u' d:Int} {c1 c2:Nat} (h:Rs F G s x y a L L' u u' d c1)
  (h2: ∀(e:Nat) (m f:List Nd) (b:g),a<=e->e<=F.length->m.length<=16*(e-a)+c1->f.length=m.length->Rs F G s (k (PR F e (L++m) u d,b)) (i (PR G (e+s) (L'++f) u' d,b)) e (L++m) (L'++f) u u' d c2):
  Rs F G s (bU x k) (bU y i) a L L' u u' d (c1+c2):=by
 obtain⟨e,m,b,z,j,l,p,A⟩:=h;obtain⟨B,D,I,q,S,J,U,_⟩:=h2 e m m b j l p rfl;refine⟨B,m++D,I,by rw[z,bT,q,ag],by omega,J,by rw[ae];omega,fun K=> ?_⟩;obtain⟨f,g1,g2⟩:=A (by omega);obtain⟨V,W,X,k1,k2,k3,k4,k5⟩:=h2 e m f b j l p g2.len;rw[q]at k1;obtain⟨rfl,rfl,rfl⟩:=yu k1;obtain⟨M,N,O⟩:=k5 K;exact⟨f++M,by rw[g1,bT,N,ag],g2.app O⟩
theorem Rn.ret {e:Type} {C:Nat->List Nd->Prop} {a:Nat} {L L':List Nd} {u u' d:Int} {b:e} (f:a<=F.length):Rn F G s C (some (PR F a L u d,b)) (some (PR G (a+s) L' u' d,b)) a L L' u u' d 0:=
 ⟨a,[],b,by rw[aG],af _,f,by simp,fun _=>⟨[],by rw[aG],KK.nil⟩⟩
theorem Rn.off {f:List Lf} {g:Nat} {i:Type} {x y j:Option (Fe×i)} {a:Nat} {L L' L2:List Nd} {u u' l d:Int} {c:Nat} (p: ¬(a<F.length\/E)) (r:DR E F f g x j a L L2 u l d c):DR E F G s x y a L L' u u' d c:=by
 obtain⟨q,m,b,v,e,z,A,_⟩:=r;exact⟨q,m,b,v,e,z,A,fun B=>absurd (B.at e) p⟩
theorem Bad.bind {g j:Type} {x:Option (Fe×g)} {k:Fe×g->Option (Fe×j)} {L:List Nd} {u d:Int} (h:Bad F x L u d)
  (h2: ∀(e:Nat) (m:List Nd) (b:g),x=some (PR F e (L++m) u d,b)-> ∃(f:Nat) (m2:List Nd) (i:j),k (PR F e (L++m) u d,b)=some (PR F f (L++m++m2) u d,i)/\e<=f):Bad F (bU x k) L u d:=by
 obtain⟨e,m,b,p,z,q⟩:=h;obtain⟨f,m2,i,v,A⟩:=h2 e m b p;exact⟨f,m++m2,i,by rw[p,bT,v,ag],by omega,fun y=>q y.l⟩
variable (h:Cf E F G s)
include h
theorem G7 {a:Nat} {L L':List Nd} {u u' d:Int} (i:a<=F.length) (hl:L.length<100000000) (q:L'.length<100000000) {o:List UInt8} (l:o.contains 110=false) (e:o.contains 0=false):
  DR E F G s (kJ F (a:Int) L u d o) (kJ G ((a+s:Nat):Int) L' u' d o) a L L' u u' d 1:=by
 have v:=h.f.len;have x:=h.g.len;have y:=h.le;obtain⟨j,p⟩:=xA (F:=F) a o;have z:=nT (F:=F) a o u;refine⟨nJ F a o,ny F a o u,(), ?_,j,p i,by omega,fun m=>⟨ny G (a+s) o u', ?_,h.wnm i (m.at j) l e u u'⟩⟩
 .rw[nI h.f a L u d (by omega) (by omega) o e,jM]
 .rw[nI h.g (a+s) L' u' d (by omega) (by omega) o e,jM,h.wna i (m.at j) l e]
omit h in
theorem G8 (hF:yT F) {L:List Nd} {u d:Int} (hl:L.length<100000000) {o:List UInt8} (e:o.contains 0=false):Bad F (kJ F (F.length:Int) L u d o) L u d:=by
 have i:=hF.len;obtain⟨f,g⟩:=Wq (F:=F) o u;refine⟨F.length,ny F F.length o u,(), ?_,af _, ?_⟩
 .rw[nI hF F.length L u d (by omega) (by omega) o e,jM,f]
 .rw[g];exact adc (m:=[]) (n:=[])
theorem ET {a:Nat} {L L':List Nd} {u u' d:Int} (i:a<=F.length) {o:List UInt8} (j:o.contains 110=false) (e:o.contains 0=false):
  DR E F G s (qm F (a:Int) L u d o) (qm G ((a+s:Nat):Int) L' u' d o) a L L' u u' d 0:=by
 have q:=h.f.len;have v:=h.g.len;have x:=h.le;have l:a<=tk F a o:=by unfold tk;split<;>omega
 refine⟨tk F a o,[],(dW F a o,()), ?_, ?_, ?_,by simp,fun m=>⟨[], ?_,KK.nil⟩⟩
 .rw[iF h.f a L u d (by omega) o e,aG]
 .unfold tk;split<;>omega
 .unfold tk;split
  .rename_i p;exact eQ p
  .exact i
 .rw[iF h.g (a+s) L' u' d (by omega) o e,aG,h.tks i (m.at l) j e,h.nx i (m.at l) j e]
theorem uo {a:Nat} {L L':List Nd} {u u' d:Int} (e:a<=F.length):
  Rs F G s (rJ F (a:Int) L u d) (rJ G ((a+s:Nat):Int) L' u' d) a L L' u u' d 0:=by
 have l:=h.f.len;have m:=h.le;have i:=lV (F:=F) a;refine⟨ln F a,[],(dW F a [110],()), ?_,i,kQ e,by simp,fun j=>⟨[], ?_,KK.nil⟩⟩
 .rw[iO h.f a L u d e,aG]
 .rw[iO h.g (a+s) L' u' d (by omega),aG,h.lns e j,h.n1 (by omega)]
theorem aik {a:Nat} {L L':List Nd} {u u' d:Int} (e:a<=F.length) (hl:L.length<100000000) (m:L'.length<100000000):
  DR E F G s (CX F (a:Int) L u d) (CX G ((a+s:Nat):Int) L' u' d) a L L' u u' d 1:=by
 have p:=h.f.len;have q:=h.g.len;have v:=h.le;obtain⟨i,l⟩:=Wl (F:=F) a;refine⟨uF F a,[Bd F a u],(), ?_,i,l e,by simp,fun j=>⟨[Bd G (a+s) u'], ?_, ?_⟩⟩
 .rw[zT a L u d (by omega) (by omega),xm]
 .rw[zT (a+s) L' u' d (by omega) (by omega),xm];unfold uF;rw[h.isw e (j.at i)];split<;>simp[show a+1+s=a+s+1 by omega]
 .unfold Bd;rw[h.isw e (j.at i)];split<;>exact KK.one
theorem YZ {n:Nat} (t:Tw E F G s n) {a:Nat} {L L':List Nd} {u u' d:Int} {q q':Nat} (g:16*(F.length-a)+13<n) (e:n<=q) (l:n<=q') (hp:jD F a L d 110) (hp':jD G (a+s) L' d 110):
  Rs F G s ((dA q).q255 F (a:Int) L u d) ((dA q').q255 G ((a+s:Nat):Int) L' u' d) a L L' u u' d 1:=by
 obtain⟨i,m,j,_,p,v,x,_⟩:=(kN h.f n).body a L u d q q g e e hp;exact⟨i,m,(),j,p,v,x,fun y=>t.body a L L' u u' d q q' i m g e l hp hp' j y⟩
omit h in
theorem aFJ (hF:yT F) {L:List Nd} {u d:Int} {q:Nat} (hl:L.length<100000000):Bad F ((dA (q+1)).q255 F (F.length:Int) L u d) L u d:=by
 have f:=hF.len;have e:ln F F.length=F.length:=by
  have:=lV (F:=F) F.length;have:=kQ (F:=F) (a:=F.length) (af _);omega
 refine⟨F.length,[(18,(F.length:Int),(F.length:Int),u,())],(), ?_,af _,adc (m:=[]) (n:=[])⟩;show KW (dA q) F (F.length:Int) L u d=_;rw[KW,iO hF _ L u d (af _),bT];simp only;rw[jO hF _ L u d (by omega),bT];simp only;rw[e,qh];simp only[ac];rw[iQ _ L u d (by omega),bT]
theorem ab9 {n:Nat} (t:Tw E F G s n) {a:Nat} {L L':List Nd} {u u' d:Int} {q q':Nat} (x:16*(F.length-a)+13<n) (y:n<=q) (z:n<=q') (hp:jD F a L d 109) (hp':jD G (a+s) L' d 109) {o:List UInt8} (A:o.contains 110=false) (j:o.contains 0=false):
  DR E F G s (bU ((dA q).q255 F (a:Int) L u d) fun e=>bU (kJ e.1.1 e.1.2.1 e.1.2.2.1 e.1.2.2.2.1 e.1.2.2.2.2.1 o) fun i=>some ((i.1.1,(i.1.2.1,(i.1.2.2.1,(i.1.2.2.2.1,(i.1.2.2.2.2.1,()))))),()))
   (bU ((dA q').q255 G ((a+s:Nat):Int) L' u' d) fun e=>bU (kJ e.1.1 e.1.2.1 e.1.2.2.1 e.1.2.2.2.1 e.1.2.2.2.2.1 o) fun i=>some ((i.1.1,(i.1.2.1,(i.1.2.2.1,(i.1.2.2.2.1,(i.1.2.2.2.2.1,()))))),())) a L L' u u' d 2:=by
 have K:=h.f.len;have M:=h.g.len;have N:=h.le;obtain⟨B,O,l,p⟩:=hp;obtain⟨D,S,_,_⟩:=hp';refine(Rn.bindS (c2:=1) (YZ h t x y z ⟨B,by omega,l,p⟩ ⟨D,by omega,l,p⟩) (fun v m U b V I J W=> ?_) (fun m b J=> ?_))
 .refine Rn.bind (c2:=0) (G7 h I (by rw[ae];omega) (by rw[ae];omega) A j) (fun X Y Z b2 k1 k2 k3 k4=> ?_);exact Rn.ret k2
 .refine(G8 h.f (by rw[ae];omega) j).bind fun v m1 b1 _=>⟨v,[],(),by simp,af _⟩
theorem aFP {n:Nat} (t:Tw E F G s n) {a:Nat} {L L':List Nd} {u u' d:Int} {q q':Nat} (p:16*(F.length-a)+13<n) (v:n+1<=q) (x:n+1<=q') (hp:jD F a L d 105) (hp':jD G (a+s) L' d 105):
  DR E F G s ((dA q).q256 F (a:Int) L u d) ((dA q').q256 G ((a+s:Nat):Int) L' u' d) a L L' u u' d 3:=by
 have y:=h.f.len;have z:=h.g.len;have A:=h.le;obtain⟨j,B,e,i⟩:=hp;obtain⟨D,I,_,_⟩:=hp';obtain⟨q,rfl⟩: ∃r,q=r+1:=⟨q-1,by omega⟩;obtain⟨q',rfl⟩: ∃r,q'=r+1:=⟨q'-1,by omega⟩;show DR E F G s (FC (dA q) F (a:Int) L u d) (FC (dA q') G ((a+s:Nat):Int) L' u' d) a L L' u u' d (1+2);rw[FC,FC];refine Rn.bind (G7 h j (by omega) (by omega) (by decide) (by decide)) fun J m K b M l N O=> ?_;exact ab9 h t (by omega) (by omega) (by omega) ⟨l,by rw[ae];omega,e,i⟩ ⟨by omega,by rw[ae];omega,e,i⟩ (by decide) (by decide)
omit h in
theorem apU (hF:yT F) {L:List Nd} {u d:Int} {q:Nat} (hl:L.length<=16*F.length+105) (hd:0<=d/\d<=200) (j:20<=q):Bad F ((dA q).q256 F (F.length:Int) L u d) L u d:=by
 have l:=hF.len;obtain⟨q,rfl⟩: ∃r,q=r+1:=⟨q-1,by omega⟩;show Bad F (FC (dA q) F (F.length:Int) L u d) L u d;rw[FC];refine(G8 hF (by omega) (by decide)).bind fun p m b e=> ?_;rw[nI hF F.length L u d (by omega) (by omega) [100] (by decide),jM,(Wq (F:=F) [100] u).1]at e;obtain⟨rfl,rfl,_⟩:=yu e;have v:=nT (F:=F) F.length [100] u;obtain⟨f,g,i,_,x,y,z,_⟩:=(kN hF 14).body F.length (L++ny F F.length [100] u) u d q q (by omega) (by omega) (by omega) ⟨af _,by rw[ae];omega,hd.1,hd.2⟩;obtain⟨A,B⟩:=xA (F:=F) f [103];refine⟨nJ F f [103],g++ny F f [103] u,(), ?_,by omega⟩;simp only;rw[i,bT];simp only;rw[nI hF f _ u d (by omega) (by simp only[ae];omega) [103] (by decide),bT];simp only[jM,ag]
end
end
section
open List renaming length_append → ae, append_assoc → ag
open Nat renaming le_refl → af, lt_or_ge → ak
open Go.RowKit
theorem atn {e f g i:Type} (A:Option e) (B:e->Option f) (C:f->Option g) (K:g->Option i):(bU A fun d=>bU (B d) fun j=>bU (C j) K)=bU (bU A fun d=>bU (B d) C) K:=by
 cases A with
 |none=>rfl
 |some x=>
  simp only[bT];cases B x<;>rfl
section
variable {E:Prop} {F G:List Lf} {s:Nat} (h:Cf E F G s)
include h
theorem azh {n:Nat} (t:Tw E F G s n) {a:Nat} {L L':List Nd} {u u' d:Int} {q q':Nat} (x:16*(F.length-a)+13<n) (p:n<=q) (v:n<=q') (hp:jD F a L d 107) (hp':jD G (a+s) L' d 107) {o:List UInt8} (y:o.contains 110=false) (z:o.contains 0=false):
  Rs F G s (bU ((dA q).q255 F (a:Int) L u d) fun e=>bU (kJ e.1.1 e.1.2.1 e.1.2.2.1 e.1.2.2.2.1 e.1.2.2.2.2.1 o) fun i=>(dA q).q255 i.1.1 i.1.2.1 i.1.2.2.1 i.1.2.2.2.1 i.1.2.2.2.2.1)
   (bU ((dA q').q255 G ((a+s:Nat):Int) L' u' d) fun e=>bU (kJ e.1.1 e.1.2.1 e.1.2.2.1 e.1.2.2.2.1 e.1.2.2.2.2.1 o) fun i=>(dA q').q255 i.1.1 i.1.2.1 i.1.2.2.1 i.1.2.2.2.1 i.1.2.2.2.2.1) a L L' u u' d (1+(1+1)):=by
 have I:=h.f.len;have J:=h.g.len;have K:=h.le;obtain⟨A,M,j,l⟩:=hp;obtain⟨B,N,_,_⟩:=hp';refine Rn.bindW (YZ h t x p v ⟨A,by omega,j,l⟩ ⟨B,by omega,j,l⟩) fun O m S b U D V W=> ?_;refine Rn.bindW ((G7 h D (by rw[ae];omega) (by rw[ae];omega) y z).weak (af _)) fun X Y Z b2 k1 k2 k3 k4=> ?_;exact YZ h t (by omega) p v ⟨k2,by simp only[ae];omega,j,l⟩ ⟨by omega,by simp only[ae];omega,j,l⟩
theorem KG {n:Nat} (t:Tw E F G s n) {q q':Nat} (p:n<=q) (B:n<=q') (u u' d:Int) (hd:0<=d/\d<=200): ∀(N A a:Nat) (L L':List Nd),F.length-a<N->F.length-a<A->a<=F.length->16*(F.length-a)+2<n->L.length<=16*a+110->L'.length<=16*(a+s)+110->
  ∃(v:Nat) (m:List Nd),ut (dA q) N F (a:Int) u d L=some (.inl ((),((),()),((F,(v:Int),u,d,()),L++m,())))/\a<=v/\v<=F.length/\m.length<=16*(v-a)/\
   (v<F.length-> ∃D,ut (dA q') A G ((a+s:Nat):Int) u' d L'=some (.inl ((),((),()),((G,((v+s:Nat):Int),u',d,()),L'++D,())))/\KK D m)
 |0,_,a,L,L',U,_,_,_,_,_=>by omega
 |_+1,0,a,L,L',_,U,_,_,_,_=>by omega
 |N+1,A+1,a,L,L',U,ah,I,hn,hL,ai=>by
  have aj:=h.f.len;have al:=h.g.len;have an:=h.le;by_cases hlt0:a<F.length
  case neg=>
   have ab:a=F.length:=by omega
   subst ab;have y:dW F F.length [101]=false:=rO;rw[ut,EQ,iF h.f _ L u d (by omega) [101] rfl,bT,y,jR y];exact⟨F.length,[],by simp,af _,I,by simp,fun M=>absurd M hlt0⟩
  rw[ut,EQ,iF h.f a L u d (by omega) [101] rfl,bT];rw[ut,EQ,iF h.g (a+s) L' u' d (by omega) [101] rfl,bT,h.nx I (.inl hlt0) (by decide) (by decide),h.tks I (.inl hlt0) (by decide) (by decide)];simp only;cases y:dW F a [101]with
  |false=>
   rw[jR y];exact⟨a,[],by simp,af _,I,by simp,fun _=>⟨[],by simp,KK.nil⟩⟩
  |true=>
   have ao:=eQ y;rw[iR y];simp only[aa];obtain⟨e,l,V,_,e3,O,e5,_⟩:=(kN h.f n).body (a+1) L u d q q (by omega) p p ⟨by omega,by omega,hd.1,hd.2⟩;obtain⟨w1,w2⟩:=xA (F:=F) e [116];have W:=w2 O;have w4:=nT (F:=F) e [116] u;obtain⟨z,x,X,_,f3,Y,f5,_⟩:=(kN h.f n).body (nJ F e [116]) (L++l++ny F e [116] u) u d q q (by omega) p p ⟨W,by simp only[ae];omega,hd.1,hd.2⟩;have ad:(l++ny F e [116] u++x).length<=16*(z-a):=by simp only[ae];omega
   have O0: ∀(K:(Fe×Unit)->Option (MH.den⊕ML.den)),(bU ((dA q).q255 F ((a+1:Nat):Int) L u d) fun j=>bU (kJ j.1.1 j.1.2.1 j.1.2.2.1 j.1.2.2.2.1 j.1.2.2.2.2.1 [116]) fun i=>bU ((dA q).q255 i.1.1 i.1.2.1 i.1.2.2.1 i.1.2.2.2.1 i.1.2.2.2.2.1) K)=K (PR F z (L++(l++ny F e [116] u++x)) u d,()):=fun K=>by
    rw[V,bT];simp only;rw[nI h.f e _ u d (by omega) (by rw[ae];omega) [116] rfl,bT];simp only[jM];rw[X,bT];simp only[ag]
   rw[O0];simp only;obtain⟨v,m,g1,g2,g3,g4,g5⟩:=KG t p B u u' d hd N A z (L++(l++ny F e [116] u++x)) (L'++(l++ny F e [116] u++x)) (by omega) (by omega) Y (by omega) (by rw[ae];omega) (by rw[ae];omega);refine⟨v,(l++ny F e [116] u++x)++m,by rw[g1,ag],by omega,g3,by rw[ae];omega,fun M=> ?_⟩;obtain⟨J,k1,k2⟩:=t.body (a+1) L L' u u' d q q' e l (by omega) p B ⟨by omega,by omega,hd.1,hd.2⟩ ⟨by omega,by omega,hd.1,hd.2⟩ V (by omega);have au:=k2.len;have Z:=h.wnm (a:=e) O (.inl (by omega)) (o:=[116]) (by decide) (by decide) u u';have av:=Z.len;have hA:=h.wna (a:=e) O (.inl (by omega)) (o:=[116]) (by decide) (by decide);obtain⟨S,x1,x2⟩:=t.body (nJ F e [116]) (L++l++ny F e [116] u) (L'++J++ny G (e+s) [116] u') u u' d q q' z x (by omega) p B ⟨W,by simp only[ae];omega,hd.1,hd.2⟩ ⟨by omega,by simp only[ae];omega,hd.1,hd.2⟩ X (by omega);have aw:=x2.len;have lg: ∀(K:(Fe×Unit)->Option (MH.den⊕ML.den)),(bU ((dA q').q255 G ((a+1+s:Nat):Int) L' u' d) fun j=>bU (kJ j.1.1 j.1.2.1 j.1.2.2.1 j.1.2.2.2.1 j.1.2.2.2.2.1 [116]) fun i=>bU ((dA q').q255 i.1.1 i.1.2.1 i.1.2.2.1 i.1.2.2.2.1 i.1.2.2.2.2.1) K)=K (PR G (z+s) (L'++(J++ny G (e+s) [116] u'++S)) u' d,()):=fun K=>by
    rw[k1,bT];simp only;rw[nI h.g (e+s) _ u' d (by omega) (by rw[ae];omega) [116] rfl,bT];simp only[jM,hA];rw[x1,bT];simp only[ag]
   rw[lg];simp only;obtain⟨b',n,i,y2,y3,y4,y5⟩:=KG t p B u u' d hd N A z (L++(l++ny F e [116] u++x)) (L'++(J++ny G (e+s) [116] u'++S)) (by omega) (by omega) Y (by omega) (by rw[ae];omega) (by simp only[ae]at ad ⊢;omega);rw[g1]at i;obtain⟨rfl,rfl⟩:=oJ i;obtain⟨D,z1,z2⟩:=y5 M;exact⟨(J++ny G (e+s) [116] u'++S)++D,by rw[z1,ag],((k2.app Z).app x2).app z2⟩
def PN (q:iK) (F:List Lf) (a:Int) (L:List Nd) (u d:Int):Option (Fe×Unit):=bU (qm F a L u d [108]) fun e=>cond e.2.1 (bU (q.q255 e.1.1 e.1.2.1 e.1.2.2.1 e.1.2.2.2.1 e.1.2.2.2.2.1) fun f=>bU (kJ f.1.1 f.1.2.1 f.1.2.2.1 f.1.2.2.2.1 f.1.2.2.2.2.1 [102]) fun g=>some ((g.1.1,(g.1.2.1,(g.1.2.2.1,(g.1.2.2.2.1,(g.1.2.2.2.2.1,()))))),()))<|bU (kJ e.1.1 e.1.2.1 e.1.2.2.1 e.1.2.2.2.1 e.1.2.2.2.2.1 [102]) fun f=>some ((f.1.1,(f.1.2.1,(f.1.2.2.1,(f.1.2.2.2.1,(f.1.2.2.2.2.1,()))))),())
theorem apV {n:Nat} (t:Tw E F G s n) {a:Nat} {L L':List Nd} {u u' d:Int} {q q':Nat} (x:16*(F.length-a)+13<n) (l:n<=q) (p:n<=q') (hp:jD F a L d 109) (hp':jD G (a+s) L' d 109):
  DR E F G s (PN (dA q) F (a:Int) L u d) (PN (dA q') G ((a+s:Nat):Int) L' u' d) a L L' u u' d (0+2):=by
 have y:=h.f.len;have z:=h.g.len;have A:=h.le;obtain⟨v,B,e,i⟩:=hp;obtain⟨D,I,_,_⟩:=hp';unfold PN;refine Rn.bind (ET h v (by decide) (by decide)) fun J m K b M j N O=> ?_;simp only;cases b.1 with
 |true=>exact ab9 h t (by omega) l p ⟨j,by rw[ae];omega,e,i⟩ ⟨by omega,by rw[ae];omega,e,i⟩ (by decide) (by decide)
 |false=>
  exact(Rn.bind (c2:=0) (G7 h j (by rw[ae];omega) (by rw[ae];omega) (by decide) (by decide)) fun S U V W k1 k2 k3 k4=>Rn.ret k2).le (by omega)
omit h in
theorem apW (hF:yT F) {L:List Nd} {u d:Int} {q:iK} (hl:L.length<10000000):Bad F (PN q F (F.length:Int) L u d) L u d:=by
 have f:=hF.len;unfold PN;rw[iF hF F.length L u d (by omega) [108] rfl,bT,jR rO];simp only[rO,ac];exact(G8 hF (by omega) (by decide)).bind fun e g i _=>⟨e,[],(),by simp,af _⟩
theorem afY {n:Nat} (t:Tw E F G s n) {a:Nat} {L L':List Nd} {u u' d:Int} {q q':Nat} (hm:16*(F.length-a)+13<n) (hq:n+1<=q) (ai:n+1<=q') (hp:jD F a L d 105) (hp':jD G (a+s) L' d 105):
  DR E F G s ((dA q).q236 F (a:Int) L u d) ((dA q').q236 G ((a+s:Nat):Int) L' u' d) a L L' u u' d 5:=by
 have aj:=h.f.len;have al:=h.g.len;have an:=h.le;obtain⟨p1,p2,l,m⟩:=hp;obtain⟨ab,ao,_,_⟩:=hp';obtain⟨q,rfl⟩: ∃r,q=r+1:=⟨q-1,by omega⟩;obtain⟨q',rfl⟩: ∃r,q'=r+1:=⟨q'-1,by omega⟩;have one: ∀{F:List Lf} {q a v i:Nat} {L e j:List Nd} {u d:Int} {K:Unit} {z:Option (Fe×Unit)},
   (bU ((dA q).q255 F (a:Int) L u d) fun A=>bU (kJ A.1.1 A.1.2.1 A.1.2.2.1 A.1.2.2.2.1 A.1.2.2.2.2.1 [116]) fun p=>(dA q).q255 p.1.1 p.1.2.1 p.1.2.2.1 p.1.2.2.2.1 p.1.2.2.2.2.1)=some (PR F v (L++e) u d,K)->
   ut (dA q) bY F (v:Int) u d (L++e)=some (.inl ((),((),()),((F,(i:Int),u,d,()),L++e++j,())))->
   PN (dA q) F (i:Int) (L++e++j) u d=z->
   (dA (q+1)).q236 F (a:Int) L u d=z:=by
  intro F q a v i L e j u d K z M O D;show TN (dA q) F (a:Int) L u d=_;rw[TN];refine(atn _ _ _ _).trans ?_;rw[M,bT];simp only;rw[O,bT];exact D
 obtain⟨v,e,K,M,O,D,e4,e5⟩:=azh h t (a:=a) (L:=L) (L':=L') (u:=u) (u':=u') (q:=q) (q':=q') (o:=[116]) hm (by omega) (by omega) ⟨p1,by omega,l,m⟩ ⟨ab,by omega,l,m⟩ (by decide) (by decide);obtain⟨i,j,S,f2,U,f4,_⟩:=KG h t (q:=q) (q':=q') (by omega) (by omega) u u' d ⟨l,m⟩ bY bY v (L++e) (L'++e) (di) (di) D (by omega) (by rw[ae];omega) (by rw[ae];omega);have V:(L++e++j).length<=16*i+109:=by simp only[ae];omega
 have l2:(L'++e++j).length<=16*(i+s)+109:=by simp only[ae];omega
 obtain⟨a3,m3,b3,k1,k2,k3,k4,_⟩:=apV h t (u:=u) (u':=u') (q:=q) (q':=q') (a:=i) (L:=L++e++j) (L':=L'++e++j) (by omega) (by omega) (by omega) ⟨U,V,l,m⟩ ⟨by omega,l2,l,m⟩;refine⟨a3,e++j++m3,b3,(one M S k1).trans (by simp only[ag]),by omega,k3,by simp only[ae];omega,fun B=> ?_⟩;have I:i<F.length:=by
  rcases ak i F.length with I|I
  .exact I
  .exfalso;have ad:i=F.length:=by omega
   subst ad;obtain⟨x,y,z,W,z2,z3⟩:=apW h.f (L:=L++e++j) (u:=u) (d:=d) (q:=dA q) (by simp only[ae];omega);rw[k1]at W;obtain⟨rfl,rfl,_⟩:=yu W;rcases B with B|B
   .omega
   .exact z3 B.2.r
 obtain⟨J,g1,g2⟩:=e5 (by omega);have au:=g2.len;obtain⟨b2,n2,X,x2,x3,x4,x5⟩:=KG h t (q:=q) (q':=q') (by omega) (by omega) u u' d ⟨l,m⟩ bY bY v (L++e) (L'++J) (di) (di) D (by omega) (by rw[ae];omega) (by rw[ae];omega);rw[S]at X;obtain⟨rfl,rfl⟩:=oJ X;obtain⟨N,p,Y⟩:=x5 I;have av:=Y.len;have l3:(L'++J++N).length<=16*(i+s)+109:=by simp only[ae];omega
 obtain⟨b4,n4,c4,Z,w2,w3,w4,w5⟩:=apV h t (u:=u) (u':=u') (q:=q) (q':=q') (a:=i) (L:=L++e++j) (L':=L'++J++N) (by omega) (by omega) (by omega) ⟨U,V,l,m⟩ ⟨by omega,l3,l,m⟩;rw[k1]at Z;obtain⟨rfl,rfl,rfl⟩:=yu Z;obtain⟨ah,v1,v2⟩:=w5 B.r;exact⟨J++N++ah,(one g1 p v1).trans (by simp only[ag]),(g2.app Y).app v2⟩
theorem aCD {n:Nat} (t:Tw E F G s n) {a:Nat} {L L':List Nd} {u u' d:Int} {q q':Nat} (l:16*(F.length-a)+13<n) (z:20<=n) (A:n+2<=q) (B:n+2<=q') (hp:jD F a L d 104) (hp':jD G (a+s) L' d 104):
  DR E F G s ((dA q).q237 F (a:Int) L u d) ((dA q').q237 G ((a+s:Nat):Int) L' u' d) a L L' u u' d (1+(3+0)):=by
 have D:=h.f.len;have I:=h.g.len;have J:=h.le;obtain⟨p,K,e,i⟩:=hp;obtain⟨v,M,_,_⟩:=hp';obtain⟨q,rfl⟩: ∃r,q=r+1:=⟨q-1,by omega⟩;obtain⟨q',rfl⟩: ∃r,q'=r+1:=⟨q'-1,by omega⟩;show DR E F G s (PP (dA q) F (a:Int) L u d) (PP (dA q') G ((a+s:Nat):Int) L' u' d) a L L' u u' d (1+(3+0));rw[PP,PP];refine Rn.bindS (YZ h t l (by omega) (by omega) ⟨p,by omega,e,i⟩ ⟨v,by omega,e,i⟩) (fun j m N b O x y S=> ?_) (fun m b y=> ?_)
 .refine Rn.bind (aFP h t (by omega) (by omega) (by omega) ⟨x,by rw[ae];omega,e,i⟩ ⟨by omega,by rw[ae];omega,e,i⟩) fun U V W X k1 k2 k3 k4=>Rn.ret k2
 .exact(apU h.f (by rw[ae];omega) ⟨e,i⟩ (by omega)).bind fun j Y Z _=>⟨j,[],(),by simp,af _⟩
end
end
section
open Option renaming some → a6, none → a7
open List renaming length_append → ae, append_assoc → ag, length_cons → az, length_singleton → aA, append_nil → aG, getElem_mem → aI
open Nat renaming le_refl → af
open Go.RowKit
def Yg (q:iK) (F:List Lf) (a:Int) (L:List Nd) (u d:Int):Option (Fe×Unit):=bU (qm F a L u d [59]) fun g=>bU (rJ g.1.1 g.1.2.1 g.1.2.2.1 g.1.2.2.2.1 g.1.2.2.2.2.1) fun f=>cond (!f.2.1) (cond (!g.2.1) (bU (qc f.1.1 f.1.2.1 f.1.2.2.1 f.1.2.2.2.1 f.1.2.2.2.2.1) fun e=>bU (q.q256 e.1.1 e.1.2.1 e.1.2.2.1 e.1.2.2.2.1 e.1.2.2.2.2.1) fun i=>a6 ((i.1.1,(i.1.2.1,(i.1.2.2.1,(i.1.2.2.2.1,(i.1.2.2.2.2.1,()))))),()))<|bU (q.q256 f.1.1 f.1.2.1 f.1.2.2.1 f.1.2.2.2.1 f.1.2.2.2.2.1) fun e=>a6 ((e.1.1,(e.1.2.1,(e.1.2.2.1,(e.1.2.2.2.1,(e.1.2.2.2.2.1,()))))),()))<|bU (q.q256 f.1.1 f.1.2.1 f.1.2.2.1 f.1.2.2.2.1 f.1.2.2.2.2.1) fun e=>a6 ((e.1.1,(e.1.2.1,(e.1.2.2.1,(e.1.2.2.2.1,(e.1.2.2.2.2.1,()))))),())
def GY (q:iK) (F:List Lf) (a:Int) (L:List Nd) (u d:Int):Option (Fe×Unit):=bU (qm F a L u d [59]) fun f=>cond f.2.1 (bU (rJ f.1.1 f.1.2.1 f.1.2.2.1 f.1.2.2.2.1 f.1.2.2.2.2.1) fun g=>bU (q.q256 g.1.1 g.1.2.1 g.1.2.2.1 g.1.2.2.2.1 g.1.2.2.2.2.1) fun e=>a6 ((e.1.1,(e.1.2.1,(e.1.2.2.1,(e.1.2.2.2.1,(e.1.2.2.2.2.1,()))))),()))<|bU (rJ f.1.1 f.1.2.1 f.1.2.2.1 f.1.2.2.2.1 f.1.2.2.2.2.1) fun g=>bU (qm g.1.1 g.1.2.1 g.1.2.2.1 g.1.2.2.2.1 g.1.2.2.2.2.1 [107]) fun e=>cond e.2.1 (bU (sO q bY e.1.1 e.1.2.1 e.1.2.2.2.1 e.1.2.2.2.2.1 e.1.2.2.1) fun i=>dX i (fun j=>Yg q j.2.2.1.1 j.2.2.1.2.1 j.2.2.2.1 j.2.2.1.2.2.1 j.2.2.1.2.2.2.1) (fun l=>a7))<|bU (q.q256 e.1.1 e.1.2.1 e.1.2.2.1 e.1.2.2.2.1 e.1.2.2.2.2.1) fun i=>a6 ((i.1.1,(i.1.2.1,(i.1.2.2.1,(i.1.2.2.2.1,(i.1.2.2.2.2.1,()))))),())
theorem QQ (q:iK) (F:List Lf) (a:Int) (L:List Nd) (u d:Int):TP q F a L u d=
  bU (Lh F a L u d) fun e=>
  bif e.2.1 then
   bif(iy e.1.1 e.1.2.1)then
    bU (XH (gW e.1.1 (0,([],(0,(0,())))) e.1.2.1).2.1) fun g=>
     bif g.1 then
      bU (QK e.1.1 e.1.2.1 e.1.2.2.1 e.1.2.2.2.1 e.1.2.2.2.2.1 7) fun f=>
       GY q f.1.1 f.1.2.1 f.1.2.2.1 f.1.2.2.2.1 f.1.2.2.2.2.1
     else
     bU (qc e.1.1 e.1.2.1 e.1.2.2.1 e.1.2.2.2.1 e.1.2.2.2.2.1) fun f=>
      GY q f.1.1 f.1.2.1 f.1.2.2.1 f.1.2.2.2.1 f.1.2.2.2.2.1
   else a7
  else
  bU (qc e.1.1 e.1.2.1 e.1.2.2.1 e.1.2.2.2.1 e.1.2.2.2.2.1) fun g=>
   GY q g.1.1 g.1.2.1 g.1.2.2.1 g.1.2.2.2.1 g.1.2.2.2.2.1:=rfl
section
variable {E:Prop} {F G:List Lf} {s:Nat}
theorem Rn.pre {g:Type} {x y:Option (Fe×g)} {a e:Nat} {L L' m f:List Nd} {u u' d:Int} {c1 c2:Nat} (hk:KK f m) (I:a<=e) (hl:m.length<=16*(e-a)+c1) (r:DR E F G s x y e (L++m) (L'++f) u u' d c2):DR E F G s x y a L L' u u' d (c1+c2):=by
 obtain⟨i,j,l,p,J,q,K,v⟩:=r;refine⟨i,m++j,l,by rw[p,ag],by omega,q,by rw[ae];omega,fun z=> ?_⟩;obtain⟨A,B,D⟩:=v z.r;exact⟨f++A,by rw[B,ag],hk.app D⟩
theorem Ul {a:Nat} (d:qX F a=true): ∃h:a<F.length,F[a].1=6:=by
 unfold qX at d;split at d
 .rename_i e
  exact⟨e,by simpa using d⟩
 .exact absurd d (by simp)
variable (h:Cf E F G s)
include h
theorem Ih {a:Nat} {L L':List Nd} {u u' d:Int} (e:a<=F.length) (hl:L.length<100000000) (i:L'.length<100000000):
  DR E F G s (qc F (a:Int) L u d) (qc G ((a+s:Nat):Int) L' u' d) a L L' u u' d 1:=by
 have j:=h.f.len;have l:=h.g.len;have m:=h.le;exact⟨a,[(18,(a:Int),(a:Int),u,())],(),iQ a L u d (by omega),af _,e,by simp,fun _=>⟨[(18,((a+s:Nat):Int),((a+s:Nat):Int),u',())],iQ (a+s) L' u' d (by omega),KK.one⟩⟩
theorem acT {q q':iK} (u u' d:Int): ∀(N i a:Nat) (L L':List Nd),F.length-a<N->F.length-a<i->a<=F.length->L.length<=16*a+200->L'.length<=16*(a+s)+200->
  ∃(e:Nat) (m:List Nd),sO q N F (a:Int) u d L=a6 (.inl ((),((),()),((F,(e:Int),u,d,()),L++m,())))/\a<=e/\e<=F.length/\m.length<=e-a/\
   (e<F.length\/E-> ∃j,sO q' i G ((a+s:Nat):Int) u' d L'=a6 (.inl ((),((),()),((G,((e+s:Nat):Int),u',d,()),L'++j,())))/\KK j m)
 |0,_,a,L,L',v,_,_,_,_=>by omega
 |_+1,0,a,L,L',_,v,_,_,_=>by omega
 |N+1,i+1,a,L,L',v,A,l,B,D=>by
  have I:=h.f.len;have J:=h.g.len;have K:=h.le;rw[sO,ER,ku a L u d,bT];simp only;cases hw:qX F a with
  |false=>
   refine⟨a,[],by simp,af _,l,by simp,fun p=>⟨[], ?_,KK.nil⟩⟩;rw[sO,ER,ku (a+s) L' u' d,bT,h.isw l p];simp only[hw,ac,aG]
  |true=>
   obtain⟨y,_⟩:=Ul hw;simp only[aa];rw[qG a L u d 7 (by omega) (by omega),bT];simp only;obtain⟨e,m,g1,g4,g5,g6,g2⟩:=acT u u' d N i (a+1) (L++[(7,(a:Int),((a+1:Nat):Int),u,())]) (L'++[(7,((a+s:Nat):Int),((a+s+1:Nat):Int),u',())]) (by omega) (by omega) (by omega) (by rw[ae,aA];omega) (by rw[ae,aA];omega);refine⟨e,(7,(a:Int),((a+1:Nat):Int),u,())::m,by rw[g1,ag];rfl,by omega,g5,by rw[az];omega,fun p=> ?_⟩;obtain⟨j,x,z⟩:=g2 p;rw[show a+1+s=a+s+1 by omega]at x;refine⟨(7,((a+s:Nat):Int),((a+s+1:Nat):Int),u',())::j, ?_,KK.cons z⟩;rw[sO,ER,ku (a+s) L' u' d,bT,h.isw l (.inl y)];simp only[hw,aa];rw[qG (a+s) L' u' d 7 (by omega) (by omega),bT];simp only;rw[x,ag];rfl
omit h in
theorem KD (hF:yT F) {L:List Nd} {u d:Int} {q:Nat} (hl:L.length<=16*F.length+105) (hd:0<=d/\d<=200) (f:20<=q):Bad F (bU ((dA q).q256 F (F.length:Int) L u d) fun e=>a6 ((e.1.1,(e.1.2.1,(e.1.2.2.1,(e.1.2.2.2.1,(e.1.2.2.2.2.1,()))))),())) L u d:=
 (apU hF hl hd f).bind fun g i j _=>⟨g,[],(),by simp,af _⟩
theorem adl {n:Nat} (t:Tw E F G s n) {a:Nat} {L L':List Nd} {u u' d:Int} {q q':Nat} (f:16*(F.length-a)+13<n) (g:n+1<=q) (i:n+1<=q') (hp:jD F a L d 105) (hp':jD G (a+s) L' d 105):
  DR E F G s (bU ((dA q).q256 F (a:Int) L u d) fun e=>a6 ((e.1.1,(e.1.2.1,(e.1.2.2.1,(e.1.2.2.2.1,(e.1.2.2.2.2.1,()))))),())) (bU ((dA q').q256 G ((a+s:Nat):Int) L' u' d) fun e=>a6 ((e.1.1,(e.1.2.1,(e.1.2.2.1,(e.1.2.2.2.1,(e.1.2.2.2.2.1,()))))),())) a L L' u u' d 3:=
 Rn.bind (c2:=0) (aFP h t f g i hp hp') fun j l m p k1 k2 k3 k4=>Rn.ret k2
theorem atV {n:Nat} (t:Tw E F G s n) {a:Nat} {L L':List Nd} {u u' d:Int} {q q':Nat} (S:16*(F.length-a)+13<n) (U:20<=n) (l:n+1<=q) (p:n+1<=q') (hp:jD F a L d 102) (hp':jD G (a+s) L' d 102):
  DR E F G s (Yg (dA q) F (a:Int) L u d) (Yg (dA q') G ((a+s:Nat):Int) L' u' d) a L L' u u' d (0+(0+(1+3))):=by
 have V:=h.f.len;have W:=h.g.len;have X:=h.le;obtain⟨B,Y,e,i⟩:=hp;obtain⟨Z,ab,_,_⟩:=hp';unfold Yg;refine Rn.bind (ET h B (by decide) (by decide)) fun a1 m D b h1 I h3 h4=> ?_;refine Rn.bindS (uo h I) (fun x j J v k1 k2 k3 k4=> ?_) (fun j v k3=> ?_)
 .have K:(L++m++j).length<=16*x+102:=by simp only[ae];omega
  have l2:(L'++D++J).length<=16*(x+s)+102:=by simp only[ae];omega
  simp only;cases v.1 with
  |true=>exact(adl h t (by omega) l p ⟨k2,by omega,e,i⟩ ⟨by omega,by omega,e,i⟩).le (by omega)
  |false=>
   cases b.1 with
   |true=>exact(adl h t (by omega) l p ⟨k2,by omega,e,i⟩ ⟨by omega,by omega,e,i⟩).le (by omega)
   |false=>
    refine Rn.bind (Ih h k2 (by omega) (by omega)) fun y z ad A x1 M x3 x4=> ?_;exact adl h t (by omega) l p ⟨M,by rw[ae];omega,e,i⟩ ⟨by omega,by rw[ae];omega,e,i⟩
 .have K:(L++m++j).length<=16*F.length+102:=by simp only[ae];omega
  simp only;cases v.1 with
  |true=>exact KD h.f (by omega) ⟨e,i⟩ (by omega)
  |false=>
   cases b.1 with
   |true=>exact KD h.f (by omega) ⟨e,i⟩ (by omega)
   |false=>
    obtain⟨y,z,A,N,O,e3⟩:=KD h.f (L:=L++m++j++[(18,(F.length:Int),(F.length:Int),u,())]) (u:=u) (d:=d) (q:=q) (by rw[ae,aA];omega) ⟨e,i⟩ (by omega);refine⟨y,[(18,(F.length:Int),(F.length:Int),u,())]++z,A, ?_,O,adc (m:=[])⟩;show bU (qc F (F.length:Int) (L++m++j) u d) _=_;rw[iQ F.length _ u d (by omega),bT];simpa only[ag] using N
theorem avX {n:Nat} (t:Tw E F G s n) {a:Nat} {L L':List Nd} {u u' d:Int} {q q':Nat} (hm:16*(F.length-a)+13<n) (D:20<=n) (l:n+1<=q) (p:n+1<=q') (hp:jD F a L d 102) (hp':jD G (a+s) L' d 102):
  DR E F G s (GY (dA q) F (a:Int) L u d) (GY (dA q') G ((a+s:Nat):Int) L' u' d) a L L' u u' d (0+(0+(0+(0+4)))):=by
 have ab:=h.f.len;have ad:=h.g.len;have ah:=h.le;obtain⟨S,p2,e,i⟩:=hp;obtain⟨ai,aj,_,_⟩:=hp';unfold GY;refine Rn.bind (ET h S (by decide) (by decide)) fun I m v b h1 J h3 h4=> ?_;have l1:(L++m).length<=16*I+102:=by simp only[ae];omega
 have l2:(L'++v).length<=16*(I+s)+102:=by simp only[ae];omega
 simp only;cases b.1 with
 |true=>
  refine Rn.bindS (c2:=4) (uo h J) (fun y j x z k1 k2 k3 k4=> ?_) (fun j z k3=> ?_)
  .exact(adl h t (by omega) l p ⟨k2,by rw[ae];omega,e,i⟩ ⟨by omega,by rw[ae];omega,e,i⟩).le (by omega)
  .exact KD h.f (by rw[ae];omega) ⟨e,i⟩ (by omega)
 |false=>
  refine Rn.bindS (uo h J) (fun y j x z k1 k2 k3 k4=> ?_) (fun j z k3=> ?_)
  .have l3:(L++m++j).length<=16*y+102:=by rw[ae];omega
   have l4:(L'++v++x).length<=16*(y+s)+102:=by rw[ae];omega
   refine Rn.bind (ET h k2 (by decide) (by decide)) fun A B K U x1 M x3 x4=> ?_;have l5:(L++m++j++B).length<=16*A+102:=by rw[ae];omega
   have l6:(L'++v++x++K).length<=16*(A+s)+102:=by rw[ae];omega
   simp only;cases U.1 with
   |false=>exact(adl h t (by omega) l p ⟨M,by omega,e,i⟩ ⟨by omega,by omega,e,i⟩).le (by omega)
   |true=>
    obtain⟨N,O,g1,g4,g5,g6,g2⟩:=acT h (q:=dA q) (q':=dA q') u u' d bY bY A (L++m++j++B) (L'++v++x++K) (di) (di) M (by omega) (by omega);simp only[aa];rw[g1,bT];simp only[dX];by_cases hE:N<F.length\/E
    .obtain⟨ak,g2,g3⟩:=g2 hE;have g7:=g3.len;rw[g2,bT];simp only;exact Rn.pre (c1:=0) g3 g4 (by omega) (atV h t (by omega) D l p ⟨g5,by rw[ae];omega,e,i⟩ ⟨by omega,by rw[ae];omega,e,i⟩)
    .obtain⟨V,W,X,Y,Z,y3,y4,_⟩:=atV h t (a:=N) (L:=L++m++j++B++O) (L':=[]) (u:=u) (u':=u') (d:=d) (q:=q) (q':=q') (by omega) D l p ⟨g5,by rw[ae];omega,e,i⟩ ⟨by omega,by simp,e,i⟩;exact⟨V,O++W,X,by rw[Y,ag],by omega,y3,by rw[ae];omega,fun hc=>absurd (hc.at Z) hE⟩
  .simp only;rw[iF h.f F.length _ u d (by omega) [107] rfl,bT,jR rO];simp only[rO,ac];exact KD h.f (by rw[ae];omega) ⟨e,i⟩ (by omega)
theorem aBt {n:Nat} (t:Tw E F G s n) {a:Nat} {L L':List Nd} {u u' d:Int} {q q':Nat} (A:16*(F.length-a)+13<n) (v:20<=n) (B:n+2<=q) (D:n+2<=q') (hp:jD F a L d 101) (hp':jD G (a+s) L' d 101):
  DR E F G s ((dA q).q238 F (a:Int) L u d) ((dA q').q238 G ((a+s:Nat):Int) L' u' d) a L L' u u' d (1+4):=by
 have I:=h.f.len;have J:=h.g.len;have K:=h.le;obtain⟨x,M,j,l⟩:=hp;obtain⟨N,O,_,_⟩:=hp';obtain⟨q,rfl⟩: ∃r,q=r+1:=⟨q-1,by omega⟩;obtain⟨q',rfl⟩: ∃r,q'=r+1:=⟨q'-1,by omega⟩;show DR E F G s (TP (dA q) F (a:Int) L u d) (TP (dA q') G ((a+s:Nat):Int) L' u' d) a L L' u u' d (1+4);have mis:DR E F G s (bU (qc F (a:Int) L u d) fun i=>GY (dA q) i.1.1 i.1.2.1 i.1.2.2.1 i.1.2.2.2.1 i.1.2.2.2.2.1) (bU (qc G ((a+s:Nat):Int) L' u' d) fun i=>GY (dA q') i.1.1 i.1.2.1 i.1.2.2.1 i.1.2.2.2.1 i.1.2.2.2.2.1) a L L' u u' d (1+4):=
  Rn.bind (Ih h x (by omega) (by omega)) fun S U V W X y Y Z=>avX h t (by omega) v (by omega) (by omega) ⟨y,by rw[ae];omega,j,l⟩ ⟨by omega,by rw[ae];omega,j,l⟩
 by_cases hE:a<F.length\/E
 case neg=>
  have m:qX F a=false:=by unfold qX;rw[dif_neg (fun h=>hE (.inl h))]
  rw[QQ,ku a L u d,bT];simp only;rw[m];exact Rn.off hE mis
 rw[QQ,QQ,ku a L u d,ku (a+s) L' u' d,bT,bT,h.isw x hE];simp only;cases m:qX F a with
 |false=>exact mis
 |true=>
  obtain⟨p,_⟩:=Ul m;obtain⟨z,e⟩:=h.at_ a p;simp only[aa];rw[fD,fD,um p,um z,e.2,Ai (by have:=h.f.txt _ (aI p);omega),bT,bT];simp only[aa];cases decide (nl F[a].2.1≠0/\nl F[a].2.1=F[a].2.1.length)with
  |false=>exact mis
  |true=>
   simp only[aa];rw[qG a L u d 7 (by omega) (by omega),qG (a+s) L' u' d 7 (by omega) (by omega),bT,bT];simp only;have r:=avX h t (a:=a+1) (L:=L++[(7,(a:Int),((a+1:Nat):Int),u,())]) (L':=L'++[(7,((a+s:Nat):Int),((a+s+1:Nat):Int),u',())]) (u:=u) (u':=u') (d:=d) (q:=q) (q':=q') (by omega) v (by omega) (by omega) ⟨by omega,by rw[ae,aA];omega,j,l⟩ ⟨by omega,by rw[ae,aA];omega,j,l⟩;rw[show a+1+s=a+s+1 by omega]at r;exact Rn.pre KK.one (by omega) (by simp) r
end
end
section
open Option renaming some → a6, none → a7
open Bool renaming and_eq_true → ah, and_true → aj, not_true → au, true_and → aS, false_or → bg, or_eq_true → bi
open List renaming length_append → ae, append_assoc → ag, length_cons → az, length_singleton → aA, append_nil → aG
open Nat renaming le_refl → af, lt_or_ge → ak
open Go.RowKit
theorem aE4 {d g e i:Type} (A:Option (d⊕g)) (f:d->e) (K:e->Option i):(bU A fun y=>dX y (fun a=>K (f a)) (fun _=>a7))=bU (bU A fun y=>dX y (fun a=>a6 (f a)) (fun _=>a7)) K:=by
 cases A with
 |none=>rfl
 |some x=>cases x<;>rfl
section
variable {E:Prop} {F G:List Lf} {s:Nat}
theorem Rn.preS {g:Type} {x y:Option (Fe×g)} {a e:Nat} {L L' m f:List Nd} {u u' d:Int} {c1 c2:Nat} (hk:KK f m) (I:a<=e) (hl:m.length<=16*(e-a)+c1) (r:Rs F G s x y e (L++m) (L'++f) u u' d c2):Rs F G s x y a L L' u u' d (c1+c2):=by
 obtain⟨i,j,l,p,J,q,K,v⟩:=r;refine⟨i,m++j,l,by rw[p,ag],by omega,q,by rw[ae];omega,fun z=> ?_⟩;obtain⟨A,B,D⟩:=v z;exact⟨f++A,by rw[B,ag],hk.app D⟩
variable (h:Cf E F G s)
include h
theorem azg {q q':iK} (u u' d:Int): ∀(N j a:Nat) (L L':List Nd),F.length-a<N->F.length-a<j->a<=F.length->L.length<=16*a+200->L'.length<=16*(a+s)+200->
  ∃(e:Nat) (m:List Nd),vM q N F (a:Int) u d L=a6 (.inl ((),((),()),((F,(e:Int),u,d,()),L++m,())))/\a<=e/\e<=F.length/\m.length<=e-a/\
   (e<F.length-> ∃l,vM q' j G ((a+s:Nat):Int) u' d L'=a6 (.inl ((),((),()),((G,((e+s:Nat):Int),u',d,()),L'++l,())))/\KK l m)
 |0,_,a,L,L',v,_,_,_,_=>by omega
 |_+1,0,a,L,L',_,v,_,_,_=>by omega
 |N+1,j+1,a,L,L',v,D,i,I,J=>by
  have K:=h.f.len;have M:=h.g.len;have O:=h.le;rw[vM,ES,iF h.f a L u d (by omega) [124] rfl,bT];simp only;cases hb:dW F a [124]with
  |false=>
   rw[jR hb];refine⟨a,[],by simp,af _,i,by simp,fun p=>⟨[], ?_,KK.nil⟩⟩;rw[vM,ES,iF h.g (a+s) L' u' d (by omega) [124] rfl,bT,h.nx i (.inl p) (by decide) (by decide),h.tks i (.inl p) (by decide) (by decide),hb,jR hb];simp only[ac,aG]
  |true=>
   have x:=eQ hb;rw[iR hb];simp only[aa];obtain⟨S,y⟩:=Wl (F:=F) (a+1);rw[zT (a+1) L u d (by omega) (by omega),bT];simp only[xm];obtain⟨e,m,g1,g4,g5,g6,g2⟩:=azg u u' d N j (uF F (a+1)) (L++[Bd F (a+1) u]) (L'++[Bd G (a+1+s) u']) (by omega) (by omega) (y (by omega)) (by rw[ae,aA];omega) (by rw[ae,aA];omega);refine⟨e,[Bd F (a+1) u]++m,by rw[g1,ag],by omega,g5,by rw[ae,aA];omega,fun p=> ?_⟩;obtain⟨l,z,A⟩:=g2 p;have hk:KK [Bd G (a+1+s) u'] [Bd F (a+1) u]:=by
    unfold Bd;rw[h.isw (by omega) (.inl (by omega))];split<;>exact KK.one
   have B:uF G (a+1+s)=uF F (a+1)+s:=by
    unfold uF;rw[h.isw (by omega) (.inl (by omega))];split<;>omega
   refine⟨[Bd G (a+1+s) u']++l, ?_,hk.app A⟩;rw[vM,ES,iF h.g (a+s) L' u' d (by omega) [124] rfl,bT,h.nx i (.inl x) (by decide) (by decide),h.tks i (.inl x) (by decide) (by decide),hb,iR hb];simp only[aa];rw[zT (a+1+s) L' u' d (by omega) (by omega),bT];simp only[xm];rw[B,z,ag]
theorem aBV {n:Nat} (t:Tw E F G s n) {a:Nat} {L L':List Nd} {u u' d:Int} {q q':Nat} (hm:16*(F.length-a)+13<n) (hq:n+1<=q) (ao:n+1<=q') (hp:jD F a L d 105) (hp':jD G (a+s) L' d 105):
  Rs F G s ((dA q).q257 F (a:Int) L u d) ((dA q').q257 G ((a+s:Nat):Int) L' u' d) a L L' u u' d (0+(1+(0+(1+(0+0))))):=by
 have av:=h.f.len;have aw:=h.g.len;have ax:=h.le;obtain⟨X,p2,A,B⟩:=hp;obtain⟨ay,aB,_,_⟩:=hp';obtain⟨q,rfl⟩: ∃r,q=r+1:=⟨q-1,by omega⟩;obtain⟨q',rfl⟩: ∃r,q'=r+1:=⟨q'-1,by omega⟩;show Rs F G s (TQ (dA q) F (a:Int) L u d) (TQ (dA q') G ((a+s:Nat):Int) L' u' d) a L L' u u' d _;rw[TQ,TQ];refine Rn.bindW ((ET h X (by decide) (by decide)).weak (af _)) fun M i j b1 h1 Y h3 h4=> ?_;have l1:(L++i).length<=16*M+105:=by rw[ae];omega
 have aF:(L'++j).length<=16*(M+s)+105:=by rw[ae];omega
 refine Rn.bindW ((aik h (L:=L++i) (L':=L'++j) Y (by omega) (by omega)).weak (af _)) fun D l p b2 i1 Z i3 i4=> ?_;have l2:(L++i++l).length<=16*D+106:=by rw[ae];omega
 have aH:(L'++j++p).length<=16*(D+s)+106:=by rw[ae];omega
 obtain⟨z,v,g1,g4,g5,g6,g2⟩:=azg h (q:=dA q) (q':=dA q') u u' d bY bY D (L++i++l) (L'++j++p) (di) (di) Z (by omega) (by omega);simp only;rw[g1,bT];simp only[dX];by_cases hl3:z<F.length
 case neg=>
  have I:z=F.length:=by omega
  subst I;obtain⟨w1,w2⟩:=Wq (F:=F) [41] u;have ab:ln F F.length=F.length:=by
   have:=lV (F:=F) F.length;have:=kQ (F:=F) (a:=F.length) (af _);omega
  have l0:(L++i++l++v).length<=16*F.length+106:=by rw[ae];omega
  rw[nI h.f F.length _ u d (by omega) (by omega) [41] (by decide),bT];simp only[jM,w1,w2];rw[iO h.f F.length _ u d (af _),bT];simp only[ab];rw[jO h.f F.length _ u d (by omega),bT];simp only[qh,ac];refine⟨F.length,v++[(18,(F.length:Int),(F.length:Int),u,())],(),by simp only[ag],by omega,af _,by rw[ae,aA];omega,fun x=>absurd x (by omega)⟩
 obtain⟨y,g2,g3⟩:=g2 hl3;have g7:=g3.len;rw[g2,bT];simp only;refine Rn.preS (c1:=0) g3 g4 (by omega) ?_;have l3:(L++i++l++v).length<=16*z+106:=by rw[ae];omega
 have aI:(L'++j++p++y).length<=16*(z+s)+106:=by rw[ae];omega
 refine Rn.bindW ((G7 h (L:=L++i++l++v) (L':=L'++j++p++y) g5 (by omega) (by omega) (by decide) (by decide)).weak (af _)) fun O J K b4 j1 j2 j3 j4=> ?_;have l4:(L++i++l++v++J).length<=16*O+107:=by rw[ae];omega
 have aJ:(L'++j++p++y++K).length<=16*(O+s)+107:=by rw[ae];omega
 refine Rn.bindW (uo h j2) fun e S U b5 k1 k2 k3 k4=> ?_;have l5:(L++i++l++v++J++S).length<=16*e+107:=by rw[ae];omega
 have ad:(L'++j++p++y++K++U).length<=16*(e+s)+107:=by rw[ae];omega
 generalize L++i++l++v++J++S=L at l5 ⊢;generalize L'++j++p++y++K++U=L' at ad ⊢;simp only;by_cases hl5:e<F.length
 case neg=>
  have I:e=F.length:=by omega
  subst I;rw[jO h.f F.length L u d (by omega),bT];simp only[qh,ac];exact⟨F.length,[],(),by rw[aG],af _,af _,by simp,fun x=>absurd x hl5⟩
 rw[jO h.f e L u d (by omega),jO h.g (e+s) L' u' d (by omega),bT,bT,h.pip k2 (.inl hl5)];simp only;cases hb:ji F e d with
 |false=>exact Rn.ret k2
 |true=>
  obtain⟨n1,_,_⟩:=iJ L (opn 2 e u) (by omega);obtain⟨ai,_,_⟩:=iJ L' (opn 2 (e+s) u') (by omega);obtain⟨b,m,V,_,e3,e4,e5,_⟩:=(kN h.f n).list e L u d q q (by omega) (by omega) (by omega) ⟨k2,by omega,A,B⟩ hb;obtain⟨N,c2⟩:=jC L m (opn 2 e u);refine⟨b,(2,(e:Int),(b:Int),u,())::m,(), ?_,by omega,e4,by rw[az];omega,fun x=> ?_⟩
  .simp only[aa,eU,aj,n1,V,bT,N,c2,iI]
  .obtain⟨W,f1,f2⟩:=t.list e L L' u u' d q q' b m (by omega) (by omega) (by omega) ⟨k2,by omega,A,B⟩ ⟨by omega,by omega,A,B⟩ hb V x;obtain⟨al,an⟩:=jC L' W (opn 2 (e+s) u');refine⟨(2,((e+s:Nat):Int),((b+s:Nat):Int),u',())::W, ?_,f2.cons⟩;simp only[aa,eU,aj,ai,f1,bT,al,an,iI]
end
def itB (F:List Lf) (a:Nat):Bool:=dW F a [40]||(qX F a&& !dW F a [122])
theorem Cf.itb {E:Prop} {F G:List Lf} {s:Nat} (h:Cf E F G s) {a:Nat} (d:a<=F.length) (e:a<F.length\/E):itB G (a+s)=itB F a:=by
 unfold itB;rw[h.nx d e (by decide) (by decide),h.nx d e (by decide) (by decide),h.isw d e]
theorem ajo (F:List Lf):itB F F.length=false:=by
 unfold itB;have:qX F F.length=false:=by unfold qX;rw[dif_neg (by omega)]
 simp[rO,this]
section
variable {F:List Lf} (hF:yT F)
include hF
theorem Ti {q:iK} {N a:Nat} {L:List Nd} {u d:Int} (i:a<=F.length) (hb:itB F a=false):mZ q (N+1) F (a:Int) u d L=a6 (.inl ((),((),()),((F,(a:Int),u,d,()),L,()))):=by
 have j:=hF.len;unfold itB at hb;rw[Bool.or_eq_false_iff]at hb;obtain⟨f,e⟩:=hb;rw[mZ,IA,Kz hF a L u d (by omega) [40] rfl,bT];simp only[f,ac];rw[ku a L u d,bT];simp only;cases hw:qX F a with
 |false=>rfl
 |true=>
  rw[hw,aS,Bool.not_eq_false']at e;simp only[aa];rw[lm hF a L u d (by omega),bT];have g:cZ ((qo F a).toNat:Int) 122=dW F a [122]:=QC a 122 (by decide);simp only[g,e,au,ac]
theorem NJ {q:iK} {N a f:Nat} {L i:List Nd} {u d:Int} (x:a<=F.length) (hl:L.length<100000000) (hb:itB F a=true) (y:f<=F.length)
  (e:q.q257 F (a:Int) (bZ L [opn 15 a u]) (bV L) d=a6 (PR F f (bZ L [opn 15 a u]++i) (bV L) d,())):
  mZ q (N+1) F (a:Int) u d L=bif dW F f [121]then mZ q N F ((ln F (f+1):Nat):Int) u d (L++(15,(a:Int),(f:Int),u,())::i)else a6 (.inl ((),((),()),((F,(f:Int),u,d,()),L++(15,(a:Int),(f:Int),u,())::i,()))):=by
 have z:=hF.len;obtain⟨n1,_,_⟩:=iJ L (opn 15 a u) (by omega);obtain⟨l,m⟩:=jC L i (opn 15 a u);have p:(bU (qm F (f:Int) (L++(15,(a:Int),(f:Int),u,())::i) u d [121]) fun g=>
      bif(!g.2.1)then
       a6 (.inl ((),((),()),((g.1.1,g.1.2.1,g.1.2.2.2.1,g.1.2.2.2.2.1,()),g.1.2.2.1,())))
      else
      bU (rJ g.1.1 g.1.2.1 g.1.2.2.1 g.1.2.2.2.1 g.1.2.2.2.2.1) fun j=>
       mZ q N j.1.1 j.1.2.1 j.1.2.2.2.1 j.1.2.2.2.2.1 j.1.2.2.1)=bif dW F f [121]then mZ q N F ((ln F (f+1):Nat):Int) u d (L++(15,(a:Int),(f:Int),u,())::i)else a6 (.inl ((),((),()),((F,(f:Int),u,d,()),L++(15,(a:Int),(f:Int),u,())::i,()))):=by
  rw[iF hF f _ u d (by omega) [121] rfl,bT];simp only;cases hb:dW F f [121]with
  |false=>rw[jR hb];rfl
  |true=>
   have A:=eQ hb;rw[iR hb];simp only[au,aa,ac];rw[iO hF (f+1) _ u d (by omega),bT]
 rw[mZ,IA,Kz hF a L u d (by omega) [40] rfl,bT];cases hx:dW F a [40]with
 |true=>simp only[aa,eU,aj,n1,e,bT,l,m,iI];exact p
 |false=>
  unfold itB at hb;rw[hx,bg,ah]at hb;obtain⟨g1,g2⟩:=hb;simp only[ac];rw[ku a L u d,g1,bT];simp only[aa];rw[lm hF a L u d (by omega),bT];have v:cZ ((qo F a).toNat:Int) 122=dW F a [122]:=QC a 122 (by decide);simp only[v,g2,aa,eU,aj,n1,e,bT,l,m,iI];exact p
end
section
variable {E:Prop} {F G:List Lf} {s:Nat} (h:Cf E F G s)
include h
theorem Tf {n:Nat} (t:Tw E F G s n) {q q':Nat} (z:n+1<=q) (A:n+1<=q') (u u' d:Int) (hd:0<=d/\d<=200): ∀(N p a:Nat) (L L':List Nd),F.length-a<N->F.length-a<p->a<=F.length->16*(F.length-a)+13<n->L.length<=16*a+104->L'.length<=16*(a+s)+104->
  ∃(l:Nat) (m:List Nd),mZ (dA q) N F (a:Int) u d L=a6 (.inl ((),((),()),((F,(l:Int),u,d,()),L++m,())))/\a<=l/\l<=F.length/\m.length<=16*(l-a)/\
   (l<F.length-> ∃B,mZ (dA q') p G ((a+s:Nat):Int) u' d L'=a6 (.inl ((),((),()),((G,((l+s:Nat):Int),u',d,()),L'++B,())))/\KK B m)
 |0,_,a,L,L',D,_,_,_,_,_=>by omega
 |_+1,0,a,L,L',_,D,_,_,_,_=>by omega
 |N+1,p+1,a,L,L',D,ai,i,I,O,al=>by
  have an:=h.f.len;have ao:=h.g.len;have av:=h.le;cases hb:itB F a with
  |false=>
   exact⟨a,[],by rw[Ti h.f i hb,aG],af _,i,by simp,fun j=>⟨[],by rw[Ti h.g (by omega) ((h.itb i (.inl j)).trans hb),aG],KK.nil⟩⟩
  |true=>
   have v:a<F.length:=by
    rcases ak a F.length with v|S
    .exact v
    .have:a=F.length:=by omega
     subst this;rw[ajo]at hb;cases hb
   have aw:(bZ L [opn 15 a u]).length=L.length+1:=by unfold bZ;simp
   have ax:(bZ L' [opn 15 (a+s) u']).length=L'.length+1:=by unfold bZ;simp
   obtain⟨a1,m1,⟨⟩,J,e2,x,e4,K⟩:=aBV h t (a:=a) (L:=bZ L [opn 15 a u]) (L':=bZ L' [opn 15 (a+s) u']) (u:=bV L) (u':=bV L') (d:=d) (q:=q) (q':=q') I z A ⟨i,by omega,hd.1,hd.2⟩ ⟨by omega,by omega,hd.1,hd.2⟩;have U:dW F a [40]=true\/qX F a=true:=by
    unfold itB at hb;rw[bi,ah]at hb;exact hb.imp id And.left
   obtain⟨e,k1,M,_,f3,_,V⟩:=ajp h.f (kN h.f n) a L u d q n I z (af _) ⟨i,O,hd.1,hd.2⟩ U;have f6:=V.1;rw[M]at J;obtain⟨rfl,rfl⟩:=jv J;rw[NJ h.f i (by omega) hb x M];cases hx:dW F e [121]with
   |false=>
    refine⟨e,(15,(a:Int),(e:Int),u,())::k1,rfl,by omega,x,by rw[az];omega,fun j=> ?_⟩;obtain⟨y,g1,g2⟩:=K j;exact⟨(15,((a+s:Nat):Int),((e+s:Nat):Int),u',())::y,by rw[NJ h.g (by omega) (by omega) ((h.itb i (.inl v)).trans hb) (by omega) g1,h.nx x (.inl j) (by decide) (by decide),hx];rfl,g2.cons⟩
   |true=>
    have j:=eQ hx;obtain⟨y,g1,g2⟩:=K j;have g3:=g2.len;have S:=lV (F:=F) (e+1);have W:=kQ (F:=F) (a:=e+1) (by omega);obtain⟨X,Y,Z,x2,x3,x4,x5⟩:=Tf t z A u u' d hd N p (ln F (e+1)) (L++(15,(a:Int),(e:Int),u,())::k1) (L'++(15,((a+s:Nat):Int),((e+s:Nat):Int),u',())::y) (by omega) (by omega) W (by omega) (by rw[ae,az];omega) (by rw[ae,az];omega);refine⟨X,((15,(a:Int),(e:Int),u,())::k1)++Y,by rw[aa,Z,ag],by omega,x3,by rw[ae,az];omega,fun ab=> ?_⟩;obtain⟨ad,y1,y2⟩:=x5 ab;refine⟨((15,((a+s:Nat):Int),((e+s:Nat):Int),u',())::y)++ad, ?_,(g2.cons).app y2⟩;rw[NJ h.g (by omega) (by omega) ((h.itb i (.inl v)).trans hb) (by omega) g1,h.nx x (.inl j) (by decide) (by decide),hx,aa,show e+s+1=e+1+s by omega,h.lns (by omega) (by omega),y1,ag]
theorem aBh {n:Nat} (t:Tw E F G s n) {a:Nat} {L L':List Nd} {u u' d:Int} {q q':Nat} (A:16*(F.length-a)+13<n) (B:n+1<=q) (D:n+1<=q') (hp:jD F a L d 104) (hp':jD G (a+s) L' d 104):
  DR E F G s (bU (mZ (dA q) bY F (a:Int) u d L) fun l=>dX l (fun e=>bU (kJ e.2.2.1.1 e.2.2.1.2.1 e.2.2.2.1 e.2.2.1.2.2.1 e.2.2.1.2.2.2.1 [122]) fun i=>a6 ((i.1.1,(i.1.2.1,(i.1.2.2.1,(i.1.2.2.2.1,(i.1.2.2.2.2.1,()))))),())) (fun I=>a7))
   (bU (mZ (dA q') bY G ((a+s:Nat):Int) u' d L') fun l=>dX l (fun e=>bU (kJ e.2.2.1.1 e.2.2.1.2.1 e.2.2.2.1 e.2.2.1.2.2.1 e.2.2.1.2.2.2.1 [122]) fun i=>a6 ((i.1.1,(i.1.2.1,(i.1.2.2.1,(i.1.2.2.2.1,(i.1.2.2.2.2.1,()))))),())) (fun I=>a7)) a L L' u u' d (0+(1+0)):=by
 have ab:=h.f.len;have ad:=h.g.len;have ai:=h.le;obtain⟨J,K,M,N⟩:=hp;obtain⟨al,O,_,_⟩:=hp';obtain⟨v,p,S,x,U,x4,V⟩:=Tf h t B D u u' d ⟨M,N⟩ bY bY a L L' (di) (di) J A K O;rw[S,bT];simp only[dX];rcases ak v F.length with y|y
 .obtain⟨W,X,z⟩:=V y;have y3:=z.len;rw[X,bT];simp only;exact Rn.pre z x (by omega) (Rn.bind (G7 h (L:=L++p) (L':=L'++W) U (by rw[ae];omega) (by rw[ae];omega) (by decide) (by decide)) fun a3 m3 an b3 z1 Y z3 z4=>Rn.ret Y)
 .have Z:v=F.length:=by omega
  subst Z;obtain⟨w1,w2⟩:=Wq (F:=F) [122] u;rw[nI h.f F.length _ u d (by omega) (by rw[ae];omega) [122] (by decide),bT];simp only[jM,w1,w2];refine⟨F.length,p++[(18,(F.length:Int),(F.length:Int),u,())],(),by rw[ag],x,af _,by rw[ae,aA];omega,fun j=> ?_⟩;rcases j with j|j
  .omega
  .exact absurd j.2 (adc (m:=p) (n:=[]))
def casT (q:iK) (F:List Lf) (a:Int) (L:List Nd) (u d:Int):Option (Fe×Unit):=
 bU (rJ F a L u d) fun e=>
  bU (mZ q bY e.1.1 e.1.2.1 e.1.2.2.2.1 e.1.2.2.2.2.1 e.1.2.2.1) fun i=>
   dX i (fun f=>bU (kJ f.2.2.1.1 f.2.2.1.2.1 f.2.2.2.1 f.2.2.1.2.2.1 f.2.2.1.2.2.2.1 [122]) fun g=>a6 ((g.1.1,(g.1.2.1,(g.1.2.2.1,(g.1.2.2.2.1,(g.1.2.2.2.2.1,()))))),())) (fun j=>a7)
theorem apH {n:Nat} (t:Tw E F G s n) {a:Nat} {L L':List Nd} {u u' d:Int} {q q':Nat} (A:16*(F.length-a)+13<n) (l:n+1<=q) (p:n+1<=q') (hp:jD F a L d 104) (hp':jD G (a+s) L' d 104):
  DR E F G s (casT (dA q) F (a:Int) L u d) (casT (dA q') G ((a+s:Nat):Int) L' u' d) a L L' u u' d (0+(0+(1+0))):=by
 have B:=h.f.len;have D:=h.g.len;have I:=h.le;obtain⟨v,J,e,i⟩:=hp;obtain⟨K,M,_,_⟩:=hp';unfold casT;refine Rn.bindS (uo h v) (fun j m N b O x y S=> ?_) (fun m b y=> ?_)
 .exact aBh h t (by omega) l p ⟨x,by rw[ae];omega,e,i⟩ ⟨by omega,by rw[ae];omega,e,i⟩
 .simp only;have z:bY=(bY-1)+1:=by have:=di (n:=0) (by omega);omega
  rw[z,Ti h.f (af _) (ajo F),bT];simp only[dX];exact(G8 h.f (by rw[ae];omega) (by decide)).bind fun j U V _=>⟨j,[],(),by simp,af _⟩
theorem awy {n:Nat} (t:Tw E F G s n) {a:Nat} {L L':List Nd} {u u' d:Int} {q q':Nat} (hm:16*(F.length-a)+13<n) (hq:n+2<=q) (ab:n+2<=q') (hp:jD F a L d 102) (hp':jD G (a+s) L' d 102):
  DR E F G s ((dA q).q239 F (a:Int) L u d) ((dA q').q239 G ((a+s:Nat):Int) L' u' d) a L L' u u' d (1+(0+(1+1))):=by
 have ad:=h.f.len;have ai:=h.g.len;have al:=h.le;obtain⟨D,p2,v,x⟩:=hp;obtain⟨an,ao,_,_⟩:=hp';obtain⟨q,rfl⟩: ∃r,q=r+1:=⟨q-1,by omega⟩;obtain⟨q',rfl⟩: ∃r,q'=r+1:=⟨q'-1,by omega⟩;show DR E F G s (bU (CX F (a:Int) L u d) fun i=>bU (rJ i.1.1 i.1.2.1 i.1.2.2.1 i.1.2.2.2.1 i.1.2.2.2.2.1) fun j=>bU (kJ j.1.1 j.1.2.1 j.1.2.2.1 j.1.2.2.2.1 j.1.2.2.2.2.1 [107]) fun l=>casT (dA q) l.1.1 l.1.2.1 l.1.2.2.1 l.1.2.2.2.1 l.1.2.2.2.2.1)
  (bU (CX G ((a+s:Nat):Int) L' u' d) fun i=>bU (rJ i.1.1 i.1.2.1 i.1.2.2.1 i.1.2.2.2.1 i.1.2.2.2.2.1) fun j=>bU (kJ j.1.1 j.1.2.1 j.1.2.2.1 j.1.2.2.2.1 j.1.2.2.2.2.1 [107]) fun l=>casT (dA q') l.1.1 l.1.2.1 l.1.2.2.1 l.1.2.2.2.1 l.1.2.2.2.2.1) a L L' u u' d _
 refine Rn.bind (aik h D (by omega) (by omega)) fun z m y b h1 I h3 h4=> ?_;have l1:(L++m).length<=16*z+103:=by rw[ae];omega
 have av:(L'++y).length<=16*(z+s)+103:=by rw[ae];omega
 refine Rn.bindS (uo h I) (fun A p B J i1 K M i4=> ?_) (fun p J M=> ?_)
 .have N:(L++m++p).length<=16*A+103:=by rw[ae];omega
  have aw:(L'++y++B).length<=16*(A+s)+103:=by rw[ae];omega
  refine Rn.bind (G7 h (L:=L++m++p) (L':=L'++y++B) K (by omega) (by omega) (by decide) (by decide)) fun O S ax U j1 V j3 j4=> ?_;exact apH h t (by omega) (by omega) (by omega) ⟨V,by rw[ae];omega,v,x⟩ ⟨by omega,by rw[ae];omega,v,x⟩
 .have N:(L++m++p).length<=16*F.length+103:=by rw[ae];omega
  refine(G8 h.f (L:=L++m++p) (by omega) (by decide)).bind fun O S U e=> ?_;have hw:=nT (F:=F) F.length [107] u;rw[nI h.f F.length _ u d (by omega) (by omega) [107] (by decide),jM,(Wq (F:=F) [107] u).1]at e;obtain⟨rfl,rfl,_⟩:=yu e;obtain⟨W,X,Y,Z,z2,_⟩:=apH h t (a:=F.length) (L:=L++m++p++ny F F.length [107] u) (L':=[]) (u:=u) (u':=u') (d:=d) (q:=q) (q':=q') (by omega) (by omega) (by omega) ⟨af _,by rw[ae];omega,v,x⟩ ⟨by omega,by simp,v,x⟩;exact⟨W,X,Y,Z,z2⟩
end
end
section
open Option renaming some → a6, none → a7
open Bool renaming and_eq_true → ah, and_true → aj
open List renaming length_append → ae, append_assoc → ag, append_cancel_left → bK
open Nat renaming le_refl → af
open Go.RowKit
theorem OV {e f:Type} {F:List Lf} {a b:Nat} {l m n:List Nd} {u d:Int} {x:e} (h:(a6 (.inl ((),(x,((),(),l++m,(F,(a:Int),u,d,()),())))):Option ((Unit×e×Unit×Unit×List Nd×(List Lf×Int×Int×Int×Unit)×Unit)⊕f))=a6 (.inl ((),(x,((),(),l++n,(F,(b:Int),u,d,()),()))))):a=b/\m=n:=by
 simp only[Option.some.injEq,Sum.inl.injEq,Prod.mk.injEq,true_and,and_true]at h;exact⟨by omega,bK h.1⟩
theorem Tn {H:List Lf} (g:yT H) {a i f:Nat} {l e m2:List Nd} {u d:Int} {q:Nat} (y:a<H.length) (hl:l.length<10000000) (hd:0<=d/\d<200) (j:qo H a=123)
  (m:(dA q).q234 H ((a+1:Nat):Int) (bZ l [opn 9 a u]) (bV l) (d+1)=a6 (PR H i (bZ l [opn 9 a u]++e) (bV l) (d+1),()))
  (p:jc (dA q) bY (bV l) u 9 9 9 9 (bZ l [opn 9 a u]++e) H (i:Int) (bV l) (d+1)=a6 (.inl ((),((bV l,u,()),(9,9,()),(9,9,()),(),()),((),(),bZ l [opn 9 a u]++e++m2,(H,(f:Int),bV l,d+1,()),())))):
  jL (dA q) H (a:Int) l u d=a6 (PR H f (l++(9,(a:Int),(f:Int),u,())::(e++m2)) u d,()):=by
 have z:=g.len;obtain⟨n1,_,_⟩:=iJ l (opn 9 a u) (by omega);obtain⟨v,x⟩:=jC l (e++m2) (opn 9 a u);rw[jL];simp only[eU,gU,aj,aa,bT];rw[lm g a l u d (by omega),bT];simp only[j,show cZ (((123:UInt8).toNat:Nat):Int) 40=false from by kernel_rfl,show cZ (((123:UInt8).toNat:Nat):Int) 105=false from by kernel_rfl,show cZ (((123:UInt8).toNat:Nat):Int) 119=false from by kernel_rfl,show cZ (((123:UInt8).toNat:Nat):Int) 114=false from by kernel_rfl,show cZ (((123:UInt8).toNat:Nat):Int) 99=false from by kernel_rfl,aa,ac,n1];rw[dD,dD,show(a:Int)+1=((a+1:Nat):Int) by omega];rw[m,bT];simp only;rw[p,bT];simp only[dX];rw[ag,iH];simp only[v,x,aa,iI,show d+1-1=d by omega]
theorem NL {H:List Lf} (g:yT H) {a i f:Nat} {l e m2:List Nd} {u d:Int} {q:Nat} (y:a<H.length) (hl:l.length<10000000) (hd:0<=d/\d<200) (j:qo H a=40)
  (m:(dA q).q235 H ((a+1:Nat):Int) (bZ l [opn 10 a u]) (bV l) (d+1)=a6 (PR H i (bZ l [opn 10 a u]++e) (bV l) (d+1),()))
  (p:jI (dA q) bY (bV l) u 10 10 10 10 (bZ l [opn 10 a u]++e) H (i:Int) (bV l) (d+1)=a6 (.inl ((),((bV l,u,()),(10,10,()),(10,10,()),(),()),((),(),bZ l [opn 10 a u]++e++m2,(H,(f:Int),bV l,d+1,()),())))):
  jL (dA q) H (a:Int) l u d=a6 (PR H f (l++(10,(a:Int),(f:Int),u,())::(e++m2)) u d,()):=by
 have z:=g.len;obtain⟨n1,_,_⟩:=iJ l (opn 10 a u) (by omega);obtain⟨v,x⟩:=jC l (e++m2) (opn 10 a u);rw[jL];simp only[eU,gU,aj,aa,bT];rw[lm g a l u d (by omega),bT];simp only[j,show cZ (((40:UInt8).toNat:Nat):Int) 40=true from by kernel_rfl,aa,ac,n1];rw[dD,dD,show(a:Int)+1=((a+1:Nat):Int) by omega];rw[m,bT];simp only;rw[p,bT];simp only[dX];rw[ag,iH];simp only[v,x,aa,iI,show d+1-1=d by omega]
theorem NM {H:List Lf} (g:yT H) {a i f:Nat} {l e m2:List Nd} {u d:Int} {q:Nat} (y:a<H.length) (hl:l.length<10000000) (hd:0<=d/\d<200) (j:qo H a=105)
  (m:(dA q).q236 H ((a+1:Nat):Int) (bZ l [opn 11 a u]) (bV l) (d+1)=a6 (PR H i (bZ l [opn 11 a u]++e) (bV l) (d+1),()))
  (p:iY (dA q) bY (bV l) u 11 11 11 11 (bZ l [opn 11 a u]++e) H (i:Int) (bV l) (d+1)=a6 (.inl ((),((bV l,u,()),(11,11,()),(11,11,()),(),()),((),(),bZ l [opn 11 a u]++e++m2,(H,(f:Int),bV l,d+1,()),())))):
  jL (dA q) H (a:Int) l u d=a6 (PR H f (l++(11,(a:Int),(f:Int),u,())::(e++m2)) u d,()):=by
 have z:=g.len;obtain⟨n1,_,_⟩:=iJ l (opn 11 a u) (by omega);obtain⟨v,x⟩:=jC l (e++m2) (opn 11 a u);rw[jL];simp only[eU,gU,aj,aa,bT];rw[lm g a l u d (by omega),bT];simp only[j,show cZ (((105:UInt8).toNat:Nat):Int) 40=false from by kernel_rfl,show cZ (((105:UInt8).toNat:Nat):Int) 105=true from by kernel_rfl,aa,ac,n1];rw[dD,dD,show(a:Int)+1=((a+1:Nat):Int) by omega];rw[m,bT];simp only;rw[p,bT];simp only[dX];rw[ag,iH];simp only[v,x,aa,iI,show d+1-1=d by omega]
theorem NP {H:List Lf} (g:yT H) {a i f:Nat} {l e m2:List Nd} {u d:Int} {q:Nat} (y:a<H.length) (hl:l.length<10000000) (hd:0<=d/\d<200) (j:qo H a=119)
  (m:(dA q).q237 H ((a+1:Nat):Int) (bZ l [opn 12 a u]) (bV l) (d+1)=a6 (PR H i (bZ l [opn 12 a u]++e) (bV l) (d+1),()))
  (p:iZ (dA q) bY (bV l) u 12 12 12 12 (bZ l [opn 12 a u]++e) H (i:Int) (bV l) (d+1)=a6 (.inl ((),((bV l,u,()),(12,12,()),(12,12,()),(),()),((),(),bZ l [opn 12 a u]++e++m2,(H,(f:Int),bV l,d+1,()),())))):
  jL (dA q) H (a:Int) l u d=a6 (PR H f (l++(12,(a:Int),(f:Int),u,())::(e++m2)) u d,()):=by
 have z:=g.len;obtain⟨n1,_,_⟩:=iJ l (opn 12 a u) (by omega);obtain⟨v,x⟩:=jC l (e++m2) (opn 12 a u);rw[jL];simp only[eU,gU,aj,aa,bT];rw[lm g a l u d (by omega),bT];simp only[j,show cZ (((119:UInt8).toNat:Nat):Int) 40=false from by kernel_rfl,show cZ (((119:UInt8).toNat:Nat):Int) 105=false from by kernel_rfl,show cZ (((119:UInt8).toNat:Nat):Int) 119=true from by kernel_rfl,aa,ac,n1];rw[dD,dD,show(a:Int)+1=((a+1:Nat):Int) by omega];rw[m,bT];simp only;rw[p,bT];simp only[dX];rw[ag,iH];simp only[v,x,aa,iI,show d+1-1=d by omega]
theorem NQ {H:List Lf} (g:yT H) {a i f:Nat} {l e m2:List Nd} {u d:Int} {q:Nat} (y:a<H.length) (hl:l.length<10000000) (hd:0<=d/\d<200) (j:qo H a=114)
  (m:(dA q).q238 H ((a+1:Nat):Int) (bZ l [opn 13 a u]) (bV l) (d+1)=a6 (PR H i (bZ l [opn 13 a u]++e) (bV l) (d+1),()))
  (p:ja (dA q) bY (bV l) u 13 13 13 13 (bZ l [opn 13 a u]++e) H (i:Int) (bV l) (d+1)=a6 (.inl ((),((bV l,u,()),(13,13,()),(13,13,()),(),()),((),(),bZ l [opn 13 a u]++e++m2,(H,(f:Int),bV l,d+1,()),())))):
  jL (dA q) H (a:Int) l u d=a6 (PR H f (l++(13,(a:Int),(f:Int),u,())::(e++m2)) u d,()):=by
 have z:=g.len;obtain⟨n1,_,_⟩:=iJ l (opn 13 a u) (by omega);obtain⟨v,x⟩:=jC l (e++m2) (opn 13 a u);rw[jL];simp only[eU,gU,aj,aa,bT];rw[lm g a l u d (by omega),bT];simp only[j,show cZ (((114:UInt8).toNat:Nat):Int) 40=false from by kernel_rfl,show cZ (((114:UInt8).toNat:Nat):Int) 105=false from by kernel_rfl,show cZ (((114:UInt8).toNat:Nat):Int) 119=false from by kernel_rfl,show cZ (((114:UInt8).toNat:Nat):Int) 114=true from by kernel_rfl,aa,ac,n1];rw[dD,dD,show(a:Int)+1=((a+1:Nat):Int) by omega];rw[m,bT];simp only;rw[p,bT];simp only[dX];rw[ag,iH];simp only[v,x,aa,iI,show d+1-1=d by omega]
theorem NR {H:List Lf} (g:yT H) {a i f:Nat} {l e m2:List Nd} {u d:Int} {q:Nat} (y:a<H.length) (hl:l.length<10000000) (hd:0<=d/\d<200) (j:qo H a=99)
  (m:(dA q).q239 H ((a+1:Nat):Int) (bZ l [opn 14 a u]) (bV l) (d+1)=a6 (PR H i (bZ l [opn 14 a u]++e) (bV l) (d+1),()))
  (p:jb (dA q) bY (bV l) u 14 14 14 14 (bZ l [opn 14 a u]++e) H (i:Int) (bV l) (d+1)=a6 (.inl ((),((bV l,u,()),(14,14,()),(14,14,()),(),()),((),(),bZ l [opn 14 a u]++e++m2,(H,(f:Int),bV l,d+1,()),())))):
  jL (dA q) H (a:Int) l u d=a6 (PR H f (l++(14,(a:Int),(f:Int),u,())::(e++m2)) u d,()):=by
 have z:=g.len;obtain⟨n1,_,_⟩:=iJ l (opn 14 a u) (by omega);obtain⟨v,x⟩:=jC l (e++m2) (opn 14 a u);rw[jL];simp only[eU,gU,aj,aa,bT];rw[lm g a l u d (by omega),bT];simp only[j,show cZ (((99:UInt8).toNat:Nat):Int) 40=false from by kernel_rfl,show cZ (((99:UInt8).toNat:Nat):Int) 105=false from by kernel_rfl,show cZ (((99:UInt8).toNat:Nat):Int) 119=false from by kernel_rfl,show cZ (((99:UInt8).toNat:Nat):Int) 114=false from by kernel_rfl,show cZ (((99:UInt8).toNat:Nat):Int) 99=true from by kernel_rfl,aa,ac,n1];rw[dD,dD,show(a:Int)+1=((a+1:Nat):Int) by omega];rw[m,bT];simp only;rw[p,bT];simp only[dX];rw[ag,iH];simp only[v,x,aa,iI,show d+1-1=d by omega]
section
variable {E:Prop} {F G:List Lf} {s:Nat} (h:Cf E F G s)
include h
theorem abX {q q':iK} (u u' d v x y z:Int): ∀(N i a:Nat) (L L':List Nd),F.length-a<N->F.length-a<i->a<=F.length->L.length<=16*a+1000->L'.length<=16*(a+s)+1000->
  ∃(e:Nat) (m:List Nd),jc q N v x 9 9 9 9 L F (a:Int) u d=a6 (.inl ((),((v,x,()),(9,9,()),(9,9,()),(),()),((),(),L++m,(F,(e:Int),u,d,()),())))/\a<=e/\e<=F.length/\m.length<=16*(e-a)/\
   (Cq E F e m-> ∃A,jc q' i y z 9 9 9 9 L' G ((a+s:Nat):Int) u' d=a6 (.inl ((),((y,z,()),(9,9,()),(9,9,()),(),()),((),(),L'++A,(G,((e+s:Nat):Int),u',d,()),())))/\KK A m)
 |0,_,a,L,L',B,_,_,_,_=>by omega
 |_+1,0,a,L,L',_,B,_,_,_=>by omega
 |N+1,i+1,a,L,L',B,ab,j,hL,ad=>by
  have ai:=h.f.len;have ak:=h.g.len;have al:=h.le;rw[jc,mr];rw[jc,mr];cases hr:lT F a with
  |false=>
   rw[gp h.f a L u d j hr,bT];refine⟨a,[],by simp,af _,j,by simp,fun p=>⟨[], ?_,KK.nil⟩⟩;rw[gp h.g (a+s) L' u' d (by omega) ((h.red j (p.at (af _))).trans hr),bT];simp
  |true=>
   obtain⟨J,D,I,K,e2,M,e4,e5,O⟩:=qL h a L u d L' u' j (by omega) (by omega) hr;rw[K,bT];simp only[aa];obtain⟨S,U,g1,g2,g3,g4,g5⟩:=abX u u' d v x y z N i J (L++D) (L'++I) (by omega) (by omega) M (by rw[ae];omega) (by rw[ae];omega);refine⟨S,D++U,by rw[g1,ag],by omega,g3,by rw[ae];omega,fun p=> ?_⟩;obtain⟨V,W⟩:=O (p.l g2);obtain⟨X,Y,Z⟩:=g5 p.r;exact⟨I++X,by rw[V,bT];simp only[aa];rw[Y,ag],W.app Z⟩
theorem Vo {q q':iK} (u u' d v x y z:Int): ∀(N i a:Nat) (L L':List Nd),F.length-a<N->F.length-a<i->a<=F.length->L.length<=16*a+1000->L'.length<=16*(a+s)+1000->
  ∃(e:Nat) (m:List Nd),jI q N v x 10 10 10 10 L F (a:Int) u d=a6 (.inl ((),((v,x,()),(10,10,()),(10,10,()),(),()),((),(),L++m,(F,(e:Int),u,d,()),())))/\a<=e/\e<=F.length/\m.length<=16*(e-a)/\
   (Cq E F e m-> ∃A,jI q' i y z 10 10 10 10 L' G ((a+s:Nat):Int) u' d=a6 (.inl ((),((y,z,()),(10,10,()),(10,10,()),(),()),((),(),L'++A,(G,((e+s:Nat):Int),u',d,()),())))/\KK A m)
 |0,_,a,L,L',B,_,_,_,_=>by omega
 |_+1,0,a,L,L',_,B,_,_,_=>by omega
 |N+1,i+1,a,L,L',B,ab,j,hL,ad=>by
  have ai:=h.f.len;have ak:=h.g.len;have al:=h.le;rw[jI,oQ];rw[jI,oQ];cases hr:lT F a with
  |false=>
   rw[gp h.f a L u d j hr,bT];refine⟨a,[],by simp,af _,j,by simp,fun p=>⟨[], ?_,KK.nil⟩⟩;rw[gp h.g (a+s) L' u' d (by omega) ((h.red j (p.at (af _))).trans hr),bT];simp
  |true=>
   obtain⟨J,D,I,K,e2,M,e4,e5,O⟩:=qL h a L u d L' u' j (by omega) (by omega) hr;rw[K,bT];simp only[aa];obtain⟨S,U,g1,g2,g3,g4,g5⟩:=Vo u u' d v x y z N i J (L++D) (L'++I) (by omega) (by omega) M (by rw[ae];omega) (by rw[ae];omega);refine⟨S,D++U,by rw[g1,ag],by omega,g3,by rw[ae];omega,fun p=> ?_⟩;obtain⟨V,W⟩:=O (p.l g2);obtain⟨X,Y,Z⟩:=g5 p.r;exact⟨I++X,by rw[V,bT];simp only[aa];rw[Y,ag],W.app Z⟩
theorem Vp {q q':iK} (u u' d v x y z:Int): ∀(N i a:Nat) (L L':List Nd),F.length-a<N->F.length-a<i->a<=F.length->L.length<=16*a+1000->L'.length<=16*(a+s)+1000->
  ∃(e:Nat) (m:List Nd),iY q N v x 11 11 11 11 L F (a:Int) u d=a6 (.inl ((),((v,x,()),(11,11,()),(11,11,()),(),()),((),(),L++m,(F,(e:Int),u,d,()),())))/\a<=e/\e<=F.length/\m.length<=16*(e-a)/\
   (Cq E F e m-> ∃A,iY q' i y z 11 11 11 11 L' G ((a+s:Nat):Int) u' d=a6 (.inl ((),((y,z,()),(11,11,()),(11,11,()),(),()),((),(),L'++A,(G,((e+s:Nat):Int),u',d,()),())))/\KK A m)
 |0,_,a,L,L',B,_,_,_,_=>by omega
 |_+1,0,a,L,L',_,B,_,_,_=>by omega
 |N+1,i+1,a,L,L',B,ab,j,hL,ad=>by
  have ai:=h.f.len;have ak:=h.g.len;have al:=h.le;rw[iY,l9];rw[iY,l9];cases hr:lT F a with
  |false=>
   rw[gp h.f a L u d j hr,bT];refine⟨a,[],by simp,af _,j,by simp,fun p=>⟨[], ?_,KK.nil⟩⟩;rw[gp h.g (a+s) L' u' d (by omega) ((h.red j (p.at (af _))).trans hr),bT];simp
  |true=>
   obtain⟨J,D,I,K,e2,M,e4,e5,O⟩:=qL h a L u d L' u' j (by omega) (by omega) hr;rw[K,bT];simp only[aa];obtain⟨S,U,g1,g2,g3,g4,g5⟩:=Vp u u' d v x y z N i J (L++D) (L'++I) (by omega) (by omega) M (by rw[ae];omega) (by rw[ae];omega);refine⟨S,D++U,by rw[g1,ag],by omega,g3,by rw[ae];omega,fun p=> ?_⟩;obtain⟨V,W⟩:=O (p.l g2);obtain⟨X,Y,Z⟩:=g5 p.r;exact⟨I++X,by rw[V,bT];simp only[aa];rw[Y,ag],W.app Z⟩
theorem Vq {q q':iK} (u u' d v x y z:Int): ∀(N i a:Nat) (L L':List Nd),F.length-a<N->F.length-a<i->a<=F.length->L.length<=16*a+1000->L'.length<=16*(a+s)+1000->
  ∃(e:Nat) (m:List Nd),iZ q N v x 12 12 12 12 L F (a:Int) u d=a6 (.inl ((),((v,x,()),(12,12,()),(12,12,()),(),()),((),(),L++m,(F,(e:Int),u,d,()),())))/\a<=e/\e<=F.length/\m.length<=16*(e-a)/\
   (Cq E F e m-> ∃A,iZ q' i y z 12 12 12 12 L' G ((a+s:Nat):Int) u' d=a6 (.inl ((),((y,z,()),(12,12,()),(12,12,()),(),()),((),(),L'++A,(G,((e+s:Nat):Int),u',d,()),())))/\KK A m)
 |0,_,a,L,L',B,_,_,_,_=>by omega
 |_+1,0,a,L,L',_,B,_,_,_=>by omega
 |N+1,i+1,a,L,L',B,ab,j,hL,ad=>by
  have ai:=h.f.len;have ak:=h.g.len;have al:=h.le;rw[iZ,mf];rw[iZ,mf];cases hr:lT F a with
  |false=>
   rw[gp h.f a L u d j hr,bT];refine⟨a,[],by simp,af _,j,by simp,fun p=>⟨[], ?_,KK.nil⟩⟩;rw[gp h.g (a+s) L' u' d (by omega) ((h.red j (p.at (af _))).trans hr),bT];simp
  |true=>
   obtain⟨J,D,I,K,e2,M,e4,e5,O⟩:=qL h a L u d L' u' j (by omega) (by omega) hr;rw[K,bT];simp only[aa];obtain⟨S,U,g1,g2,g3,g4,g5⟩:=Vq u u' d v x y z N i J (L++D) (L'++I) (by omega) (by omega) M (by rw[ae];omega) (by rw[ae];omega);refine⟨S,D++U,by rw[g1,ag],by omega,g3,by rw[ae];omega,fun p=> ?_⟩;obtain⟨V,W⟩:=O (p.l g2);obtain⟨X,Y,Z⟩:=g5 p.r;exact⟨I++X,by rw[V,bT];simp only[aa];rw[Y,ag],W.app Z⟩
theorem Vr {q q':iK} (u u' d v x y z:Int): ∀(N i a:Nat) (L L':List Nd),F.length-a<N->F.length-a<i->a<=F.length->L.length<=16*a+1000->L'.length<=16*(a+s)+1000->
  ∃(e:Nat) (m:List Nd),ja q N v x 13 13 13 13 L F (a:Int) u d=a6 (.inl ((),((v,x,()),(13,13,()),(13,13,()),(),()),((),(),L++m,(F,(e:Int),u,d,()),())))/\a<=e/\e<=F.length/\m.length<=16*(e-a)/\
   (Cq E F e m-> ∃A,ja q' i y z 13 13 13 13 L' G ((a+s:Nat):Int) u' d=a6 (.inl ((),((y,z,()),(13,13,()),(13,13,()),(),()),((),(),L'++A,(G,((e+s:Nat):Int),u',d,()),())))/\KK A m)
 |0,_,a,L,L',B,_,_,_,_=>by omega
 |_+1,0,a,L,L',_,B,_,_,_=>by omega
 |N+1,i+1,a,L,L',B,ab,j,hL,ad=>by
  have ai:=h.f.len;have ak:=h.g.len;have al:=h.le;rw[ja,mg];rw[ja,mg];cases hr:lT F a with
  |false=>
   rw[gp h.f a L u d j hr,bT];refine⟨a,[],by simp,af _,j,by simp,fun p=>⟨[], ?_,KK.nil⟩⟩;rw[gp h.g (a+s) L' u' d (by omega) ((h.red j (p.at (af _))).trans hr),bT];simp
  |true=>
   obtain⟨J,D,I,K,e2,M,e4,e5,O⟩:=qL h a L u d L' u' j (by omega) (by omega) hr;rw[K,bT];simp only[aa];obtain⟨S,U,g1,g2,g3,g4,g5⟩:=Vr u u' d v x y z N i J (L++D) (L'++I) (by omega) (by omega) M (by rw[ae];omega) (by rw[ae];omega);refine⟨S,D++U,by rw[g1,ag],by omega,g3,by rw[ae];omega,fun p=> ?_⟩;obtain⟨V,W⟩:=O (p.l g2);obtain⟨X,Y,Z⟩:=g5 p.r;exact⟨I++X,by rw[V,bT];simp only[aa];rw[Y,ag],W.app Z⟩
theorem Vs {q q':iK} (u u' d v x y z:Int): ∀(N i a:Nat) (L L':List Nd),F.length-a<N->F.length-a<i->a<=F.length->L.length<=16*a+1000->L'.length<=16*(a+s)+1000->
  ∃(e:Nat) (m:List Nd),jb q N v x 14 14 14 14 L F (a:Int) u d=a6 (.inl ((),((v,x,()),(14,14,()),(14,14,()),(),()),((),(),L++m,(F,(e:Int),u,d,()),())))/\a<=e/\e<=F.length/\m.length<=16*(e-a)/\
   (Cq E F e m-> ∃A,jb q' i y z 14 14 14 14 L' G ((a+s:Nat):Int) u' d=a6 (.inl ((),((y,z,()),(14,14,()),(14,14,()),(),()),((),(),L'++A,(G,((e+s:Nat):Int),u',d,()),())))/\KK A m)
 |0,_,a,L,L',B,_,_,_,_=>by omega
 |_+1,0,a,L,L',_,B,_,_,_=>by omega
 |N+1,i+1,a,L,L',B,ab,j,hL,ad=>by
  have ai:=h.f.len;have ak:=h.g.len;have al:=h.le;rw[jb,mi];rw[jb,mi];cases hr:lT F a with
  |false=>
   rw[gp h.f a L u d j hr,bT];refine⟨a,[],by simp,af _,j,by simp,fun p=>⟨[], ?_,KK.nil⟩⟩;rw[gp h.g (a+s) L' u' d (by omega) ((h.red j (p.at (af _))).trans hr),bT];simp
  |true=>
   obtain⟨J,D,I,K,e2,M,e4,e5,O⟩:=qL h a L u d L' u' j (by omega) (by omega) hr;rw[K,bT];simp only[aa];obtain⟨S,U,g1,g2,g3,g4,g5⟩:=Vs u u' d v x y z N i J (L++D) (L'++I) (by omega) (by omega) M (by rw[ae];omega) (by rw[ae];omega);refine⟨S,D++U,by rw[g1,ag],by omega,g3,by rw[ae];omega,fun p=> ?_⟩;obtain⟨V,W⟩:=O (p.l g2);obtain⟨X,Y,Z⟩:=g5 p.r;exact⟨I++X,by rw[V,bT];simp only[aa];rw[Y,ag],W.app Z⟩
theorem awK {n:Nat} (t:Tw E F G s (n-2)) (a:Nat) (l i:List Nd) (u u' d:Int) (q q' y:Nat) (m:List Nd) (hm:16*(F.length-a)+8<n+1) (hq:n<=q) (ad:n<=q') (hp:jD F a l d 113) (hp':jD G (a+s) i d 113) (D:a<F.length) (hd:d<200) (I:qo F a=123)
  (e:jL (dA q) F (a:Int) l u d=a6 (PR F y (l++m) u d,())) (J:Cq E F y m):
  ∃K,jL (dA q') G ((a+s:Nat):Int) i u' d=a6 (PR G (y+s) (i++K) u' d,())/\KK K m:=by
 have ai:=h.f.len;have ak:=h.g.len;have al:=h.le;obtain⟨M,W,x,z⟩:=hp;obtain⟨N,X,_,_⟩:=hp';have A:(bZ l [opn 9 a u]).length=l.length+1:=by unfold bZ;simp
 have B:(bZ i [opn 9 (a+s) u']).length=i.length+1:=by unfold bZ;simp
 obtain⟨j,rfl⟩: ∃j,q=j+1:=⟨q-1,by omega⟩;obtain⟨p,rfl⟩: ∃p,q'=p+1:=⟨q'-1,by omega⟩;have Y: ∀(L v:List Nd) (u u' d:Int),jD F (a+1) L d 101->jD G (a+1+s) v d 101->DR E F G s ((dA (j+1)).q234 F ((a+1:Nat):Int) L u d) ((dA (p+1)).q234 G ((a+1+s:Nat):Int) v u' d) (a+1) L v u u' d 6:=fun L v u u' d hp hp'=>by
  show DR E F G s (KR (dA j) F ((a+1:Nat):Int) L u d) (KR (dA p) G ((a+1+s:Nat):Int) v u' d) (a+1) L v u u' d 6;rw[KR,KR];obtain⟨M,W,x,z⟩:=hp;obtain⟨N,X,_,_⟩:=hp';exact(ab9 h t (by omega) (by omega) (by omega) ⟨M,by omega,x,z⟩ ⟨N,by omega,x,z⟩ (by decide) (by decide)).le (by omega)
 obtain⟨O,S,⟨⟩,Z,e2,U,e4,e5⟩:=Y (bZ l [opn 9 a u]) (bZ i [opn 9 (a+s) u']) (bV l) (bV i) (d+1) ⟨by omega,by rw[A];omega,by omega,by omega⟩ ⟨by omega,by rw[B];omega,by omega,by omega⟩;obtain⟨a2,m2,V,f2,f3,f4,f5⟩:=abX h (q:=dA (j+1)) (q':=dA (p+1)) (bV l) (bV i) (d+1) (bV l) u (bV i) u' bY bY O (bZ l [opn 9 a u]++S) (bZ i [opn 9 (a+s) u']) (di) (di) U (by rw[ae,A];omega) (by rw[B];omega);have r1:=Tn h.f D (by omega) ⟨x,hd⟩ I Z V;rw[r1]at e;obtain⟨rfl,rfl⟩:=jv e;obtain⟨ab,g1,g2⟩:=e5 (J.t.l f2);have g3:=g2.len;obtain⟨b2,n2,x1,x2,x3,x4,x5⟩:=abX h (q:=dA (j+1)) (q':=dA (p+1)) (bV l) (bV i) (d+1) (bV l) u (bV i) u' bY bY O (bZ l [opn 9 a u]++S) (bZ i [opn 9 (a+s) u']++ab) (di) (di) U (by rw[ae,A];omega) (by rw[ae,B];omega);obtain⟨rfl,rfl⟩:=OV (V.symm.trans x1);obtain⟨an,y1,y2⟩:=x5 J.t.r;rw[show a+1+s=a+s+1 by omega]at g1;exact⟨_,Tn h.g (by omega) (by omega) ⟨x,hd⟩ ((h.sg D).trans I) g1 y1,(g2.app y2).cons⟩
theorem apM {n:Nat} (t:Tw E F G s (n-2)) (a:Nat) (l i:List Nd) (u u' d:Int) (q q' y:Nat) (m:List Nd) (hm:16*(F.length-a)+8<n+1) (hq:n<=q) (ad:n<=q') (hp:jD F a l d 113) (hp':jD G (a+s) i d 113) (D:a<F.length) (hd:d<200) (I:qo F a=40)
  (e:jL (dA q) F (a:Int) l u d=a6 (PR F y (l++m) u d,())) (J:Cq E F y m):
  ∃K,jL (dA q') G ((a+s:Nat):Int) i u' d=a6 (PR G (y+s) (i++K) u' d,())/\KK K m:=by
 have ai:=h.f.len;have ak:=h.g.len;have al:=h.le;obtain⟨M,W,x,z⟩:=hp;obtain⟨N,X,_,_⟩:=hp';have A:(bZ l [opn 10 a u]).length=l.length+1:=by unfold bZ;simp
 have B:(bZ i [opn 10 (a+s) u']).length=i.length+1:=by unfold bZ;simp
 obtain⟨j,rfl⟩: ∃j,q=j+1:=⟨q-1,by omega⟩;obtain⟨p,rfl⟩: ∃p,q'=p+1:=⟨q'-1,by omega⟩;have Y: ∀(L v:List Nd) (u u' d:Int),jD F (a+1) L d 101->jD G (a+1+s) v d 101->DR E F G s ((dA (j+1)).q235 F ((a+1:Nat):Int) L u d) ((dA (p+1)).q235 G ((a+1+s:Nat):Int) v u' d) (a+1) L v u u' d 6:=fun L v u u' d hp hp'=>by
  show DR E F G s (KT (dA j) F ((a+1:Nat):Int) L u d) (KT (dA p) G ((a+1+s:Nat):Int) v u' d) (a+1) L v u u' d 6;rw[KT,KT];obtain⟨M,W,x,z⟩:=hp;obtain⟨N,X,_,_⟩:=hp';exact(ab9 h t (by omega) (by omega) (by omega) ⟨M,by omega,x,z⟩ ⟨N,by omega,x,z⟩ (by decide) (by decide)).le (by omega)
 obtain⟨O,S,⟨⟩,Z,e2,U,e4,e5⟩:=Y (bZ l [opn 10 a u]) (bZ i [opn 10 (a+s) u']) (bV l) (bV i) (d+1) ⟨by omega,by rw[A];omega,by omega,by omega⟩ ⟨by omega,by rw[B];omega,by omega,by omega⟩;obtain⟨a2,m2,V,f2,f3,f4,f5⟩:=Vo h (q:=dA (j+1)) (q':=dA (p+1)) (bV l) (bV i) (d+1) (bV l) u (bV i) u' bY bY O (bZ l [opn 10 a u]++S) (bZ i [opn 10 (a+s) u']) (di) (di) U (by rw[ae,A];omega) (by rw[B];omega);have r1:=NL h.f D (by omega) ⟨x,hd⟩ I Z V;rw[r1]at e;obtain⟨rfl,rfl⟩:=jv e;obtain⟨ab,g1,g2⟩:=e5 (J.t.l f2);have g3:=g2.len;obtain⟨b2,n2,x1,x2,x3,x4,x5⟩:=Vo h (q:=dA (j+1)) (q':=dA (p+1)) (bV l) (bV i) (d+1) (bV l) u (bV i) u' bY bY O (bZ l [opn 10 a u]++S) (bZ i [opn 10 (a+s) u']++ab) (di) (di) U (by rw[ae,A];omega) (by rw[ae,B];omega);obtain⟨rfl,rfl⟩:=OV (V.symm.trans x1);obtain⟨an,y1,y2⟩:=x5 J.t.r;rw[show a+1+s=a+s+1 by omega]at g1;exact⟨_,NL h.g (by omega) (by omega) ⟨x,hd⟩ ((h.sg D).trans I) g1 y1,(g2.app y2).cons⟩
theorem apN {n:Nat} (t:Tw E F G s (n-2)) (a:Nat) (l i:List Nd) (u u' d:Int) (q q' v:Nat) (m:List Nd) (hm:16*(F.length-a)+8<n+1) (hq:n<=q) (ad:n<=q') (hp:jD F a l d 113) (hp':jD G (a+s) i d 113) (A:a<F.length) (hd:d<200) (B:qo F a=105)
  (e:jL (dA q) F (a:Int) l u d=a6 (PR F v (l++m) u d,())) (D:Cq E F v m):
  ∃I,jL (dA q') G ((a+s:Nat):Int) i u' d=a6 (PR G (v+s) (i++I) u' d,())/\KK I m:=by
 have ai:=h.f.len;have ak:=h.g.len;have al:=h.le;obtain⟨J,U,j,x⟩:=hp;obtain⟨K,V,_,_⟩:=hp';have y:(bZ l [opn 11 a u]).length=l.length+1:=by unfold bZ;simp
 have z:(bZ i [opn 11 (a+s) u']).length=i.length+1:=by unfold bZ;simp
 have W: ∀(L p:List Nd) (u u' d:Int),jD F (a+1) L d 101->jD G (a+1+s) p d 101->DR E F G s ((dA q).q236 F ((a+1:Nat):Int) L u d) ((dA q').q236 G ((a+1+s:Nat):Int) p u' d) (a+1) L p u u' d 6:=fun L p u u' d hp hp'=>by
  obtain⟨J,U,j,x⟩:=hp;obtain⟨K,V,_,_⟩:=hp';exact(afY h t (by omega) (by omega) (by omega) ⟨J,by omega,j,x⟩ ⟨K,by omega,j,x⟩).le (by omega)
 obtain⟨M,N,⟨⟩,X,e2,O,e4,Y⟩:=W (bZ l [opn 11 a u]) (bZ i [opn 11 (a+s) u']) (bV l) (bV i) (d+1) ⟨by omega,by rw[y];omega,by omega,by omega⟩ ⟨by omega,by rw[z];omega,by omega,by omega⟩;obtain⟨a2,m2,S,Z,f3,f4,f5⟩:=Vp h (q:=dA q) (q':=dA q') (bV l) (bV i) (d+1) (bV l) u (bV i) u' bY bY M (bZ l [opn 11 a u]++N) (bZ i [opn 11 (a+s) u']) (di) (di) O (by rw[ae,y];omega) (by rw[z];omega);have r1:=NM h.f A (by omega) ⟨j,hd⟩ B X S;rw[r1]at e;obtain⟨rfl,rfl⟩:=jv e;obtain⟨ab,g1,g2⟩:=Y (D.t.l Z);have g3:=g2.len;obtain⟨b2,n2,x1,x2,x3,x4,x5⟩:=Vp h (q:=dA q) (q':=dA q') (bV l) (bV i) (d+1) (bV l) u (bV i) u' bY bY M (bZ l [opn 11 a u]++N) (bZ i [opn 11 (a+s) u']++ab) (di) (di) O (by rw[ae,y];omega) (by rw[ae,z];omega);obtain⟨rfl,rfl⟩:=OV (S.symm.trans x1);obtain⟨an,y1,y2⟩:=x5 D.t.r;rw[show a+1+s=a+s+1 by omega]at g1;exact⟨_,NM h.g (by omega) (by omega) ⟨j,hd⟩ ((h.sg A).trans B) g1 y1,(g2.app y2).cons⟩
theorem apO {n:Nat} (t:Tw E F G s (n-2)) (a:Nat) (l i:List Nd) (u u' d:Int) (q q' v:Nat) (m:List Nd) (hm:16*(F.length-a)+8<n+1) (hq:n<=q) (ad:n<=q') (hp:jD F a l d 113) (hp':jD G (a+s) i d 113) (A:a<F.length) (hd:d<200) (B:qo F a=119)
  (e:jL (dA q) F (a:Int) l u d=a6 (PR F v (l++m) u d,())) (D:Cq E F v m):
  ∃I,jL (dA q') G ((a+s:Nat):Int) i u' d=a6 (PR G (v+s) (i++I) u' d,())/\KK I m:=by
 have ai:=h.f.len;have ak:=h.g.len;have al:=h.le;obtain⟨J,U,j,x⟩:=hp;obtain⟨K,V,_,_⟩:=hp';have y:(bZ l [opn 12 a u]).length=l.length+1:=by unfold bZ;simp
 have z:(bZ i [opn 12 (a+s) u']).length=i.length+1:=by unfold bZ;simp
 have W: ∀(L p:List Nd) (u u' d:Int),jD F (a+1) L d 101->jD G (a+1+s) p d 101->DR E F G s ((dA q).q237 F ((a+1:Nat):Int) L u d) ((dA q').q237 G ((a+1+s:Nat):Int) p u' d) (a+1) L p u u' d 6:=fun L p u u' d hp hp'=>by
  obtain⟨J,U,j,x⟩:=hp;obtain⟨K,V,_,_⟩:=hp';exact(aCD h t (by omega) (by omega) (by omega) (by omega) ⟨J,by omega,j,x⟩ ⟨K,by omega,j,x⟩).le (by omega)
 obtain⟨M,N,⟨⟩,X,e2,O,e4,Y⟩:=W (bZ l [opn 12 a u]) (bZ i [opn 12 (a+s) u']) (bV l) (bV i) (d+1) ⟨by omega,by rw[y];omega,by omega,by omega⟩ ⟨by omega,by rw[z];omega,by omega,by omega⟩;obtain⟨a2,m2,S,Z,f3,f4,f5⟩:=Vq h (q:=dA q) (q':=dA q') (bV l) (bV i) (d+1) (bV l) u (bV i) u' bY bY M (bZ l [opn 12 a u]++N) (bZ i [opn 12 (a+s) u']) (di) (di) O (by rw[ae,y];omega) (by rw[z];omega);have r1:=NP h.f A (by omega) ⟨j,hd⟩ B X S;rw[r1]at e;obtain⟨rfl,rfl⟩:=jv e;obtain⟨ab,g1,g2⟩:=Y (D.t.l Z);have g3:=g2.len;obtain⟨b2,n2,x1,x2,x3,x4,x5⟩:=Vq h (q:=dA q) (q':=dA q') (bV l) (bV i) (d+1) (bV l) u (bV i) u' bY bY M (bZ l [opn 12 a u]++N) (bZ i [opn 12 (a+s) u']++ab) (di) (di) O (by rw[ae,y];omega) (by rw[ae,z];omega);obtain⟨rfl,rfl⟩:=OV (S.symm.trans x1);obtain⟨an,y1,y2⟩:=x5 D.t.r;rw[show a+1+s=a+s+1 by omega]at g1;exact⟨_,NP h.g (by omega) (by omega) ⟨j,hd⟩ ((h.sg A).trans B) g1 y1,(g2.app y2).cons⟩
theorem apP {n:Nat} (t:Tw E F G s (n-2)) (a:Nat) (l i:List Nd) (u u' d:Int) (q q' v:Nat) (m:List Nd) (hm:16*(F.length-a)+8<n+1) (hq:n<=q) (ad:n<=q') (hp:jD F a l d 113) (hp':jD G (a+s) i d 113) (A:a<F.length) (hd:d<200) (B:qo F a=114)
  (e:jL (dA q) F (a:Int) l u d=a6 (PR F v (l++m) u d,())) (D:Cq E F v m):
  ∃I,jL (dA q') G ((a+s:Nat):Int) i u' d=a6 (PR G (v+s) (i++I) u' d,())/\KK I m:=by
 have ai:=h.f.len;have ak:=h.g.len;have al:=h.le;obtain⟨J,U,j,x⟩:=hp;obtain⟨K,V,_,_⟩:=hp';have y:(bZ l [opn 13 a u]).length=l.length+1:=by unfold bZ;simp
 have z:(bZ i [opn 13 (a+s) u']).length=i.length+1:=by unfold bZ;simp
 have W: ∀(L p:List Nd) (u u' d:Int),jD F (a+1) L d 101->jD G (a+1+s) p d 101->DR E F G s ((dA q).q238 F ((a+1:Nat):Int) L u d) ((dA q').q238 G ((a+1+s:Nat):Int) p u' d) (a+1) L p u u' d 6:=fun L p u u' d hp hp'=>by
  obtain⟨J,U,j,x⟩:=hp;obtain⟨K,V,_,_⟩:=hp';exact(aBt h t (by omega) (by omega) (by omega) (by omega) ⟨J,by omega,j,x⟩ ⟨K,by omega,j,x⟩).le (by omega)
 obtain⟨M,N,⟨⟩,X,e2,O,e4,Y⟩:=W (bZ l [opn 13 a u]) (bZ i [opn 13 (a+s) u']) (bV l) (bV i) (d+1) ⟨by omega,by rw[y];omega,by omega,by omega⟩ ⟨by omega,by rw[z];omega,by omega,by omega⟩;obtain⟨a2,m2,S,Z,f3,f4,f5⟩:=Vr h (q:=dA q) (q':=dA q') (bV l) (bV i) (d+1) (bV l) u (bV i) u' bY bY M (bZ l [opn 13 a u]++N) (bZ i [opn 13 (a+s) u']) (di) (di) O (by rw[ae,y];omega) (by rw[z];omega);have r1:=NQ h.f A (by omega) ⟨j,hd⟩ B X S;rw[r1]at e;obtain⟨rfl,rfl⟩:=jv e;obtain⟨ab,g1,g2⟩:=Y (D.t.l Z);have g3:=g2.len;obtain⟨b2,n2,x1,x2,x3,x4,x5⟩:=Vr h (q:=dA q) (q':=dA q') (bV l) (bV i) (d+1) (bV l) u (bV i) u' bY bY M (bZ l [opn 13 a u]++N) (bZ i [opn 13 (a+s) u']++ab) (di) (di) O (by rw[ae,y];omega) (by rw[ae,z];omega);obtain⟨rfl,rfl⟩:=OV (S.symm.trans x1);obtain⟨an,y1,y2⟩:=x5 D.t.r;rw[show a+1+s=a+s+1 by omega]at g1;exact⟨_,NQ h.g (by omega) (by omega) ⟨j,hd⟩ ((h.sg A).trans B) g1 y1,(g2.app y2).cons⟩
theorem apQ {n:Nat} (t:Tw E F G s (n-2)) (a:Nat) (l i:List Nd) (u u' d:Int) (q q' v:Nat) (m:List Nd) (hm:16*(F.length-a)+8<n+1) (hq:n<=q) (ad:n<=q') (hp:jD F a l d 113) (hp':jD G (a+s) i d 113) (A:a<F.length) (hd:d<200) (B:qo F a=99)
  (e:jL (dA q) F (a:Int) l u d=a6 (PR F v (l++m) u d,())) (D:Cq E F v m):
  ∃I,jL (dA q') G ((a+s:Nat):Int) i u' d=a6 (PR G (v+s) (i++I) u' d,())/\KK I m:=by
 have ai:=h.f.len;have ak:=h.g.len;have al:=h.le;obtain⟨J,U,j,x⟩:=hp;obtain⟨K,V,_,_⟩:=hp';have y:(bZ l [opn 14 a u]).length=l.length+1:=by unfold bZ;simp
 have z:(bZ i [opn 14 (a+s) u']).length=i.length+1:=by unfold bZ;simp
 have W: ∀(L p:List Nd) (u u' d:Int),jD F (a+1) L d 101->jD G (a+1+s) p d 101->DR E F G s ((dA q).q239 F ((a+1:Nat):Int) L u d) ((dA q').q239 G ((a+1+s:Nat):Int) p u' d) (a+1) L p u u' d 6:=fun L p u u' d hp hp'=>by
  obtain⟨J,U,j,x⟩:=hp;obtain⟨K,V,_,_⟩:=hp';exact(awy h t (by omega) (by omega) (by omega) ⟨J,by omega,j,x⟩ ⟨K,by omega,j,x⟩).le (by omega)
 obtain⟨M,N,⟨⟩,X,e2,O,e4,Y⟩:=W (bZ l [opn 14 a u]) (bZ i [opn 14 (a+s) u']) (bV l) (bV i) (d+1) ⟨by omega,by rw[y];omega,by omega,by omega⟩ ⟨by omega,by rw[z];omega,by omega,by omega⟩;obtain⟨a2,m2,S,Z,f3,f4,f5⟩:=Vs h (q:=dA q) (q':=dA q') (bV l) (bV i) (d+1) (bV l) u (bV i) u' bY bY M (bZ l [opn 14 a u]++N) (bZ i [opn 14 (a+s) u']) (di) (di) O (by rw[ae,y];omega) (by rw[z];omega);have r1:=NR h.f A (by omega) ⟨j,hd⟩ B X S;rw[r1]at e;obtain⟨rfl,rfl⟩:=jv e;obtain⟨ab,g1,g2⟩:=Y (D.t.l Z);have g3:=g2.len;obtain⟨b2,n2,x1,x2,x3,x4,x5⟩:=Vs h (q:=dA q) (q':=dA q') (bV l) (bV i) (d+1) (bV l) u (bV i) u' bY bY M (bZ l [opn 14 a u]++N) (bZ i [opn 14 (a+s) u']++ab) (di) (di) O (by rw[ae,y];omega) (by rw[ae,z];omega);obtain⟨rfl,rfl⟩:=OV (S.symm.trans x1);obtain⟨an,y1,y2⟩:=x5 D.t.r;rw[show a+1+s=a+s+1 by omega]at g1;exact⟨_,NR h.g (by omega) (by omega) ⟨j,hd⟩ ((h.sg A).trans B) g1 y1,(g2.app y2).cons⟩
theorem adg {n:Nat} (t:Tw E F G s (n-2)) (a:Nat) (l g:List Nd) (u u' d:Int) (r y i:Nat) (m:List Nd) (p:16*(F.length-a)+8<n+1) (D:n+1<=r) (I:n+1<=y) (hp:jD F a l d 113) (hp':jD G (a+s) g d 113) (A:oH F a d=true)
  (e:(dA r).q212 F (a:Int) l u d=a6 (PR F i (l++m) u d,())) (v:Cq E F i m):
  ∃B,(dA y).q212 G ((a+s:Nat):Int) g u' d=a6 (PR G (i+s) (g++B) u' d,())/\KK B m:=by
 obtain⟨q,rfl⟩: ∃q,r=q+1:=⟨r-1,by omega⟩;obtain⟨j,rfl⟩: ∃j,y=j+1:=⟨y-1,by omega⟩;unfold oH at A;simp only[ah,decide_eq_true_eq]at A;obtain⟨hd,z⟩:=A;have x:=eQ z;unfold dW at z;simp only[ah,decide_eq_true_eq,List.contains_eq_mem,List.mem_cons,List.not_mem_nil,or_false]at z;rcases z.2 with f|f|f|f|f|f
 .exact awK h t a l g u u' d q j i m p (by omega) (by omega) hp hp' x hd f e v
 .exact apM h t a l g u u' d q j i m p (by omega) (by omega) hp hp' x hd f e v
 .exact apN h t a l g u u' d q j i m p (by omega) (by omega) hp hp' x hd f e v
 .exact apO h t a l g u u' d q j i m p (by omega) (by omega) hp hp' x hd f e v
 .exact apP h t a l g u u' d q j i m p (by omega) (by omega) hp hp' x hd f e v
 .exact apQ h t a l g u u' d q j i m p (by omega) (by omega) hp hp' x hd f e v
theorem alW (n:Nat):Tw E F G s n:=by
 induction n using Nat.strongRecOn with
 |_ n d=>
  cases n with
  |zero=>exact⟨fun _ _ _ _ _ _ _ _ _ _ h=>by omega,fun _ _ _ _ _ _ _ _ _ _ h=>by omega,fun _ _ _ _ _ _ _ _ _ _ h=>by omega,fun _ _ _ _ _ _ _ _ _ _ h=>by omega,fun _ _ _ _ _ _ _ _ _ _ h=>by omega,fun _ _ _ _ _ _ _ _ _ _ h=>by omega⟩
  |succ n=>
   have t:=d n (by omega);have e:=d (n-1) (by omega);have f:=d (n-2) (by omega);exact⟨axH h t,aoZ h t,ayP h t,af2 h t e,adg h f,awv h t⟩
end
end
section
open List renaming length_append → ae, append_assoc → ag, length_cons → az, length_singleton → aA, getElem_mem → aI
open Go.RowKit
def K2 (F:List Lf) (p:Nat):Prop:= ∃h:p<F.length,F[p].1=2
theorem K2.sg {F:List Lf} {p:Nat} (h:K2 F p):qo F p=110:=by
 obtain⟨e,d⟩:=h;rw[BX e];generalize F[p]=f at d;obtain⟨k,x,a,b,u⟩:=f;cases d;rfl
def Ep (F:List Lf) {f:Type} (x:Option (Fe×f)) (a:Nat) (L:List Nd) (u d:Int) (c:Nat):Prop:=
 ∃(e:Nat) (m:List Nd) (b:f),x=some (PR F e (L++m) u d,b)/\a<=e/\e<=F.length/\m.length<=16*(e-a)+c/\(wo m->a<e/\ ¬K2 F (e-1))
def Et (F:List Lf) {f:Type} (x:Option (Fe×f)) (a:Nat) (L:List Nd) (u d:Int) (c:Nat):Prop:=
 ∃(e:Nat) (m:List Nd) (b:f),x=some (PR F e (L++m) u d,b)/\a<=e/\e<=F.length/\m.length<=16*(e-a)+c
theorem Ep.t {F:List Lf} {e:Type} {x:Option (Fe×e)} {a:Nat} {L:List Nd} {u d:Int} {c:Nat} (h:Ep F x a L u d c):Et F x a L u d c:=by
 obtain⟨f,m,b,g,i,j,l,_⟩:=h;exact⟨f,m,b,g,i,j,l⟩
theorem Et.bind {F:List Lf} {f g:Type} {x:Option (Fe×f)} {k:Fe×f->Option (Fe×g)} {a:Nat} {L:List Nd} {u d:Int} {c1 c2:Nat} (h:Et F x a L u d c1)
  (h2: ∀(e:Nat) (m:List Nd) (b:f),a<=e->e<=F.length->m.length<=16*(e-a)+c1->Ep F (k (PR F e (L++m) u d,b)) e (L++m) u d c2):Ep F (bU x k) a L u d (c1+c2):=by
 obtain⟨e,m,b,i,j,l,p⟩:=h;obtain⟨q,v,y,z,I,A,J,B⟩:=h2 e m b j l p;refine⟨q,m++v,y,by rw[i,bT,z,ag],by omega,A,by rw[ae];omega,fun D=> ?_⟩;obtain⟨g1,g2⟩:=B D.r;exact⟨by omega,g2⟩
theorem Rn.t {F G:List Lf} {s:Nat} {C:Nat->List Nd->Prop} {e:Type} {x y:Option (Fe×e)} {a:Nat} {L L':List Nd} {u u' d:Int} {c:Nat} (h:Rn F G s C x y a L L' u u' d c):Et F x a L u d c:=by
 obtain⟨f,m,b,g,i,j,l,_⟩:=h;exact⟨f,m,b,g,i,j,l⟩
theorem xg {F:List Lf} (hF:yT F):Cf True F F 0:=
 ⟨hF,hF,fun p h=>⟨by omega,rfl,rfl⟩,fun _=>.inl (AQ),fun _=>by unfold qX;rw[dif_neg (by omega)],fun _ _ _=>trivial,by omega⟩
theorem Wj {F:List Lf} (hF:yT F) {a:Nat} {L:List Nd} {u d:Int} (l:a<=F.length) (hl:L.length<100000000) {o:List UInt8} (i:o.contains 110=false) (j:o.contains 0=false):Ep F (kJ F (a:Int) L u d o) a L u d 1:=by
 have A:=hF.len;obtain⟨p,m,b,f,q,v,x,_⟩:=G7 (xg hF) (a:=a) (L:=L) (L':=L) (u:=u) (u':=u) (d:=d) l hl hl i j;refine⟨p,m,b,f,q,v,x,fun g=> ?_⟩;rw[nI hF a L u d (by omega) (by omega) o j,jM]at f;obtain⟨y,z,_⟩:=yu f;subst y;subst z;cases hb:dW F a o with
 |true=>
  have B:=eQ hb;unfold nJ;rw[iR hb];refine⟨by omega,fun e=> ?_⟩;rw[Nat.add_sub_cancel]at e;replace e:=e.sg;unfold dW at hb;rw[e,i,Bool.and_false]at hb;cases hb
 |false=>
  unfold ny at g;rw[hb]at g;exact absurd rfl (g _ (List.mem_singleton.2 rfl)).2
theorem Ep.ret {F:List Lf} {x:Option (Fe×Unit)} {a:Nat} {L:List Nd} {u d:Int} {c:Nat} (h:Ep F x a L u d c):Ep F (bU x fun y=>some ((y.1.1,(y.1.2.1,(y.1.2.2.1,(y.1.2.2.2.1,(y.1.2.2.2.2.1,()))))),())) a L u d c:=by
 obtain⟨e,m,b,f,g,i,j,l⟩:=h;exact⟨e,m,(),by rw[f,bT],g,i,j,l⟩
theorem Ep.le {F:List Lf} {f:Type} {x:Option (Fe×f)} {a:Nat} {L:List Nd} {u d:Int} {c e:Nat} (h:Ep F x a L u d c) (q:c<=e):Ep F x a L u d e:=by
 obtain⟨g,m,b,i,j,l,v,p⟩:=h;exact⟨g,m,b,i,j,l,by omega,p⟩
section
variable {F:List Lf} (hF:yT F)
include hF
theorem apa {n a:Nat} {L:List Nd} {u d:Int} {q:Nat} (f:16*(F.length-a)+13<n) (e:n<=q) (hp:jD F a L d 110):Et F ((dA q).q255 F (a:Int) L u d) a L u d 1:=by
 obtain⟨g,m,i,_,j,l,p,_⟩:=(kN hF n).body a L u d q q f e e hp;exact⟨g,m,(),i,j,l,p⟩
theorem ab8 {n a:Nat} {L:List Nd} {u d:Int} {q:Nat} (g:16*(F.length-a)+13<n) (i:n<=q) (hp:jD F a L d 109) {o:List UInt8} (j:o.contains 110=false) (l:o.contains 0=false):
  Ep F (bU ((dA q).q255 F (a:Int) L u d) fun e=>bU (kJ e.1.1 e.1.2.1 e.1.2.2.1 e.1.2.2.2.1 e.1.2.2.2.2.1 o) fun f=>some ((f.1.1,(f.1.2.1,(f.1.2.2.1,(f.1.2.2.2.1,(f.1.2.2.2.2.1,()))))),())) a L u d (1+1):=by
 have z:=hF.len;obtain⟨p,A,v,x⟩:=hp;refine(apa hF g i ⟨p,by omega,v,x⟩).bind fun B m b D y I=> ?_;exact(Wj hF (L:=L++m) y (by rw[ae];omega) j l).ret
theorem ame {n a:Nat} {L:List Nd} {u d:Int} {q:Nat} (j:16*(F.length-a)+13<n) (l:n+1<=q) (hp:jD F a L d 105):Ep F ((dA q).q256 F (a:Int) L u d) a L u d (1+(1+1)):=by
 have p:=hF.len;obtain⟨e,v,f,g⟩:=hp;obtain⟨q,rfl⟩: ∃r,q=r+1:=⟨q-1,by omega⟩;show Ep F (FC (dA q) F (a:Int) L u d) a L u d _;rw[FC];refine(Wj hF (L:=L) e (by omega) (by decide) (by decide)).t.bind fun x m b y i z=> ?_;exact ab8 hF (n:=n) (by omega) (by omega) ⟨i,by rw[ae];omega,f,g⟩ (by decide) (by decide)
theorem aCC {n a:Nat} {L:List Nd} {u d:Int} {q:Nat} (g:16*(F.length-a)+13<n) (l:n+2<=q) (hp:jD F a L d 104):Ep F ((dA q).q237 F (a:Int) L u d) a L u d (1+(1+(1+1))):=by
 have p:=hF.len;obtain⟨i,v,e,f⟩:=hp;obtain⟨q,rfl⟩: ∃r,q=r+1:=⟨q-1,by omega⟩;show Ep F (PP (dA q) F (a:Int) L u d) a L u d _;rw[PP];refine(apa hF g (by omega) ⟨i,by omega,e,f⟩).bind fun x m b y j z=> ?_;exact(ame hF (n:=n) (by omega) (by omega) ⟨j,by rw[ae];omega,e,f⟩).ret
theorem aDT {n a:Nat} {L:List Nd} {u d:Int} {q:Nat} (z:16*(F.length-a)+13<n) (e:n+1<=q) (hp:jD F a L d 102):Ep F (Yg (dA q) F (a:Int) L u d) a L u d (0+(0+(1+3))):=by
 have A:=hF.len;obtain⟨l,B,f,g⟩:=hp;have i:=xg hF;unfold Yg;refine(ET (L:=L) (L':=L) (u:=u) (u':=u) (d:=d) i l (by decide) (by decide)).t.bind fun D m b I p J=> ?_;refine(uo (L:=L++m) (L':=L) (u:=u) (u':=u) (d:=d) i p).t.bind fun v j x k1 k2 k3=> ?_;have K:(L++m++j).length<=16*v+102:=by simp only[ae];omega
 simp only;cases x.1 with
 |true=>exact(ame hF (n:=n) (by omega) e ⟨k2,by omega,f,g⟩).ret.le (by omega)
 |false=>
  cases b.1 with
  |true=>exact(ame hF (n:=n) (by omega) e ⟨k2,by omega,f,g⟩).ret.le (by omega)
  |false=>
   refine(Ih (L:=L++m++j) (L':=[]) (u:=u) (u':=u) (d:=d) i k2 (by omega) (by simp)).t.bind fun M N O S y U=> ?_;exact(ame hF (n:=n) (by omega) e ⟨y,by rw[ae];omega,f,g⟩).ret
theorem avW {n a:Nat} {L:List Nd} {u d:Int} {q:Nat} (Y:16*(F.length-a)+13<n) (i:n+1<=q) (hp:jD F a L d 102):Ep F (GY (dA q) F (a:Int) L u d) a L u d (0+(0+(0+4))):=by
 have Z:=hF.len;obtain⟨A,p2,j,l⟩:=hp;have f:=xg hF;unfold GY;refine(ET (L:=L) (L':=L) (u:=u) (u':=u) (d:=d) f A (by decide) (by decide)).t.bind fun B m b h1 p h3=> ?_;have D:(L++m).length<=16*B+102:=by simp only[ae];omega
 simp only;cases b.1 with
 |true=>
  refine(uo (L:=L++m) (L':=L) (u:=u) (u':=u) (d:=d) f p).t.bind (c2:=4) fun v e I k1 k2 k3=> ?_;exact(ame hF (n:=n) (by omega) i ⟨k2,by rw[ae];omega,j,l⟩).ret.le (by omega)
 |false=>
  refine(uo (L:=L++m) (L':=L) (u:=u) (u':=u) (d:=d) f p).t.bind fun v e I k1 k2 k3=> ?_;have l1:(L++m++e).length<=16*v+102:=by simp only[ae]at D ⊢;omega
  refine(ET (L:=L++m++e) (L':=L) (u:=u) (u':=u) (d:=d) f k2 (by decide) (by decide)).t.bind fun x g J x1 y x3=> ?_;have l2:(L++m++e++g).length<=16*x+102:=by rw[ae];omega
  simp only;cases J.1 with
  |false=>exact(ame hF (n:=n) (by omega) i ⟨y,by omega,j,l⟩).ret.le (by omega)
  |true=>
   obtain⟨K,z,g1,g4,g5,g6,_⟩:=acT f (q:=dA q) (q':=dA q) u u d bY bY x (L++m++e++g) (L++m++e++g) (di) (di) y (by omega) (by omega);simp only[aa];rw[g1,bT];simp only[dX];obtain⟨M,N,O,S,y2,U,y4,V⟩:=aDT hF (n:=n) (a:=K) (L:=L++m++e++g++z) (u:=u) (d:=d) (q:=q) (by omega) i ⟨g5,by rw[ae];omega,j,l⟩;refine⟨M,z++N,O,by rw[S,ag],by omega,U,by rw[ae];omega,fun W=> ?_⟩;obtain⟨z1,X⟩:=V W.r;exact⟨by omega,X⟩
theorem aBs {n a:Nat} {L:List Nd} {u d:Int} {q:Nat} (I:16*(F.length-a)+13<n) (J:n+2<=q) (hp:jD F a L d 101):Ep F ((dA q).q238 F (a:Int) L u d) a L u d (1+4):=by
 have K:=hF.len;obtain⟨j,M,f,g⟩:=hp;have l:=xg hF;obtain⟨q,rfl⟩: ∃r,q=r+1:=⟨q-1,by omega⟩;show Ep F (TP (dA q) F (a:Int) L u d) a L u d _;rw[QQ,ku a L u d,bT];have mis:Ep F (bU (qc F (a:Int) L u d) fun e=>GY (dA q) e.1.1 e.1.2.1 e.1.2.2.1 e.1.2.2.2.1 e.1.2.2.2.2.1) a L u d (1+4):=
  (Ih (L:=L) (L':=[]) (u:=u) (u':=u) (d:=d) l j (by omega) (by simp)).t.bind fun N O S U m V=>avW hF (n:=n) (by omega) (by omega) ⟨m,by rw[ae];omega,f,g⟩
 simp only;cases hw:qX F a with
 |false=>exact mis
 |true=>
  obtain⟨i,_⟩:=Ul hw;simp only[aa];rw[fD,um i,Ai (by have:=hF.txt _ (aI i);omega),bT];simp only[aa];cases decide (nl F[a].2.1≠0/\nl F[a].2.1=F[a].2.1.length)with
  |false=>exact mis
  |true=>
   simp only[aa];rw[qG a L u d 7 (by omega) (by omega),bT];simp only;obtain⟨p,v,x,y,e,z,W,A⟩:=avW hF (n:=n) (a:=a+1) (L:=L++[(7,(a:Int),((a+1:Nat):Int),u,())]) (u:=u) (d:=d) (q:=q) (by omega) (by omega) ⟨by omega,by rw[ae,aA];omega,f,g⟩;refine⟨p,(7,(a:Int),((a+1:Nat):Int),u,())::v,x,by rw[y,ag];rfl,by omega,z,by rw[az];omega,fun B=> ?_⟩;obtain⟨X,D⟩:=A B.t;exact⟨by omega,D⟩
theorem aBi {n a:Nat} {L:List Nd} {u d:Int} {q:Nat} (O:16*(F.length-a)+13<n) (f:n+1<=q) (hp:jD F a L d 104):Ep F (casT (dA q) F (a:Int) L u d) a L u d (0+1):=by
 have S:=hF.len;obtain⟨i,U,j,l⟩:=hp;have e:=xg hF;unfold casT;refine(uo (L:=L) (L':=L) (u:=u) (u':=u) (d:=d) e i).t.bind fun p m b V v W=> ?_;obtain⟨x,g,y,X,z,Y,_⟩:=Tf e (alW e n) (q:=q) (q':=q) f f u u d ⟨j,l⟩ bY bY p (L++m) (L++m) (di) (di) v (by omega) (by rw[ae];omega) (by rw[ae];omega);simp only;rw[y,bT];simp only[dX];obtain⟨A,B,D,I,Z,J,y4,K⟩:=(Wj hF (a:=x) (L:=L++m++g) (u:=u) (d:=d) z (by simp only[ae];omega) (o:=[122]) (by decide) (by decide)).ret;refine⟨A,g++B,D,by rw[I,ag],by omega,J,by rw[ae];omega,fun M=> ?_⟩;obtain⟨z1,N⟩:=K M.r;exact⟨by omega,N⟩
theorem awx {n a:Nat} {L:List Nd} {u d:Int} {q:Nat} (D:16*(F.length-a)+13<n) (I:n+2<=q) (hp:jD F a L d 102):Ep F ((dA q).q239 F (a:Int) L u d) a L u d (1+(0+(1+1))):=by
 have J:=hF.len;obtain⟨l,K,p,v⟩:=hp;have i:=xg hF;obtain⟨q,rfl⟩: ∃r,q=r+1:=⟨q-1,by omega⟩;show Ep F (bU (CX F (a:Int) L u d) fun e=>bU (rJ e.1.1 e.1.2.1 e.1.2.2.1 e.1.2.2.2.1 e.1.2.2.2.2.1) fun f=>bU (kJ f.1.1 f.1.2.1 f.1.2.2.1 f.1.2.2.2.1 f.1.2.2.2.2.1 [107]) fun g=>casT (dA q) g.1.1 g.1.2.1 g.1.2.2.1 g.1.2.2.2.1 g.1.2.2.2.2.1) a L u d _;refine(aik (L:=L) (L':=[]) (u:=u) (u':=u) (d:=d) i l (by omega) (by simp)).t.bind fun x m b M y N=> ?_;have O:(L++m).length<=16*x+103:=by rw[ae];omega
 refine(uo (L:=L++m) (L':=L) (u:=u) (u':=u) (d:=d) i y).t.bind fun z j S U A V=> ?_;have W:(L++m++j).length<=16*z+103:=by rw[ae];omega
 refine(Wj hF (L:=L++m++j) A (by omega) (by decide) (by decide)).t.bind fun X Y Z j1 B j3=> ?_;exact aBi hF (n:=n) (by omega) (by omega) ⟨B,by rw[ae];omega,p,v⟩
theorem aBu {n a:Nat} {L:List Nd} {u d:Int} {q:Nat} (x:16*(F.length-a)+13<n) (f:n<=q) (hp:jD F a L d 109):Ep F (PN (dA q) F (a:Int) L u d) a L u d (0+2):=by
 have y:=hF.len;obtain⟨g,z,i,j⟩:=hp;have l:=xg hF;unfold PN;refine(ET (L:=L) (L':=L) (u:=u) (u':=u) (d:=d) l g (by decide) (by decide)).t.bind fun p m b A e B=> ?_;have v:(L++m).length<=16*p+109:=by rw[ae];omega
 simp only;cases b.1 with
 |true=>exact ab8 hF (n:=n) (by omega) f ⟨e,v,i,j⟩ (by decide) (by decide)
 |false=>exact(Wj hF (L:=L++m) e (by omega) (by decide) (by decide)).ret.le (by omega)
theorem afX {n a:Nat} {L:List Nd} {u d:Int} {q:Nat} (l:16*(F.length-a)+13<n) (M:n+1<=q) (hp:jD F a L d 105):Ep F ((dA q).q236 F (a:Int) L u d) a L u d 5:=by
 have N:=hF.len;obtain⟨m,O,e,f⟩:=hp;have g:=xg hF;obtain⟨q,rfl⟩: ∃r,q=r+1:=⟨q-1,by omega⟩;obtain⟨p,i,S,v,U,x,V,_⟩:=azh g (alW g n) (a:=a) (L:=L) (L':=L) (u:=u) (u':=u) (q:=q) (q':=q) (o:=[116]) l (by omega) (by omega) ⟨m,by omega,e,f⟩ ⟨by omega,by omega,e,f⟩ (by decide) (by decide);obtain⟨y,j,z,W,A,X,_⟩:=KG g (alW g n) (q:=q) (q':=q) (by omega) (by omega) u u d ⟨e,f⟩ bY bY p (L++i) (L++i) (di) (di) x (by omega) (by rw[ae];omega) (by rw[ae];omega);obtain⟨B,D,I,k1,k2,k3,k4,k5⟩:=aBu hF (n:=n) (a:=y) (L:=L++i++j) (u:=u) (d:=d) (q:=q) (by omega) (by omega) ⟨A,by simp only[ae];omega,e,f⟩;refine⟨B,i++j++D,I, ?_,by omega,k3,by simp only[ae];omega,fun J=> ?_⟩
 .show TN (dA q) F (a:Int) L u d=_;rw[TN];refine(atn _ _ _ _).trans ?_;rw[v,bT];simp only;rw[z,bT];exact k1.trans (by simp only[ag])
 .obtain⟨Y,K⟩:=k5 J.r;exact⟨by omega,K⟩
omit hF in
theorem aJc {b:Nat} {l m:List Nd} {u:Int} (e:wo (m++[Bd F b u])):b<uF F b/\ ¬K2 F (uF F b-1):=by
 have d:=e.r;unfold Bd at d;unfold uF;cases hw:qX F b with
 |true=>
  rw[am rfl];refine⟨by omega,fun⟨g,f⟩=> ?_⟩;obtain⟨i,j⟩:=Ul hw;simp only[Nat.add_sub_cancel]at f;omega
 |false=>
  rw[hw]at d;exact absurd rfl (d _ (List.mem_singleton.2 rfl)).2
end
end
section
open Option renaming some → a6, none → a7
open Bool renaming and_eq_true → ah, not_true → au, not_false → aF, or_eq_true → bi
open List renaming length_append → ae, append_assoc → ag, length_singleton → aA, append_nil → aG, getElem_mem → aI, append_cancel_left → bK
open Nat renaming le_refl → af
open Go.RowKit
section
variable {F:List Lf} (hF:yT F)
include hF
theorem tq (a:Nat) (l:List Nd) (u d:Int) (f:a<=F.length) (hl:l.length<100000000) (g:lT F a=true):
  ∃(e:Nat) (m:List Nd),ui F (a:Int) l u d=a6 (PR F e (l++m) u d,(true,()))/\a<e/\e<=F.length/\m.length=2/\(wo m-> ¬K2 F (e-1)):=by
 obtain⟨b,b0,v,i,x,j⟩:=MO hF a l u d f hl g;obtain⟨y,p⟩:=Wl (F:=F) b;exact⟨uF F b,_,j,by omega,p i,rfl,fun q=>(aJc (m:=[(8,(a:Int),((uF F b:Nat):Int),u,())]) (l:=[]) q).2⟩
theorem VG (u d:Int): ∀(N a:Nat) (L:List Nd) (f:Bool),F.length-a<N->a<=F.length->L.length<=16*a+1000->
  ∃(e:Nat) (m:List Nd),oD N f F (a:Int) u d L=a6 (.inl ((),((),()),((F,(e:Int),u,d,()),L++m,())))/\a<=e/\e<=F.length/\m.length<=2*(e-a)/\((lT F a||qX F a)=true->a<e)/\(wo m->e=a\/ ¬K2 F (e-1))
 |0,a,L,f,A,_,_=>by omega
 |N+1,a,L,f,A,i,V=>by
  have W:=hF.len;rw[oD,EO];cases hr:lT F a with
  |true=>
   obtain⟨B,y,D,X,I,Y,J⟩:=tq hF a L u d i (by omega) hr;obtain⟨e,m,j,K,p,M,_,q⟩:=VG u d N B (L++y) f (by omega) I (by rw[ae];omega);rw[D,bT];simp only[aa];refine⟨e,y++m,by rw[j,ag],by omega,p,by rw[ae];omega,fun _=>by omega,fun g=>.inr ?_⟩;rcases q g.r with h|h
   .subst h;exact J g.l
   .exact h
  |false=>
   rw[gp hF a L u d i hr,bT];simp only[ac];rw[ku a L u d,bT];simp only;cases hi:qX F a with
   |false=>exact⟨a,[],by simp,af _,i,by simp,fun h=>by simp at h,fun _=>.inl rfl⟩
   |true=>
    obtain⟨z,Z⟩:=Ul hi;have O:iy F (a:Int)=true:=fD;have hg:=hF.txt _ (aI z);have v:=fun k=>qG (F:=F) a L u d k (by omega) (by omega);have S: ¬K2 F (a+1-1):=fun⟨x1,U⟩=>by simp only[Nat.add_sub_cancel]at U;omega
    have go: ∀(k:Int) (x:Bool),∃(e:Nat) (m:List Nd),
      oD N x F ((a+1:Nat):Int) u d (L++[(k,(a:Int),((a+1:Nat):Int),u,())])=a6 (.inl ((),((),()),((F,(e:Int),u,d,()),L++m,())))/\a<=e/\e<=F.length/\m.length<=2*(e-a)/\((false||true)=true->a<e)/\(wo m->e=a\/ ¬K2 F (e-1)):=fun k x=>by
     obtain⟨e,m,j,K,p,M,_,q⟩:=VG u d N (a+1) (L++[(k,(a:Int),((a+1:Nat):Int),u,())]) x (by omega) (by omega) (by rw[ae,aA];omega);refine⟨e,[(k,(a:Int),((a+1:Nat):Int),u,())]++m,by rw[j,ag],by omega,p,by rw[ae,aA];omega,fun _=>by omega,fun g=>.inr ?_⟩;rcases q g.r with h|h
     .subst h;exact S
     .exact h
    simp only[au,ac,O,aa,um z];cases f with
    |true=>
     simp only[au,ac];rw[v,bT];exact go 7 true
    |false=>
     simp only[aF,aa];rw[NI,bT];simp only;cases kH F[a].2.1 with
     |true=>
      simp only[aa];rw[v,bT];exact go 6 false
     |false=>
      simp only[ac];rw[v,bT];exact go 7 true
theorem akS {q:iK} (u d f g:Int): ∀(N a:Nat) (L:List Nd),F.length-a<N->a<=F.length->L.length<=16*a+1000->
  ∃(e:Nat) (m:List Nd),jc q N f g 9 9 9 9 L F (a:Int) u d=a6 (.inl ((),((f,g,()),(9,9,()),(9,9,()),(),()),((),(),L++m,(F,(e:Int),u,d,()),())))/\a<=e/\e<=F.length/\m.length<=16*(e-a)/\(wo m->e=a\/ ¬K2 F (e-1))
 |0,a,L,v,_,_=>by omega
 |N+1,a,L,v,i,I=>by
  have J:=hF.len;rw[jc,mr];cases hr:lT F a with
  |false=>
   rw[gp hF a L u d i hr,bT];exact⟨a,[],by simp,af _,i,by simp,fun _=>.inl rfl⟩
  |true=>
   obtain⟨x,j,y,K,z,M,A⟩:=tq hF a L u d i (by omega) hr;rw[y,bT];simp only[aa];obtain⟨B,D,g1,g2,g3,g4,g5⟩:=akS u d f g N x (L++j) (by omega) z (by rw[ae];omega);refine⟨B,j++D,by rw[g1,ag],by omega,g3,by rw[ae];omega,fun p=>.inr ?_⟩;rcases g5 p.r with h|h
   .subst h;exact A p.l
   .exact h
theorem ae0 {q:iK} (u d f g:Int): ∀(N a:Nat) (L:List Nd),F.length-a<N->a<=F.length->L.length<=16*a+1000->
  ∃(e:Nat) (m:List Nd),jI q N f g 10 10 10 10 L F (a:Int) u d=a6 (.inl ((),((f,g,()),(10,10,()),(10,10,()),(),()),((),(),L++m,(F,(e:Int),u,d,()),())))/\a<=e/\e<=F.length/\m.length<=16*(e-a)/\(wo m->e=a\/ ¬K2 F (e-1))
 |0,a,L,v,_,_=>by omega
 |N+1,a,L,v,i,I=>by
  have J:=hF.len;rw[jI,oQ];cases hr:lT F a with
  |false=>
   rw[gp hF a L u d i hr,bT];exact⟨a,[],by simp,af _,i,by simp,fun _=>.inl rfl⟩
  |true=>
   obtain⟨x,j,y,K,z,M,A⟩:=tq hF a L u d i (by omega) hr;rw[y,bT];simp only[aa];obtain⟨B,D,g1,g2,g3,g4,g5⟩:=ae0 u d f g N x (L++j) (by omega) z (by rw[ae];omega);refine⟨B,j++D,by rw[g1,ag],by omega,g3,by rw[ae];omega,fun p=>.inr ?_⟩;rcases g5 p.r with h|h
   .subst h;exact A p.l
   .exact h
theorem ae1 {q:iK} (u d f g:Int): ∀(N a:Nat) (L:List Nd),F.length-a<N->a<=F.length->L.length<=16*a+1000->
  ∃(e:Nat) (m:List Nd),iY q N f g 11 11 11 11 L F (a:Int) u d=a6 (.inl ((),((f,g,()),(11,11,()),(11,11,()),(),()),((),(),L++m,(F,(e:Int),u,d,()),())))/\a<=e/\e<=F.length/\m.length<=16*(e-a)/\(wo m->e=a\/ ¬K2 F (e-1))
 |0,a,L,v,_,_=>by omega
 |N+1,a,L,v,i,I=>by
  have J:=hF.len;rw[iY,l9];cases hr:lT F a with
  |false=>
   rw[gp hF a L u d i hr,bT];exact⟨a,[],by simp,af _,i,by simp,fun _=>.inl rfl⟩
  |true=>
   obtain⟨x,j,y,K,z,M,A⟩:=tq hF a L u d i (by omega) hr;rw[y,bT];simp only[aa];obtain⟨B,D,g1,g2,g3,g4,g5⟩:=ae1 u d f g N x (L++j) (by omega) z (by rw[ae];omega);refine⟨B,j++D,by rw[g1,ag],by omega,g3,by rw[ae];omega,fun p=>.inr ?_⟩;rcases g5 p.r with h|h
   .subst h;exact A p.l
   .exact h
theorem ae2 {q:iK} (u d f g:Int): ∀(N a:Nat) (L:List Nd),F.length-a<N->a<=F.length->L.length<=16*a+1000->
  ∃(e:Nat) (m:List Nd),iZ q N f g 12 12 12 12 L F (a:Int) u d=a6 (.inl ((),((f,g,()),(12,12,()),(12,12,()),(),()),((),(),L++m,(F,(e:Int),u,d,()),())))/\a<=e/\e<=F.length/\m.length<=16*(e-a)/\(wo m->e=a\/ ¬K2 F (e-1))
 |0,a,L,v,_,_=>by omega
 |N+1,a,L,v,i,I=>by
  have J:=hF.len;rw[iZ,mf];cases hr:lT F a with
  |false=>
   rw[gp hF a L u d i hr,bT];exact⟨a,[],by simp,af _,i,by simp,fun _=>.inl rfl⟩
  |true=>
   obtain⟨x,j,y,K,z,M,A⟩:=tq hF a L u d i (by omega) hr;rw[y,bT];simp only[aa];obtain⟨B,D,g1,g2,g3,g4,g5⟩:=ae2 u d f g N x (L++j) (by omega) z (by rw[ae];omega);refine⟨B,j++D,by rw[g1,ag],by omega,g3,by rw[ae];omega,fun p=>.inr ?_⟩;rcases g5 p.r with h|h
   .subst h;exact A p.l
   .exact h
theorem ae3 {q:iK} (u d f g:Int): ∀(N a:Nat) (L:List Nd),F.length-a<N->a<=F.length->L.length<=16*a+1000->
  ∃(e:Nat) (m:List Nd),ja q N f g 13 13 13 13 L F (a:Int) u d=a6 (.inl ((),((f,g,()),(13,13,()),(13,13,()),(),()),((),(),L++m,(F,(e:Int),u,d,()),())))/\a<=e/\e<=F.length/\m.length<=16*(e-a)/\(wo m->e=a\/ ¬K2 F (e-1))
 |0,a,L,v,_,_=>by omega
 |N+1,a,L,v,i,I=>by
  have J:=hF.len;rw[ja,mg];cases hr:lT F a with
  |false=>
   rw[gp hF a L u d i hr,bT];exact⟨a,[],by simp,af _,i,by simp,fun _=>.inl rfl⟩
  |true=>
   obtain⟨x,j,y,K,z,M,A⟩:=tq hF a L u d i (by omega) hr;rw[y,bT];simp only[aa];obtain⟨B,D,g1,g2,g3,g4,g5⟩:=ae3 u d f g N x (L++j) (by omega) z (by rw[ae];omega);refine⟨B,j++D,by rw[g1,ag],by omega,g3,by rw[ae];omega,fun p=>.inr ?_⟩;rcases g5 p.r with h|h
   .subst h;exact A p.l
   .exact h
theorem ae4 {q:iK} (u d f g:Int): ∀(N a:Nat) (L:List Nd),F.length-a<N->a<=F.length->L.length<=16*a+1000->
  ∃(e:Nat) (m:List Nd),jb q N f g 14 14 14 14 L F (a:Int) u d=a6 (.inl ((),((f,g,()),(14,14,()),(14,14,()),(),()),((),(),L++m,(F,(e:Int),u,d,()),())))/\a<=e/\e<=F.length/\m.length<=16*(e-a)/\(wo m->e=a\/ ¬K2 F (e-1))
 |0,a,L,v,_,_=>by omega
 |N+1,a,L,v,i,I=>by
  have J:=hF.len;rw[jb,mi];cases hr:lT F a with
  |false=>
   rw[gp hF a L u d i hr,bT];exact⟨a,[],by simp,af _,i,by simp,fun _=>.inl rfl⟩
  |true=>
   obtain⟨x,j,y,K,z,M,A⟩:=tq hF a L u d i (by omega) hr;rw[y,bT];simp only[aa];obtain⟨B,D,g1,g2,g3,g4,g5⟩:=ae4 u d f g N x (L++j) (by omega) z (by rw[ae];omega);refine⟨B,j++D,by rw[g1,ag],by omega,g3,by rw[ae];omega,fun p=>.inr ?_⟩;rcases g5 p.r with h|h
   .subst h;exact A p.l
   .exact h
theorem aBl {n a:Nat} {l:List Nd} {u d:Int} {q i:Nat} {m:List Nd} (V:16*(F.length-a)+8<n+1) (W:n<=q) (hp:jD F a l d 113) (y:a<F.length) (hd:d<200) (z:qo F a=123)
  (e:jL (dA q) F (a:Int) l u d=a6 (PR F i (l++m) u d,())) (A:wo m): ¬K2 F (i-1):=by
 have X:=hF.len;obtain⟨j,B,g,p⟩:=hp;have v:(bZ l [opn 9 a u]).length=l.length+1:=by unfold bZ;simp
 obtain⟨f,rfl⟩: ∃f,q=f+1:=⟨q-1,by omega⟩;have D: ∀(L:List Nd) (u d:Int),jD F (a+1) L d 101->Ep F ((dA (f+1)).q234 F ((a+1:Nat):Int) L u d) (a+1) L u d 6:=fun L u d hp=>by
  show Ep F (KR (dA f) F ((a+1:Nat):Int) L u d) (a+1) L u d 6;rw[KR];obtain⟨j,B,g,p⟩:=hp;exact(ab8 hF (n:=n-2) (by omega) (by omega) ⟨j,by omega,g,p⟩ (by decide) (by decide)).le (by omega)
 obtain⟨I,J,⟨⟩,K,Y,M,Z,N⟩:=D (bZ l [opn 9 a u]) (bV l) (d+1) ⟨by omega,by rw[v];omega,by omega,by omega⟩;obtain⟨a2,m2,O,f2,f3,f4,S⟩:=akS hF (q:=dA (f+1)) (bV l) (d+1) (bV l) u bY I (bZ l [opn 9 a u]++J) (di) M (by rw[ae,v];omega);have U:=Tn hF y (by omega) ⟨g,hd⟩ z K O;rw[U]at e;obtain⟨rfl,rfl⟩:=jv e;have x:=A.t;rcases S x.r with h|h
 .subst h;exact(N x.l).2
 .exact h
theorem awF {n a:Nat} {l:List Nd} {u d:Int} {q i:Nat} {m:List Nd} (V:16*(F.length-a)+8<n+1) (W:n<=q) (hp:jD F a l d 113) (y:a<F.length) (hd:d<200) (z:qo F a=40)
  (e:jL (dA q) F (a:Int) l u d=a6 (PR F i (l++m) u d,())) (A:wo m): ¬K2 F (i-1):=by
 have X:=hF.len;obtain⟨j,B,g,p⟩:=hp;have v:(bZ l [opn 10 a u]).length=l.length+1:=by unfold bZ;simp
 obtain⟨f,rfl⟩: ∃f,q=f+1:=⟨q-1,by omega⟩;have D: ∀(L:List Nd) (u d:Int),jD F (a+1) L d 101->Ep F ((dA (f+1)).q235 F ((a+1:Nat):Int) L u d) (a+1) L u d 6:=fun L u d hp=>by
  show Ep F (KT (dA f) F ((a+1:Nat):Int) L u d) (a+1) L u d 6;rw[KT];obtain⟨j,B,g,p⟩:=hp;exact(ab8 hF (n:=n-2) (by omega) (by omega) ⟨j,by omega,g,p⟩ (by decide) (by decide)).le (by omega)
 obtain⟨I,J,⟨⟩,K,Y,M,Z,N⟩:=D (bZ l [opn 10 a u]) (bV l) (d+1) ⟨by omega,by rw[v];omega,by omega,by omega⟩;obtain⟨a2,m2,O,f2,f3,f4,S⟩:=ae0 hF (q:=dA (f+1)) (bV l) (d+1) (bV l) u bY I (bZ l [opn 10 a u]++J) (di) M (by rw[ae,v];omega);have U:=NL hF y (by omega) ⟨g,hd⟩ z K O;rw[U]at e;obtain⟨rfl,rfl⟩:=jv e;have x:=A.t;rcases S x.r with h|h
 .subst h;exact(N x.l).2
 .exact h
theorem awG {n a:Nat} {l:List Nd} {u d:Int} {q g:Nat} {m:List Nd} (U:16*(F.length-a)+8<n+1) (V:n<=q) (hp:jD F a l d 113) (x:a<F.length) (hd:d<200) (y:qo F a=105)
  (e:jL (dA q) F (a:Int) l u d=a6 (PR F g (l++m) u d,())) (z:wo m): ¬K2 F (g-1):=by
 have W:=hF.len;obtain⟨i,A,f,j⟩:=hp;have p:(bZ l [opn 11 a u]).length=l.length+1:=by unfold bZ;simp
 have B: ∀(L:List Nd) (u d:Int),jD F (a+1) L d 101->Ep F ((dA q).q236 F ((a+1:Nat):Int) L u d) (a+1) L u d 6:=fun L u d hp=>by
  obtain⟨i,A,f,j⟩:=hp;exact(afX hF (n:=n-2) (by omega) (by omega) ⟨i,by omega,f,j⟩).le (by omega)
 obtain⟨D,I,⟨⟩,J,X,K,Y,M⟩:=B (bZ l [opn 11 a u]) (bV l) (d+1) ⟨by omega,by rw[p];omega,by omega,by omega⟩;obtain⟨Z,m2,N,f2,f3,f4,O⟩:=ae1 hF (q:=dA q) (bV l) (d+1) (bV l) u bY D (bZ l [opn 11 a u]++I) (di) K (by rw[ae,p];omega);have S:=NM hF x (by omega) ⟨f,hd⟩ y J N;rw[S]at e;obtain⟨rfl,rfl⟩:=jv e;have v:=z.t;rcases O v.r with h|h
 .subst h;exact(M v.l).2
 .exact h
theorem awH {n a:Nat} {l:List Nd} {u d:Int} {q g:Nat} {m:List Nd} (U:16*(F.length-a)+8<n+1) (V:n<=q) (hp:jD F a l d 113) (x:a<F.length) (hd:d<200) (y:qo F a=119)
  (e:jL (dA q) F (a:Int) l u d=a6 (PR F g (l++m) u d,())) (z:wo m): ¬K2 F (g-1):=by
 have W:=hF.len;obtain⟨i,A,f,j⟩:=hp;have p:(bZ l [opn 12 a u]).length=l.length+1:=by unfold bZ;simp
 have B: ∀(L:List Nd) (u d:Int),jD F (a+1) L d 101->Ep F ((dA q).q237 F ((a+1:Nat):Int) L u d) (a+1) L u d 6:=fun L u d hp=>by
  obtain⟨i,A,f,j⟩:=hp;exact(aCC hF (n:=n-2) (by omega) (by omega) ⟨i,by omega,f,j⟩).le (by omega)
 obtain⟨D,I,⟨⟩,J,X,K,Y,M⟩:=B (bZ l [opn 12 a u]) (bV l) (d+1) ⟨by omega,by rw[p];omega,by omega,by omega⟩;obtain⟨Z,m2,N,f2,f3,f4,O⟩:=ae2 hF (q:=dA q) (bV l) (d+1) (bV l) u bY D (bZ l [opn 12 a u]++I) (di) K (by rw[ae,p];omega);have S:=NP hF x (by omega) ⟨f,hd⟩ y J N;rw[S]at e;obtain⟨rfl,rfl⟩:=jv e;have v:=z.t;rcases O v.r with h|h
 .subst h;exact(M v.l).2
 .exact h
theorem awI {n a:Nat} {l:List Nd} {u d:Int} {q g:Nat} {m:List Nd} (U:16*(F.length-a)+8<n+1) (V:n<=q) (hp:jD F a l d 113) (x:a<F.length) (hd:d<200) (y:qo F a=114)
  (e:jL (dA q) F (a:Int) l u d=a6 (PR F g (l++m) u d,())) (z:wo m): ¬K2 F (g-1):=by
 have W:=hF.len;obtain⟨i,A,f,j⟩:=hp;have p:(bZ l [opn 13 a u]).length=l.length+1:=by unfold bZ;simp
 have B: ∀(L:List Nd) (u d:Int),jD F (a+1) L d 101->Ep F ((dA q).q238 F ((a+1:Nat):Int) L u d) (a+1) L u d 6:=fun L u d hp=>by
  obtain⟨i,A,f,j⟩:=hp;exact(aBs hF (n:=n-2) (by omega) (by omega) ⟨i,by omega,f,j⟩).le (by omega)
 obtain⟨D,I,⟨⟩,J,X,K,Y,M⟩:=B (bZ l [opn 13 a u]) (bV l) (d+1) ⟨by omega,by rw[p];omega,by omega,by omega⟩;obtain⟨Z,m2,N,f2,f3,f4,O⟩:=ae3 hF (q:=dA q) (bV l) (d+1) (bV l) u bY D (bZ l [opn 13 a u]++I) (di) K (by rw[ae,p];omega);have S:=NQ hF x (by omega) ⟨f,hd⟩ y J N;rw[S]at e;obtain⟨rfl,rfl⟩:=jv e;have v:=z.t;rcases O v.r with h|h
 .subst h;exact(M v.l).2
 .exact h
theorem awJ {n a:Nat} {l:List Nd} {u d:Int} {q g:Nat} {m:List Nd} (U:16*(F.length-a)+8<n+1) (V:n<=q) (hp:jD F a l d 113) (x:a<F.length) (hd:d<200) (y:qo F a=99)
  (e:jL (dA q) F (a:Int) l u d=a6 (PR F g (l++m) u d,())) (z:wo m): ¬K2 F (g-1):=by
 have W:=hF.len;obtain⟨i,A,f,j⟩:=hp;have p:(bZ l [opn 14 a u]).length=l.length+1:=by unfold bZ;simp
 have B: ∀(L:List Nd) (u d:Int),jD F (a+1) L d 101->Ep F ((dA q).q239 F ((a+1:Nat):Int) L u d) (a+1) L u d 6:=fun L u d hp=>by
  obtain⟨i,A,f,j⟩:=hp;exact(awx hF (n:=n-2) (by omega) (by omega) ⟨i,by omega,f,j⟩).le (by omega)
 obtain⟨D,I,⟨⟩,J,X,K,Y,M⟩:=B (bZ l [opn 14 a u]) (bV l) (d+1) ⟨by omega,by rw[p];omega,by omega,by omega⟩;obtain⟨Z,m2,N,f2,f3,f4,O⟩:=ae4 hF (q:=dA q) (bV l) (d+1) (bV l) u bY D (bZ l [opn 14 a u]++I) (di) K (by rw[ae,p];omega);have S:=NR hF x (by omega) ⟨f,hd⟩ y J N;rw[S]at e;obtain⟨rfl,rfl⟩:=jv e;have v:=z.t;rcases O v.r with h|h
 .subst h;exact(M v.l).2
 .exact h
theorem Tq {n a:Nat} {l:List Nd} {u d:Int} {r x:Nat} {m:List Nd} (g:16*(F.length-a)+8<n+1) (y:n+1<=r) (hp:jD F a l d 113) (v:oH F a d=true)
  (e:(dA r).q212 F (a:Int) l u d=a6 (PR F x (l++m) u d,())) (i:wo m): ¬K2 F (x-1):=by
 obtain⟨q,rfl⟩: ∃q,r=q+1:=⟨r-1,by omega⟩;unfold oH at v;simp only[ah,decide_eq_true_eq]at v;obtain⟨hd,p⟩:=v;have j:=eQ p;unfold dW at p;simp only[ah,decide_eq_true_eq,List.contains_eq_mem,List.mem_cons,List.not_mem_nil,or_false]at p;rcases p.2 with f|f|f|f|f|f
 .exact aBl hF g (by omega) hp j hd f e i
 .exact awF hF g (by omega) hp j hd f e i
 .exact awG hF g (by omega) hp j hd f e i
 .exact awH hF g (by omega) hp j hd f e i
 .exact awI hF g (by omega) hp j hd f e i
 .exact awJ hF g (by omega) hp j hd f e i
omit hF in
theorem atg {x:Int×Int×Int×Unit} {P:Prop} (d:wo [(18,x)]):P:=absurd rfl (d _ (List.mem_singleton.2 rfl)).2
theorem Xp {n a:Nat} {l:List Nd} {u d:Int} {r A:Nat} {m:List Nd} (X:16*(F.length-a)+9<n+1) (Y:n+1<=r) (hp:jD F a l d 113)
  (e:(dA r).q174 F (a:Int) l u d=a6 (PR F A (l++m) u d,())) (v:wo m): ¬K2 F (A-1):=by
 have B:=hp;obtain⟨x,Z,D,I⟩:=hp;have ab:=hF.len;have L:=kN hF n;obtain⟨q,rfl⟩: ∃q,r=q+1:=⟨r-1,by omega⟩;cases hcm:oH F a d with
 |true=>
  obtain⟨g,i,f,_⟩:=L.compound a l u d q q (by omega) (by omega) (by omega) B hcm;rw[Y8 hF a l u d q x hcm f]at e;obtain⟨rfl,rfl⟩:=jv e;exact Tq hF (n:=n-1) (by omega) (by omega) B hcm f v
 |false=>
  cases hf:QV F a d with
  |true=>
   have j:dW F a [120]=true/\qo F (a+1)=40/\d<200:=by
    have:=hf;unfold QV at this;simp only[ah,decide_eq_true_eq]at this;exact⟨this.1,this.2.1,this.2.2.1⟩
   have y:=eQ j.1;have ad:=eQ (zI (F:=F) (a:=a+1) (c:=40) (by decide) j.2.1);have M:=xA (F:=F) (a+2) [41];have N:=M.2 (by omega);have ai:=nT (F:=F) (a+2) [41] (bV l);have aj:=lV (F:=F) (nJ F (a+2) [41]);have J:=kQ (F:=F) N;obtain⟨p,rfl⟩: ∃p,q=p+1:=⟨q-1,by omega⟩;have z:(bZ l [opn 16 a u]).length=l.length+1:=by unfold bZ;simp
   have ak:((bZ l [opn 16 a u]++[(7,(a:Int),((a+1:Nat):Int),bV l,())])++ny F (a+2) [41] (bV l)).length<=l.length+3:=by
    simp only[ae,z,aA];omega
   have O: ∃(g:Nat) (i:List Nd),YV (dA p) F a l u d=a6 (PR F g (((bZ l [opn 16 a u]++[(7,(a:Int),((a+1:Nat):Int),bV l,())])++ny F (a+2) [41] (bV l))++i) (bV l) (d+1),())/\(wo i-> ¬K2 F (g-1)):=by
    unfold YV;cases hc1:oH F (ln F (nJ F (a+2) [41])) (d+1)with
    |true=>
     obtain⟨g,i,f,_⟩:=(kN hF (n-1)).compound (ln F (nJ F (a+2) [41])) ((bZ l [opn 16 a u]++[(7,(a:Int),((a+1:Nat):Int),bV l,())])++ny F (a+2) [41] (bV l)) (bV l) (d+1) p p (by omega) (by omega) (by omega) ⟨J,by omega,by omega,by omega⟩ hc1;exact⟨g,i,f,Tq hF (n:=n-2) (by omega) (by omega) ⟨J,by omega,by omega,by omega⟩ hc1 f⟩
    |false=>exact⟨_,_,iQ _ _ _ _ (by omega),fun v=>atg v⟩
   obtain⟨g,i,f,S⟩:=O;rw[af0 hF a l u d (p+1) x (by omega) ⟨D,I⟩ hcm hf (Jv hF a l u d p (by omega) ⟨D,I⟩ hf f)]at e;obtain⟨rfl,rfl⟩:=jv e;exact S (v.t.r (a:=[(7,(a:Int),((a+1:Nat):Int),bV l,())]++ny F (a+2) [41] (bV l)))
  |false=>
   cases hcd:uG F a d with
   |false=>
    rw[af1 hF a l u d q x (by omega) hcm hf hcd]at e;obtain⟨rfl,rfl⟩:=jv e;exact atg v
   |true=>
    have z:(bZ l [opn 5 a u]).length=l.length+1:=by unfold bZ;simp
    obtain⟨g,i,f,f2,f3,_,U,V⟩:=VG hF (bV l) d bY a (bZ l [opn 5 a u]) false (di) x (by rw[z];omega);rw[Y9 hF a l u d q x (by omega) hcm hf hcd f]at e;obtain⟨rfl,rfl⟩:=jv e;have al:a<g:=by
     apply U;unfold uG at hcd;rw[hcm,Bool.or_false,bi]at hcd;rcases hcd with j|j
     .have y:=eQ j;have K:=rY j;rw[BX y]at K;have W:qX F a=true:=by
       unfold qX;rw[dif_pos y];exact decide_eq_true (alu (hF.txt _ (aI y)) K)
      rw[W,Bool.or_true]
     .rw[j,Bool.true_or]
    rcases V v.t with h|h
    .omega
    .exact h
theorem akM {n q:Nat} (p:n<=q) (u d i j:Int) (hd:0<=d/\d<=200): ∀(N a:Nat) (L:List Nd) (f:Nat) (m:List Nd),F.length-a<N->a<=F.length->16*(F.length-a)+9<n+16->0<n->L.length<=16*a+114->
  kM (dA q) N i j F (a:Int) u d L=a6 (.inl ((),((i,j,()),(),(),()),((),(F,(f:Int),u,d,()),L++m,())))->wo m->f=a\/ ¬K2 F (f-1)
 |0,a,L,f,m,S,_,_,_,_,_,_=>by omega
 |N+1,a,L,f,m,S,W,X,U,Y,e,v=>by
  have Z:=hF.len;have A:=kN hF n;have B: ∀{b:Nat} {g:List Nd},(a6 (.inl ((),((i,j,()),(),(),()),((),(F,(b:Int),u,d,()),L++g,()))):Option (qJ.den⊕qK.den))=a6 (.inl ((),((i,j,()),(),(),()),((),(F,(f:Int),u,d,()),L++m,())))->b=f/\g=m:=fun {b g} x=>by
   have y:((b:Int),L++g)=((f:Int),L++m):=by
    have:=congrArg (fun o:Option (qJ.den⊕qK.den)=>match o with
     |some (.inl z)=>((z.2.2.2.1.2.1,z.2.2.2.2.1):Int×List Nd)
     |_=>(0,[])) x
    exact this
   injection y with y1 y2
   exact⟨by omega,bK y2⟩
  rw[kM,qM,iF hF a L u d (by omega) [124] rfl,bT]at e;simp only at e;cases hb:dW F a [124]with
  |false=>
   rw[hb,jR hb]at e;simp only[ac]at e;obtain⟨rfl,rfl⟩:=B (g:=[]) (by rw[aG];exact e);exact .inl rfl
  |true=>
   have ab:=eQ hb;have ad:=lV (F:=F) (a+1);have D:=kQ (F:=F) (a:=a+1) (by omega);rw[hb,iR hb]at e;simp only[aa]at e;rw[iO hF (a+1) L u d (by omega),bT]at e;simp only at e;obtain⟨I,J,K,_,e3,M,e5,_⟩:=A.command (ln F (a+1)) L u d q q (by omega) p p ⟨D,by omega,hd.1,hd.2⟩;rw[K,bT]at e;simp only at e;obtain⟨V,g,O,_,f3,f4,f5,_⟩:=uY hF A p p u d 0 i j hd N I (L++J) (by omega) M (by omega) (by rw[ae];omega);rw[O,ag]at e;obtain⟨rfl,rfl⟩:=B e;refine .inr ?_;rcases akM p u d i j hd N I (L++J) V g (by omega) M (by omega) U (by rw[ae];omega) O v.r with h|h
   .subst h;exact Xp hF (n:=n-1) (by omega) (by omega) ⟨D,by omega,hd.1,hd.2⟩ K v.l
   .exact h
theorem atG {n a:Nat} {l:List Nd} {u d:Int} {r v:Nat} {m:List Nd} (N:16*(F.length-a)+10<n+1) (O:n+1<=r) (hp:jD F a l d 112) (hb:ji F a d=true)
  (e:(dA r).q139 F (a:Int) l u d=a6 (PR F v (l++m) u d,())) (I:wo m): ¬K2 F (v-1):=by
 obtain⟨J,S,f,g⟩:=hp;have U:=hF.len;have x:=kN hF n;obtain⟨q,rfl⟩: ∃q,r=q+1:=⟨r-1,by omega⟩;have i:(bZ l [opn 4 a u]).length=l.length+1:=by unfold bZ;simp
 have y:tk F a [33]<=F.length/\a<=tk F a [33]:=by
  unfold tk;split
  .rename_i K;exact⟨eQ K,by omega⟩
  omega
 obtain⟨j,p,z,_,V,A,W,X⟩:=x.command (tk F a [33]) (bZ l [opn 4 a u]) (bV l) d q q (by omega) (by omega) (by omega) ⟨y.1,by rw[i];omega,f,g⟩;have Y:a<j/\p.length+1+2<=16*(j-a):=by
  cases h33:dW F a [33]with
  |true=>grind [iR]
  |false=>
   simp_all [jR,ji]
 obtain⟨L,M,B,_,Z,f4,f5,_⟩:=uY hF x (q:=q) (q':=q) (by omega) (by omega) (bV l) d 0 (bV l) u ⟨f,g⟩ bY j (bZ l [opn 4 a u]++p) (di) A (by omega) (by rw[ae,i];omega);rw[Vj hF a l u d q J (by omega) hb z B]at e;obtain⟨rfl,rfl⟩:=jv e;have D:=I.t;rcases akM hF (n:=n) (q:=q) (by omega) (bV l) d (bV l) u ⟨f,g⟩ bY j (bZ l [opn 4 a u]++p) L M (di) A (by omega) (by omega) (by rw[ae,i];omega) B D.r with h|h
 .subst h;exact Xp hF (n:=n-1) (by omega) (by omega) ⟨y.1,by rw[i];omega,f,g⟩ z D.l
 .exact h
theorem acX {n q:Nat} (i:n<=q) (u d:Int) (hd:0<=d/\d<=200): ∀(N a:Nat) (L:List Nd) (j:Nat) (m:List Nd),F.length-a<N->a<=F.length->16*(F.length-a)+10<n->L.length<=16*a+112->
  xk (dA q) N F (a:Int) u d L=a6 (.inl ((),((),()),((F,(j:Int),u,d,()),L++m,())))->wo m->j=a\/ ¬K2 F (j-1)
 |0,a,L,j,m,B,_,_,_,_,_=>by omega
 |N+1,a,L,j,m,B,S,U,V,e,p=>by
  have W:=hF.len;have z:=kN hF n;rw[xk,JX,iF hF a L u d (by omega) [97,111] rfl,bT]at e;simp only at e;cases hb:dW F a [97,111]with
  |false=>
   rw[hb,jR hb]at e;simp only[ac]at e;obtain⟨rfl,rfl⟩:a=j/\[]=m:=oJ (by rw[aG];exact e);exact .inl rfl
  |true=>
   have X:=eQ hb;have Y:=lV (F:=F) (a+1);have v:=kQ (F:=F) (a:=a+1) (by omega);rw[hb,iR hb]at e;simp only[aa]at e;rw[iO hF (a+1) L u d (by omega),bT]at e;simp only at e;have D: ∃(f:Nat) (g:List Nd),(dA q).q139 F ((ln F (a+1):Nat):Int) L u d=a6 (PR F f (L++g) u d,())/\ln F (a+1)<=f/\f<=F.length/\g.length<=16*(f-a)/\(wo g-> ¬K2 F (f-1)):=by
    cases hp:ji F (ln F (a+1)) d with
    |true=>
     obtain⟨f,g,x,_,I,y,J,_⟩:=z.pipe (ln F (a+1)) L u d q q (by omega) i i ⟨v,by omega,hd.1,hd.2⟩ hp;exact⟨f,g,x,by omega,y,by omega,atG hF (n:=n-1) (by omega) (by omega) ⟨v,by omega,hd.1,hd.2⟩ hp x⟩
    |false=>
     exact⟨_,_,z.nopipe (ln F (a+1)) L u d q (by omega) i ⟨v,by omega,hd.1,hd.2⟩ hp,af _,v,by simp;omega,fun p=>atg p⟩
   obtain⟨f,g,x,I,y,J,K⟩:=D;rw[x,bT]at e;simp only at e;obtain⟨M,O,A,_,Z,f4,f5,_⟩:=qp hF z i i u d 0 hd N f (L++g) (by omega) y (by omega) (by rw[ae];omega);rw[A,ag]at e;obtain⟨rfl,rfl⟩:=oJ e;refine .inr ?_;rcases acX i u d hd N f (L++g) M O (by omega) y (by omega) (by rw[ae];omega) A p.r with h|h
   .subst h;exact K p.l
   .exact h
theorem awm {n a:Nat} {l:List Nd} {u d:Int} {r j:Nat} {m:List Nd} (K:16*(F.length-a)+11<n+1) (L:n+1<=r) (hp:jD F a l d 111) (hb:ji F a d=true)
  (e:(dA r).q98 F (a:Int) (bZ l [opn 3 a u]) (bV l) d=a6 (PR F j (bZ l [opn 3 a u]++m) (bV l) d,())) (p:wo m): ¬K2 F (j-1):=by
 obtain⟨v,M,f,g⟩:=hp;have N:=hF.len;have x:=kN hF n;obtain⟨q,rfl⟩: ∃q,r=q+1:=⟨r-1,by omega⟩;have i:(bZ l [opn 3 a u]).length=l.length+1:=by unfold bZ;simp
 obtain⟨y,z,A,_,O,B,S,_⟩:=x.pipe a (bZ l [opn 3 a u]) (bV l) d q q (by omega) (by omega) (by omega) ⟨v,by rw[i];omega,f,g⟩ hb;obtain⟨I,J,D,_,U,V,W,_⟩:=qp hF x (q:=q) (q':=q) (by omega) (by omega) (bV l) d 0 ⟨f,g⟩ bY y (bZ l [opn 3 a u]++z) (di) B (by omega) (by rw[ae,i];omega);rw[NG hF a (bZ l [opn 3 a u]) (bV l) d q A D]at e;obtain⟨rfl,rfl⟩:=jv e;rcases acX hF (n:=n) (q:=q) (by omega) (bV l) d ⟨f,g⟩ bY y (bZ l [opn 3 a u]++z) I J (di) B (by omega) (by rw[ae,i];omega) D p.r with h|h
 .subst h;exact atG hF (n:=n-1) (by omega) (by omega) ⟨v,by rw[i];omega,f,g⟩ hb A p.l
 .exact h
end
end
section
open Bool renaming and_true → aj, not_true → au, not_false → aF, false_or → bg, or_eq_true → bi
open List renaming length_append → ae, append_assoc → ag, length_cons → az, append_nil → aG
open Nat renaming le_refl → af, lt_or_ge → ak
open Go.RowKit
theorem list_round {H:List Lf} (f:yT H) {q:iK} {N a e:Nat} {L g:List Nd} {u d:Int} (i:e<=H.length) (hl:L.length<10000000)
  (j:q.q98 H (a:Int) (bZ L [opn 3 a u]) (bV L) d=some (PR H e (bZ L [opn 3 a u]++g) (bV L) d,())):
  jX q (N+1) H (a:Int) u d L=
   bif dW H e [59,38]||dW H e [110]then
    (bif ji H (ln H (tk H e [59,38])) d then jX q N H ((ln H (tk H e [59,38]):Nat):Int) u d (L++(3,(a:Int),(e:Int),u,())::g)
    else some (.inl ((),((),()),((H,((ln H (tk H e [59,38]):Nat):Int),u,d,()),L++(3,(a:Int),(e:Int),u,())::g,()))))
   else some (.inl ((),((),()),((H,(e:Int),u,d,()),L++(3,(a:Int),(e:Int),u,())::g,()))):=by
 have v:=f.len;obtain⟨n1,_,_⟩:=iJ L (opn 3 a u) (by omega);obtain⟨l,m⟩:=jC L g (opn 3 a u);rw[jX,JW];simp only[eU,aj,aa,n1];rw[j,bT];simp only[l,m,aa,iI];rw[iF f e _ u d (by omega) [59,38] rfl,bT];simp only;cases hb:dW H e [59,38]with
 |true=>
  have x:=eQ hb;rw[iR hb];simp only[aa,Bool.true_or];rw[iO f (e+1) _ u d (by omega),bT];simp only;have p:=kQ (F:=H) (a:=e+1) (by omega);rw[jO f _ _ u d (by omega),bT];simp only;cases ji H (ln H (e+1)) d<;>rfl
 |false=>
  rw[jR hb];simp only[ac,bg];rw[iO f e _ u d i,bT];simp only;cases hn:dW H e [110]with
  |false=>
   have:ln H e=e:=by
    rw[mY (F:=H),hn];rfl
   simp only[aF,aa,ac,this]
  |true=>
   simp only[au,ac,aa];have p:=kQ (F:=H) i;rw[jO f _ _ u d (by omega),bT];simp only;cases ji H (ln H e) d<;>rfl
section
variable {E:Prop} {F G:List Lf} {s:Nat} (h:Cf E F G s)
include h
theorem Cf.lne {p:Nat}: ∀(n p:Nat),F.length-p<n->p<=F.length->ln F p=F.length->ln G (p+s)=ln G (F.length+s)
 |0,_,e,_,_=>by omega
 |n+1,p,e,g,d=>by
  rcases ak p F.length with f|i
  .rw[mY (F:=F)]at d;cases hb:dW F p [110]with
   |false=>rw[hb]at d;simp at d;omega
   |true=>
    rw[hb,am rfl]at d;rw[mY (F:=G),h.n1 f,hb,am rfl];have:=Cf.lne (p:=p) n (p+1) (by omega) (by omega) d;rw[show p+s+1=p+1+s by omega];exact this
  .have:p=F.length:=by omega
   rw[this]
theorem Cf.lnl {p:Nat} (hp:p<=F.length) (hl:ln F p=F.length):ln G (p+s)=ln G (F.length+s):=Cf.lne h (p:=p) _ p (Nat.lt_succ_self _) hp hl
theorem Oi (I:E\/K2 F (F.length-1)) {n q q':Nat} (J:n<=q) (ab:n<=q') (u u' d:Int) (hd:0<=d/\d<=200): ∀(N A a:Nat) (L L' m:List Nd),F.length-a<N->F.length-a<A->a<=F.length->16*(F.length-a)+11<n->L.length<=16*a+111->L'.length<=16*(a+s)+111->ji F a d=true->
  jX (dA q) N F (a:Int) u d L=some (.inl ((),((),()),((F,(F.length:Int),u,d,()),L++m,())))->wo m->
  ∃(B:Nat) (v:List Nd),A<=B+(F.length-a)/\KK v m/\L'.length+v.length<=16*(F.length+s)+111/\jX (dA q') A G ((a+s:Nat):Int) u' d L'=
   bif ji G (ln G (F.length+s)) d then jX (dA q') B G ((ln G (F.length+s):Nat):Int) u' d (L'++v)
   else some (.inl ((),((),()),((G,((ln G (F.length+s):Nat):Int),u',d,()),L'++v,())))
 |0,_,a,L,L',m,hN,_,_,_,_,_,_,_,_=>by omega
 |_+1,0,a,L,L',m,_,hN,_,_,_,_,_,_,_=>by omega
 |N+1,A+1,a,L,L',m,hN,an,S,K,hL,ao,U,e,V=>by
  have av:=h.f.len;have aw:=h.g.len;have ax:=h.le;have hF:=h.f;have hA:=kN h.f n;obtain⟨i,p,W,_,e3,X,e5,_⟩:=hA.andor a L u d q q K J J ⟨S,by omega,hd.1,hd.2⟩ U;rw[list_round h.f X (by omega) W]at e;have ay:=lV (F:=F) (tk F i [59,38]);have Y:tk F i [59,38]<=F.length/\i<=tk F i [59,38]:=by
   cases j:dW F i [59,38]with
   |true=>have:=eQ j;rw[iR j];omega
   |false=>rw[jR j];omega
  have Z:=kQ (F:=F) Y.1;have hm: ∃x,m=(3,(a:Int),(i:Int),u,())::p++x:=by
   cases j:(dW F i [59,38]||dW F i [110])with
   |false=>
    rw[j,ac]at e;obtain⟨_,z⟩:=oJ e;exact⟨[],by rw[aG,z]⟩
   |true=>
    rw[j,aa]at e;cases hp:ji F (ln F (tk F i [59,38])) d with
    |false=>
     rw[hp,ac]at e;obtain⟨_,z⟩:=oJ e;exact⟨[],by rw[aG,z]⟩
    |true=>
     rw[hp,aa]at e;obtain⟨a2,x1,x,x2,f1,_,_,_,f5,f6,_⟩:=uT h.f hA J J u d 0 hd N (ln F (tk F i [59,38])) (L++(3,(a:Int),(i:Int),u,())::p) (by omega) Z (by omega) (by rw[ae,az];omega) hp;rw[f1,ag]at e;obtain⟨_,z⟩:=oJ e;exact⟨x,z.symm⟩
  obtain⟨x,rfl⟩:=hm;have M:Cq E F i p:=by
   rcases I with I|I
   .exact .inr ⟨I,V.l.t⟩
   .have:=awm hF (n:=n-1) (by omega) (by omega) ⟨S,by omega,hd.1,hd.2⟩ U W V.l.t;rcases ak i F.length with y|y
    .exact .inl y
    .rw[show i=F.length by omega]at this;exact absurd I this
  obtain⟨D,g1,g2⟩:=(alW h n).andor a L L' u u' d q q' i p K J ab ⟨S,by omega,hd.1,hd.2⟩ ⟨by omega,by omega,hd.1,hd.2⟩ U W M;have g3:=g2.len;rw[list_round h.g (by omega) (by omega) g1,h.nx X (M.at (af _)) (by decide) (by decide),h.tks X (M.at (af _)) (by decide) (by decide)];have lK:(L++(3,(a:Int),(i:Int),u,())::p).length=L.length+(p.length+1):=by rw[ae,az]
  have aA:(L'++(3,((a+s:Nat):Int),((i+s:Nat):Int),u',())::D).length=L'.length+(D.length+1):=by rw[ae,az]
  have stop:x=[]-> ∃(B:Nat) (v:List Nd),A+1<=B+(F.length-a)/\KK v ((3,(a:Int),(i:Int),u,())::p++x)/\L'.length+v.length<=16*(F.length+s)+111/\
    (bif ji G (ln G (F.length+s)) d then jX (dA q') A G ((ln G (F.length+s):Nat):Int) u' d (L'++(3,((a+s:Nat):Int),((i+s:Nat):Int),u',())::D)
     else some (.inl ((),((),()),((G,((ln G (F.length+s):Nat):Int),u',d,()),L'++(3,((a+s:Nat):Int),((i+s:Nat):Int),u',())::D,()))))=
    bif ji G (ln G (F.length+s)) d then jX (dA q') B G ((ln G (F.length+s):Nat):Int) u' d (L'++v)
     else some (.inl ((),((),()),((G,((ln G (F.length+s):Nat):Int),u',d,()),L'++v,()))):=fun hz=>by
   subst hz;exact⟨A,(3,((a+s:Nat):Int),((i+s:Nat):Int),u',())::D,by omega,by rw[aG];exact g2.cons,by rw[az];omega,rfl⟩
  have nil: ∀{b:Nat},(some (.inl ((),(((),()):Unit×Unit),((F,(b:Int),u,d,()),L++(3,(a:Int),(i:Int),u,())::p,()))):Option (_⊕Vh.den))=some (.inl ((),((),()),((F,(F.length:Int),u,d,()),L++((3,(a:Int),(i:Int),u,())::p++x),())))->b=F.length/\x=[]:=fun ee=>by
   obtain⟨z1,O⟩:=oJ ee;exact⟨z1,by have:=congrArg List.length O;rw[ae]at this;exact List.length_eq_zero_iff.1 (by omega)⟩
  cases j:(dW F i [59,38]||dW F i [110])with
  |true=>
   have ai:i<F.length:=by
    rw[bi]at j;rcases j with j|j<;>exact eQ j
   rw[h.n1 ai,j,aa];rw[j,aa]at e;rcases ak (ln F (tk F i [59,38])) F.length with y|y
   .rw[h.lns Y.1 y,h.pip Z (.inl y)];cases hp:ji F (ln F (tk F i [59,38])) d with
    |false=>
     rw[hp,ac]at e;obtain⟨z,_⟩:=nil e;omega
    |true=>
     rw[hp,aa]at e;obtain⟨B,al,y1,y2,y3,y4⟩:=Oi I J ab u u' d hd N A (ln F (tk F i [59,38])) (L++(3,(a:Int),(i:Int),u,())::p) (L'++(3,((a+s:Nat):Int),((i+s:Nat):Int),u',())::D) x (by omega) (by omega) Z (by omega) (by omega) (by omega) hp (by rw[e,ag]) V.r;rw[aa,y4];exact⟨B,((3,((a+s:Nat):Int),((i+s:Nat):Int),u',())::D)++al,by omega,(g2.cons).app y2,by rw[ae,az];omega,by rw[ag]⟩
   .have ad:ln F (tk F i [59,38])=F.length:=by omega
    rw[ad,qh,ac]at e;rw[h.lnl Y.1 ad];exact stop (nil e).2
  |false=>
   rw[j,ac]at e;obtain⟨z1,O⟩:=nil e;subst z1;have ah:=(M.at (af _)).resolve_left (by omega);rw[rO,bg,jR rO];cases K:dW G (F.length+s) [110]with
   |true=>rw[aa];exact stop O
   |false=>
    have hs:=stop O;have y:ln G (F.length+s)=F.length+s:=by rw[mY (F:=G),K];rfl
    rw[y,h.pip (af _) (.inr ah),qh,ac]at hs;rw[y,h.pip (af _) (.inr ah),qh];simp only[ac]at hs ⊢;exact hs
end
end
section
open Bool renaming and_true → aj, not_true → au, not_false → aF
open List renaming length_append → ae, append_assoc → ag, length_cons → az
open Go.RowKit
theorem ajG {F:List Lf}: ∀(n a:Nat),F.length-a<n->dW F (ln F a) [110]=false
 |0,a,h=>by omega
 |n+1,a,h=>by
  cases hb:dW F a [110]with
  |false=>
   have:ln F a=a:=by rw[mY (F:=F),hb];rfl
   rw[this,hb]
  |true=>
   have:=eQ hb;have e:ln F a=ln F (a+1):=by rw[mY (F:=F),hb];rfl
   rw[e];exact ajG n (a+1) (by omega)
section
variable {F:List Lf} (hF:yT F)
include hF
theorem ajF {n q:Nat} (i:n<=q) (u d:Int) (hd:0<=d/\d<=200): ∀(N a g:Nat) (L m:List Nd),F.length-a<N->a<=F.length->16*(F.length-a)+11<n->L.length<=16*a+111->ji F a d=true->
  jX (dA q) N F (a:Int) u d L=some (.inl ((),((),()),((F,(g:Int),u,d,()),L++m,())))->dW F g [110]=false
 |0,a,g,L,m,y,_,_,_,_,_=>by omega
 |N+1,a,g,L,m,y,A,B,V,D,e=>by
  have W:=hF.len;have l:=kN hF n;obtain⟨f,j,I,_,X,J,Y,_⟩:=l.andor a L u d q q B i i ⟨A,by omega,hd.1,hd.2⟩ D;rw[list_round hF J (by omega) I]at e;have K:tk F f [59,38]<=F.length/\f<=tk F f [59,38]:=by
   cases hx:dW F f [59,38]with
   |true=>have:=eQ hx;rw[iR hx];omega
   |false=>rw[jR hx];omega
  have p:=kQ (F:=F) K.1;have Z:=lV (F:=F) (tk F f [59,38]);have nil: ∀{b:Nat},(some (.inl ((),(((),()):Unit×Unit),((F,(b:Int),u,d,()),L++(3,(a:Int),(f:Int),u,())::j,()))):Option (_⊕Vh.den))=some (.inl ((),((),()),((F,(g:Int),u,d,()),L++m,())))->b=g:=fun M=>(oJ M).1;cases hx:(dW F f [59,38]||dW F f [110])with
  |false=>
   rw[hx,ac]at e;rw[<-nil e];exact(Bool.or_eq_false_iff.1 hx).2
  |true=>
   rw[hx,aa]at e;cases hp:ji F (ln F (tk F f [59,38])) d with
   |false=>
    rw[hp,ac]at e;rw[<-nil e];exact ajG _ _ (Nat.lt_succ_self _)
   |true=>
    rw[hp,aa]at e;obtain⟨O,x1,S,x2,v,_,_,_,f5,f6,_⟩:=uT hF l i i u d 0 hd N (ln F (tk F f [59,38])) (L++(3,(a:Int),(f:Int),u,())::j) (by omega) p (by omega) (by rw[ae,az];omega) hp;have x:=e;rw[v,ag]at x;obtain⟨U,z⟩:=oJ x;subst U;exact ajF i u d hd N (ln F (tk F f [59,38])) O (L++(3,(a:Int),(f:Int),u,())::j) S (by omega) p (by omega) (by rw[ae,az];omega) hp v
theorem abV (b:Bool) (L:List Nd): ∀(N a:Nat),F.length-a<N->a<=F.length-> ∃d,F.length-ln F a<d/\nU N b F (a:Int) 0 0 L=nU d b F ((ln F a:Nat):Int) 0 0 L
 |0,a,h,_=>by omega
 |N+1,a,h,i=>by
  have j:=hF.len;cases hb:dW F a [110]with
  |false=>
   have:ln F a=a:=by rw[mY (F:=F),hb];rfl
   rw[this];exact⟨N+1,h,rfl⟩
  |true=>
   have l:=eQ hb;have e:ln F a=ln F (a+1):=by rw[mY (F:=F),hb];rfl
   obtain⟨d,f,g⟩:=abV b L N (a+1) (by omega) (by omega);rw[e];refine⟨d,f, ?_⟩;rw[<-g,nU,GK,dn (b:=iV (a:Int) (bV F)) (fQ (by rw[cu];omega)),iF hF a L 0 0 (by omega) [110] rfl,bT,hb,iR hb];rfl
theorem Vl {b:Bool} {L:List Nd} {N:Nat}:nU (N+1) b F ((F.length:Nat):Int) 0 0 L=some (.inl ((),((),()),((F,((F.length:Nat):Int),0,0,()),L,()))):=by
 have _:=hF;rw[nU,GK,dY (b:=iV ((F.length:Nat):Int) (bV F)) (iL (by rw[cu];omega))]
theorem Ya {L m:List Nd} {N a d:Nat} (q:a<F.length) (hl:L.length<10000000) (f:dW F a [110]=false) (hp:ji F a 0=true)
  (e:jX (dA (bY-1)) bY F (a:Int) (bV L) 0 (bZ L [opn 2 a 0])=some (.inl ((),((),()),((F,(d:Int),bV L,0,()),bZ L [opn 2 a 0]++m,())))):
  nU (N+1) false F (a:Int) 0 0 L=nU N true F (d:Int) 0 0 (L++(2,(a:Int),(d:Int),0,())::m):=by
 have u:=hF.len;obtain⟨n1,_,_⟩:=iJ L (opn 2 a 0) (by omega);obtain⟨i,j⟩:=jC L m (opn 2 a 0);have g:bY=(bY-1)+1:=by have:=di (n:=0) (by omega);omega
 have l:aro F (a:Int) (bZ L [opn 2 a 0]) (bV L) 0=some (PR F d (bZ L [opn 2 a 0]++m) (bV L) 0,()):=by
  rw[aro];generalize p:bY=k at g e ⊢;rw[g];show Zm (dA (k-1)) F (a:Int) (bZ L [opn 2 a 0]) (bV L) 0=_;rw[Zm,p,e,bT];rfl
 rw[nU,GK,dn (b:=iV (a:Int) (bV F)) (fQ (by rw[cu];omega)),iF hF a L 0 0 (by omega) [110] rfl,bT,f,jR f];simp only[ac,aF,aa];rw[jO hF a L 0 0 (by omega),bT,hp];simp only[eU,aj,aa,n1];rw[l,bT];simp only[i,j,aa,iI]
theorem aeW {b:Bool} {L:List Nd} {N a:Nat} (e:a<F.length) (hl:L.length<10000000) (d:dW F a [110]=false) (hp:b=true\/ji F a 0=false):
  nU (N+1) b F (a:Int) 0 0 L=nU N false F ((a+1:Nat):Int) 0 0 (L++[(17,(a:Int),((a+1:Nat):Int),0,())]):=by
 have f:=hF.len;rw[nU,GK,dn (b:=iV (a:Int) (bV F)) (fQ (by rw[cu];omega)),iF hF a L 0 0 (by omega) [110] rfl,bT,d,jR d];simp only[ac];cases b with
 |true=>
  simp only[au,ac];rw[qG a L 0 0 17 (by omega) (by omega),bT]
 |false=>
  rcases hp with hp|hp
  .cases hp
  simp only[aF,aa];rw[jO hF a L 0 0 (by omega),bT,hp];simp only[ac];rw[qG a L 0 0 17 (by omega) (by omega),bT]
end
end
section
open List renaming length_append → ae, append_assoc → ag, length_cons → az, length_singleton → aA, append_nil → aG, length_nil → aY
open Nat renaming le_refl → af, lt_or_ge → ak, add_zero → aW
open Go.RowKit
abbrev qi:List Nd:=[(1,0,0,-1,())]
def ShF (F:List Lf):Prop:=ln F 0=F.length\/(ji F (ln F 0) 0=true/\ ∃m,jX (dA (bY-1)) bY F ((ln F 0:Nat):Int) 1 0 (bZ qi [opn 2 (ln F 0) 0])=some (.inl ((),((),()),((F,(F.length:Int),1,0,()),bZ qi [opn 2 (ln F 0) 0]++m,())))/\wo m)
section
variable {F:List Lf} (hF:yT F)
include hF
theorem ahY {m:List Nd} (e:nU bY false F ((0:Nat):Int) 0 0 qi=some (.inl ((),((),()),((F,((F.length:Nat):Int),0,0,()),qi++m,())))) (l:wo m):ShF F:=by
 have K:=hF.len;obtain⟨p,M,D⟩:=abV hF false qi bY 0 (di) (by omega);have q:=kQ (F:=F) (a:=0) (by omega);have u:=ajG (F:=F) _ 0 (Nat.lt_succ_self _);rw[D]at e;rcases ak (ln F 0) F.length with v|O
 .refine .inr ?_;obtain⟨f,rfl⟩: ∃f,p=f+1:=⟨p-1,by omega⟩;have err: ∀{d:List Nd} {a:Nat} {x:Int×Int×Int×Unit} {N:Nat},F.length-a<N->a<=F.length->d.length+1<=16*a->nU N false F ((a:Nat):Int) 0 0 (qi++(d++[(17,x)]))=some (.inl ((),((),()),((F,((F.length:Nat):Int),0,0,()),qi++m,())))->False:=fun {d a x N} k1 k2 k3 y=>by
   obtain⟨S,g1,_⟩:=DK hF 0 N a (qi++(d++[(17,x)])) false 0 k1 k2 (by simp only[ae,aA];omega) rfl;rw[g1,ag,ag]at y;obtain⟨_,z⟩:=oJ y;subst z;exact(l (17,x) (by simp)).1 rfl
  cases hp:ji F (ln F 0) 0 with
  |false=>
   exfalso;rw[aeW hF v (by simp) u (.inr hp)]at e;exact err (d:=[]) (by omega) (by omega) (by rw[aY];omega) e
  |true=>
   refine⟨rfl, ?_⟩;have g:16*10000+100<=bY-1:=by have:=di (n:=16*10000+200) (by omega);omega
   obtain⟨i,U,A,V,j,_,_,_,W,X,_⟩:=uT hF (kN hF (16*10000+100)) g g 1 0 0 ⟨by omega,by omega⟩ bY (ln F 0) (bZ qi [opn 2 (ln F 0) 0]) (di) q (by omega) (by unfold bZ;simp) hp;have I:=ajF hF g 1 0 ⟨by omega,by omega⟩ bY (ln F 0) i (bZ qi [opn 2 (ln F 0) 0]) A (di) q (by omega) (by unfold bZ;simp) hp j;rw[Ya hF (L:=qi) v (by simp) u hp j]at e;obtain⟨B,rfl⟩: ∃B,f=B+1:=⟨f-1,by omega⟩;rcases ak i F.length with J|Y
   .exfalso;rw[aeW hF J (by simp only[ae,az,aY];omega) I (.inl rfl),ag]at e;exact err (by omega) (by omega) (by rw[az];omega) e
   .have:i=F.length:=by omega
    subst this;rw[Vl hF]at e;obtain⟨_,z⟩:=oJ e;subst z;exact⟨A,j,l.t⟩
 .exact .inl (by omega)
theorem ayT (p:ShF F): ∃m,nU bY false F ((0:Nat):Int) 0 0 qi=some (.inl ((),((),()),((F,((F.length:Nat):Int),0,0,()),qi++m,())))/\wo m:=by
 have y:=hF.len;obtain⟨j,z,q⟩:=abV hF false qi bY 0 (di) (by omega);have A:=kQ (F:=F) (a:=0) (by omega);have u:=ajG (F:=F) _ 0 (Nat.lt_succ_self _);rw[q];obtain⟨f,rfl⟩: ∃f,j=f+1:=⟨j-1,by omega⟩;rcases p with v|⟨g,m,e,x⟩
 .rw[v,Vl hF];exact⟨[],by rw[aG],fun n d=>by cases d⟩
 .have i:ln F 0<F.length:=by
   rcases ak (ln F 0) F.length with i|B
   .exact i
   .have:ln F 0=F.length:=by omega
    rw[this,qh]at g;cases g
  rw[Ya hF (L:=qi) i (by simp) u g e];obtain⟨l,rfl⟩: ∃l,f=l+1:=⟨f-1,by omega⟩;rw[Vl hF];refine⟨_,rfl,fun n d=> ?_⟩;rcases List.mem_cons.1 d with rfl|d
  .exact⟨by simp,by simp⟩
  .exact x n d
end
theorem alv {E:Prop} {e0:Nat} {F d G:List Lf} (hK:E\/K2 F (F.length-1)) (q:Cf E F G 0) (u:Cf True d G (F.length+e0)) (D:G.length=d.length+(F.length+e0)) (i:e0=0\/e0=1/\dW G F.length [110]=true) (h1:ShF F) (h2:ShF d):ShF G:=by
 have ai:=q.f.len;have aj:=u.f.len;have al:=q.g.len;have V:=kQ (F:=F) (a:=0) (by omega);have S:=kQ (F:=d) (a:=0) (by omega);have I:16*10000+100<=bY-1:=by have:=di (n:=16*10000+200) (by omega);omega
 have ab:ln G G.length=G.length:=by
  have:=lV (F:=G) G.length;have:=kQ (F:=G) (a:=G.length) (af _);omega
 have W:ln G (d.length+(F.length+e0))=G.length:=by rw[<-D,ab]
 have X:ln G F.length=ln d 0+(F.length+e0):=by
  have h0:ln G F.length=ln G (F.length+e0):=by
   rcases i with i|⟨i,ad⟩
   .rw[i];rfl
   .rw[i,mY (F:=G),ad,am rfl]
  rw[h0];rcases ak (ln d 0) d.length with J|J
  .have:=u.lns (p:=0) (by omega) J;rwa [Nat.zero_add]at this
  .have v:ln d 0=d.length:=by omega
   have:=u.lnl (p:=0) (by omega) v;rw[Nat.zero_add]at this;rw[this,W,D,v]
 have K: ∀(a:Nat),(bZ qi [opn 2 a 0]).length=2:=fun a=>rfl;have Y: ∀(L:Nat) (A:List Nd) (M:Int),ji d (ln d 0) 0=true->d.length<L->A.length<=16*F.length+111->(∃m,jX (dA (bY-1)) bY d ((ln d 0:Nat):Int) 1 0 (bZ qi [opn 2 (ln d 0) 0])=some (.inl ((),((),()),((d,(d.length:Int),1,0,()),bZ qi [opn 2 (ln d 0) 0]++m,())))/\wo m)->
   ∃j,jX (dA (bY-1)) L G ((ln d 0+(F.length+e0):Nat):Int) M 0 A=some (.inl ((),((),()),((G,(G.length:Int),M,0,()),A++j,())))/\wo j:=fun L A M x hN hL ⟨m,e,y⟩=>by
  obtain⟨Z,j,y1,N,y3,l⟩:=Oi u (.inl trivial) I I 1 M 0 ⟨by omega,by omega⟩ bY L (ln d 0) (bZ qi [opn 2 (ln d 0) 0]) A m (di) (by omega) S (by omega) (by rw[K];omega) (by omega) x e y;rw[W,qh,ac]at l;exact⟨j,l,N.cln y⟩
 rcases h1 with J|⟨x,m,e,y⟩
 .have z:ln G 0=ln d 0+(F.length+e0):=by
   have:=q.lnl (p:=0) (by omega) J;rw[aW,aW]at this;rw[this,X]
  rcases h2 with v|⟨B,U⟩
  .exact .inl (by rw[z,v,D])
  .refine .inr ⟨by rw[z,u.pip S (.inr trivial)];exact B, ?_⟩;rw[z];exact Y bY _ 1 B (di) (by rw[K];omega) U
 .have O:ln F 0<F.length:=by
   rcases ak (ln F 0) F.length with O|an
   .exact O
   .have:ln F 0=F.length:=by omega
    rw[this,qh]at x;cases x
  have z:ln G 0=ln F 0:=q.lns (p:=0) (by omega) O;have ah:ji G (ln F 0) 0=true:=by
   have:=q.pip (p:=ln F 0) V (.inl O) 0;rw[aW]at this;rw[this];exact x
  refine .inr ⟨by rw[z];exact ah, ?_⟩;rw[z];obtain⟨Z,j,y1,N,y3,l⟩:=Oi q hK I I 1 1 0 ⟨by omega,by omega⟩ bY bY (ln F 0) (bZ qi [opn 2 (ln F 0) 0]) (bZ qi [opn 2 (ln F 0) 0]) m (di) (di) V (by omega) (by rw[K];omega) (by rw[K];omega) x e y;rw[aW,aW,X]at l;rcases h2 with v|⟨B,U⟩
  .rw[v,<-D,qh,ac]at l;exact⟨j,l,N.cln y⟩
  .rw[u.pip S (.inr trivial),B,aa]at l;have ao:=di (n:=30000) (by omega);obtain⟨m2,z1,z2⟩:=Y Z (bZ qi [opn 2 (ln F 0) 0]++j) 1 B (by omega) (by rw[ae];omega) U;refine⟨j++m2,by rw[l,z1,ag],fun n i=> ?_⟩;rcases List.mem_append.1 i with i|i
   .exact N.cln y n i
   .exact z2 n i
end
end Go.Proofs.YtjegbhogodknhaaGreatDoor
