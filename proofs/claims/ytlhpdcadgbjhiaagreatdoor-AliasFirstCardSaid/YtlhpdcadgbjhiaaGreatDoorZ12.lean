/- Parts of the proof, joined and shortened by a program: the plain machine, the functions as it prints them, and the mathematics over them. -/
import Derived.Test.YtlhpdcadgbjhiaaGreatDoorZ3
import Derived.Test.YtlhpdcadgbjhiaaGreatDoorZ4
import Derived.Test.YtlhpdcadgbjhiaaGreatDoorZ5
import Derived.Test.YtlhpdcadgbjhiaaGreatDoorZ6
import Derived.Test.YtlhpdcadgbjhiaaGreatDoorZ7
import Derived.Test.YtlhpdcadgbjhiaaGreatDoorZ8
import Derived.Test.YtlhpdcadgbjhiaaGreatDoorZ9
import Derived.Test.YtlhpdcadgbjhiaaGreatDoorZ10
import Derived.Test.YtlhpdcadgbjhiaaGreatDoorZ11
set_option linter.unusedVariables false
set_option linter.unusedSimpArgs false
set_option maxRecDepth 100000
set_option maxHeartbeats 4000000
namespace Go.Proofs.YtlhpdcadgbjhiaaGreatDoor
section
open Option renaming some → a6, none → a7
open Bool renaming and_eq_true → af, false_eq_true → ag, not_true → ax, and_true → ay, not_false → az, not_eq_true' → aY
open Int renaming toNat_natCast → aV
open List renaming append_assoc → ai, mem_cons_of_mem → ak, map_cons → au, drop_eq_getElem_cons → aA, mem_cons_self → aB, nil_append → aF, length_cons → aG, cons_append → aH, length_drop → aP, getElem_mem → aX, mem_append_right → bn, takeWhile_cons → bz, mem_append_left → bF
open Nat renaming le_refl → ae
open Go.RowKit
theorem awx (x:List UInt8) (a b:Int):Ir (6,(x,(a,(b,()))))=Ir (6,(x,(0,(0,())))):=by
 unfold Ir;simp only[show bV 6 2=false from rfl,show bV 6 5=false from rfl,show bV 6 4=false from rfl,ac]
def TW (c:UInt8):Bool:= !wo (gy c)&& !decide (gy c=92)&& !decide (gy c=36)&& !decide (gy c=96)&& !decide (gy c=34)&& !decide (gy c=125)&& !decide (gy c=39)&& !decide (gy c=40)&& !decide (gy c=41)&& !decide (gy c=35)&& !decide (gy c=123)
theorem PH {s:fE} {b:Int} (h:wo b=false):oq s b=false:=by unfold oq;rw[h];rfl
theorem JA: ∀(l m:List UInt8) (a:Int) (x:fE×Bool),lX l a x=l.length->lX (l++m) a x=l.length+lX m (a+l.length) (jk l a x)
 |[],m,a,x,_=>by simp[jk]
 |b::l,m,a,x,h=>by
  rw[lX]at h;split at h
  .simp at h
  .rename_i d
   have e:=JA l m (a+1) (fB x.1 x.2 (gy b) a) (by simpa using h);rw[aH,lX,aq d,e,jk,aG,show a+((l.length+1:Nat):Int)=a+1+(l.length:Int) by omega];omega
theorem Wl {s:List UInt8} {a:Nat} {c:UInt8} {t:List UInt8} (h:s.drop a=c::t):bY s (a:Int)=gy c/\a<s.length:=by
 have hl:a<s.length:=by
  have:=congrArg List.length h;simp at this;omega
 rw[aA hl]at h;injection h with h1 h2
 rw[byte_at hl,h1];exact⟨rfl,hl⟩
def aoE (s:List UInt8):Nat->Nat->List Tok->List Tok
 |0,_,l=>l
 |n+1,a,l=>if a<s.length then aoE s n (jP s a (0,[],false,())).1.2.2.1.toNat (l++[(jP s a (0,[],false,())).1])else l
inductive Df:List UInt8->List UInt8->Prop
 |nil:Df [] []
 |plain {c:UInt8} {w x:List UInt8} (h:TW c=true/\c≠61) (h2:Df w x):Df (c::w) (c::x)
 |esc {c:UInt8} {w x:List UInt8} (h:c≠10) (h2:Df w x):Df (92::c::w) (c::x)
 |sng {u w x:List UInt8} (h: ∀c∈u,c≠39) (h2:Df w x):Df (39::(u++39::w)) (u++x)
 |dbl {u w x:List UInt8} (h2:Df w x):Df (34::(Bh u++34::w)) (u++x)
theorem awm: ∀n:Fin 256,Dq (UInt8.ofNat n.val)=true->TW (UInt8.ofNat n.val)=true/\n.val≠61:=by decide+kernel
theorem amm {c:UInt8} (h:Dq c=true):TW c=true/\c≠61:=by
 have:=awm ⟨c.toNat,c.toNat_lt⟩;simp only[UInt8.ofNat_toNat]at this;exact⟨(this h).1,fun e=>(this h).2 (by rw[e];rfl)⟩
theorem aly (b:Bool) (c:UInt8) {w x:List UInt8} (h:Df w x):Df (pl1 b c++w) (c::x):=by
 unfold pl1;split
 .rename_i e
  subst e;exact Df.sng (u:=[10]) (by simp) h
 .rename_i e
  split
  .exact Df.esc e h
  .rename_i d
   exact Df.plain (amm (by simpa using fun h=>d (.inl h))) h
theorem ae9: ∀s:List UInt8,Df (G5 s) s
 |[]=>.nil
 |c::r=>by rw[AY];exact aly false c (ae9 r)
theorem Xt (s:List UInt8):Df (nJ s) s:=by
 cases s with
 |nil=>exact Df.sng (u:=[]) (by simp) .nil
 |cons c r=>exact aly _ c (ae9 r)
theorem abT: ∀(s u:List UInt8),(∀c∈u,c≠39)->Df (39::(u++(VR s++[39]))) (u++s)
 |[],u,h=>Df.sng h .nil
 |c::s,u,h=>by
  by_cases e:c=39
  .subst e;have f:Df (39::(u++39::(92::39::(39::([]++(VR s++[39])))))) (u++(39::([]++s))):=Df.sng h (.esc (by decide) (abT s [] (by simp)));simpa [VR,aBr] using f
  .have g:=abT s (u++[c]) (by
    intro d hd;rcases List.mem_append.1 hd with hd|hd
    .exact h d hd
    .rw[List.mem_singleton.1 hd];exact e)
   simpa [VR,aBr,e] using g
theorem Uu (s:List UInt8) (k:Nat):Df (pJ s k) s:=by
 unfold pJ;split
 .simpa using abT s [] (by simp)
 .split
  .simpa using Df.dbl (u:=s) .nil
  .exact Xt s
theorem ao3 (s:List UInt8):Df (uq s) s:=by
 unfold uq;simp only;split
 .split
  .exact Uu s 5
  .exact Uu s 4
 .split
  .exact Uu s 5
  .exact Xt s
theorem lF {c n:UInt8} (h:c≠n):gy c≠gy n:=fun e=>h (UInt8.toNat_inj.1 (by unfold gy at e;omega))
def aoH (f:Int×Int):Prop:=f.1=0\/f.1=1
theorem aCM {f:Int×Int} {r:fE} (hf:aoH f) (fr:Bool) {c:UInt8} (h:TW c=true) (a:Int):fB (f::r) fr (gy c) a=(f::r,false):=by
 simp only[TW,af,aY,decide_eq_false_iff_not]at h;unfold fB iH Ah;rcases hf with e|e<;>simp[e,h]
theorem acA {f:Int×Int} {r:fE} (hf:aoH f\/f.1=5) (fr:Bool) (a:Int):fB (f::r) fr (gy 92) a=((13,a)::f::r,fr):=by
 unfold fB iH Ah yF;rcases hf with (e|e)|e<;>simp[e,gy]
theorem amx (r:fE) (p:Int) (fr:Bool) (b a:Int) (hb:b≠10):fB ((13,p)::r) fr b a=(r,false):=by
 unfold fB iH;simp[hb]
theorem awJ {f:Int×Int} {r:fE} (hf:aoH f) (fr:Bool) (a:Int):fB (f::r) fr (gy 39) a=((4,a)::f::r,false):=by
 unfold fB iH Ah;rcases hf with e|e<;>simp[e,gy]
theorem awG {f:Int×Int} {r:fE} (hf:aoH f) (fr:Bool) (a:Int):fB (f::r) fr (gy 34) a=((5,a)::f::r,false):=by
 unfold fB iH Ah;rcases hf with e|e<;>simp[e,gy]
theorem awH (r:fE) (p:Int) (fr:Bool) {c:UInt8} (h:c≠39) (a:Int):fB ((4,p)::r) fr (gy c) a=((4,p)::r,fr):=by
 have:=lF h;unfold fB iH;simp[show gy c≠39 from this]
theorem amy (r:fE) (p:Int) (fr:Bool) (a:Int):fB ((4,p)::r) fr (gy 39) a=(r,fr):=by
 unfold fB iH;simp[gy]
theorem amz (r:fE) (p:Int) (fr:Bool) (a:Int):fB ((5,p)::r) fr (gy 34) a=(r,fr):=by
 unfold fB iH yF;simp[gy]
def agk (c:UInt8):Prop:=c=36\/c=96\/c=34\/c=92
theorem ai4 {c:UInt8} (h:agk c):db1 c=[92,c]:=by
 rcases h with e|e|e|e<;>subst e<;>rfl
theorem arA {c:UInt8} (h: ¬agk c):db1 c=[c]:=by
 unfold agk at h;have d:= @lF c 36 (by grind);have e:= @lF c 96 (by grind);have f:= @lF c 34 (by grind);have g:= @lF c 92 (by grind);unfold db1;rw[aq];rw[show bV (c.toNat:Int) 36=false from dZ d,show bV (c.toNat:Int) 96=false from dZ e,show bV (c.toNat:Int) 34=false from dZ f,show bV (c.toNat:Int) 92=false from dZ g];simp
theorem awI (r:fE) (p:Int) (fr:Bool) {c:UInt8} (h: ¬agk c) (a:Int):fB ((5,p)::r) fr (gy c) a=((5,p)::r,fr):=by
 unfold agk at h;have d:= @lF c 36 (by grind);have e:= @lF c 96 (by grind);have f:= @lF c 34 (by grind);have g:= @lF c 92 (by grind);unfold fB iH yF;simp[show gy c≠36 from d,show gy c≠96 from e,show gy c≠34 from f,show gy c≠92 from g]
theorem Wp (c:UInt8) (s:List UInt8):Bh (c::s)=db1 c++Bh s:=rfl
theorem ab1 (r:fE) (p:Int): ∀(u:List UInt8) (a:Int) (fr:Bool),(∀c∈u,c≠39)->jk u a ((4,p)::r,fr)=((4,p)::r,fr)
 |[],_,_,_=>rfl
 |c::u,a,fr,h=>by
  rw[jk,awH r p fr (h c (aB ..))];exact ab1 r p u _ fr fun x d=>h x (ak _ d)
theorem Qo (r:fE) (p:Int): ∀(u:List UInt8) (a:Int) (fr:Bool),(jk (Bh u) a ((5,p)::r,fr)).1=(5,p)::r/\((jk (Bh u) a ((5,p)::r,fr)).2=fr\/(jk (Bh u) a ((5,p)::r,fr)).2=false)
 |[],_,_=>⟨rfl,.inl rfl⟩
 |c::u,a,fr=>by
  rw[Wp];by_cases h:agk c
  .have d:gy c≠10:=by rcases h with e|e|e|e<;>subst e<;>decide
   rw[ai4 h,aH,aH,aF,jk,acA (.inr rfl),jk,amx _ _ _ _ _ d];have:=Qo r p u (a+1+1) false;exact⟨this.1,.inr (by rcases this.2 with h|h<;>exact h)⟩
  .rw[arA h,aH,aF,jk,awI r p fr h];exact Qo r p u (a+1) fr
theorem alz {w x:List UInt8} (h:Df w x) {f:Int×Int} {r:fE} (hf:aoH f): ∀(a:Int) (fr:Bool),jk w a (f::r,fr)=(f::r,if w=[]then fr else false):=by
 induction h with
 |nil=>intro a fr;rfl
 | @plain c w x h h2 d=>
  intro a fr;rw[jk,aCM hf fr h.1,d,ite_self,aq (by simp)]
 | @esc c w x h h2 d=>
  intro a fr;rw[jk,acA (.inl hf),jk,amx _ _ _ _ _ (lF h),d,ite_self,aq (by simp)]
 | @sng u w x h h2 d=>
  intro a fr;rw[jk,awJ hf,KQ,ab1 _ _ _ _ _ h,jk,amy,d,ite_self,aq (by simp)]
 | @dbl u w x h2 d=>
  intro a fr;obtain⟨e,g⟩:=Qo (f::r) a u (a+1) false;rw[jk,awG hf,KQ,show jk (Bh u) (a+1) ((5,a)::f::r,false)=((5,a)::f::r,false) from Prod.ext e (by rcases g with h|h<;>exact h),jk,amz,d,ite_self,aq (by simp)]
theorem wu {f g:Int×Int} (h:f.1≠12) (r:fE) (b:Int):oq (f::g::r) b=false:=by
 unfold oq;cases r with
 |nil=>simp[h]
 |cons x r=>simp
theorem ai7 (g:Int×Int) (r:fE) (p:Int): ∀(u:List UInt8) (a:Int) (fr:Bool),(∀c∈u,c≠39)->lX u a ((4,p)::g::r,fr)=u.length
 |[],_,_,_=>rfl
 |c::u,a,fr,h=>by
  rw[lX,wu (by simp),awH _ p fr (h c (aB ..)),ai7 g r p u _ fr fun x d=>h x (ak _ d)];simp
theorem Yy (g:Int×Int) (r:fE) (p:Int): ∀(u:List UInt8) (a:Int) (fr:Bool),lX (Bh u) a ((5,p)::g::r,fr)=(Bh u).length
 |[],_,_=>rfl
 |c::u,a,fr=>by
  rw[Wp];by_cases h:agk c
  .have d:gy c≠10:=by rcases h with e|e|e|e<;>subst e<;>decide
   rw[ai4 h,aH,aH,aF,lX,wu (by simp),acA (.inr rfl),lX,wu (by simp),amx _ _ _ _ _ d,Yy g r p u];simp
  .rw[arA h,aH,aF,lX,wu (by simp),awI _ p fr h,Yy g r p u];simp
theorem aAu {c:UInt8} (h:TW c=true):wo (gy c)=false:=by
 simp only[TW,af,aY]at h;exact h.1.1.1.1.1.1.1.1.1.1
theorem aBj {w x:List UInt8} (h:Df w x) {f:Int×Int} {r:fE} (hf:aoH f): ∀(a:Int) (fr:Bool),lX w a (f::r,fr)=w.length:=by
 induction h with
 |nil=>intro a fr;rfl
 | @plain c w x h h2 d=>
  intro a fr;rw[lX,PH (aAu h.1),aCM hf fr h.1,d];simp
 | @esc c w x h h2 d=>
  intro a fr;rw[lX,PH (by decide),acA (.inl hf),lX,wu (by simp),amx _ _ _ _ _ (lF h),d];simp
 | @sng u w x h h2 d=>
  intro a fr;rw[lX,PH (by decide),awJ hf,JA _ _ _ _ (ai7 f r a u _ _ h),ab1 _ _ _ _ _ h,lX,wu (by simp),amy,d];simp
 | @dbl u w x h2 d=>
  intro a fr;obtain⟨e,g⟩:=Qo (f::r) a u (a+1) false;rw[lX,PH (by decide),awG hf,JA _ _ _ _ (Yy f r a u _ _),show jk (Bh u) (a+1) ((5,a)::f::r,false)=((5,a)::f::r,false) from Prod.ext e (by rcases g with h|h<;>exact h),lX,wu (by simp),amz,d];simp
theorem Jw {s l m:List UInt8} {a:Nat} (h:s.drop a=l++m):s.drop (a+l.length)=m:=by
 rw[<-List.drop_drop,h,List.drop_left]
theorem arC {s l:List UInt8} {a:Nat} (h:s.drop a=l):l=[]\/a+l.length=s.length:=by
 have:=congrArg List.length h;rw[aP]at this;cases l with
 |nil=>exact .inl rfl
 |cons c l=>simp at this ⊢;omega
theorem U1 {s l m:List UInt8} {a:Nat} (h:s.drop a=l++m):sub s (a:Int) ((a+l.length:Nat):Int)=l:=by
 rw[vT,h,List.take_left]
structure Ws (F:List Lf):Prop where
 ok:OkF F
 pos:0<F.length
 len:F.length<=100
 wd: ∀(a:Nat) (h:a<F.length),F[a].1=6/\sgn F[a]=120
 asg: ∀h:0<F.length,asg F[0].2.1=false
def Jc (u:Int):Nat->Nat->List Nd
 |_,0=>[]
 |a,k+1=>(7,(a:Int),((a+1:Nat):Int),u,())::Jc u (a+1) k
section
variable {F:List Lf} (h:Ws F)
include h
theorem Ws.sg {a:Nat} (d:a<F.length):ND F a=120:=by rw[ab4 d];exact(h.wd a d).2
theorem Ws.nx (a:Nat) {o:List UInt8} (d:o.contains 120=false):gK F a o=false:=by
 unfold gK;by_cases ha:a<F.length
 .rw[h.sg ha,d,Bool.and_false]
 .rw[decide_eq_false ha,Bool.false_and]
theorem Ws.x (a:Nat) (d:a<F.length):gK F a [120]=true:=by
 unfold gK;rw[decide_eq_true d,h.sg d];rfl
theorem Ws.red (a:Nat):IV F a=false:=by
 unfold IV;rw[h.nx a (by decide),h.nx a (by decide)];rfl
theorem Ws.cmp (a:Nat) (d:Int):LM F a d=false:=by
 unfold LM;rw[h.nx a (by decide),Bool.and_false]
theorem Ws.cmd (d:Int):ada F 0 d=true:=by
 unfold ada;rw[h.x 0 h.pos,Bool.true_or]
theorem Ws.pip (d:Int):xm F 0 d=true:=by
 unfold xm;rw[h.cmd,Bool.or_true]
theorem Ws.fn (d:Int):fnB F 0 d=false:=by
 unfold fnB;have:ND F (0+1)≠40:=by
  by_cases ha:0+1<F.length
  .rw[h.sg ha];decide
  .rw[Gi];decide
 rw[decide_eq_false this,Bool.false_and,Bool.and_false]
theorem Ws.isW (a:Nat):isW F a=decide (a<F.length):=by
 unfold Go.Proofs.YtlhpdcadgbjhiaaGreatDoor.isW;by_cases ha:a<F.length
 .rw[dif_pos ha,decide_eq_true (h.wd a ha).1,decide_eq_true ha]
 .rw[dif_neg ha,decide_eq_false ha]
theorem UK (u d:Int): ∀(k N a:Nat) (L:List Nd) (e:Bool),a+k=F.length->k<N->(e=false->a=0)->L.length<=1000+a->
  rM N e F (a:Int) u d L=a6 (.inl ((),((),()),((F,((F.length:Nat):Int),u,d,()),L++Jc u a k,())))
 |_,0,_,_,_,_,i,_,_=>by omega
 |0,N+1,a,L,e,o,i,j,p=>by
  have hl:=h.len;rw[rM,Gt,EE h.ok a L u d (by omega) (h.red a),bI];simp only[ac];rw[JR a L u d,bI];simp only;rw[h.isW,decide_eq_false (by omega)];simp[Jc,show a=F.length by omega]
 |k+1,N+1,a,L,e,o,i,j,p=>by
  have hl:=h.len;have f:a<F.length:=by omega
  have q:fV F (a:Int)=true:=eu;have v:=h.ok.txt _ (aX f);have g:=UK u d k N (a+1) (L++[(7,(a:Int),((a+1:Nat):Int),u,())]) true (by omega) (by omega) (by simp) (by simp;omega);rw[ai]at g;rw[rM,Gt,EE h.ok a L u d (by omega) (h.red a),bI];simp only[ac];rw[JR a L u d,bI];simp only;rw[h.isW,decide_eq_true f];simp only[ax,ac,q,aa,Tv f];have l:=Zi (F:=F) a L u d 7 (by omega) (by omega);cases e with
  |true=>
   simp only[ax,ac];rw[l,bI];exact g
  |false=>
   have s:=j rfl;subst s;simp only[az,aa];rw[V8 (by omega),bI,h.asg f];simp only[ac];rw[l,bI];exact g
theorem am9 (l:List Nd) (hl:l.length<=100) (u:Int) (q:Nat):
  (ik (q+1)).q177 F 0 l u 0=a6 (PR F F.length (l++(5,0,(F.length:Int),u,())::Jc (bM l) 0 F.length) u 0,()):=by
 have d:(0:Nat)<10000000:=by omega
 have j:=h.len;have o:(bT l [((5,0,0,u,()):Nd)]).length=l.length+1:=by unfold bT;simp
 have s:=UK h (bM l) 0 F.length bQ 0 (bT l [((5,0,0,u,()):Nd)]) false (by omega) (dX) (fun _=>rfl) (by omega);have e:adI F 0 (bT l [((5,0,0,u,()):Nd)]) (bM l) 0=a6 (PR F F.length (bT l [((5,0,0,u,()):Nd)]++Jc (bM l) 0 F.length) (bM l) 0,()):=by
  rw[adI,show rM bQ false F 0 (bM l) 0 (bT l [((5,0,0,u,()):Nd)])=_ from s,bI];rfl
 obtain⟨f,_,_⟩:=uN l ((5,0,0,u,()):Nd) (by omega);obtain⟨g,i⟩:=Ec l (Jc (bM l) 0 F.length) ((5,0,0,u,()):Nd);show as2 (ik q) F ((0:Nat):Int) l u 0=_;rw[as2,DF h.ok 0 l u 0 d,bI];simp only;rw[h.cmp];simp only[ac];rw[ag7 h.ok 0 l u 0 (by omega),bI];simp only;rw[h.fn];simp only[ac];rw[RG h.ok 0 l u 0 d,bI];simp only;rw[h.cmd];have p:dY (bT l [(5,(0:Int),0,u,())]) 32=true:=f;have v:fV (bT l [(5,(0:Int),0,u,())]++Jc (bM l) 0 F.length) (bM l)=true:=g;have x:mi (dD (bM l)) (bT l [(5,(0:Int),0,u,())]++Jc (bM l) 0 F.length)=true:=i;have y:adI F 0 (bT l [(5,(0:Int),0,u,())]) (bM l) 0=a6 (PR F F.length (bT l [(5,(0:Int),0,u,())]++Jc (bM l) 0 F.length) (bM l) 0,()):=e;simp_all [fJ,bI,xC]
theorem aF6 (l:List Nd) (hl:l.length<=99) (u:Int) (q:Nat):
  (ik (q+2)).q148 F 0 l u 0=a6 (PR F F.length (l++(4,0,(F.length:Int),u,())::(5,0,(F.length:Int),bM l,())::Jc (bM l+1) 0 F.length) u 0,()):=by
 have f:(0:Nat)<10000000:=by omega
 have v:=h.len;have g:(bT l [((4,0,0,u,()):Nd)]).length=l.length+1:=by unfold bT;simp
 have i:bM (bT l [((4,0,0,u,()):Nd)])=bM l+1:=by rw[bP,bP,g];omega
 obtain⟨d,_,_⟩:=uN l ((4,0,0,u,()):Nd) (by omega);have e:=am9 h (bT l [((4,0,0,u,()):Nd)]) (by omega) (bM l) q;rw[i]at e;obtain⟨j,o⟩:=Ec l ((5,0,(F.length:Int),bM l,())::Jc (bM l+1) 0 F.length) ((4,0,0,u,()):Nd);obtain⟨k,hk⟩:=adN;have p: ∀L:List Nd,nH (ik (q+1)) bQ (bM l) u F ((F.length:Nat):Int) (bM l) 0 L=a6 (.inl ((),((bM l,u,()),(),(),()),((),(F,((F.length:Nat):Int),bM l,0,()),L,()))):=fun L=>by
  rw[hk,nH,uh,nK h.ok F.length L (bM l) 0 (by omega) [124] rfl,bI];simp only;rw[h.nx _ (by decide),EY (h.nx _ (by decide))];rfl
 show RZ (ik (q+1)) F ((0:Nat):Int) l u 0=_;rw[RZ,CJ h.ok 0 l u 0 f,bI,h.pip];simp only[ax,ac,fJ,ay,aa,d];rw[nK h.ok 0 _ _ 0 (by omega) [33] rfl,bI];simp only;rw[EY (h.nx _ (by decide)),show((0:Nat):Int)=0 from rfl,e,bI];simp only;rw[p,bI];have s:bT l [((4,0,0,u,()):Nd)]++(5,0,(F.length:Int),bM l,())::Jc (bM l+1) 0 F.length=bT l [(4,(0:Int),0,u,())]++((5,0,(F.length:Int),bM l,())::Jc (bM l+1) 0 F.length):=rfl;simp only[dW,j,o,aa];rw[s];simp only[xC];rw[d];rfl
theorem ays (l:List Nd) (hl:l.length<=90) (u:Int) (q:Nat):
  (ik (q+3)).q105 F 0 l u 0=a6 (PR F F.length (l++(4,0,(F.length:Int),u,())::(5,0,(F.length:Int),bM l,())::Jc (bM l+1) 0 F.length) u 0,()):=by
 have f:=h.len;have d:=aF6 h l (by omega) u q;obtain⟨k,hk⟩:=adN;have e: ∀L:List Nd,BK (ik (q+2)) bQ F ((F.length:Nat):Int) u 0 L=a6 (.inl ((),((),()),((F,((F.length:Nat):Int),u,0,()),L,()))):=fun L=>by
  rw[hk,BK,La,nK h.ok F.length L u 0 (by omega) [97,111] rfl,bI];simp only;rw[h.nx _ (by decide),EY (h.nx _ (by decide))];rfl
 show adn (ik (q+2)) F 0 l u 0=_;rw[adn,d,bI];simp only;rw[e,bI];rfl
theorem aEw (l:List Nd) (hl:l.length<=80) (u:Int) (q:Nat):
  (ik (q+4)).q71 F 0 l u 0=a6 (PR F F.length (l++(3,0,(F.length:Int),u,())::(4,0,(F.length:Int),bM l,())::(5,0,(F.length:Int),bM l+1,())::Jc (bM l+2) 0 F.length) u 0,()):=by
 have y:=h.len;have e:(bT l [((3,0,0,u,()):Nd)]).length=l.length+1:=by unfold bT;simp
 have f:bM (bT l [((3,0,0,u,()):Nd)])=bM l+1:=by rw[bP,bP,e];omega
 have d:=ays h (bT l [((3,0,0,u,()):Nd)]) (by omega) (bM l) q;rw[f,show bM l+1+1=bM l+2 by omega]at d;obtain⟨g,_,_⟩:=uN l ((3,0,0,u,()):Nd) (by omega);obtain⟨i,j⟩:=Ec l ((4,0,(F.length:Int),bM l,())::(5,0,(F.length:Int),bM l+1,())::Jc (bM l+2) 0 F.length) ((3,0,0,u,()):Nd);obtain⟨k,hk⟩:=adN;have o:ln F F.length=F.length:=by
  have:=OB (F:=F) F.length;have:=TB (F:=F) (a:=F.length) (ae _);omega
 have p:yM (ik (q+3)) bQ F 0 u 0 l=a6 (.inl ((),((),()),((F,((F.length:Nat):Int),u,0,()),l++(3,0,(F.length:Int),u,())::(4,0,(F.length:Int),bM l,())::(5,0,(F.length:Int),bM l+1,())::Jc (bM l+2) 0 F.length,()))):=by
  rw[hk,yM,UV];simp only[fJ,ay,aa];have s:dY (bT l [(3,(0:Int),0,u,())]) 32=true:=g;have v:(ik (q+3)).q105 F 0 (bT l [(3,(0:Int),0,u,())]) (bM l) 0=_:=d;rw[s,aa,v,bI];have x:bT l [((3,0,0,u,()):Nd)]++(4,0,(F.length:Int),bM l,())::(5,0,(F.length:Int),bM l+1,())::Jc (bM l+2) 0 F.length=bT l [(3,(0:Int),0,u,())]++((4,0,(F.length:Int),bM l,())::(5,0,(F.length:Int),bM l+1,())::Jc (bM l+2) 0 F.length):=rfl;simp only[i,j,aa];rw[x];simp only[xC];rw[nK h.ok F.length _ u 0 (by omega) [59,38] rfl,bI];simp only;rw[h.nx _ (by decide),EY (h.nx _ (by decide))];simp only[ac];rw[BI h.ok F.length _ u 0 (ae _),bI];simp only;rw[h.nx _ (by decide),o];rfl
 show as6 (ik (q+3)) F 0 l u 0=_;rw[as6,p,bI];rfl
theorem aoZ:aog F=a6 ((1,0,(F.length:Int),-1,())::(2,0,(F.length:Int),0,())::(3,0,(F.length:Int),1,())::(4,0,(F.length:Int),2,())::(5,0,(F.length:Int),3,())::Jc 4 0 F.length,()):=by
 have v:=h.len;have x:=h.pos;obtain⟨q,e⟩: ∃q,bQ=q+4:=⟨bQ-4,by have:4<bQ:=dX;omega⟩;obtain⟨k,hk⟩:=adN;have d:=aEw h (bT [(1,0,0,-1,())] [((2,0,0,0,()):Nd)]) (by decide) 1 q;rw[<-e]at d;have f:azd F 0 (bT [(1,0,0,-1,())] [((2,0,0,0,()):Nd)]) 1 0=_:=d;have y:nK h.ok 0 [(1,0,0,-1,())] 0 0 (by omega) [110] rfl=nK h.ok 0 [(1,0,0,-1,())] 0 0 (by omega) [110] rfl:=rfl;have g:MJ bQ false F 0 0 0 [(1,0,0,-1,())]=a6 (.inl ((),((),()),((F,((F.length:Nat):Int),0,0,()),(1,0,0,-1,())::(2,0,(F.length:Int),0,())::(3,0,(F.length:Int),1,())::(4,0,(F.length:Int),2,())::(5,0,(F.length:Int),3,())::Jc 4 0 F.length,()))):=by
  rw[hk,MJ,UR,cO (b:=gY 0 (bM F)) (fO (by rw[bP];omega)),show uG F 0 [(1,0,0,-1,())] 0 0 [110]=_ from nK h.ok 0 _ 0 0 (by omega) [110] rfl,bI];simp only;rw[h.nx _ (by decide),EY (h.nx _ (by decide))];simp only[ac,az,aa];rw[show Vw F ((0:Nat):Int) [(1,0,0,-1,())] 0 0=_ from CJ h.ok 0 _ 0 0 (by omega),bI];simp only;rw[h.pip];have i:dY (bT [((1:Int),((0:Int),((0:Int),((-1:Int),()))))] [((2:Int),((0:Int),((0:Int),((0:Int),()))))]) 32=true:=by kernel_rfl
  obtain⟨j,l⟩:=Ec [((1:Int),((0:Int),((0:Int),((-1:Int),()))))] ((3,0,(F.length:Int),1,())::(4,0,(F.length:Int),2,())::(5,0,(F.length:Int),3,())::Jc 4 0 F.length) ((2,0,0,0,()):Nd);have o:azd F 0 (bT [((1:Int),((0:Int),((0:Int),((-1:Int),()))))] [((2:Int),((0:Int),((0:Int),((0:Int),()))))]) (bM [((1:Int),((0:Int),((0:Int),((-1:Int),()))))]) 0=a6 (PR F F.length (bT [((1:Int),((0:Int),((0:Int),((-1:Int),()))))] [((2:Int),((0:Int),((0:Int),((0:Int),()))))]++((3,0,(F.length:Int),1,())::(4,0,(F.length:Int),2,())::(5,0,(F.length:Int),3,())::Jc 4 0 F.length)) 1 0,()):=f;have p:fV (bT [((1:Int),((0:Int),((0:Int),((-1:Int),()))))] [((2:Int),((0:Int),((0:Int),((0:Int),()))))]++((3,0,(F.length:Int),1,())::(4,0,(F.length:Int),2,())::(5,0,(F.length:Int),3,())::Jc 4 0 F.length)) (bM [((1:Int),((0:Int),((0:Int),((-1:Int),()))))])=true:=j;have s:mi (dD (bM [((1:Int),((0:Int),((0:Int),((-1:Int),()))))])) (bT [((1:Int),((0:Int),((0:Int),((-1:Int),()))))] [((2:Int),((0:Int),((0:Int),((0:Int),()))))]++((3,0,(F.length:Int),1,())::(4,0,(F.length:Int),2,())::(5,0,(F.length:Int),3,())::Jc 4 0 F.length))=true:=l;simp only[Int.ofNat_zero,fJ,ay,aa,i];rw[o,bI];simp only[p,s,aa];rw[xC,MJ,UR,dN (b:=gY ((F.length:Nat):Int) (bM F)) (iE (by rw[bP];omega))];rfl
 rw[aog];have u:dY [((1:Int),((0:Int),((0:Int),((-1:Int),()))))] 32=true:=by kernel_rfl
 simp only[fJ,ay,aa,u];rw[aEc,g,bI];simp only[dW,bI];rw[cO (eu (by omega) (by simp;omega)),cO (lT (by simp[dD]))];rfl
end
theorem avL {w x:List UInt8} (h:Df w x): ∀{c:UInt8} {t:List UInt8},w=c::t->(TW c=true/\c≠61)\/c=92/\(∃d t',t=d::t'/\d≠10)\/c=39\/c=34:=by
 intro c t e;cases h with
 |nil=>cases e
 |plain h _=>injection e with e1 e2;rw[<-e1];exact .inl h
 | @esc d w x h _=>injection e with e1 e2;exact .inr (.inl ⟨e1.symm,d,w,e2.symm,h⟩)
 |sng h _=>injection e with e1 e2;exact .inr (.inr (.inl e1.symm))
 |dbl _=>injection e with e1 e2;exact .inr (.inr (.inr e1.symm))
theorem qF (p:UInt8->Bool) (c:UInt8) (s:List UInt8):((c::s).takeWhile p).length=if p c=true then(s.takeWhile p).length+1 else 0:=by
 rw[bz];split<;>simp
theorem PU {c:UInt8} (h:TW c=true):c≠60/\c≠62/\c≠32/\c≠9/\c≠10/\c≠35/\Aa (c.toNat:Int)=false/\lW (c.toNat:Int)=false:=by
 have: ∀n:Fin 256,TW (UInt8.ofNat n.val)=true->n.val≠60/\n.val≠62/\n.val≠32/\n.val≠9/\n.val≠10/\n.val≠35/\Aa ((n.val:Nat):Int)=false/\lW ((n.val:Nat):Int)=false:=by decide+kernel
 have:=this ⟨c.toNat,c.toNat_lt⟩;simp only[UInt8.ofNat_toNat]at this;obtain⟨g,i,j,l,o,p,q,s⟩:=this h;have f: ∀d:UInt8,c.toNat≠d.toNat->c≠d:=fun d h e=>h (by rw[e]);exact⟨f 60 g,f 62 i,f 32 j,f 9 l,f 10 o,f 35 p,q,s⟩
def aqo (t:List UInt8):Prop:=t=[]\/ ∃d,t=32::d
theorem aBk {w x:List UInt8} (h:Df w x) {t:List UInt8} (j:aqo t):yT (w++t)=0:=by
 have i: ∀c,((w++t).drop (jH (w++t))).head?=a6 c->c≠60/\c≠62:=by
  induction h with
  |nil=>
   rcases j with e|⟨l,e⟩
   .subst e;intro c g;cases g
   .subst e;intro c g;have:jH ([]++32::l)=0:=by unfold jH;rw[aF,qF];rfl
    rw[this]at g;cases g;decide
  | @plain c w x h h2 f=>
   intro d hd;unfold jH at hd f;rw[aH,qF]at hd;split at hd
   .rw[List.drop_succ_cons]at hd;exact f d hd
   .cases hd;exact⟨(PU h.1).1,(PU h.1).2.1⟩
  | @esc c w x h h2 f=>
   intro d hd;unfold jH at hd;rw[aH,qF,aq (by decide)]at hd;cases hd;decide
  | @sng u w x h h2 f=>
   intro d hd;unfold jH at hd;rw[aH,qF,aq (by decide)]at hd;cases hd;decide
  | @dbl u w x h2 f=>
   intro d hd;unfold jH at hd;rw[aH,qF,aq (by decide)]at hd;cases hd;decide
 unfold yT;rw[aq];rintro (⟨_,h⟩|⟨_,h⟩)
 .exact(i _ h).1 rfl
 .exact(i _ h).2 rfl
theorem aBi {w x:List UInt8} (h:Df w x):asg w=false:=by
 have e:w.getD (runN w) 0≠61:=by
  induction h with
  |nil=>decide
  | @plain c w x h h2 d=>
   unfold runN at d ⊢;rw[qF];split
   .rw[List.getD_cons_succ];exact d
   .exact h.2
  | @esc c w x h h2 d=>unfold runN;rw[qF,aq (by decide)];simp
  | @sng u w x h h2 d=>unfold runN;rw[qF,aq (by decide)];simp
  | @dbl u w x h2 d=>unfold runN;rw[qF,aq (by decide)];simp
 unfold asg nl;split
 .simp
 .rw[decide_eq_false (p:=w.getD (runN w) 0=61) e,Bool.and_false]
theorem Xr {w x:List UInt8} (h:Df w x) {c:UInt8} {r:List UInt8} (e:w=c::r) (t:List UInt8):ul (w++t)=0/\c≠10/\c≠35/\c≠40/\Aa (c.toNat:Int)=false:=by
 subst e;have f:=avL h rfl;have g:TW c=true->c≠40:=fun h e=>by subst e;revert h;decide
 have i:lW (c.toNat:Int)=false:=by
  rcases f with f|⟨e,_⟩|e|e
  .exact(PU f.1).2.2.2.2.2.2.2
  all_goals subst e;rfl
 refine⟨?_, ?_⟩
 .rw[aH,zI,aq (by simp[i]),aq];rcases f with f|⟨e,d,l,j,hd⟩|e|e
  .have:c≠92:=fun e=>by subst e;exact absurd f.1 (by decide)
   cases r++t with
   |nil=>simp[pI]
   |cons d t=>simp[pI,this]
  .subst j;simp[pI,hd]
  .subst e;cases r++t with
   |nil=>simp[pI]
   |cons d t=>simp[pI]
  .subst e;cases r++t with
   |nil=>simp[pI]
   |cons d t=>simp[pI]
 .rcases f with f|⟨e,_⟩|e|e
  .have:=PU f.1;exact⟨this.2.2.2.2.1,this.2.2.2.2.2.1,g f.1,this.2.2.2.2.2.2.1⟩
  all_goals subst e;decide
theorem ao4 {s:List UInt8} {a:Nat} {w x t:List UInt8} (d:Df w x) (h:s.drop a=w++t) (f:aqo t):qI s a=a+w.length:=by
 unfold qI;rw[h,show fK=([((0:Int),(0:Int))],true) from rfl,JA _ _ _ _ (aBj d (.inl rfl) _ _),alz d (.inl rfl)];rcases f with e|⟨g,e⟩
 .subst e;simp[lX]
 .subst e;rw[lX,am (by rfl)];omega
theorem avM {w x:List UInt8} (d:Df w x):XF w=true:=by
 unfold XF;rw[show fK=([((0:Int),(0:Int))],true) from rfl,alz d (.inl rfl)];rfl
theorem ayj {s:List UInt8} {a:Nat} {w x t:List UInt8} (d:Df w x) (g:w≠[]) (h:s.drop a=w++t) (f:aqo t) (P:List Dlm):
  jP s a (0,P,false,())=(((6,(a:Int),((a+w.length:Nat):Int),false,()):Tok),((0,P,false,()):Vs)):=by
 obtain⟨c,r,e⟩: ∃c r,w=c::r:=by
  cases w with
  |nil=>exact absurd rfl g
  |cons c r=>exact⟨c,r,rfl⟩
 obtain⟨i,j,l,_,o⟩:=Xr d e t;have p:s.drop a=c::(r++t):=by rw[h,e];rfl
 obtain⟨q,hl⟩:=Wl p;have u:gy c≠10:=lF j;have v:gy c≠35:=lF l;have y:(Af (w++t)).2=0:=by rw[e,aH];unfold Af;rw[Yg o]
 have z:=aBk d f;have A:=ao4 d h f;have B:RI s a (a+w.length)=w:=by
  unfold RI;rw[List.drop_take,h,show a+w.length-a=w.length by omega,List.take_left]
 unfold jP jG kQ;simp only[h,i,y,z,q,u,v,ne_eq,not_true_eq_false,if_false,ag,if_true,A,B,avM d,ax]
theorem ayA {s:List UInt8} {a:Nat} {w x t:List UInt8} (d:Df w x) (f:w≠[]) (h:s.drop a=32::(w++t)) (P:List Dlm):
  jP s a (0,P,false,())=(((1,(a:Int),((a+1:Nat):Int),false,()):Tok),((0,P,false,()):Vs)):=by
 obtain⟨c,r,e⟩: ∃c r,w=c::r:=by
  cases w with
  |nil=>exact absurd rfl f
  |cons c r=>exact⟨c,r,rfl⟩
 have g:=(Xr d e t).1;have i:ul (32::(w++t))=1:=by rw[zI,am (by decide),g]
 unfold jP jG kQ;simp[h,i]
def qY (us:List (List UInt8)):List UInt8:=us.flatMap fun u=>u++[32]
def ae7:Nat->List (List UInt8)->List Tok
 |_,[]=>[]
 |a,u::us=>(6,(a:Int),((a+u.length:Nat):Int),false,())::(1,((a+u.length:Nat):Int),((a+u.length+1:Nat):Int),false,())::ae7 (a+u.length+1) us
def Wd (w:List UInt8):Prop:=w≠[]/\ ∃x,Df w x
theorem F9 (u:List UInt8) (us:List (List UInt8)):qY (u::us)=u++32::qY us:=by simp[qY]
theorem avQ {us:List (List UInt8)} (h: ∀u∈us,Wd u) {w:List UInt8} (e:Wd w): ∃v x t,Df v x/\v≠[]/\qY us++w=v++t:=by
 cases us with
 |nil=>obtain⟨x,d⟩:=e.2;exact⟨w,x,[],d,e.1,by simp[qY]⟩
 |cons u us=>obtain⟨x,d⟩:=(h u (aB ..)).2;exact⟨u,x,32::qY us++w,d,(h u (aB ..)).1,by rw[F9];simp⟩
theorem ake {s w:List UInt8} (d:Wd w): ∀(us:List (List UInt8)) (n a:Nat) (l:List Tok),s.drop a=qY us++w->(∀u∈us,Wd u)->s.length-a<n->
  oN s n a l (0,[],false,())=(l++ae7 a us++[(6,((a+(qY us).length:Nat):Int),((a+(qY us).length+w.length:Nat):Int),false,())],(0,[],false,()))/\
  aoE s n a l=l++ae7 a us++[(6,((a+(qY us).length:Nat):Int),((a+(qY us).length+w.length:Nat):Int),false,())]
 |[],n,a,l,h,_,A=>by
  obtain⟨e,x,f⟩:=d;have J:a+w.length=s.length:=(arC (l:=w) h).resolve_left e;have B:0<w.length:=List.length_pos_iff.2 e;obtain⟨n,rfl⟩: ∃m,n=m+2:=⟨n-2,by omega⟩;have g:=fun P=>ayj f e (s:=s) (a:=a) (t:=[]) (by rw[List.append_nil];exact h) (.inl rfl) P;rw[oN,am (by omega),aoE,am (by omega),g []];simp only[aV];rw[oN,aq (by omega),aoE,aq (by omega)];simp[ae7,qY]
 |u::us,n,a,l,h,o,A=>by
  obtain⟨p,x,f⟩:=o u (aB ..);have q: ∀v∈us,Wd v:=fun v i=>o v (ak _ i);have B:0<u.length:=List.length_pos_iff.2 p;rw[F9,ai]at h;have j:s.drop (a+u.length)=32::(qY us++w):=Jw h;have D:s.drop (a+u.length+1)=qY us++w:=Jw (l:=[32]) j;obtain⟨v,y,t,i,E,G⟩:=avQ q d;have g:=fun P=>ayj f p h (.inr ⟨_,rfl⟩) P;have I:=fun P=>ayA i E (s:=s) (a:=a+u.length) (t:=t) (by rw[j,G]) P;have K:a+u.length<s.length:=(Wl j).2;obtain⟨n,rfl⟩: ∃m,n=m+2:=⟨n-2,by omega⟩;have z:=ake d us n (a+u.length+1) (l++[(6,(a:Int),((a+u.length:Nat):Int),false,())]++[(1,((a+u.length:Nat):Int),((a+u.length+1:Nat):Int),false,())]) D q (by omega);rw[oN,am (by omega),aoE,am (by omega),g []];simp only[aV];rw[oN,am (by omega),aoE,am (by omega),I []];simp only[aV];have hl:a+(qY (u::us)).length=a+u.length+1+(qY us).length:=by rw[F9];simp;omega
  rw[hl];refine⟨z.1.trans ?_,z.2.trans ?_⟩<;>simp[ae7]
theorem aff:uZ.all (fun w=>w.all (fun c=>c !=39&&c !=92&&c !=34))=true:=by decide
theorem Wj: ∀r:List UInt8,(∀b∈G5 r,b≠39/\b≠92)->G5 r=r
 |[],_=>rfl
 |c::r,h=>by
  rw[AY]at h ⊢;have g:=Wj r fun b f=>h b (bn _ f);have d: ∀b∈pl1 false c,b≠39/\b≠92:=fun b f=>h b (bF _ f);unfold pl1 at d ⊢;split
  .rename_i e
   rw[am e]at d;exact absurd rfl (d 39 (by simp)).1
  .rename_i e
   rw[aq e]at d;split
   .rename_i i
    rw[am i]at d;exact absurd rfl (d 92 (by simp)).2
   .rw[g];rfl
theorem Xy (s:List UInt8):uZ.contains (nJ s)=false:=by
 cases hr:uZ.contains (nJ s)with
 |false=>rfl
 |true=>
  exfalso;have g:nJ s∈uZ:=by simpa using hr
  have d: ∀b∈nJ s,b≠39/\b≠92:=fun b d=>by
   have:=List.all_eq_true.1 (List.all_eq_true.1 aff _ g) b d;simp only[af,bne_iff_ne]at this;exact⟨this.1.1,this.1.2⟩
  cases s with
  |nil=>exact absurd rfl (d 39 (by simp[nJ])).1
  |cons c r=>
   have e:nJ (c::r)=pl1 (EG (c::r)) c++G5 r:=rfl;rw[e]at d;have l:=Wj r fun b h=>d b (bn _ h);have f: ∀b∈pl1 (EG (c::r)) c,b≠39/\b≠92:=fun b h=>d b (bF _ h);unfold pl1 at f e;split at f
   .exact absurd rfl (f 39 (by simp)).1
   .rename_i o
    rw[aq o]at e;split at f
    .exact absurd rfl (f 92 (by simp)).2
    .rename_i j
     rw[aq j,l]at e;rw[e]at g;have i:EG (c::r)=false:=by simpa using fun h=>j (.inr h)
     unfold EG abZ at i;rw[Bool.or_eq_false_iff]at i;have:uZ.contains (c::r)=true:=by simpa using g
     rw[i.1]at this;cases this
theorem Nw {w:List UInt8} {c:UInt8} (d:c=39\/c=34):uZ.contains (c::w)=false:=by
 cases hr:uZ.contains (c::w)with
 |false=>rfl
 |true=>
  exfalso;have f:c::w∈uZ:=by simpa using hr
  have:=List.all_eq_true.1 (List.all_eq_true.1 aff _ f) c (aB ..);simp only[af,bne_iff_ne]at this;rcases d with e|e
  .exact this.1.1 e
  .exact this.2 e
theorem UA (s:List UInt8) (k:Nat):uZ.contains (pJ s k)=false:=by
 unfold pJ;split
 .exact Nw (.inl rfl)
 .split
  .exact Nw (.inr rfl)
  .exact Xy s
theorem ao6 (s:List UInt8):uZ.contains (uq s)=false:=by
 unfold uq;simp only;split
 .split
  .exact UA s 5
  .exact UA s 4
 .split
  .exact UA s 5
  .exact Xy s
theorem aHG (s:List UInt8):(uq s).length<=2*s.length+2:=by
 have d:(pJ s 5).length<=2*s.length+2:=by
  have:=Jv s;unfold pJ;simp;omega
 unfold uq;simp only;split
 .split
  .exact d
  .omega
 .split
  .exact d
  .omega
theorem awv (s:List UInt8):uq s≠[]:=by
 unfold uq;simp only;split
 .split
  .exact JO s 5
  .exact JO s 4
 .split
  .exact JO s 5
  .exact Nr s
theorem NE {x:List UInt8} (hx:x.length<=10000) (d:uZ.contains x=false) (a b:Int):sgn (6,(x,(a,(b,()))))=120:=by
 have:Ir (6,(x,(0,(0,()))))=a6 ([120],()):=by
  unfold Ir;simp only[show bV 6 2=false from rfl,show bV 6 5=false from rfl,show bV 6 4=false from rfl,show bV 6 6=true from rfl,ac,ax];rw[abU x (by omega) d,bI];rfl
 unfold sgn;rw[awx,this]
def lvW:Nat->List (List UInt8)->List Lf
 |_,[]=>[]
 |a,u::us=>(6,u,(a:Int),((a+u.length:Nat):Int),())::lvW (a+u.length+1) us
theorem Tu {s w:List UInt8}: ∀(us:List (List UInt8)) (a:Nat),s.drop a=qY us++w->iV s (ae7 a us)=lvW a us
 |[],a,_=>rfl
 |u::us,a,h=>by
  rw[F9,ai]at h;have e:s.drop (a+u.length+1)=qY us++w:=Jw (l:=[32]) (Jw h);have d:=Tu us (a+u.length+1) e;unfold iV at d ⊢;rw[ae7,List.filter_cons,am (by rfl),List.filter_cons,aq (by simp[Y5]),au,d,lvW];have:akb s ((6,(a:Int),((a+u.length:Nat):Int),false,()):Tok)=(6,u,(a:Int),((a+u.length:Nat):Int),()):=by
   unfold akb;simp only;rw[U1 h]
  rw[this]
theorem aBB (u:Int): ∀(k a:Nat),(Jc u a k).length=k
 |0,_=>rfl
 |k+1,a=>by rw[Jc,aG,aBB u k]
def Vg (n:Nat):List Nd:=(1,0,(n:Int),-1,())::(2,0,(n:Int),0,())::(3,0,(n:Int),1,())::(4,0,(n:Int),2,())::(5,0,(n:Int),3,())::Jc 4 0 n
def Wr (w:List UInt8):Prop:=Wd w/\uZ.contains w=false/\w.length<=1000
theorem aAo: ∀(us:List (List UInt8)) (a:Nat),(∀u∈us,Wr u)-> ∀f∈lvW a us,f.1=6/\sgn f=120
 |[],_,_,f,d=>by cases d
 |u::us,a,h,f,d=>by
  rw[lvW]at d;rcases List.mem_cons.1 d with e|d
  .rw[e];have:=h u (aB ..);exact⟨rfl,NE (by have:=this.2.2;omega) this.2.1 _ _⟩
  .exact aAo us _ (fun v g=>h v (ak _ g)) f d
theorem aAp: ∀(us:List (List UInt8)) (a:Nat),(lvW a us).length=us.length
 |[],_=>rfl
 |u::us,a=>by rw[lvW,aG,aG,aAp us]
end
section
open Bool renaming and_eq_true → af
open List renaming mem_cons_of_mem → ak, mem_cons_self → aB, length_cons → aG, getElem_mem → aX
open Nat renaming le_refl → ae
open Go.RowKit
abbrev o9:Type:=List UInt8×List UInt8×Unit
def dEn:o9:=([],([],()))
theorem arw: ∀a b:List UInt8,gY (am7 a b) 0=Dw a b
 |[],[]=>rfl
 |[],_::_=>rfl
 |_::_,[]=>rfl
 |x::a,y::b=>by
  have d:=arw a b;unfold am7 Dw at*;rw[Lib.compareBytes,Op.bytesLess];by_cases h:x<y
  .simp[h,gY]
  .by_cases h2:y<x
   .have:x≠y:=fun e=>by subst e;exact h h2
    simp[h,h2,gY,this]
   .have:x=y:=UInt8.le_antisymm (UInt8.not_lt.1 h2) (UInt8.not_lt.1 h);subst this;simp[h,d]
theorem ai2: ∀a b:List UInt8,bV (am7 a b) 0=fP a b
 |[],[]=>rfl
 |[],_::_=>rfl
 |_::_,[]=>rfl
 |x::a,y::b=>by
  have d:=ai2 a b;unfold am7 fP at*;rw[Lib.compareBytes];by_cases h:x<y
  .have:x≠y:=fun e=>by subst e;exact UInt8.lt_irrefl _ h
   simp[h,bV,this]
  .by_cases h2:y<x
   .have:x≠y:=fun e=>by subst e;exact h h2
    simp[h,h2,bV,this]
   .have:x=y:=UInt8.le_antisymm (UInt8.not_lt.1 h2) (UInt8.not_lt.1 h);subst this;simp[h,d]
theorem MN: ∀a:List UInt8,Dw a a=false
 |[]=>rfl
 |x::a=>by
  have d:=MN a;unfold Dw at*;rw[Op.bytesLess];simp[d,UInt8.lt_irrefl]
theorem Xa: ∀a b c:List UInt8,Dw a b=true->Dw b c=true->Dw a c=true
 |_,[],[],_,h=>by cases h
 |_,_::_,[],_,h=>by cases h
 |[],[],_::_,h,_=>by cases h
 |_::_,[],_::_,h,_=>by cases h
 |[],_::_,_::_,_,_=>rfl
 |x::a,y::b,z::c,d,e=>by
  have f:=Xa a b c;unfold Dw at*;rw[Op.bytesLess]at*;simp only[Bool.or_eq_true,decide_eq_true_eq,af,beq_iff_eq]at*;rcases d with d|⟨rfl,d⟩<;>rcases e with e|⟨rfl,e⟩
  .exact .inl (UInt8.lt_trans d e)
  .exact .inl d
  .exact .inl e
  .exact .inr ⟨rfl,f d e⟩
theorem Zw: ∀a b:List UInt8,Dw a b=false->a≠b->Dw b a=true
 |[],[],_,h=>absurd rfl h
 |[],_::_,h,_=>by cases h
 |_::_,[],_,_=>rfl
 |x::a,y::b,h,d=>by
  have e:=Zw a b;unfold Dw at*;rw[Op.bytesLess]at*;by_cases h1:x<y
  .simp[h1]at h
  .by_cases h2:y<x
   .simp[h2]
   .have:x=y:=UInt8.le_antisymm (UInt8.not_lt.1 h2) (UInt8.not_lt.1 h1);subst this;simp_all
theorem aL0 {a b:List UInt8} (h:Dw a b=true):Dw b a=false:=by
 cases e:Dw b a with
 |false=>rfl
 |true=>have:=Xa _ _ _ h e;rw[MN]at this;cases this
def kF (k:List UInt8):List o9->Nat
 |[]=>0
 |e::r=>if Dw e.1 k=true then kF k r+1 else 0
def jQ (k:List UInt8):List o9->Option (List UInt8)
 |[]=>none
 |e::r=>if e.1=k then some e.2.1 else jQ k r
def CS (k v:List UInt8):List o9->List o9
 |[]=>[(k,(v,()))]
 |e::r=>if Dw e.1 k=true then e::CS k v r else if e.1=k then(k,(v,()))::r else(k,(v,()))::e::r
def Asc (T:List o9):Prop:=T.Pairwise fun x y=>Dw x.1 y.1=true
theorem Zj (k:List UInt8): ∀T,kF k T<=T.length
 |[]=>ae _
 |e::r=>by have:=Zj k r;grind [kF]
theorem auI (k:List UInt8): ∀(T:List o9) (m:Nat) (h:m<T.length),m<kF k T->Dw T[m].1 k=true
 |[],_,h,_=>by cases h
 |e::r,m,h,d=>by
  have f:=auI k r;rw[kF]at d;cases m<;>grind
theorem auH (k:List UInt8): ∀(T:List o9),Asc T-> ∀(m:Nat) (h:m<T.length),kF k T<=m->Dw T[m].1 k=false
 |[],_,_,h,_=>by cases h
 |e::r,d,m,h,f=>by
  have g:=auH k r (List.pairwise_cons.1 d).2;have i:=(List.pairwise_cons.1 d).1;rw[kF]at f;cases m with
  |zero=>cases hq:Dw e.1 k<;>simp_all
  |succ m=>
   simp only[List.getElem_cons_succ];have l:m<r.length:=by simp at h;omega
   by_cases hq:Dw e.1 k=true
   .exact g m _ (by simp_all)
   .have j:=i r[m] (aX _);cases hz:Dw r[m].1 k with
    |false=>rfl
    |true=>exact absurd (Xa _ _ _ j hz) hq
theorem adS (k:List UInt8): ∀(T:List o9),(∀e∈T,Dw k e.1=true)->jQ k T=none
 |[],_=>rfl
 |e::r,h=>by
  have g:=adS k r (fun e d=>h e (ak _ d));have f:=h e aB;have:e.1≠k:=fun d=>by rw[d,MN]at f;cases f
  rw[jQ,aq this,g]
theorem PS (k:List UInt8): ∀(T:List o9),Asc T->jQ k T=if h:kF k T<T.length then(if T[kF k T].1=k then some T[kF k T].2.1 else none)else none
 |[],_=>rfl
 |e::r,d=>by
  have f:=PS k r (List.pairwise_cons.1 d).2;have g:=(List.pairwise_cons.1 d).1;by_cases hq:Dw e.1 k=true
  .have i:e.1≠k:=fun h=>by rw[h,MN]at hq;cases hq
   have hl:kF k (e::r)=kF k r+1:=by rw[kF,am hq]
   rw[jQ,aq i,f];simp only[hl,aG,List.getElem_cons_succ,Nat.add_lt_add_iff_right]
  .have hl:kF k (e::r)=0:=by rw[kF,aq hq]
   simp only[hl,aG,List.getElem_cons_zero];rw[jQ];by_cases he:e.1=k
   .simp[he]
   .have j:Dw k e.1=true:=Zw _ _ (by simpa using hq) he;have:=adS k r (fun x l=>Xa _ _ _ j (g x l));simp[he,this]
theorem amq (k v:List UInt8): ∀(T:List o9) (h:kF k T<T.length),T[kF k T].1=k->CS k v T=T.set (kF k T) (k,(v,()))
 |[],h,_=>by cases h
 |e::r,h,d=>by
  have f:=amq k v r;by_cases hq:Dw e.1 k=true
  .have hl:kF k (e::r)=kF k r+1:=by rw[kF,am hq]
   rw[CS,am hq];simp only[hl,aG,Nat.add_lt_add_iff_right]at h;simp only[hl,List.getElem_cons_succ]at d;rw[hl,List.set_cons_succ,f h d]
  .have hl:kF k (e::r)=0:=by rw[kF,aq hq]
   simp only[hl,List.getElem_cons_zero]at d;rw[CS,aq hq,am d,hl,List.set_cons_zero]
theorem amo (k v:List UInt8): ∀(T:List o9),Asc T->jQ k T=none->CS k v T=T.take (kF k T)++[(k,(v,()))]++T.drop (kF k T)
 |[],_,_=>rfl
 |e::r,g,d=>by
  have f:e.1≠k:=fun h=>by rw[jQ,am h]at d;cases d
  rw[jQ,aq f]at d;have i:=amo k v r (List.pairwise_cons.1 g).2 d;by_cases hq:Dw e.1 k=true
  .have hl:kF k (e::r)=kF k r+1:=by rw[kF,am hq]
   rw[CS,am hq,hl,i];rfl
  .have hl:kF k (e::r)=0:=by rw[kF,aq hq]
   rw[CS,aq hq,aq f,hl];rfl
theorem Qq (k v:List UInt8): ∀(T:List o9),∀e∈CS k v T,e=(k,(v,()))\/e∈T
 |[],e,h=>by rw[CS]at h;simp_all
 |x::r,e,h=>by
  have d:=Qq k v r e;rw[CS]at h;split at h
  .rcases List.mem_cons.1 h with rfl|h
   .simp
   .rcases d h with h|h<;>simp[h]
  .split at h<;>simp_all;rcases h with h|h<;>simp[h]
theorem afQ (k v:List UInt8): ∀(T:List o9),(CS k v T).length<=T.length+1
 |[]=>ae _
 |x::r=>by have:=afQ k v r;grind [CS]
theorem amn (k v:List UInt8): ∀(T:List o9),Asc T->Asc (CS k v T)
 |[],_=>by simp[CS,Asc]
 |e::r,f=>by
  have o:=amn k v r (List.pairwise_cons.1 f).2;have g:=(List.pairwise_cons.1 f).1;have p:=(List.pairwise_cons.1 f).2;unfold Asc at*;rw[CS];split
  .rename_i i
   refine List.pairwise_cons.2 ⟨fun x d=> ?_,o⟩;rcases Qq k v r x d with rfl|d
   .exact i
   .exact g x d
  .rename_i i
   split
   .rename_i j
    subst j;exact List.pairwise_cons.2 ⟨g,p⟩
   .rename_i j
    have l:=Zw _ _ (by simpa using i) j;refine List.pairwise_cons.2 ⟨fun x d=> ?_,f⟩;rcases List.mem_cons.1 d with rfl|d
    .exact l
    .exact Xa _ _ _ l (g x d)
theorem get_mem (k:List UInt8): ∀(T:List o9) (v:List UInt8),jQ k T=some v->(k,(v,()))∈T
 |[],_,h=>by cases h
 |e::r,v,h=>by
  have f:=get_mem k r v;rw[jQ]at h;obtain⟨a,b,u⟩:=e;cases u;split at h
  .rename_i d
   cases h;simp only at d;subst d;simp
  .exact ak _ (f h)
end
section
open Option renaming some → a6, none → a7
open Bool renaming not_true → ax, not_false → az
open List renaming append_assoc → ai, mem_cons_of_mem → ak, drop_eq_getElem_cons → aA, mem_cons_self → aB, nil_append → aF, drop_zero → aS, all_cons → aW, drop_eq_nil_of_le → bi
open Nat renaming le_refl → ae
open Go.RowKit
theorem aKa {i j:Nat} (h:i+j<1000000):IntKind.i64.wrap (UI .u64 (IntKind.u64.wrap (dw .i64 (i:Int) (j:Int))) 1)=((i+j)/2:Nat):=by
 rw[dI,IntKind.wrap_u64];unfold UI;rw[show(2:Int)^(min (Int.toNat 1) IntKind.u64.bits)=2 from rfl,IntKind.wrap_i64]
 grind
theorem akZ {T:List o9} {m:Nat} (h:m<T.length):dK T dEn m=T[m]:=nY h
theorem atw {T:List o9} {m:Nat} (h:m<T.length):dJ T dEn (m:Int)=T[m]:=by
 grind [dJ]
theorem V4 (a b:List UInt8):azb a b=a6 (am7 a b,()):=rfl
theorem I9 {k:List UInt8} {T:List o9} (f:Asc T) (hT:T.length<=100000) (n:Int) (a b:List UInt8) (c:Int): ∀(N i j:Nat),j-i<N->i<=kF k T->kF k T<=j->j<=T.length->
  vJ N k n (i:Int) (j:Int) a b c T=a6 (.inl ((k,n,((kF k T:Nat):Int),()),((a,b,()),(),()),((c,()),T,())))
 |0,i,j,h,_,_,_=>by omega
 |N+1,i,j,h,g,l,hl=>by
  rw[vJ,Gv];by_cases e:i<j
  .have d:(i+j)/2<T.length:=by omega
   rw[cO (fO),cO (show leI 0 1=true from rfl)];simp only[Fe,aKa (i:=i) (j:=j) (by omega)];rw[cO (eu),show dD (((i+j)/2:Nat):Int)=(i+j)/2 from rfl,cO (lT d),show([],([],()))=dEn from rfl,akZ d,V4,bI];simp only[arw];rw[dI,show(((i+j)/2:Nat):Int)+1=(((i+j)/2+1:Nat):Int) by omega];by_cases hlt:(i+j)/2<kF k T
   .rw[auI k T _ d hlt,aa];exact I9 f hT n a b c N _ j (by omega) (by omega) l hl
   .rw[auH k T f _ d (by omega),ac];exact I9 f hT n a b c N i _ (by omega) g (by omega) (by omega)
  .rw[dN (iE),show i=kF k T by omega]
theorem as7 {k:List UInt8} {T:List o9} (d:Asc T) (hT:T.length<=100000) (c:Int):ath c T k=a6 ((c,(T,())),(((kF k T:Nat):Int),((jQ k T).isSome,()))):=by
 have e:=Zj k T;rw[ath,show vJ bQ k (bM T) 0 (bM T) k k c T=_ from I9 d hT _ _ _ _ bQ 0 T.length (dX) (by omega) e (ae _),bI];simp only[dW];rw[PS k T d];by_cases h:kF k T<T.length
 .rw[cO (fO (by rw[bP];omega)),cO (eu),show dD ((kF k T:Nat):Int)=kF k T from rfl,cO (lT h),show([],([],()))=dEn from rfl,akZ h,V4,bI,dif_pos h];simp only[ai2];by_cases he:T[kF k T].1=k
  .rw[am he,Wv he];rfl
  .rw[aq he,uu he];rfl
 .rw[dN (jh (by rw[bP];omega)),dif_neg h];rfl
theorem aH7 {k:List UInt8} {T:List o9} (e:Asc T) (hT:T.length<=100000) (c:Int):ay6 c T k=a6 ((c,(T,())),((jQ k T).getD [],((jQ k T).isSome,()))):=by
 have f:=Zj k T;have d:=PS k T e;rw[ay6,as7 e hT,bI];simp only;cases h:jQ k T with
 |none=>rfl
 |some v=>
  rw[h]at d;have hl:kF k T<T.length:=by
   by_cases hl:kF k T<T.length
   .exact hl
   .rw[dif_neg hl]at d;cases d
  rw[dif_pos hl]at d;split at d
  .injection d with d
   rw[Option.isSome_some,ax,ac,cO (eu),show dD ((kF k T:Nat):Int)=kF k T from rfl,cO (lT hl),show([],([],()))=dEn from rfl,akZ hl,d];rfl
  .cases d
theorem acV (k:List UInt8) (T:List o9) (hT:T.length<=100000): ∀(N m:Nat),T.length-m<N->m<=T.length->(∃v,jQ k (T.drop m)=a6 v/\D9 N T k (m:Int)=a6 (.inr ((v,1,()),())))\/(jQ k (T.drop m)=a7/\D9 N T k (m:Int)=a6 (.inl ((),())))
 |0,m,h,_=>by omega
 |N+1,m,h,f=>by
  rw[D9,acp];by_cases e:m<T.length
  .have d:=acV k T hT N (m+1) (by omega) (by omega);rw[aA e,jQ,cO (fO (by rw[bP];omega)),cO (eu),show([],([],()))=dEn from rfl,atw e,dI];by_cases he:T[m].1=k
   .rw[Wv he,aa,am he,cO (eu)];exact .inl ⟨_,rfl,rfl⟩
   .rw[uu he,ac,aq he];exact d
  .rw[bi (by omega),dN (jh (by rw[bP];omega))];exact .inr ⟨rfl,rfl⟩
theorem aH8 (k:List UInt8) (T:List o9) (hT:T.length<=100000):atg T k=a6 ((jQ k T).getD [],(if(jQ k T).isSome=true then 1 else 0,())):=by
 have h:=acV k T hT bQ 0 (dX) (by omega);rw[aS]at h;rcases h with ⟨v,d,e⟩|⟨d,e⟩
 .rw[atg,show D9 bQ T k 0=_ from e,d];rfl
 .rw[atg,show D9 bQ T k 0=_ from e,d];rfl
def nmB (c:UInt8):Bool:=Dq c&& !(bV (c.toNat:Int) 47)
def MO (k:List UInt8):Bool:= !(fP k [])&&k.all nmB
theorem X9 {k:List UInt8} (hk:k.length<=100000): ∀(N m:Nat),k.length-m<N->m<=k.length->
  ML N k (k.length:Int) (m:Int)=a6 (if(k.drop m).all nmB=true then .inl ((),())else .inr ((false,()),()))
 |0,m,h,_=>by omega
 |N+1,m,h,g=>by
  rw[ML,acw];by_cases e:m<k.length
  .have d:=X9 hk N (m+1) (by omega) (by omega);rw[aA e,aW,cO (fO),cO (eu),byte_at e,awl,bI,dI,show(m:Int)+1=((m+1:Nat):Int) by omega,d];have f:fV k (m:Int)=true:=eu;unfold nmB;cases Dq k[m]<;>cases bV (k[m].toNat:Int) 47<;>simp[f]
  .rw[bi (by omega),dN (jh)];rfl
theorem aBz {k:List UInt8} (hk:k.length<=100000):ag0 k=a6 (MO k,()):=by
 rw[ag0,show ML bQ k (bM k) 0=_ from X9 hk bQ 0 (dX) (by omega),aS];unfold MO;cases fP k []<;>cases k.all nmB<;>rfl
theorem aeG {k:List UInt8} (hk:k.length<=100000): ∀(N m:Nat),k.length-m<N->m<=k.length->
  Iy N k (m:Int)=a6 (if(k.drop m).all nmB=true then .inl ((),())else .inr ((false,()),()))
 |0,m,h,_=>by omega
 |N+1,m,h,g=>by
  rw[Iy,acd];by_cases e:m<k.length
  .have d:=aeG hk N (m+1) (by omega) (by omega);rw[aA e,aW,cO (fO (by rw[bP];omega)),cO (eu),byte_at e,(aBp k[m]).2.1,bI,dI,show(m:Int)+1=((m+1:Nat):Int) by omega,d];have f:fV k (m:Int)=true:=eu;unfold nmB;cases Dq k[m]<;>cases bV (k[m].toNat:Int) 47<;>simp[f]
  .rw[bi (by omega),dN (jh (by rw[bP];omega))];rfl
theorem aIc {k:List UInt8} (hk:k.length<=100000):ay4 2 k=a6 (MO k,()):=by
 rw[ay4,show bV 2 1=false from rfl,ac,show bV 2 3=false from rfl,ac,fJ,aa,aa,aBz hk,bI]
theorem aBI {k:List UInt8} (hk:k.length<=100000):atd 2 k=a6 (MO k,()):=by
 rw[atd,show bV 2 1=false from rfl,ac,show bV 2 3=false from rfl,ac,fJ,ax,ac,show Iy bQ k 0=_ from aeG hk bQ 0 (dX) (by omega),aS];unfold MO;cases fP k []<;>cases k.all nmB<;>rfl
def GU (T:List o9) (k v:List UInt8):List o9:=if MO k=true then CS k v T else T
theorem aIg {k v:List UInt8} {T:List o9} (e:Asc T) (hT:T.length<10000) (hk:k.length<=100000) (g:v.length<=65536): ∃c,ay0 2 T k v=a6 ((2,(GU T k v,())),(c,())):=by
 have i:=Zj k T;have d:=PS k T e;rw[ay0,aIc hk,bI];unfold GU;cases hm:MO k with
 |false=>exact⟨5,rfl⟩
 |true=>
  rw[ax,ac,dN (jh (by rw[bP];omega)),as7 e (by omega),bI,am rfl];simp only;cases h:jQ k T with
  |none=>
   rw[Option.isSome_none,ac,dN (Hl (by rw[bP];omega)),mW,mW (by rw[bP];omega),lN (by omega),amo k v T e h];exact⟨0,rfl⟩
  |some u=>
   rw[h]at d;have hl:kF k T<T.length:=by
    by_cases hl:kF k T<T.length
    .exact hl
    .rw[dif_neg hl]at d;cases d
   rw[dif_pos hl]at d;split at d
   .rename_i f
    rw[Option.isSome_some,aa,cO (eu),show dD ((kF k T:Nat):Int)=kF k T from rfl,cO (lT hl),show([],([],()))=dEn from rfl,akZ hl,amq k v T hl f,f];exact⟨0,rfl⟩
   .cases d
theorem UG (k v:List UInt8): ∀T:List o9,Asc T->(∀e∈T,Dw k e.1=true)->(T.filter fun e=> !(fP e.1 k))=T
 |[],_,_=>rfl
 |e::r,g,h=>by
  have i:=UG k v r (List.pairwise_cons.1 g).2 (fun e d=>h e (ak _ d));have f:=h e aB;have:e.1≠k:=fun d=>by rw[d,MN]at f;cases f
  rw[List.filter_cons,uu this,i];rfl
theorem Jk {k v:List UInt8} {T:List o9} (hT:T.length<=100000): ∀(N m:Nat) (out:List o9),T.length-m<N->m<=T.length->out.length<=m+1->
  qj N T k v true (m:Int) out=a6 (.inl ((k,v,true,()),(out++((T.drop m).filter fun e=> !(fP e.1 k)),())))
 |0,m,out,h,_,_=>by omega
 |N+1,m,out,h,g,i=>by
  rw[qj,Lj];by_cases e:m<T.length
  .have d:fV T (m:Int)=true:=eu;simp only[d,aa];rw[aA e,List.filter_cons,cO (fO (by rw[bP];omega)),ax,ac,show([],([],()))=dEn from rfl,atw e,dI,show(m:Int)+1=((m+1:Nat):Int) by omega];cases fP T[m].1 k with
   |true=>exact Jk hT N (m+1) out (by omega) (by omega) (by omega)
   |false=>
    have f:=Jk (k:=k) (v:=v) hT N (m+1) (out++[T[m]]) (by omega) (by omega) (by simp;omega);rw[az,aa,cO (lN (by simp[bT];omega)),show bT out [T[m]]=out++[T[m]] from rfl,f,ai];rfl
  .rw[bi (by omega),dN (jh (by rw[bP];omega))];simp
theorem acX {k v:List UInt8} {T:List o9} (j:Asc T) (hT:T.length<=100000): ∀(N m:Nat) (out:List o9),T.length-m<N->m<=T.length->out.length<=m->
  (∃f,qj N T k v false (m:Int) out=a6 (.inl ((k,v,false,()),(f,())))/\f++[(k,(v,()))]=out++CS k v (T.drop m)/\f.length<=T.length)\/
  qj N T k v false (m:Int) out=a6 (.inl ((k,v,true,()),(out++CS k v (T.drop m),())))
 |0,m,out,h,_,_=>by omega
 |N+1,m,out,h,y,z=>by
  rw[qj,Lj];by_cases e:m<T.length
  .have hd:=aA e;have g:Asc (T.drop m):=List.Pairwise.sublist (List.drop_sublist m T) j;rw[hd]at g;have l:=(List.pairwise_cons.1 g).1;have o:=(List.pairwise_cons.1 g).2;have q:fV T (m:Int)=true:=eu;simp only[q,aa];rw[hd,CS,cO (fO (by rw[bP];omega)),az,aa,show([],([],()))=dEn from rfl,atw e,dI,show(m:Int)+1=((m+1:Nat):Int) by omega];cases hq:Dw T[m].1 k with
   |true=>
    have s:T[m].1≠k:=fun h=>by rw[h,MN]at hq;cases hq
    have p:=acX (k:=k) (v:=v) j hT N (m+1) (out++[T[m]]) (by omega) (by omega) (by simp;omega);rw[ax,ac,uu s,az,aa,cO (lN (by simp[bT];omega)),am rfl,show bT out [T[m]]=out++[T[m]] from rfl];rw[ai]at p;exact p
   |false=>
    right;rw[az,aa,cO (lN (by simp[bT];omega)),aq (by simp)];have hr: ∀x∈T.drop (m+1),T[m].1=k\/Dw k T[m].1=true->Dw k x.1=true:=fun x d i=>by
     rcases i with rfl|i
     .exact l x d
     .exact Xa _ _ _ i (l x d)
    by_cases he:T[m].1=k
    .have hk:=UG k v _ o (fun x d=>hr x d (.inl he));rw[Wv he,ax,ac,am he,show bT out [(k,(v,()))]=out++[(k,(v,()))] from rfl,Jk hT N (m+1) _ (by omega) (by omega) (by simp;omega),hk,ai];rfl
    .have u:=Zw _ _ hq he;have hk:=UG k v _ o (fun x d=>hr x d (.inr u));rw[uu he,az,aa,aq he,cO (lN (by simp[bT];omega)),show bT (bT out [(k,(v,()))]) [T[m]]=out++[(k,(v,()))]++[T[m]] from rfl,Jk hT N (m+1) _ (by omega) (by omega) (by simp;omega),hk,ai,ai];rfl
  .left;rw[bi (by omega),dN (jh (by rw[bP];omega))];exact⟨out,rfl,rfl,by omega⟩
theorem aMD {k v:List UInt8} {T:List o9} (e:Asc T) (hT:T.length<10000) (hk:k.length<=100000) (g:v.length<=65536): ∃c,aEa 2 T k v=a6 (GU T k v,(c,())):=by
 rw[aEa,aBI hk,bI];unfold GU;cases hm:MO k with
 |false=>exact⟨5,rfl⟩
 |true=>
  rw[ax,ac,dN (jh (by rw[bP];omega)),aH8 _ _ (by omega),bI,am rfl];simp only;rw[dN (b:=leI 10000 (bM T)) (Hl (by rw[bP];omega))];have h:=acX (k:=k) (v:=v) e (by omega) bQ 0 [] (dX) (by omega) (ae _);rw[aS,aF]at h;rcases h with ⟨out,d,f,i⟩|d
  .rw[show qj bQ T k v false 0 []=_ from d,bI];simp only[dW];rw[az,aa,cO (lN (by simp[bT];omega)),show bT out [(k,(v,()))]=out++[(k,(v,()))] from rfl,f];cases bV (if(jQ k T).isSome=true then 1 else 0) 0<;>exact⟨0,rfl⟩
  .rw[show qj bQ T k v false 0 []=_ from d,bI];simp only[dW];rw[ax,ac];cases bV (if(jQ k T).isSome=true then 1 else 0) 0<;>exact⟨0,rfl⟩
def ofT (l:List o9):List o9:=l.foldl (fun T e=>GU T e.1 e.2.1) []
def Lit (n a b:Nat) (l:List o9):Prop:=l.length<=n/\ ∀e∈l,e.1.length<=a/\e.2.1.length<=b
def Tab (n a b:Nat) (T:List o9):Prop:=Asc T/\Lit n a b T/\ ∀e∈T,MO e.1=true
theorem als {n a b:Nat} {T:List o9} (h:Tab n a b T) {k v:List UInt8} (hk:k.length<=a) (j:v.length<=b):Tab (n+1) a b (GU T k v):=by
 obtain⟨f,⟨o,g⟩,i⟩:=h;unfold GU;split
 .rename_i l
  refine⟨amn k v T f,⟨by have:=afQ k v T;omega,fun e d=> ?_⟩,fun e d=> ?_⟩
  .rcases Qq k v T e d with rfl|d
   .exact⟨hk,j⟩
   .exact g e d
  .rcases Qq k v T e d with rfl|d
   .exact l
   .exact i e d
 .exact⟨f,⟨by omega,g⟩,i⟩
theorem amU {a b:Nat}: ∀(l T:List o9) (n m:Nat),Tab m a b T->Lit n a b l->Tab (m+n) a b (l.foldl (fun T e=>GU T e.1 e.2.1) T)
 |[],T,n,m,h,_=>⟨h.1,⟨by have:=h.2.1.1;show T.length<=_;omega,h.2.1.2⟩,h.2.2⟩
 |e::r,T,n,m,h,hl=>by
  obtain⟨n,rfl⟩: ∃k,n=k+1:=⟨n-1,by have:=hl.1;simp at this;omega⟩;have d:=hl.2 e aB;have:=amU r _ n (m+1) (als h d.1 d.2) ⟨by have:=hl.1;simp at this;omega,fun x f=>hl.2 x (ak _ f)⟩;rw[List.foldl_cons,show m+(n+1)=m+1+n by omega];exact this
theorem aLs {n a b:Nat} {l:List o9} (h:Lit n a b l):Tab n a b (ofT l):=by
 have:=amU l [] n 0 ⟨List.Pairwise.nil,⟨ae _,fun e d=>by cases d⟩,fun e d=>by cases d⟩ h;rwa [Nat.zero_add]at this
end
section
open Nat renaming le_refl → ae
open Go.RowKit
def lx0:Vs:=(0,([],(false,())))
def firstT (v:List UInt8):List UInt8:=if v=[]then []else if(jP v 0 lx0).1.1=6 then sub v 0 (jP v 0 lx0).1.2.2.1 else []
theorem aHA (v:List UInt8):(firstT v).length<=v.length:=by
 unfold firstT;split
 .simp
 .split
  .simp[sub];omega
  .simp
theorem aCe {k:List UInt8} {T:List o9} (d:Asc T) (hT:T.length<=100000) (c:Int):atf c T k=some ((c,(T,())),((jQ k T).getD [],((jQ k T).isSome,()))):=by
 rw[atf,aH7 d hT];rfl
def cnt (out:List (List UInt8)):List o9->Nat
 |[]=>0
 |e::r=>if e.1∈out then cnt out r else cnt out r+1
theorem ayH (out:List (List UInt8)): ∀T,cnt out T<=T.length
 |[]=>ae _
 |e::r=>by have:=ayH out r;grind [cnt]
theorem arx (out:List (List UInt8)) (k:List UInt8): ∀T,cnt (out++[k]) T<=cnt out T
 |[]=>ae _
 |e::r=>by have:=arx out k r;grind [cnt]
theorem cnt_lt (out:List (List UInt8)) (k:List UInt8) (hk:k∉out): ∀T,jQ k T≠none->cnt (out++[k]) T<cnt out T
 |[],h=>absurd rfl h
 |e::r,h=>by
  have d:=cnt_lt out k hk r;have:=arx out k r;rw[jQ]at h;split at h
  .rename_i f
   grind [cnt]
  .have:=d h
   grind [cnt]
def agh (T:List o9):Nat->List (List UInt8)->List UInt8->List (List UInt8)
 |0,out,_=>out
 |n+1,out,k=>match jQ k T with
  |none=>out
  |some v=>if jQ (firstT v) T=none then out else if firstT v∈out then out else agh T n (out++[firstT v]) (firstT v)
theorem ajQ {n a b:Nat} {T:List o9} (h:Tab n a b T) {k v:List UInt8} (d:jQ k T=some v):v.length<=b:=(h.2.1.2 _ (get_mem k T v d)).2
theorem aLr:MO []=false:=rfl
theorem aLp {n a b:Nat} {T:List o9} (h:Tab n a b T):jQ [] T=none:=by
 cases hg:jQ [] T with
 |none=>rfl
 |some v=>
  have:=h.2.2 _ (get_mem [] T v hg);cases this
theorem agi (T:List o9): ∀(n:Nat) (out:List (List UInt8)) (k:List UInt8),(agh T n out k).length<=out.length+n
 |0,out,k=>ae _
 |n+1,out,k=>by
  rw[agh];split
  .omega
  .rename_i v _
   have:=agi T n (out++[firstT v]) (firstT v);split
   .omega
   .split
    .omega
    .simp at this;omega
end
section
open Option renaming some → a6, none → a7
open Tryz
open Go.RowKit
def ay1 (d:bZ):Option qG:=cond (!(fP d [])) (cond (fV d (eU .i64 (bM d) 1)) (bJ (SE (bY d (eU .i64 (bM d) 1))) fun e=>a6 ((bV e.1 1),())) a7)<|some (false,())
def aCQ:Sum:=⟨[.str],LG,fun x=>ay1 x.1⟩
noncomputable def aIK:Env:=iO prog tt 25 [(44,amQ)] [] []
theorem arY:eF aIK:=eA Tryz.f25 (aD uj aN)
theorem axy:dR prog 25 aCQ:=sA arY
def aLV (d e:Du):Option Dc:=a6 ((eU .i64 d.2.1 e.2.1),())
def aKw:Sum:=⟨[VY,VY],Vl,fun x=>aLV x.1 x.2.1⟩
noncomputable def aIL:Env:=iO prog tt 27 [] [] []
theorem arZ:eF aIL:=eA Tryz.f27 aN
theorem aKx:dR prog 27 aKw:=sA arZ
noncomputable def b10:Code:=(f10.body).getD .skip
noncomputable def agb:Code:=(f40.body).getD .skip
noncomputable def ac4:Code:=cA (cA (cB (agb)))
def aec:eQ:=⟨[0,1,5,6,7,41000001],[],[],[],[],[]⟩
def aEq:eQ:=⟨[2,4,7,8],[],[],[],[],[]⟩
def aEl:eQ:=⟨[2,4,7,8],[],[],[],[],[]⟩
def aox:eQ:=⟨[0,1,4,5,6,7],[],[],[],[],[]⟩
def Kz:SQ:=⟨us [.yld 1700025,d7,.u,.u,.u,eR,bR,bR] 24,[ck,[.yld 1700025],bN],ca⟩
def Nb:SQ:=⟨us [] 32,[ck,[.yld 1700025],bN],ca⟩
def Nk:SQ:=⟨us [] 32,[ck,[.yld 1700025],bN],[]⟩
def Gm {z:Type} (v:(List gJ)->Int->Int->(List gJ)->(List oH)->(List gm)->(List gm)->Int->Dx->Bool->(List Du)->Int->(List uk)->Option z) (A:(List gJ)->(List oH)->(List gm)->(List gm)->Int->Dx->Bool->(List Du)->Int->(List uk)->Option z) (D:Option z) (e:List gJ) (o d:Int) (g:List gJ) (i:List oH) (f p:List gm) (q:Int) (s:Dx) (u:Bool) (j:List Du) (x:Int) (y:List uk):Option z:=cond (gY d o) (cond (fV e d) (cond (bV (dJ e (0,(0,(0,(0,())))) d).1 7) (cond (fV g (dJ e (0,(0,(0,(0,())))) d).2.2.2.1) (cond (bV (dJ g (0,(0,(0,(0,())))) (dJ e (0,(0,(0,(0,())))) d).2.2.2.1).1 5) (cond (bV (lU i (dJ e (0,(0,(0,(0,())))) d).2.2.2.1) 2) (v e o (dw .i64 d 1) g i f p q s u j x y)<|cond (fV f (dJ e (0,(0,(0,(0,())))) d).2.1) (bJ (atf x y (dJ f (0,([],(0,(0,())))) (dJ e (0,(0,(0,(0,())))) d).2.1).2.1) fun l=>cond (!l.2.2.1) (v e o (dw .i64 d 1) g (lH i (dJ e (0,(0,(0,(0,())))) d).2.2.2.1 2) f p q s u j l.1.1 l.1.2.1)<|cond (fV f (dJ e (0,(0,(0,(0,())))) d).2.1) (cond (fV f (dJ e (0,(0,(0,(0,())))) d).2.1) (cond (lZ Vk f f) (cond (bV (dJ e (0,(0,(0,(0,())))) d).2.1 (dJ e (0,(0,(0,(0,())))) d).2.1) (cond (fV f (dJ e (0,(0,(0,(0,())))) d).2.1) (cond ((bV (dJ f (0,([],(0,(0,())))) (dJ e (0,(0,(0,(0,())))) d).2.1).1 (dJ f (0,([],(0,(0,())))) (dJ e (0,(0,(0,(0,())))) d).2.1).1)&&((fP (dJ f (0,([],(0,(0,())))) (dJ e (0,(0,(0,(0,())))) d).2.1).2.1 (dJ f (0,([],(0,(0,())))) (dJ e (0,(0,(0,(0,())))) d).2.1).2.1)&&((bV (dJ f (0,([],(0,(0,())))) (dJ e (0,(0,(0,(0,())))) d).2.1).2.2.1 (dJ f (0,([],(0,(0,())))) (dJ e (0,(0,(0,(0,())))) d).2.1).2.2.1)&&((bV (dJ f (0,([],(0,(0,())))) (dJ e (0,(0,(0,(0,())))) d).2.1).2.2.2.1 (dJ f (0,([],(0,(0,())))) (dJ e (0,(0,(0,(0,())))) d).2.1).2.2.2.1)&&true)))) (cond (bV (dJ f (0,([],(0,(0,())))) (dJ e (0,(0,(0,(0,())))) d).2.1).2.2.1 (dJ f (0,([],(0,(0,())))) (dJ e (0,(0,(0,(0,())))) d).2.1).2.2.1) (cond (bV (dJ f (0,([],(0,(0,())))) (dJ e (0,(0,(0,(0,())))) d).2.1).2.2.1 (dJ f (0,([],(0,(0,())))) (dJ e (0,(0,(0,(0,())))) d).2.1).2.2.1) (cond (lZ Vk f f) (cond (bV (dJ e (0,(0,(0,(0,())))) d).2.1 (dJ e (0,(0,(0,(0,())))) d).2.1) (cond (fV f (dJ e (0,(0,(0,(0,())))) d).2.1) (cond ((bV (dJ f (0,([],(0,(0,())))) (dJ e (0,(0,(0,(0,())))) d).2.1).1 (dJ f (0,([],(0,(0,())))) (dJ e (0,(0,(0,(0,())))) d).2.1).1)&&((fP (dJ f (0,([],(0,(0,())))) (dJ e (0,(0,(0,(0,())))) d).2.1).2.1 (dJ f (0,([],(0,(0,())))) (dJ e (0,(0,(0,(0,())))) d).2.1).2.1)&&((bV (dJ f (0,([],(0,(0,())))) (dJ e (0,(0,(0,(0,())))) d).2.1).2.2.1 (dJ f (0,([],(0,(0,())))) (dJ e (0,(0,(0,(0,())))) d).2.1).2.2.1)&&((bV (dJ f (0,([],(0,(0,())))) (dJ e (0,(0,(0,(0,())))) d).2.1).2.2.2.1 (dJ f (0,([],(0,(0,())))) (dJ e (0,(0,(0,(0,())))) d).2.1).2.2.2.1)&&true)))) (cond (bV (dJ f (0,([],(0,(0,())))) (dJ e (0,(0,(0,(0,())))) d).2.1).2.2.2.1 (dJ f (0,([],(0,(0,())))) (dJ e (0,(0,(0,(0,())))) d).2.1).2.2.2.1) (cond (bV (dJ f (0,([],(0,(0,())))) (dJ e (0,(0,(0,(0,())))) d).2.1).2.2.2.1 (dJ f (0,([],(0,(0,())))) (dJ e (0,(0,(0,(0,())))) d).2.1).2.2.2.1) (cond (dY (bT j [(6,((dJ f (0,([],(0,(0,())))) (dJ e (0,(0,(0,(0,())))) d).2.1).2.2.1,((dJ f (0,([],(0,(0,())))) (dJ e (0,(0,(0,(0,())))) d).2.1).2.2.2.1,(false,()))))]) 32) (cond (lZ Vk f f) (cond (bV (dJ e (0,(0,(0,(0,())))) d).2.1 (dJ e (0,(0,(0,(0,())))) d).2.1) (cond (fV f (dJ e (0,(0,(0,(0,())))) d).2.1) (cond ((bV (dJ f (0,([],(0,(0,())))) (dJ e (0,(0,(0,(0,())))) d).2.1).1 (dJ f (0,([],(0,(0,())))) (dJ e (0,(0,(0,(0,())))) d).2.1).1)&&((fP (dJ f (0,([],(0,(0,())))) (dJ e (0,(0,(0,(0,())))) d).2.1).2.1 (dJ f (0,([],(0,(0,())))) (dJ e (0,(0,(0,(0,())))) d).2.1).2.1)&&((bV (dJ f (0,([],(0,(0,())))) (dJ e (0,(0,(0,(0,())))) d).2.1).2.2.1 (dJ f (0,([],(0,(0,())))) (dJ e (0,(0,(0,(0,())))) d).2.1).2.2.1)&&((bV (dJ f (0,([],(0,(0,())))) (dJ e (0,(0,(0,(0,())))) d).2.1).2.2.2.1 (dJ f (0,([],(0,(0,())))) (dJ e (0,(0,(0,(0,())))) d).2.1).2.2.2.1)&&true)))) (cond (bV (dJ f (0,([],(0,(0,())))) (dJ e (0,(0,(0,(0,())))) d).2.1).2.2.1 (dJ f (0,([],(0,(0,())))) (dJ e (0,(0,(0,(0,())))) d).2.1).2.2.1) (cond (bV (dJ f (0,([],(0,(0,())))) (dJ e (0,(0,(0,(0,())))) d).2.1).2.2.1 (dJ f (0,([],(0,(0,())))) (dJ e (0,(0,(0,(0,())))) d).2.1).2.2.1) (cond (lZ Vk f f) (cond (bV (dJ e (0,(0,(0,(0,())))) d).2.1 (dJ e (0,(0,(0,(0,())))) d).2.1) (cond (fV f (dJ e (0,(0,(0,(0,())))) d).2.1) (cond ((bV (dJ f (0,([],(0,(0,())))) (dJ e (0,(0,(0,(0,())))) d).2.1).1 (dJ f (0,([],(0,(0,())))) (dJ e (0,(0,(0,(0,())))) d).2.1).1)&&((fP (dJ f (0,([],(0,(0,())))) (dJ e (0,(0,(0,(0,())))) d).2.1).2.1 (dJ f (0,([],(0,(0,())))) (dJ e (0,(0,(0,(0,())))) d).2.1).2.1)&&((bV (dJ f (0,([],(0,(0,())))) (dJ e (0,(0,(0,(0,())))) d).2.1).2.2.1 (dJ f (0,([],(0,(0,())))) (dJ e (0,(0,(0,(0,())))) d).2.1).2.2.1)&&((bV (dJ f (0,([],(0,(0,())))) (dJ e (0,(0,(0,(0,())))) d).2.1).2.2.2.1 (dJ f (0,([],(0,(0,())))) (dJ e (0,(0,(0,(0,())))) d).2.1).2.2.2.1)&&true)))) (cond (bV (dJ f (0,([],(0,(0,())))) (dJ e (0,(0,(0,(0,())))) d).2.1).2.2.2.1 (dJ f (0,([],(0,(0,())))) (dJ e (0,(0,(0,(0,())))) d).2.1).2.2.2.1) (cond (bV (dJ f (0,([],(0,(0,())))) (dJ e (0,(0,(0,(0,())))) d).2.1).2.2.2.1 (dJ f (0,([],(0,(0,())))) (dJ e (0,(0,(0,(0,())))) d).2.1).2.2.2.1) (cond ((bV 6 6)&&((bV (dJ f (0,([],(0,(0,())))) (dJ e (0,(0,(0,(0,())))) d).2.1).2.2.1 (dJ f (0,([],(0,(0,())))) (dJ e (0,(0,(0,(0,())))) d).2.1).2.2.1)&&((bV (dJ f (0,([],(0,(0,())))) (dJ e (0,(0,(0,(0,())))) d).2.1).2.2.2.1 (dJ f (0,([],(0,(0,())))) (dJ e (0,(0,(0,(0,())))) d).2.1).2.2.2.1)&&((jA false false)&&true)))) (bJ (ay1 l.2.1) fun B=>cond B.1 (v e o (dw .i64 d 1) g (lH (lH i (dJ e (0,(0,(0,(0,())))) d).2.2.2.1 2) (dJ e (0,(0,(0,(0,())))) d).2.2.2.1 1) f p q s u (bT j [(6,((dJ f (0,([],(0,(0,())))) (dJ e (0,(0,(0,(0,())))) d).2.1).2.2.1,((dJ f (0,([],(0,(0,())))) (dJ e (0,(0,(0,(0,())))) d).2.1).2.2.2.1,(false,()))))]) l.1.1 l.1.2.1)<|v e o (dw .i64 d 1) g (lH i (dJ e (0,(0,(0,(0,())))) d).2.2.2.1 2) f p q s u (bT j [(6,((dJ f (0,([],(0,(0,())))) (dJ e (0,(0,(0,(0,())))) d).2.1).2.2.1,((dJ f (0,([],(0,(0,())))) (dJ e (0,(0,(0,(0,())))) d).2.1).2.2.2.1,(false,()))))]) l.1.1 l.1.2.1) a7) a7) a7) a7) a7) a7) a7) a7) a7) a7) a7) a7) a7) a7) a7) a7) a7) a7) a7) a7) a7) a7) a7) a7) a7) a7) a7) a7) a7)<|v e o (dw .i64 d 1) g i f p q s u j x y) a7)<|v e o (dw .i64 d 1) g i f p q s u j x y) a7)<|A g i f p q s u j x y
def vG:Nat->(List gJ)->Int->Int->(List gJ)->(List oH)->(List gm)->(List gm)->Int->Dx->Bool->(List Du)->Int->(List uk)->Option (Nb.den⊕Nk.den)
 |0,_,_,_,_,_,_,_,_,_,_,_,_,_=>a7
 |n+1,d,e,f,g,i,j,l,o,p,q,s,u,v=>Gm (vG n) (fun x y z A B D E G I J=>a6 (.inl ((),((),(),(),()),((),(x,()),(),y,(z,()),A,(B,D,E,()),(),G,(),(I,()),J,())))) (a6 (.inr ((),((),(),(),()),()))) d e f g i j l o p q s u v
def aoK (n:Nat) (v:Kz.den):=bA (vG n) v
noncomputable def WY:dE:=fG aec Kz Nb Nk (.exit 0) (aoK bQ) 6
def atc (j:Int) (l:List uk) (g:bZ):Option ((Int×(List uk)×Unit)×((List Du)×Unit)):=bJ (aoe g) fun e=>bJ (aof g e.1) fun i=>bJ (aog i.1) fun f=>bJ (vG bQ f.1 (bM f.1) 0 f.1 [] i.1 [] e.2.1.1 e.2.1.2.1 e.2.1.2.2.1 [] j l) fun o=>dW o (fun d=>cond ((ab8 d.2.2.2.2.2.2.2.2.2.2.1)&&(dY d.2.2.2.2.2.2.2.2.2.2.1 64)) (a6 ((d.2.2.2.2.2.2.2.2.2.2.2.2.1.1,(d.2.2.2.2.2.2.2.2.2.2.2.2.2.1,())),(d.2.2.2.2.2.2.2.2.2.2.1,()))) a7) (fun p=>a7)
def aCN:fF:=⟨79,tzG,[.str],[.list VY],fun x y=>atc x.1 x.2.1 y.1⟩
noncomputable def ai9:Env:=gz prog tt [(20,axe),(21,axl),(23,axs),(25,aCQ)] [(40,1,aec),(10,500007,aEq),(10,600004,aEl),(40,600003,aox)] [(40,1,WY)] [10] [(24,axu)]
def Xz {d:Type} (a:Kz.den->Option d) (b:Nb.den->Option d) (c:Nk.den->Option d) (v:Kz.den):Option d:=bA (Gm (fun e f g i j l o p q s u x y=>a ((e,f,g,()),((),(),(),()),((),(i,()),(),j,(l,()),o,(p,q,s,()),(),u,(),(x,()),y,()))) (fun z A B D E G I J K L=>b ((),((),(),(),()),((),(z,()),(),A,(B,()),D,(E,G,I,()),(),J,(),(K,()),L,()))) (c ((),((),(),(),()),()))) v
theorem aoS:dV ai9 40 ac4 WY:=lg (Xz) (h2:=by intros;simp only[Xz,bA,Gm,dh,di,bI,cZ,dm])
theorem aJE:jC b10=[]:=by kernel_rfl
theorem aKk:jU b10=[(cA (cA (cB (cA (cB (cB (cB (cB (b10)))))))),cB (cA (cB (cA (cB (cB (cB (cB (b10)))))))))]:=by kernel_rfl
theorem aJK:dO ai9 10 b10:=tK b10 (by rw[aKk];exact(aD (fun _=>(show qK 10 7=a6 (cA (cA (cB (cA (cB (cB (cB (cB (b10)))))))),cB (cA (cB (cA (cB (cB (cB (cB (b10))))))))) by kernel_rfl)) aN)) (by rw[aJE];exact aN)
theorem auD:dO ai9 40 agb:=nM [ac4] (aD (fM (aoS)) aN)
theorem arJ:eF ai9:=eB (aD afD (aD afE (aD afF (aD axy aN)))) [10,40] (aD ⟨f10,b10,by kernel_rfl,by kernel_rfl,aJK⟩ (aD ⟨f40,agb,by kernel_rfl,by kernel_rfl,auD⟩ aN)) (hx:=(aD afG aN))
theorem awM:dL prog 10 aCN:=sB arJ
noncomputable def b12:Code:=(f12.body).getD .skip
noncomputable def aBM:Code:=cA (cA (cB (cA (cB (cB (cB (b12)))))))
def aCf:eQ:=⟨[0,1,6,7,14,15,16,100004],[(6,(.int .u8))],[1,6,7],[],[4,5],[]⟩
def ak3:SQ:=⟨us [co,bO,.u,.u,.u,.u,.slc 1800006,bR,.u,.u,.u,.u,.u,.u,eM,bR,bR] 39,c6,[.arr 1800006 (.int .u8),cP,eS]⟩
def ahG:SQ:=⟨us [.u,bO,.u,.u,.u,.u,.slc 1800006,bR] 48,c6,[.arr 1800006 (.int .u8),cP,eS]⟩
def ah1:SQ:=⟨us [.u,.u,.u,.u,bO,bR] 50,c6,[cP,eS]⟩
def acb {l:Type} (s:bZ->Int->(List Du)->Int->Int->jg->Int->(List uk)->Option l) (u:bZ->Int->jg->Int->(List uk)->Option l) (v:bZ->Int->Int->(List uk)->Option l) (f:bZ) (i:Int) (e:List Du) (o d:Int) (j:jg) (p:Int) (q:List uk):Option l:=cond (gY d o) (cond (fV e d) (cond (fH (bM f) (dJ e (0,(0,(0,(false,())))) d).2.1 (dJ e (0,(0,(0,(false,())))) d).2.2.1) (bJ (atf p q (sub f (dJ e (0,(0,(0,(false,())))) d).2.1 (dJ e (0,(0,(0,(false,())))) d).2.2.1)) fun g=>cond (fH (bM f) i (dJ e (0,(0,(0,(false,())))) d).2.1) (cond (dY (bT j (dA (sub f i (dJ e (0,(0,(0,(false,())))) d).2.1))) 1) (cond (dY (bT (bT j (dA (sub f i (dJ e (0,(0,(0,(false,())))) d).2.1))) (dA g.2.1)) 1) (cond (gY 1048576 (bM (bT (bT j (dA (sub f i (dJ e (0,(0,(0,(false,())))) d).2.1))) (dA g.2.1)))) (v [] 2 g.1.1 g.1.2.1)<|s f (dJ e (0,(0,(0,(false,())))) d).2.2.1 e o (dw .i64 d 1) (bT (bT j (dA (sub f i (dJ e (0,(0,(0,(false,())))) d).2.1))) (dA g.2.1)) g.1.1 g.1.2.1) a7) a7) a7) a7) a7)<|u f i j p q
def MH:Nat->bZ->Int->(List Du)->Int->Int->jg->Int->(List uk)->Option (ahG.den⊕ah1.den)
 |0,_,_,_,_,_,_,_,_=>a7
 |n+1,d,e,f,g,i,j,l,o=>acb (MH n) (fun p q s u v=>a6 (.inl ((p,q,()),((),()),(s,(u,()),v,())))) (fun x y z A=>a6 (.inr ((x,y,()),((),()),((z,()),A,())))) d e f g i j l o
def aFd (n:Nat) (v:ak3.den):=MH n v.1.1 v.1.2.1 v.1.2.2.1 v.1.2.2.2.1 v.1.2.2.2.2.1 v.2.2.1 v.2.2.2.1.1 v.2.2.2.2.1
noncomputable def auR:dE:=fG aCf ak3 ahG ah1 (.exit 0) (aFd bQ) 6
def aod (i:Int) (j:List uk) (g:bZ):Option ((Int×(List uk)×Unit)×(bZ×Int×Unit)):=bJ (atc i j g) fun e=>bJ (MH bQ g 0 e.2.1 (bM e.2.1) 0 [] e.1.1 e.1.2.1) fun l=>dW l (fun d=>cond (fH (bM d.1.1) d.1.2.1 (bM d.1.1)) (cond (dY (bT d.2.2.1 (dA (sub d.1.1 d.1.2.1 (bM d.1.1)))) 1) (cond (gY 1048576 (bM (bT d.2.2.1 (dA (sub d.1.1 d.1.2.1 (bM d.1.1)))))) (a6 ((d.2.2.2.1.1,(d.2.2.2.2.1,())),([],(2,()))))<|some ((d.2.2.2.1.1,(d.2.2.2.2.1,())),((ofBytes (bT d.2.2.1 (dA (sub d.1.1 d.1.2.1 (bM d.1.1))))),(0,())))) a7) a7) (fun f=>a6 ((f.2.2.1.1,(f.2.2.2.1,())),(f.1.1,(f.1.2.1,()))))
def awT:fF:=⟨79,tzG,[.str],[.str,dC],fun x y=>aod x.1 x.2.1 y.1⟩
noncomputable def arK:Env:=gz prog tt [] [(12,4,aCf)] [(12,4,auR)] [] [(24,axu),(10,aCN)]
def avV {d:Type} (a:ak3.den->Option d) (b:ahG.den->Option d) (c:ah1.den->Option d) (v:ak3.den):Option d:=acb (fun e f g i j l o p=>a ((e,f,g,i,j,()),((),()),(l,(o,()),p,()))) (fun q s u x y=>b ((q,s,()),((),()),(u,(x,()),y,()))) (fun z A B D=>c ((z,A,()),((),()),((B,()),D,()))) v.1.1 v.1.2.1 v.1.2.2.1 v.1.2.2.2.1 v.1.2.2.2.2.1 v.2.2.1 v.2.2.2.1.1 v.2.2.2.2.1
theorem aFH:dV arK 12 aBM auR:=lg (avV) (h2:=by intros;simp only[avV,acb,dh,di,bI,cZ,dm])
theorem aJL:dO arK 12 b12:=nM [aBM] (aD (fM (aFH)) aN)
theorem arL:eF arK:=eB aN [12] (aD ⟨f12,b12,by kernel_rfl,by kernel_rfl,aJL⟩ aN) (hx:=(aD afG (aD awM aN)))
theorem afA:dL prog 12 awT:=sB arL
def ayZ (d:bZ):Option qG:=cond (gY 0 (bM d)) (cond (fV d (eU .i64 (bM d) 1)) (cond (bV (bY d (eU .i64 (bM d) 1)) 32) (a6 (true,()))<|cond (fV d (eU .i64 (bM d) 1)) (a6 ((bV (bY d (eU .i64 (bM d) 1)) 9),())) a7) a7)<|some (false,())
def aCP:Sum:=⟨[.str],LG,fun x=>ayZ x.1⟩
noncomputable def aIH:Env:=iO prog tt 16 [] [] []
theorem arQ:eF aIH:=eA f16 aN
theorem aw7:dR prog 16 aCP:=sA arQ
end
section
open Bool renaming not_true → ax, and_true → ay, not_false → az
open Int renaming toNat_natCast → aV
open List renaming append_assoc → ai, length_append → aj, drop_eq_getElem_cons → aA, nil_append → aF, length_cons → aG, length_drop → aP, drop_zero → aS, getElem_mem → aX, drop_eq_nil_of_le → bi
open Nat renaming le_refl → ae, le_trans → aI
open Go.RowKit
def vX (v:bZ):Bool:=lW ((v.getLastD 0).toNat:Int)
theorem last_at {v:List UInt8} (h:v≠[]):bY v (eU .i64 (bM v) 1)=((v.getLastD 0).toNat:Int)\/ ¬v.length<=1000000:=by
 by_cases hl:v.length<=1000000
 .left;have d:0<v.length:=List.length_pos_iff.2 h;rw[bP,iW,show(v.length:Int)-1=((v.length-1:Nat):Int) by omega,byte_at (by omega)];congr 2;cases v with
  |nil=>exact absurd rfl h
  |cons a r=>rw[List.getLastD_eq_getLast?,List.getLast?_eq_getElem?];simp
 .exact .inr hl
theorem aLQ {v:List UInt8} (i:v.length<=1000000):ay1 v=some (vX v,()):=by
 rw[ay1];by_cases h:v=[]
 .subst h;rfl
 .have j:0<v.length:=List.length_pos_iff.2 h;have d:=(last_at h).resolve_right (by omega);have e:fV v (eU .i64 (bM v) 1)=true:=by
   rw[bP,iW];exact eu
  obtain⟨k,f,g,_⟩:=aAv (b:=((v.getLastD 0).toNat:Int)) ⟨by omega,by have:=(v.getLastD 0).toNat_lt;omega⟩;rw[uu h,az,aa,e,aa,d,f,bI];simp only[g];rfl
def azm (T:List o9) (F:List Lf) (x:List oH×List Tok) (d:Nd):List oH×List Tok:=
 if lU x.1 d.2.2.2.1=2 then x else match jQ (dJ F dLf d.2.1).2.1 T with
  |none=>(lH x.1 d.2.2.2.1 2,x.2)
  |some v=>(if vX v=true then lH (lH x.1 d.2.2.2.1 2) d.2.2.2.1 1 else lH x.1 d.2.2.2.1 2,x.2++[(6,((dJ F dLf d.2.1).2.2.1,((dJ F dLf d.2.1).2.2.2.1,(false,()))))])
def ad6 (L:List Nd) (d:Nd):Prop:=d.1=7/\(dJ L dNd d.2.2.2.1).1=5
instance (L:List Nd) (d:Nd):Decidable (ad6 L d):=by unfold ad6;infer_instance
def GR (T:List o9) (F:List Lf) (L:List Nd) (x:List oH×List Tok) (d:Nd):List oH×List Tok:=if ad6 L d then azm T F x d else x
theorem atA (T:List o9) (F:List Lf) (L:List Nd) (x:List oH×List Tok) (d:Nd):(GR T F L x d).2.length<=x.2.length+1:=by
 unfold GR;split
 .unfold azm;split
  .omega
  .split<;>simp
 .omega
structure aDp (L:List Nd) (F:List Lf):Prop where
 len:L.length<=1000000
 up: ∀d∈L,d.1=7->0<=d.2.2.2.1/\d.2.2.2.1<L.length
 at_: ∀d∈L,ad6 L d->0<=d.2.1/\d.2.1<F.length
theorem aLY {L:List Nd} {m:Nat} (h:m<L.length):dJ L dNd (m:Int)=L[m]:=by
 grind [dJ]
theorem aLT (F:List Lf):lZ Vk F F=true:=iF _ _
theorem WT {n b:Nat} {T:List o9} {a:Nat} (hT:Tab n a b T) (j:n<=10000) (hb:b<=10000) {L:List Nd} {F:List Lf} (hF:aDp L F) (g:List Lf) (p:Int) (q:List Dlm) (r:Bool) (c:Int):
  ∀(N i:Nat) (x:List oH×List Tok),L.length-i<N->i<=L.length->x.2.length<=i->
  vG N L (L.length:Int) (i:Int) L x.1 F g p q r x.2 c T=
   some (.inl ((),((),(),(),()),((),(L,()),(),((L.drop i).foldl (GR T F L) x).1,(F,()),g,(p,q,r,()),(),((L.drop i).foldl (GR T F L) x).2,(),(c,()),T,())))
 |0,i,x,h,_,_=>by omega
 |N+1,i,x,h,J,l=>by
  have K:=hF.len;have M:T.length<=10000:=aI hT.2.1.1 j;rw[vG,Gm];by_cases e:i<L.length
  .have hd:=aA e;have o:L[i]∈L:=aX e;have d:=fun y=>WT hT j hb hF g p q r c N (i+1) y (by omega) (by omega);have u:fV L (i:Int)=true:=eu;have z:dJ L (0,(0,(0,(0,())))) (i:Int)=L[i]:=aLY e;simp only[u,z];rw[hd,List.foldl_cons,cO (fO),aa,dI,show(i:Int)+1=((i+1:Nat):Int) by omega];by_cases h7:L[i].1=7
   .obtain⟨A,B⟩:=hF.up _ o h7;rw[gq h7,aa,cO (eu A B)];by_cases h5:(dJ L dNd L[i].2.2.2.1).1=5
    .have f:ad6 L L[i]:=⟨h7,h5⟩;obtain⟨D,k1⟩:=hF.at_ _ o f;have E:fV F L[i].2.1=true:=eu D k1;have G:dJ F (0,([],(0,(0,())))) L[i].2.1=dJ F dLf L[i].2.1:=rfl;rw[show dJ L (0,(0,(0,(0,())))) L[i].2.2.2.1=dJ L dNd L[i].2.2.2.1 from rfl,gq h5,aa];unfold GR;rw[am f];unfold azm;by_cases h2:lU x.1 L[i].2.2.2.1=2
     .rw[gq h2,aa,am h2];exact d x (by omega)
     .rw[dZ h2,ac,aq h2];simp only[E,G,aa,aLT,fJ,kW,iC,ay,Bool.and_self];rw[aCe hT.1 (by omega),bI];simp only;cases hgt:jQ (dJ F dLf L[i].2.1).2.1 T with
      |none=>exact d (_,_) (Nat.le_succ_of_le l)
      |some v=>
       have O:=ajQ hT hgt;have I: ∀y:Tok,dY (bT x.2 [y]) 32=true:=fun y=>lN (aI (Nat.mul_le_mul_right 32 (show(bT x.2 [y]).length<=i+1 from by rw[show(bT x.2 [y]).length=x.2.length+1 from aj];exact Nat.succ_le_succ l)) (by omega));simp only[Option.isSome_some,ax,ac,I,aa,Option.getD_some];rw[aLQ (by omega),bI];simp only;have s:(x.2++[((6:Int),((dJ F dLf L[i].2.1).2.2.1,((dJ F dLf L[i].2.1).2.2.2.1,(false,()))))]).length<=i+1:=by simp;omega
       cases hbl:vX v with
       |true=>exact d (_,_) s
       |false=>exact d (_,_) s
    .have f: ¬ad6 L L[i]:=fun h=>h5 h.2;rw[show dJ L (0,(0,(0,(0,())))) L[i].2.2.2.1=dJ L dNd L[i].2.2.2.1 from rfl,dZ h5,ac];unfold GR;rw[aq f];exact d x (by omega)
   .have f: ¬ad6 L L[i]:=fun h=>h7 h.1;rw[dZ h7,ac];unfold GR;rw[aq f];exact d x (by omega)
  .rw[bi (by omega),dN (jh)];rfl
def WS (T:List o9) (F:List Lf) (L:List Nd):List Tok:=(L.foldl (GR T F L) ([],[])).2
theorem adU (T:List o9) (F:List Lf) (L:List Nd): ∀(l:List Nd) (x:List oH×List Tok),(l.foldl (GR T F L) x).2.length<=x.2.length+l.length
 |[],x=>ae _
 |d::l,x=>by
  have e:=adU T F L l (GR T F L x d);have f:=atA T F L x d;rw[List.foldl_cons,aG];omega
theorem aDq {n b:Nat} {T:List o9} {a:Nat} (hT:Tab n a b T) (e:n<=10000) (hb:b<=10000) {s:List UInt8} {F:List Lf} {L:List Nd} {t:List Tok} {x:Vs} (f:aoe s=some (t,(x,()))) (h2:aof s t=some (F,())) (g:aog F=some (L,()))
  (hF:aDp L F) (hr:ab8 (WS T F L)=true) (c:Int):atc c T s=some ((c,(T,())),(WS T F L,())):=by
 have d:=WT hT e hb hF [] x.1 x.2.1 x.2.2.1 c bQ 0 ([],[]) (dX (by have:=hF.len;omega)) (by omega) (ae _);have hl:=adU T F L L ([],[]);have i:=hF.len;rw[aS]at d;rw[atc,f,bI];simp only;rw[h2,bI];simp only;rw[g,bI];simp only;rw[show vG bQ L (bM L) 0 L [] F [] x.1 x.2.1 x.2.2.1 [] c T=_ from d,bI];simp only[dW];rw[show(L.foldl (GR T F L) ([],[])).2=WS T F L from rfl,hr,lN (by unfold WS;simp at hl;omega)];rfl
def Dn (T:List o9) (s:bZ):Nat->List Tok->bZ
 |at_,[]=>s.drop at_
 |at_,h::r=>(s.take h.2.1.toNat).drop at_++(jQ (sub s h.2.1 h.2.2.1) T).getD []++Dn T s h.2.2.1.toNat r
def Jh (s:bZ):Nat->List Tok->Prop
 |at_,[]=>at_<=s.length
 |at_,h::r=>(at_:Int)<=h.2.1/\h.2.1<=h.2.2.1/\h.2.2.1<=s.length/\Jh s h.2.2.1.toNat r
theorem att {n b:Nat} {T:List o9} {a:Nat} (hT:Tab n a b T) (k:bZ):((jQ k T).getD []).length<=b:=by
 cases h:jQ k T with
 |none=>simp
 |some v=>exact ajQ hT h
theorem Xh {n b:Nat} {T:List o9} {a:Nat} (hT:Tab n a b T) (p:n<=10000) {s:List UInt8} {H:List Tok} (v:s.length<=10000) (x:H.length*b<=100000) (z:H.length<=100000) (c:Int):
  ∀(N i at_:Nat) (o:bZ),H.length-i<N->i<=H.length->Jh s at_ (H.drop i)->o.length<=s.length+i*b->o.length<=at_+i*b->
  ∃(d:Nat) (o':bZ),MH N s (at_:Int) H (H.length:Int) (i:Int) (dA o) c T=some (.inl ((s,(d:Int),()),((),()),(dA o',(c,()),T,())))/\d<=s.length/\o'.length<=d+H.length*b/\o'++s.drop d=o++Dn T s at_ (H.drop i)
 |0,i,at_,o,h,_,_,_,_=>by omega
 |N+1,i,at_,o,h,V,j,W,A=>by
  have X:T.length<=10000:=aI hT.2.1.1 p;rw[MH,acb];by_cases e:i<H.length
  .have hd:=aA e;rw[hd]at j ⊢;obtain⟨g1,g2,g3,g4⟩:=j;obtain⟨f,Y⟩:=Int.eq_ofNat_of_zero_le (show 0<=H[i].2.1 by omega);obtain⟨t,l⟩:=Int.eq_ofNat_of_zero_le (show 0<=H[i].2.2.1 by omega);have B:dJ H (0,(0,(0,(false,())))) (i:Int)=H[i]:=by grind [dJ]
   have Z:=att hT (sub s H[i].2.1 H[i].2.2.1);have ab:(i+1)*b<=H.length*b:=Nat.mul_le_mul_right b (by omega);have ad:(i+1)*b=i*b+b:=Nat.succ_mul i b;simp only[B];rw[cO (fO),cO (eu),cO (gu (by omega) (by omega) (by rw[bP];omega)),aCe hT.1 (by omega),bI];simp only;have D:sub s (at_:Int) H[i].2.1=(s.take H[i].2.1.toNat).drop at_:=by simp[sub]
   have g:((s.take H[i].2.1.toNat).drop at_).length=f-at_:=by
    have E:f<=s.length:=by omega
    have G:H[i].2.1.toNat=f:=by omega
    rw[G,aP,List.length_take,Nat.min_eq_left E]
   have d:bT (dA o) (dA ((s.take H[i].2.1.toNat).drop at_))=dA (o++(s.take H[i].2.1.toNat).drop at_):=mZ _ _;have I: ∀y:bZ,bT (dA (o++(s.take H[i].2.1.toNat).drop at_)) (dA y)=dA (o++(s.take H[i].2.1.toNat).drop at_++y):=fun y=>mZ _ _;rw[cO (gu (by omega) (by omega) (by rw[bP];omega)),D,d,I,cO (xG (by rw[aj,g];omega)),cO (xG (by rw[aj,aj,g];omega)),dN (jh (by rw[bP,QS,aj,aj,g];omega)),dI,show(i:Int)+1=((i+1:Nat):Int) by omega,l];have J:Jh s t (H.drop (i+1)):=by rw[l]at g4;exact g4
   obtain⟨K,L,q,M,O,u⟩:=Xh hT p v x z c N (i+1) t (o++(s.take H[i].2.1.toNat).drop at_++(jQ (sub s H[i].2.1 H[i].2.2.1) T).getD []) (by omega) (by omega) J (by rw[aj,aj,g];omega) (by rw[aj,aj,g];omega);rw[l]at q u;refine⟨K,L,q,M,O, ?_⟩;rw[u,Dn,l];simp only[ai,Int.ofNat_eq_natCast,aV]
  .have S:H.drop i=[]:=bi (by omega);rw[S]at j ⊢;have U:i=H.length:=by omega
   rw[dN (jh)];exact⟨at_,o,rfl,j,by rw[<-U];exact A,rfl⟩
theorem aKb (t:bZ):ofBytes (dA t)=t:=BZ t
theorem aDs {n b:Nat} {T:List o9} {a:Nat} (hT:Tab n a b T) (g:n<=10000) {s:List UInt8} {H:List Tok} (i:s.length<=10000) (j:H.length*b<=100000) (l:H.length<=100000) (c:Int) (o:atc c T s=some ((c,(T,())),(H,()))) (p:Jh s 0 H):
  aod c T s=some ((c,(T,())),(Dn T s 0 H,(0,()))):=by
 obtain⟨d,f,q,v,x,e⟩:=Xh hT g i j l c bQ 0 0 [] (dX) (by omega) p (by simp) (by simp);rw[aS,aF]at e;rw[aod,o,bI];simp only;rw[show MH bQ s 0 H (bM H) 0 [] c T=_ from q,bI];simp only[dW];have u:sub s (d:Int) (bM s)=s.drop d:=by simp[sub,bP]
 have y:(s.drop d).length=s.length-d:=by simp
 rw[cO (gu (by omega) (by rw[bP];omega) (Int.le_refl _)),u,show bT (dA f) (dA (s.drop d))=dA (f++s.drop d) from mZ _ _,e,cO (xG (by rw[<-e,aj];omega)),dN (jh (by rw[bP,QS,<-e,aj];omega)),aKb]
end
section
open Int renaming toNat_natCast → aV
open List renaming map_cons → au, nil_append → aF, map_nil → aU, drop_eq_nil_of_le → bi, take_of_length_le → bD
open Go.RowKit
def E8 (d e:bZ):List Lf:=[(6,(d,(0,((d.length:Int),())))),(6,(e,(((d.length+1:Nat):Int),(((d.length+1+e.length:Nat):Int),()))))]
theorem ahk {s w:List UInt8} (us:List bZ) (h:s=qY us++w):iV s (ae7 0 us++[((6,((0+(qY us).length:Nat):Int),((0+(qY us).length+w.length:Nat):Int),false,()):Tok)])=lvW 0 us++[(6,(w,(((qY us).length:Int),(((qY us).length+w.length:Nat):Int),())))]:=by
 have d:=Tu (s:=s) us 0 (w:=w) (by rw[h];rfl);unfold iV at d ⊢;rw[List.filter_append,List.map_append,d,List.filter_cons,am (by rfl),List.filter_nil,au,aU];congr 2;unfold akb;simp only[Nat.zero_add];rw[U1 (s:=s) (l:=w) (m:=[]) (a:=(qY us).length) (by rw[h,List.drop_left,List.append_nil])]
theorem ayd {d e:List UInt8} (g:Wr d) (h2:Wr e) (z:d.length<=100) (A:e.length<=100): ∃t x,aoe (d++32::e)=some (t,(x,()))/\aof (d++32::e) t=some (E8 d e,())/\aog (E8 d e)=some (Vg 2,()):=by
 have i:d++32::e=qY [d]++e:=by simp[qY]
 have j:(d++32::e).length<=10000:=by simp;omega
 have p:=(ake (s:=d++32::e) h2.1 [d] ((d++32::e).length+1) 0 [] (by rw[i];rfl) (fun u q=>by rw[List.mem_singleton.1 q];exact g.1) (by omega)).1;have hT:zV (d++32::e)=_:=p;refine⟨(zV (d++32::e)).1,(zV (d++32::e)).2,aIa j, ?_, ?_⟩
 .rw[aqt j,hT];simp only[aF];rw[ahk [d] i];simp[lvW,qY,E8]
 .have v:Ws (E8 d e):=by
   have ok1:sgn ((6,(d,(0,((d.length:Int),())))):Lf)=120:=NE (by omega) g.2.1 _ _;have ok2:sgn ((6,(e,(((d.length+1:Nat):Int),(((d.length+1+e.length:Nat):Int),())))):Lf)=120:=NE (by omega) h2.2.1 _ _;refine⟨?_,by simp[E8],by simp[E8], ?_, ?_⟩
   .refine⟨by simp[E8],fun f l=> ?_⟩;simp only[E8,List.mem_cons,List.not_mem_nil,or_false]at l;rcases l with rfl|rfl
    .simp only;omega
    .simp only;omega
   .intro a o;simp[E8]at o
    match a,o with
    |0,_=>exact⟨rfl,ok1⟩
    |1,_=>exact⟨rfl,ok2⟩
   .intro _;obtain⟨_,x,y⟩:=g.1;exact aBi y
  have:=aoZ v;exact this
theorem as9 (e f:bZ):aDp (Vg 2) (E8 e f):=by
 refine⟨by decide, ?_, ?_⟩
 .intro d hd g;simp[Vg,Jc]at hd;rcases hd with rfl|rfl|rfl|rfl|rfl|rfl|rfl<;>first|(simp at g;done)|(simp[Vg,Jc])
 .intro d hd i;simp[Vg,Jc]at hd;rcases hd with rfl|rfl|rfl|rfl|rfl|rfl|rfl<;>first|(have:=i.1;simp at this;done)|(simp[E8])
def Y1 (T:List o9) (d e:bZ):List Tok:=match jQ d T with
 |none=>[]
 |some v=>(6,(0,((d.length:Int),(false,()))))::(if vX v=true then(match jQ e T with
  |none=>[]
  |some _=>[(6,(((d.length+1:Nat):Int),(((d.length+1+e.length:Nat):Int),(false,()))))])else [])
theorem adV (T:List o9) (e f:bZ):WS T (E8 e f) (Vg 2)=Y1 T e f:=by
 have k: ∀d:Nd,d.1≠7-> ∀x,GR T (E8 e f) (Vg 2) x d=x:=fun d hd x=>by unfold GR;rw[aq (fun h=>hd h.1)]
 have g: ∀a b:Int,ad6 (Vg 2) (7,(a,(b,(4,())))):=fun a b=>⟨rfl,rfl⟩;have j:dJ (E8 e f) dLf 0=(6,(e,(0,((e.length:Int),())))):=rfl;have l:dJ (E8 e f) dLf 1=(6,(f,(((e.length+1:Nat):Int),(((e.length+1+f.length:Nat):Int),())))):=rfl;have o:lU ([]:List oH) 4=0:=rfl;have i:lU (lH ([]:List oH) 4 2) 4=2:=rfl;have p:lU (lH (lH ([]:List oH) 4 2) 4 1) 4=1:=rfl;have q: ¬((0:Int)=2):=by omega
 have s: ¬((1:Int)=2):=by omega
 unfold WS;rw[show(Vg 2).foldl (GR T (E8 e f) (Vg 2)) ([],[])=([(1,(0,(((2:Nat):Int),(-1,())))),(2,(0,(((2:Nat):Int),(0,())))),(3,(0,(((2:Nat):Int),(1,())))),(4,(0,(((2:Nat):Int),(2,())))),(5,(0,(((2:Nat):Int),(3,())))),(7,(0,(1,(4,())))),(7,(1,(2,(4,()))))]:List Nd).foldl (GR T (E8 e f) (Vg 2)) ([],[]) from rfl];simp only[List.foldl_cons,List.foldl_nil];rw[k (1,_) (by simp),k (2,_) (by simp),k (3,_) (by simp),k (4,_) (by simp),k (5,_) (by simp)];unfold GR Y1;rw[am (g 0 1),am (g 1 2)];unfold azm;simp only[o,j,l,aq q];cases h1:jQ e T with
 |none=>simp only[i,if_true]
 |some v=>
  by_cases hb:vX v=true
  .simp only[am hb,p,aq s];cases jQ f T<;>rfl
  .simp only[aq hb,i,if_true];rfl
theorem aBv (T:List o9) (d e:bZ) (i:d.length<=100):ab8 (Y1 T d e)=true:=by
 have f:leI (0+1) ((d.length+1:Nat):Int)=true:=mW;have g:leI ((d.length+1:Nat):Int) 4611686018427387904=true:=mW;unfold Y1;split
 .rfl
 .split
  .split
   .rfl
   .simp only[ab8,afj,f,g];rfl
  .rfl
def aqd (T:List o9) (e d:bZ):bZ:=match jQ e T with
 |none=>e++32::d
 |some v=>v++32::(if vX v=true then(jQ d T).getD d else d)
theorem acW {n b:Nat} {T:List o9} {a:Nat} (hT:Tab n a b T) (g:n<=10000) (hb:b<=10000) {d e:List UInt8} (o:Wr d) (h2:Wr e) (i:d.length<=100) (p:e.length<=100) (c:Int):
  aod c T (d++32::e)=some ((c,(T,())),(aqd T d e,(0,()))):=by
 obtain⟨t,x,q,s,y⟩:=ayd o h2 i p;have j:=aDq hT g hb q s y (as9 d e) (by rw[adV];exact aBv T d e i) c;rw[adV]at j;have z:(d++32::e).length=d.length+1+e.length:=by simp;omega
 have hk:(Y1 T d e).length<=2:=by
  unfold Y1;split
  .simp
  .split
   .split<;>simp
   .simp
 have A:sub (d++32::e) 0 (d.length:Int)=d:=by simp[sub]
 have B:sub (d++32::e) ((d.length+1:Nat):Int) ((d.length+1+e.length:Nat):Int)=e:=by
  have:(d++32::e).drop (d.length+1)=e++[]:=by simp
  exact U1 this
 have D:Jh (d++32::e) 0 (Y1 T d e):=by
  unfold Y1;split
  .simp[Jh]
  .split
   .split
    .simp[Jh];omega
    .simp[Jh];omega
   .simp[Jh];omega
 rw[aDs hT g (by omega) (by have:=Nat.mul_le_mul_right b hk;omega) (by omega) c j D];congr 3;unfold Y1 aqd;cases hg1:jQ d T with
 |none=>rfl
 |some v=>
  have f: ∀r,Dn T (d++32::e) 0 ((6,(0,((d.length:Int),(false,()))))::r)=v++Dn T (d++32::e) d.length r:=fun r=>by
   rw[Dn];simp only[A,hg1,aV];rfl
  have l:Dn T (d++32::e) d.length []=32::e:=by
   rw[Dn];exact List.drop_left
  have E:Dn T (d++32::e) d.length [(6,(((d.length+1:Nat):Int),(((d.length+1+e.length:Nat):Int),(false,()))))]=32::(jQ e T).getD []:=by
   rw[Dn,Dn];simp only[B,aV];have G:((d++32::e).take (d.length+1)).drop d.length=[32]:=by
    rw[List.take_append,bD (by omega),List.drop_left,show d.length+1-d.length=1 by omega];rfl
   have I:(d++32::e).drop (d.length+1+e.length)=[]:=bi (by rw[z];omega);rw[G,I,List.append_nil];rfl
  by_cases hbl:vX v=true
  .simp only[am hbl];cases hg2:jQ e T with
   |none=>simp only;rw[f,l];rfl
   |some u=>simp only;rw[f,E,hg2];rfl
  .simp only[aq hbl];rw[f,l]
end
section
open Option renaming some → a6, none → a7
open Nat renaming eq_of_beq_eq_true → ah
open Tryz
open Go.RowKit
noncomputable def aIR (sg:FuncId->Option Sum):Env:={P:=prog,T:=tt,cl:=true,kp:=fun _ _=>a7,sg:=sg,lp:=fun _ _=>a7,sb:=ao8 [(18,aw8),(12,awT)],bf:=Ha,em:=DZ,il:=He,sl:=Hf,sc:=CV}
theorem ayP {sg:FuncId->Option Sum} (h: ∀g s,sg g=a6 s->dR prog g s):eF (aIR sg):=⟨tok,mixed,OU,h,fun f fn c _ _=>iZ (fun _=>rfl) (fun _=>rfl) c,afi _ fun f fn c _ _=>iZ (fun _=>rfl) (fun _=>rfl) c,RF,Qp _ (List.forall_mem_cons.2 ⟨afC,List.forall_mem_cons.2 ⟨afA,(fun _ h=>absurd h List.not_mem_nil)⟩⟩)⟩
theorem awt {sg:FuncId->Option Sum} (h: ∀g s,sg g=a6 s->dR prog g s) {f:FuncId} {d:Sum} (i:dR prog f d): ∀g s,(bif Nat.beq g f then a6 d else sg g)=a6 s->dR prog g s:=fun g s e=>by
 rw[cond_eq_ite]at e;split at e
 .rename_i j
  obtain rfl:g=f:=ah j;cases e;exact i
 .exact h g s e
noncomputable def aCE (g:FuncId):Option Sum:=cond (Nat.beq g 20) (a6 axe)<|sg1 g
theorem awq: ∀g s,aCE g=a6 s->dR prog g s:=awt aiv afD
noncomputable def aCF (g:FuncId):Option Sum:=cond (Nat.beq g 21) (a6 axl)<|aCE g
theorem awr: ∀g s,aCF g=a6 s->dR prog g s:=awt awq afE
noncomputable def aCG (g:FuncId):Option Sum:=cond (Nat.beq g 23) (a6 axs)<|aCF g
theorem aws: ∀g s,aCG g=a6 s->dR prog g s:=awt awr afF
theorem am2:UB (aIR aCG) 6 [] LG ()=a6 (true,()):=by kernel_rfl
def U7:Sum:=⟨[],LG,fun _=>a6 (true,())⟩
theorem VX:dR prog 6 U7:=U8 (ayP aws) (by decide) fun x y h=>by
 cases h;exact am2
end
section
open Option renaming some → a6, none → a7
open Tryz
open Go.RowKit
noncomputable def aDO:Code:=(f8.body).getD .skip
noncomputable def arp:Code:=cA (cA (cB (cA (cB (cB (cB (aDO)))))))
def aur:eQ:=⟨[5,12,13,14,9000005],[(300001101,.pair (.list .unit) Py)],[5],[],[4],[]⟩
def aJB:eQ:=⟨[0,1],[],[],[],[],[]⟩
def azy:eQ:=⟨[0,1],[],[],[],[],[]⟩
def aav:SQ:=⟨us [.u,.u,.u,.u,.u,.ptr 3000011 0,.u,.u,.u,.u,.u,.u,.slc 1000034,bR,bR] 11,cj,dt⟩
def aa8:SQ:=⟨us [.u,.u,.u,.u,.u,.ptr 3000011 0] 20,cj,dt⟩
def abO:SQ:=⟨us [] 26,cj,[]⟩
def Lp {f:Type} (v:Int->Int->bZ->bZ->bZ->bZ->uk->(List uk)->Int->(List uk)->Option f) (x:bZ->bZ->bZ->bZ->uk->(List uk)->Int->(List uk)->Option f) (y:bZ->bZ->bZ->bZ->uk->Option f) (g d:Int) (i j l o:bZ) (p:uk) (q:List uk) (s:Int) (e:List uk):Option f:=cond (gY d g) (cond (fV e d) (cond (mi (dD d) e) (bJ (ay0 s q (dK e ([],([],())) (dD d)).1 (dK e ([],([],())) (dD d)).2.1) fun u=>v g (dw .i64 d 1) i j l o p u.1.2.1 u.1.1 e) a7) a7)<|x i j l o p q s e
def BU:Nat->Int->Int->bZ->bZ->bZ->bZ->uk->(List uk)->Int->(List uk)->Option (aa8.den⊕abO.den)
 |0,_,_,_,_,_,_,_,_,_,_=>a7
 |n+1,d,e,f,g,i,j,l,o,p,q=>Lp (BU n) (fun s u v x y z A B=>a6 (.inl ((),((s,u,v,x,y,()),(),()),(z,(A,()),B,())))) (fun D E G I J=>a6 (.inr ((),((D,E,G,I,J,()),(),()),()))) d e f g i j l o p q
def aAi (n:Nat) (v:aav.den):=BU n v.1.1 v.1.2.1 v.2.1.1.1 v.2.1.1.2.1 v.2.1.1.2.2.1 v.2.1.1.2.2.2.1 v.2.1.1.2.2.2.2.1 v.2.2.1 v.2.2.2.1.1 v.2.2.2.2.1
noncomputable def akS:dE:=fG aur aav aa8 abO (.exit 0) (aAi bQ) 6
def fn5 (e f:bZ):Option qG:=cond (gY 20 (bM e)) (a6 (true,()))<|cond (gY 40 (bM f)) (a6 (true,()))<|bJ (atd 2 e) fun l=>cond (!l.1) (a6 (true,()))<|bJ (ayY e) fun o=>cond (!(fP o.1 e)) (a6 (true,()))<|cond (gY 2 1) a7<|cond (gY 4 2) a7<|bJ (BU bQ (bM [(e,(f,()))]) 0 e f e f (e,(f,())) [] 2 [(e,(f,()))]) fun p=>dW p (fun d=>cond (gV d.2.1.1.1 [32]) (cond (gV (bT d.2.1.1.1 [32]) d.2.1.1.1) (bJ (aod d.2.2.2.1.1 d.2.2.1 (bT (bT d.2.1.1.1 [32]) d.2.1.1.1)) fun g=>cond (gV [39] d.2.1.1.1) (cond (gV (bT [39] d.2.1.1.1) [39,32]) (cond (gV (bT (bT [39] d.2.1.1.1) [39,32]) d.2.1.1.1) (bJ (aod g.1.1 g.1.2.1 (bT (bT (bT [39] d.2.1.1.1) [39,32]) d.2.1.1.1)) fun j=>cond (!(bV g.2.2.1 0)) (a6 (false,()))<|cond (!(bV j.2.2.1 0)) (a6 (false,()))<|cond (gV [39] d.2.1.1.1) (cond (gV (bT [39] d.2.1.1.1) [39,32]) (cond (gV (bT (bT [39] d.2.1.1.1) [39,32]) d.2.1.1.1) (cond (!(fP j.2.1 (bT (bT (bT [39] d.2.1.1.1) [39,32]) d.2.1.1.1))) (a6 (false,()))<|bJ (ayZ d.2.1.1.2.1) fun q=>cond q.1 (cond (gV d.2.1.1.2.1 [32]) (cond (gV (bT d.2.1.1.2.1 [32]) d.2.1.1.2.1) (a6 ((fP g.2.1 (bT (bT d.2.1.1.2.1 [32]) d.2.1.1.2.1)),())) a7) a7)<|cond (gV d.2.1.1.2.1 [32]) (cond (gV (bT d.2.1.1.2.1 [32]) d.2.1.1.1) (a6 ((fP g.2.1 (bT (bT d.2.1.1.2.1 [32]) d.2.1.1.1)),())) a7) a7) a7) a7) a7) a7) a7) a7) a7) a7) (fun i=>cond (gV i.2.1.1.1 [32]) (cond (gV (bT i.2.1.1.1 [32]) i.2.1.1.1) a7 a7) a7)
def aHh:Sum:=⟨[.str,.str],LG,fun x=>fn5 x.1 x.2.1⟩
noncomputable def ayN:Env:=gz prog tt [(6,U7),(14,awY),(15,aCO),(16,aCP)] [(8,5,aur),(5,600005,aJB),(8,600001,azy)] [(8,5,akS)] [] [(12,awT),(18,aw8)]
def amj {d:Type} (a:aav.den->Option d) (b:aa8.den->Option d) (c:abO.den->Option d) (v:aav.den):Option d:=Lp (fun e f g i j l o p q s=>a ((e,f,()),((g,i,j,l,o,()),(),()),(p,(q,()),s,()))) (fun u x y z A B D E=>b ((),((u,x,y,z,A,()),(),()),(B,(D,()),E,()))) (fun G I J K L=>c ((),((G,I,J,K,L,()),(),()),())) v.1.1 v.1.2.1 v.2.1.1.1 v.2.1.1.2.1 v.2.1.1.2.2.1 v.2.1.1.2.2.2.1 v.2.1.1.2.2.2.2.1 v.2.2.1 v.2.2.2.1.1 v.2.2.2.2.1
theorem aA9:dV ayN 8 arp akS:=lg (amj) (h2:=by intros;simp only[amj,Lp,dh,di,bI,cZ,dm])
theorem aFb:dO ayN 8 aDO:=nM [arp] (aD (fM (aA9)) aN)
theorem ajc:eF ayN:=eB (aD VX (aD afB (aD aw2 (aD aw7 aN)))) [8] (aD ⟨f8,aDO,by kernel_rfl,by kernel_rfl,aFb⟩ aN) (hx:=(aD afA (aD afC aN)))
theorem aLx:dR prog 5 aHh:=sA ajc
end
section
open Bool renaming and_eq_true → af, false_eq_true → ag, not_true → ax
open Nat renaming le_refl → ae
open Go.RowKit
theorem aLR {v:List UInt8} (g:v.length<=1000000):ayZ v=some (vX v,()):=by
 rw[ayZ];by_cases h:v=[]
 .subst h;rfl
 .have i:0<v.length:=List.length_pos_iff.2 h;have d:=(last_at h).resolve_right (by omega);have e:fV v (eU .i64 (bM v) 1)=true:=by
   rw[bP,iW];exact eu
  rw[cO (fO (by rw[bP];omega)),e,aa,d,aa];unfold vX lW bV;generalize ((v.getLastD 0).toNat:Int)=b;by_cases h1:b=32
  .subst h1;rfl
  .have f:(b==32)=false:=by simpa using h1
   rw[f,decide_eq_false h1];rfl
theorem aBo {c:UInt8} (h:nmB c=true):c≠39:=by
 unfold nmB at h;simp only[af]at h;have d:=(amm h.1).1;intro e;subst e;exact absurd d (by decide)
theorem aqj {k:List UInt8} (hk:MO k=true) (hl:k.length<=20):Wr (39::(k++[39])):=by
 unfold MO at hk;simp only[af,List.all_eq_true]at hk;refine⟨⟨by simp,k++[], ?_⟩,Nw (.inl rfl),by simp;omega⟩;exact Df.sng (u:=k) (w:=[]) (x:=[]) (fun c d=>aBo (hk.2 c d)) Df.nil
theorem aBE {k:List UInt8} (g:uq k=k) (hl:k.length<=20):Wr k:=by
 have d:=awv k;have e:=ao3 k;have f:=ao6 k;rw[g]at d e f;exact⟨⟨d,_,e⟩,f,by omega⟩
theorem EH {a b:List UInt8} (h:a.length+b.length<=140737488355328):gV a b=true:=by
 grind [gV,kZ]
theorem avv {k v:List UInt8} (hk:k.length<=100000) (j:v.length<=65536) (d e f g:bZ) (i:o9) (N:Nat):
  BU (N+2) 1 0 d e f g i [] 2 [(k,(v,()))]=some (.inl ((),((d,e,f,g,i,()),(),()),(GU [] k v,(2,()),[(k,(v,()))],()))):=by
 obtain⟨c,l⟩:=aIg (k:=k) (v:=v) (T:=[]) List.Pairwise.nil (by decide) hk j;rw[BU,Lp,show gY 0 1=true from rfl,aa,cO (eu (by decide) (by simp)),cO (lT (by simp[dD])),
  show dK [(k,(v,()))] (([],([],())):o9) (dD 0)=(k,(v,())) from rfl]
 simp only;rw[l,bI];simp only;rw[show dw .i64 0 1=1 from rfl,BU,Lp,show gY 1 1=false from rfl,ac]
theorem aoD (k v:bZ):fn5 k v=some (true,()):=by
 rw[fn5];by_cases hk:k.length<=20
 .rw[dN (jh (by rw[bP];omega))];by_cases hv:v.length<=40
  .rw[dN (jh (by rw[bP];omega)),aBI (by omega),bI];cases hm:MO k with
   |false=>rfl
   |true=>
    simp only;rw[ax,ac,af6 (by omega),bI];simp only;by_cases hs:uq k=k
    .have g:Tab 1 20 40 (GU [] k v):=als (n:=0) ⟨List.Pairwise.nil,⟨ae _,fun e d=>by cases d⟩,fun e d=>by cases d⟩ hk hv;have i:GU [] k v=[(k,(v,()))]:=by unfold GU;rw[am hm];rfl
     have f:=aBE hs hk;have o:=aqj hm hk;obtain⟨M,p⟩: ∃M,bQ=M+2:=⟨bQ-2,by unfold bQ;omega⟩;rw[Wv hs,ax,ac,show gY 2 1=false from rfl,ac,show gY 4 2=false from rfl,ac,p,
      show BU (M+2) (bM [(k,(v,()))]) 0 k v k v (k,(v,())) [] 2 [(k,(v,()))]=_ from avv (by omega) (by omega) k v k v (k,(v,())) M,bI]
     simp only[dW];have q:bT (bT k [32]) k=k++32::k:=by simp[bT]
     have s:bT (bT (bT [39] k) [39,32]) k=39::(k++[39])++32::k:=by simp[bT]
     have u:bT (bT v [32]) v=v++32::v:=by simp[bT]
     have x:bT (bT v [32]) k=v++32::k:=by simp[bT]
     have g1:jQ k (GU [] k v)=some v:=by rw[i,jQ,am rfl]
     have g2:jQ (39::(k++[39])) (GU [] k v)=none:=by
      rw[i,jQ,aq (fun e=>by have:=congrArg List.length e;simp at this;omega)];rfl
     have y:aqd (GU [] k v) k k=v++32::(if vX v=true then v else k):=by unfold aqd;rw[g1];rfl
     have z:aqd (GU [] k v) (39::(k++[39])) k=39::(k++[39])++32::k:=by unfold aqd;rw[g2]
     have j:=acW g (by omega) (by omega) f f (by omega) (by omega) 2;have l:=acW g (by omega) (by omega) o f (by simp;omega) (by omega) 2;rw[y]at j;rw[z]at l;simp only[q,s,u,x];rw[EH (a:=k) (b:=[32]) (by simp;omega),EH (a:=bT k [32]) (b:=k) (by simp[bT];omega),aa,aa,j,bI,
      EH (a:=[39]) (b:=k) (by simp;omega),EH (a:=bT [39] k) (b:=[39,32]) (by simp[bT];omega),EH (a:=bT (bT [39] k) [39,32]) (b:=k) (by simp[bT];omega),aa,aa,aa]
     simp only;rw[l,bI];simp only[fJ,kW,ax,ac,aa];rw[aLR (by omega),bI,EH (a:=v) (b:=[32]) (by simp;omega),EH (a:=bT v [32]) (b:=v) (by simp[bT];omega),EH (a:=bT v [32]) (b:=k) (by simp[bT];omega)];simp only[aa];cases hb:vX v with
     |true=>simp only[if_true,kW,aa]
     |false=>simp only[ag,if_false,kW,ac]
    .rw[uu hs];rfl
  .rw[cO (fO (by rw[bP];omega))]
 .rw[cO (fO (by rw[bP];omega))]
end
end Go.Proofs.YtlhpdcadgbjhiaaGreatDoor
