/- Parts of the proof, joined and shortened by a program: the plain machine, the functions as it prints them, and the mathematics over them. -/
import Derived.Test.YtjegbhogodknhaaGreatDoorZ4
import Derived.Test.YtjegbhogodknhaaGreatDoorZ5
import Derived.Test.YtjegbhogodknhaaGreatDoorZ9
set_option linter.unusedVariables false
set_option linter.unusedSimpArgs false
set_option maxRecDepth 100000
set_option maxHeartbeats 4000000
namespace Go.Proofs.YtjegbhogodknhaaGreatDoor
section
open Bool renaming and_eq_true → ah, false_eq_true → ai, and_true → aj, or_eq_true → bi
open Int renaming toNat_natCast → aX
open List renaming length_append → ae, append_assoc → ag, length_cons → az, length_singleton → aA, append_nil → aG, drop_eq_getElem_cons → aH, length_drop → aP, nil_append → aQ, map_nil → aV, map_append → aZ, all_cons → bn, cons_append → bz, takeWhile_cons → bC, take_of_length_le → bD, take_append_of_le_length → bQ
open Nat renaming lt_or_ge → ak, add_zero → aW
open Go.RowKit
theorem aI9 (t r:List UInt8):(t++10::r).takeWhile (· !=10)=t.takeWhile (· !=10):=by
 induction t with
 |nil=>simp
 |cons c t d=>simp only[bz,bC,d]
theorem YY (r:List UInt8):nK (10::r)=0:=by
 cases r with
 |nil=>rfl
 |cons d t=>simp[nK,oW]
theorem SK (r:List UInt8): ∀t:List UInt8,t.drop (nK t)≠[92]->nK (t++10::r)=nK t
 |[],_=>YY r
 |[c],h=>by
  have e:nK [c]=if oW (c.toNat:Int)=true then 1 else 0:=rfl
  rw[e]at h ⊢;rw[List.singleton_append];have g:nK (c::10::r)=if oW (c.toNat:Int)=true then nK (10::r)+1 else if c=92/\(10:UInt8)=10 then nK r+2 else 0:=rfl
  rw[g,YY];split
  .rfl
  .rename_i f
   rw[aq f]at h;rw[aq (fun x=>h (by rw[x.1];rfl))]
 |c::d::t,h=>by
  have e:nK (c::d::t)=if oW (c.toNat:Int)=true then nK (d::t)+1 else if c=92/\d=10 then nK t+2 else 0:=rfl
  rw[e]at h ⊢;have g:nK (c::d::t++10::r)=if oW (c.toNat:Int)=true then nK (d::t++10::r)+1 else if c=92/\d=10 then nK (t++10::r)+2 else 0:=rfl
  rw[g];split
  .rename_i f
   rw[am f]at h;rw[SK r (d::t) (by simpa using h)]
  .rename_i f
   rw[aq f]at h;split
   .rename_i i
    rw[am i]at h;rw[SK r t (by simpa using h)]
   .rfl
theorem aDb {u:List UInt8} (h:(10:UInt8)∈u):ofF u=0:=by
 have d:Md.findIdx? (· ==u)=none:=by
  rw[List.findIdx?_eq_none_iff];intro x f;have g: ∀x∈Md,(10:UInt8)∉x:=by decide
  have:=g x f;simp only[beq_eq_false_iff_ne,ne_eq];intro e;subst e;exact this h
 unfold ofF;rw[d]
theorem YR (t r:List UInt8): ∀n,Kq (t++10::r) n=Kq t (min n t.length)
 |0=>by simp[Kq]
 |n+1=>by
  rw[Kq];rcases ak n t.length with h|h
  .rw[show min (n+1) t.length=n+1 by omega,Kq,bQ (by omega),YR t r n,show min n t.length=n by omega]
  .have d:(10:UInt8)∈(t++10::r).take (n+1):=by
    rw[List.take_append];rw[show n+1-t.length=(n-t.length)+1 by omega,List.take_succ_cons];simp
   rw[aDb d,aq (by simp),YR t r n,show min n t.length=min (n+1) t.length by omega]
theorem ayL (t r:List UInt8):BC (t++10::r)=BC t:=by
 unfold BC;rw[YR,show min (min 3 (t++10::r).length) t.length=min 3 t.length by rw[ae,az];omega]
theorem afb (r:List UInt8): ∀t:List UInt8,lg (t++10::r)=lg t
 |[]=>by simp[lg,isD]
 |c::t=>by
  have d:=afb r t;unfold lg at d ⊢;rw[bz,bC,bC];split
  .rw[az,az,d]
  .rfl
theorem atl (t r:List UInt8):zC (t++10::r)=zC t:=by
 unfold zC;rw[afb];rcases ak (lg t) t.length with h|h
 .rw[List.drop_append_of_le_length (by omega)];have:(t.drop (lg t)++10::r).head?=(t.drop (lg t)).head?:=by
   rw[aH h];rfl
  rw[this]
 .have d:=MS t;have e:lg t=t.length:=by omega
  rw[e,List.drop_left,List.drop_length];simp
theorem TB (r:List UInt8): ∀(t:List UInt8) (a:Int) (x:gB×Bool),(uH t a x<t.length\/oP (nH t a x).1 10=true)->uH (t++10::r) a x=uH t a x
 |[],a,x,h=>by
  have d:oP x.1 10=true:=by
   rcases h with h|h
   .simp at h
   .exact h
  rw[aQ];show(if oP x.1 (jr 10)=true then 0 else _)=0;rw[show jr 10=10 from rfl,am d]
 |c::t,a,x,h=>by
  show(if oP x.1 (jr c)=true then 0 else uH (t++10::r) (a+1) (gG x.1 x.2 (jr c) a)+1)=(if oP x.1 (jr c)=true then 0 else uH t (a+1) (gG x.1 x.2 (jr c) a)+1);have e:uH (c::t) a x=if oP x.1 (jr c)=true then 0 else uH t (a+1) (gG x.1 x.2 (jr c) a)+1:=rfl
  rw[e]at h;split
  .rfl
  .rename_i f
   rw[aq f,az]at h;rw[TB r t _ _ (by
    rcases h with h|h
    .exact .inl (by omega)
    .exact .inr h)]
theorem akV: ∀(l:List UInt8) (a e:Int) (x d:gB×Bool),md x.1=md d.1->x.2=d.2->md (nH l a x).1=md (nH l e d).1
 |[],_,_,_,_,h,_=>h
 |b::l,a,e,x,d,g,i=>by
  have f:=akf g x.2 (jr b) a e;show md (nH l (a+1) (gG x.1 x.2 (jr b) a)).1=md (nH l (e+1) (gG d.1 d.2 (jr b) e)).1;rw[<-i];exact akV l _ _ _ _ f.1 f.2
theorem anS {w:List UInt8} (h:VE w=true) (a:Int):oP (nH w a fK).1 10=true:=by
 have d:=(CZ w 0 fK (by exact rfl)).1;rw[adn (akV w a 0 fK fK rfl rfl)];unfold VE at h;generalize (nH w 0 fK).1=s at h d
 match s,d with
 |[],d=>cases d
 |[f],d=>rfl
 |[f,g],d=>
  have j:g.1=0:=d.2.2.2;simp only[GH,bn,List.all_nil,aj,ah,bi,decide_eq_true_eq]at h;have e:=d.1;have i:f.1=12:=by grind
  simp[oP,i,CG]
 |f::g::k::r,d=>
  have e:=d.2.2.2.1;have l:=d.2.2.1;exfalso
  grind [QM,GH]
section
variable {s r:List UInt8}
theorem Tz {p:Nat} (hp:p<=s.length):(s++10::r).drop p=s.drop p++10::r:=List.drop_append_of_le_length hp
theorem apb {p:Nat} (hp:p<s.length):dm (s++10::r) (p:Int)=dm s (p:Int):=by
 rw[byte_at hp,byte_at (by rw[ae];omega),List.getElem_append_left hp]
theorem Oh {p:Nat} (hp:p<=s.length):iW (s++10::r) p=iW s p:=by
 unfold iW;rw[Tz hp,aI9]
theorem apS {p e:Nat} (d:e<=s.length):DZ (s++10::r) p e=DZ s p e:=by
 unfold DZ;rw[bQ d]
theorem aoI {p:Nat} (hp:p<=s.length) (h:oU s p=s.length->VE (DZ s p (oU s p))=true):oU (s++10::r) p=oU s p:=by
 unfold oU at h ⊢;rw[Tz hp,TB];have g:=Zd (s.drop p) p fK;have hd:(s.drop p).length=s.length-p:=aP;rcases ak (uH (s.drop p) p fK) (s.drop p).length with d|d
 .exact .inl d
 .have e:=h (by omega);have f:DZ s p (p+uH (s.drop p) p fK)=s.drop p:=by
   unfold DZ;rw[bD (by omega)]
  rw[f]at e;exact .inr (anS e p)
theorem auN {p:Nat} (hp:p<s.length) {x:NF} (hx:x.2.2.1=false) (hb:(s.drop p).drop (nK (s.drop p))≠[92]) (d:(iC s p x).1.2.2.1=s.length->(iC s p x).1.2.2.2.1=false):iC (s++10::r) p x=iC s p x:=by
 have f:=SK r (s.drop p) hb;have e: ∀u:List UInt8,iC u p x=(jH u p,jZ u p x):=fun u=>by unfold iC;rw[hx,aq (by simp)]
 rw[e]at d ⊢;rw[e];clear e;unfold jH at d;unfold jH jZ;rw[Tz (by omega),f,apb hp,Oh (by omega),ayL,atl];by_cases h1:nK (s.drop p)≠0
 .simp only[am h1]
 simp only[aq h1]at d ⊢;by_cases h2:dm s (p:Int)=10
 .simp only[am h2]
 simp only[aq h2]at d ⊢;by_cases h3:dm s (p:Int)=35
 .simp only[am h3]
 simp only[aq h3]at d ⊢;by_cases h4:(BC (s.drop p)).2≠0
 .simp only[am h4]
 simp only[aq h4]at d ⊢;by_cases h5:zC (s.drop p)≠0
 .simp only[am h5]
 simp only[aq h5]at d ⊢;have g:=ND (s:=s) (a:=p) (by omega);rw[aoI (by omega) (fun h=>by
  have:=d (by omega);simpa using this),apS g.2]
theorem alB {p:Nat} (hp:p<s.length) {x:NF} (hx:x.2.2.1=false) (h:s.drop p=[92]):(iC s p x).1=(6,(p:Int),(s.length:Int),true,()):=by
 have e:iC s p x=(jH s p,jZ s p x):=by unfold iC;rw[hx,aq (by simp)]
 have d:s.length=p+1:=by
  have:=congrArg List.length h;rw[aP,aA]at this;omega
 have f:dm s (p:Int)=92:=by
  rw[byte_at hp];have:=aH hp;rw[h]at this;injection this with h1 _
  rw[<-h1];rfl
 rw[e];unfold jH oU DZ;have g:uH [92] (p:Int) fK=1:=by
  rw[QR [92] p 0 fK fK rfl rfl];rfl
 simp only[h,f,g];rw[bD (by omega),h,d];rfl
theorem ano {p:Nat} (hp:p<=s.length) (d:Bool):rD (s++10::r) d p=rD s d p:=by
 unfold rD;rw[Oh hp,bQ (wQ hp)]
theorem adR (w:List UInt8) (d:Bool): ∀(N M a:Nat),s.length<N+a->s.length+1+r.length<M+a->a<s.length->(kK s w d N a).2=true->
  kK (s++10::r) w d M a=kK s w d N a\/((kK s w d N a).1=s.length/\kK (s++10::r) w d M a=(s.length+1,true))
 |0,_,a,h,_,e,_=>by omega
 |N+1,0,a,_,h,e,_=>by omega
 |N+1,M+1,a,l,m,e,h=>by
  have p:(s++10::r).length=s.length+1+r.length:=by rw[ae,az];omega
  rw[kK,am e]at h;rw[kK,kK,am e,am (by omega),ano (by omega)];have q:=wP s a;have u:=wQ (s:=s) (a:=a) (by omega);have v:=UV e;have i:lS (s++10::r) a=iW s a+1:=by
   unfold lS;rw[Oh (by omega),am (by omega)]
  by_cases hw:rD s d a=w
  .rw[am hw,am hw,i];unfold lS;rcases ak (iW s a) s.length with f|f
   .rw[am f];exact .inl rfl
   .rw[aq (by omega)];exact .inr ⟨by simp only;omega,by rw[show iW s a=s.length by omega]⟩
  .rw[aq hw]at h;rw[aq hw,aq hw,i];rcases ak (iW s a) s.length with f|f
   .have g:lS s a=iW s a+1:=by unfold lS;rw[am f]
    rw[g]at h ⊢;rcases ak (iW s a+1) s.length with j|j
    .exact adR w d N M _ (by omega) (by omega) j h
    .exfalso;cases N with
     |zero=>simp[kK]at h
     |succ N=>rw[kK,aq (by omega)]at h;cases h
   .exfalso;have g:lS s a=iW s a:=by unfold lS;rw[aq (by omega)]
    rw[g]at h;cases N with
    |zero=>simp[kK]at h
    |succ N=>rw[kK,aq (by omega)]at h;cases h
end
theorem aef {s r:List UInt8} (I:s.length+r.length+1<=10000): ∀(n N p:Nat) (l:List Tok) (x:NF),s.length<n+p->s.length+1+r.length<N+p->p<=s.length->(wM (jF s n p l x).1).2.2.2.1=false->
  (∃d,s.length+1+r.length<d+s.length/\jF (s++10::r) N p l x=jF (s++10::r) d s.length (jF s n p l x).1 (jF s n p l x).2)\/
  (∃(d:Nat) (q:List Tok) (f:Int),r.length<d/\(jF s n p l x).1=q++[(7,f,(s.length:Int),false,())]/\jF (s++10::r) N p l x=jF (s++10::r) d (s.length+1) (q++[(7,f,((s.length+1:Nat):Int),false,())]) (jF s n p l x).2)
 |n,0,p,l,x,_,h,_,_=>by omega
 |0,N+1,p,l,x,h,_,_,_=>by omega
 |n+1,N+1,p,l,x,S,J,U,g=>by
  have V:(s++10::r).length=s.length+1+r.length:=by rw[ae,az];omega
  rcases ak p s.length with i|W
  .have y:jF s (n+1) p l x=jF s n (iC s p x).1.2.2.1.toNat (l++[(iC s p x).1]) (iC s p x).2:=by rw[jF,am i]
   have B:jF (s++10::r) (N+1) p l x=jF (s++10::r) N (iC (s++10::r) p x).1.2.2.1.toNat (l++[(iC (s++10::r) p x).1]) (iC (s++10::r) p x).2:=by rw[jF,am (by omega)]
   have X:=zJ (s:=s) (by omega) i x;rw[y]at g;have z: ∀(n:Nat) (l:List Tok) (x:NF),jF s n s.length l x=(l,x):=fun n l x=>by
    cases n with
    |zero=>rfl
    |succ n=>rw[jF,aq (by omega)]
   have A:(iC s p x).1.2.2.1=s.length->(iC s p x).1.2.2.2.1=false:=fun e=>by
    rw[e,aX,z,uk]at g;exact g
   have same:iC (s++10::r) p x=iC s p x->(∃d,s.length+1+r.length<d+s.length/\jF (s++10::r) (N+1) p l x=jF (s++10::r) d s.length (jF s (n+1) p l x).1 (jF s (n+1) p l x).2)\/
     (∃(d:Nat) (q:List Tok) (f:Int),r.length<d/\(jF s (n+1) p l x).1=q++[(7,f,(s.length:Int),false,())]/\jF (s++10::r) (N+1) p l x=jF (s++10::r) d (s.length+1) (q++[(7,f,((s.length+1:Nat):Int),false,())]) (jF s (n+1) p l x).2):=fun e=>by
    rw[y,B,e];exact aef I n N (iC s p x).1.2.2.1.toNat _ _ (by omega) (by omega) (by omega) g
   cases hx:x.2.2.1 with
   |true=>
    have j: ∀u:List UInt8,iC u p x=if(rC u (x.2.1.headD Wy).1 (x.2.1.headD Wy).2.1 p).2=true then(((7,(p:Int),(((rC u (x.2.1.headD Wy).1 (x.2.1.headD Wy).2.1 p).1:Nat):Int),false,()):Tok),((x.1,x.2.1.tail,decide (1<x.2.1.length),()):NF))
      else(((7,(p:Int),(((rC u (x.2.1.headD Wy).1 (x.2.1.headD Wy).2.1 p).1:Nat):Int),true,()):Tok),x):=fun u=>by unfold iC;rw[hx,am rfl]
    have K:=HY s (x.2.1.headD Wy).1 (x.2.1.headD Wy).2.1 bY p (di) (by omega);cases hf:(rC s (x.2.1.headD Wy).1 (x.2.1.headD Wy).2.1 p).2 with
    |false=>
     exfalso;have m:(iC s p x).1=(7,(p:Int),(((rC s (x.2.1.headD Wy).1 (x.2.1.headD Wy).2.1 p).1:Nat):Int),true,()):=by rw[j,hf,aq (by simp)]
     have v:=K.2.1 hf;have:=A (by rw[m];simp only;unfold rC;omega);rw[m]at this;cases this
    |true=>
     rcases adR (r:=r) (x.2.1.headD Wy).1 (x.2.1.headD Wy).2.1 bY bY p (by have:=di (n:=s.length) (by omega);omega) (by have:=di (n:=s.length+1+r.length) (by omega);omega) i hf with e|⟨m,v⟩
     .refine same ?_;rw[j,j];unfold rC;rw[e]
     .refine .inr ?_;have L:iC s p x=((7,(p:Int),(s.length:Int),false,()),(x.1,x.2.1.tail,decide (1<x.2.1.length),())):=by
       rw[j,hf,am rfl];unfold rC;rw[m]
      have M:iC (s++10::r) p x=((7,(p:Int),((s.length+1:Nat):Int),false,()),(x.1,x.2.1.tail,decide (1<x.2.1.length),())):=by
       rw[j];unfold rC;rw[v,am rfl]
      rw[y,B,L,M];simp only[aX];rw[z];exact⟨N,l,(p:Int),by omega,rfl,rfl⟩
   |false=>
    by_cases hb:(s.drop p).drop (nK (s.drop p))=[92]
    .exfalso;rw[List.drop_drop]at hb;by_cases h0:nK (s.drop p)=0
     .rw[h0,aW]at hb;have e:=alB i hx hb;have:=A (by rw[e]);rw[e]at this;cases this
     .have D:p+nK (s.drop p)<s.length:=by
       have:=congrArg List.length hb;rw[aP,aA]at this;omega
      have e:iC s p x=((1,(p:Int),((p+nK (s.drop p):Nat):Int),false,()),(x.1,x.2.1,false,())):=by
       unfold iC jH jZ;rw[hx,aq (by simp),am h0,am h0]
      rw[e]at g;simp only[aX]at g;cases n with
      |zero=>omega
      |succ n=>
       rw[jF,am D]at g;have v:=alB D (x:=(x.1,x.2.1,false,())) rfl hb;rw[v]at g;simp only[aX]at g;rw[z,uk]at g;cases g
    .exact same (auN i hx hb A)
  .have O:p=s.length:=by omega
   subst O;refine .inl ⟨N+1,J, ?_⟩;rw[show jF s (n+1) s.length l x=(l,x) by rw[jF,aq (by omega)]]
def JB (l:List Tok) (x:NF):Prop:=(x.2.2.1=true\/(wM l).1=7)->x.1=0/\ ∃(q:List Tok) (t:Tok),l.filter xJ=q++[t]/\t.1=2
theorem ay3 {s:List UInt8} {p:Nat} {l:List Tok} {x:NF} (h:JB l x):JB (l++[(iC s p x).1]) (iC s p x).2:=by
 unfold JB at*;rw[uk,List.filter_append];have e: ∀t:Tok,t.1=7->[t].filter xJ=[]:=fun t g=>by
  rw[List.filter_cons_of_neg (by simp[xJ,g]),List.filter_nil]
 unfold iC;cases hx:x.2.2.1 with
 |true=>
  have f:=h (.inl hx);simp only[if_true];split
  .intro _;rw[e _ rfl,aG];exact f
  .intro _;rw[e _ rfl,aG];exact f
 |false=>
  simp only[ai,if_false];unfold jH jZ;split
  .intro d;simp at d
  .split
   .intro _;exact⟨rfl,l.filter xJ,(2,(p:Int),((p+1:Nat):Int),false,()),rfl,rfl⟩
   .split
    .intro d;simp at d
    .split
     .intro d;simp at d
     .split
      .intro d;simp at d
      .intro d;simp at d
theorem ajB {s:List UInt8}: ∀(n p:Nat) (l:List Tok) (x:NF),JB l x->JB (jF s n p l x).1 (jF s n p l x).2
 |0,_,_,_,h=>h
 |n+1,p,l,x,h=>by
  rw[jF];split
  .exact ajB n _ _ _ (ay3 h)
  .exact h
def VA (k:Nat) (t:Tok):Tok:=(t.1,t.2.1+k,t.2.2.1+k,t.2.2.2.1,())
section
variable (o s:List UInt8)
theorem Hg (p:Nat):(o++s).drop (o.length+p)=s.drop p:=by
 rw[<-List.drop_drop,List.drop_left]
theorem aww {p:Nat} (hp:p<s.length):dm (o++s) ((o.length+p:Nat):Int)=dm s (p:Int):=by
 rw[byte_at hp,byte_at (by rw[ae];omega),List.getElem_append_right (by omega)];simp
theorem UB (p:Nat):iW (o++s) (o.length+p)=o.length+iW s p:=by
 unfold iW;rw[Hg];omega
theorem awM (p e:Nat):DZ (o++s) (o.length+p) (o.length+e)=DZ s p e:=by
 unfold DZ;rw[List.take_length_add_append,Hg]
theorem av7 (p:Nat):oU (o++s) (o.length+p)=o.length+oU s p:=by
 unfold oU;rw[Hg,QR (s.drop p) ((o.length+p:Nat):Int) (p:Int) fK fK rfl rfl];omega
theorem ast (d:Bool) (p:Nat):rD (o++s) d (o.length+p)=rD s d p:=by
 unfold rD;rw[UB,List.take_length_add_append,Hg]
theorem ajh (w:List UInt8) (d:Bool): ∀(N p:Nat),kK (o++s) w d N (o.length+p)=(o.length+(kK s w d N p).1,(kK s w d N p).2)
 |0,p=>rfl
 |N+1,p=>by
  have e:lS (o++s) (o.length+p)=o.length+lS s p:=by
   unfold lS;rw[UB,ae];split<;>split<;>omega
  rw[kK,kK,ast,e,ae];by_cases hp:p<s.length
  .rw[am hp,am (by omega)];split
   .rfl
   .exact ajh w d N _
  .rw[aq hp,aq (by omega)]
theorem ay4 {p:Nat} (hp:p<s.length) (x:NF):iC (o++s) (o.length+p) x=(VA o.length (iC s p x).1,(iC s p x).2):=by
 unfold iC rC jH jZ;rw[ajh,Hg,aww o s hp,UB,av7,awM];unfold VA;split
 .split<;>simp only[Prod.mk.injEq,and_true,true_and]<;>omega
 .split
  .simp only[Prod.mk.injEq,and_true,true_and];omega
  .split
   .simp only[Prod.mk.injEq,and_true,true_and];omega
   .split
    .simp only[Prod.mk.injEq,and_true,true_and];omega
    .split
     .simp only[Prod.mk.injEq,and_true,true_and];omega
     .split
      .simp only[Prod.mk.injEq,and_true,true_and];omega
      .simp only[Prod.mk.injEq,and_true,true_and];omega
theorem ajD (e:s.length<=10000) (d:List Tok): ∀(n p:Nat) (l:List Tok) (x:NF),jF (o++s) n (o.length+p) (d++l.map (VA o.length)) x=(d++(jF s n p l x).1.map (VA o.length),(jF s n p l x).2)
 |0,p,l,x=>rfl
 |n+1,p,l,x=>by
  rw[jF,jF,ae];by_cases hp:p<s.length
  .have i:=zJ e hp x;rw[am hp,am (by omega),ay4 o s hp];have f:(VA o.length (iC s p x).1).2.2.1.toNat=o.length+(iC s p x).1.2.2.1.toNat:=by
    unfold VA;simp only;omega
   have g:=ajD e d n (iC s p x).1.2.2.1.toNat (l++[(iC s p x).1]) (iC s p x).2;simp only[f];rw[<-g,aZ,ag];rfl
  .rw[aq hp,aq (by omega)]
end
theorem ass {a b:List UInt8} (hl:a.length+b.length+1<=10000) (B:(wM (gQ a).1).2.2.2.1=false) (l:(gQ a).2.2.2.1=false) (m:(gQ a).2.2.1=[]):
    (gQ (a++10::b)).2=(gQ b).2/\
    ((gQ (a++10::b)).1=(gQ a).1++(2,(a.length:Int),((a.length+1:Nat):Int),false,())::(gQ b).1.map (VA (a.length+1))\/
     ∃(q:List Tok) (f:Int),(gQ a).1=q++[(7,f,(a.length:Int),false,())]/\(∃(u:List Tok) (t:Tok),(gQ a).1.filter xJ=u++[t]/\t.1=2)/\
       (gQ (a++10::b)).1=q++(7,f,((a.length+1:Nat):Int),false,())::(gQ b).1.map (VA (a.length+1))):=by
  have O:(a++10::b).length=a.length+1+b.length:=by rw[ae,az];omega
  have D:JB (gQ a).1 (gQ a).2:=ajB _ _ _ _ (fun h=>by
    rcases h with h|h
    . cases h
    . rw[asl]at h;simp at h)
  have p: ∀j:Int,(gQ a).2.1=j->(gQ a).2=(j,[],false,()):=fun j h=>by
    generalize (gQ a).2=x at*;obtain⟨S,U,V,W⟩:=x;simp only at h l m;subst h;subst l;subst m;rfl
  have v: ∀(N:Nat) (i:List Tok),b.length<N->jF (a++10::b) N (a.length+1) i (0,[],false,())=(i++(gQ b).1.map (VA (a.length+1)),(gQ b).2):=fun N i X=>by
    have e:a++10::b=(a++[10])++b:=by rw[ag];rfl
    have I:(a++[10]).length=a.length+1:=by rw[ae];rfl
    have h:=ajD (a++[10]) b (by omega) i N 0 [] (0,[],false,());rw[I,aV,aG,aW]at h;rw[e,h];have J:jF b N 0 [] (0,[],false,())=gQ b:=H7 (by omega) _ _ _ _ _ (by omega) (by omega);rw[J]
  have h:=aef (s:=a) (r:=b) (by omega) (a.length+1) ((a++10::b).length+1) 0 [] (0,[],false,()) (by omega) (by omega) (by omega) B;rw[show jF a (a.length+1) 0 [] (0,[],false,())=gQ a from rfl,show jF (a++10::b) ((a++10::b).length+1) 0 [] (0,[],false,())=gQ (a++10::b) from rfl]at h;rcases h with ⟨g,y,d⟩|⟨g,q,f,y,d,z⟩
  . obtain⟨g,rfl⟩: ∃M,g=M+1:=⟨g-1,by omega⟩;have K:iC (a++10::b) a.length (gQ a).2=((2,(a.length:Int),((a.length+1:Nat):Int),false,()),(0,[],false,())):=by
      rw[p _ rfl];unfold iC jH jZ;have L:dm (a++10::b) (a.length:Int)=10:=by
        rw[byte_at (by omega),List.getElem_append_right (by omega)];simp
      rw[List.drop_left,YY,L];simp
    rw[jF,am (by omega),K]at d;simp only[aX]at d;rw[v g _ (by omega)]at d;rw[d];exact⟨rfl,.inl (by rw[ag];rfl)⟩
  . have A:=D (.inr (by rw[d,uk]));rw[p 0 A.1,v g _ y]at z;rw[z];exact⟨rfl,.inr ⟨q,f,d,A.2,by rw[ag];rfl⟩⟩
end
end Go.Proofs.YtjegbhogodknhaaGreatDoor
