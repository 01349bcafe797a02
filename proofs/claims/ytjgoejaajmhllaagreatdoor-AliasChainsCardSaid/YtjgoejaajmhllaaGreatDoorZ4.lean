/- Parts of the proof, joined and shortened by a program: the plain machine, the functions as it prints them, and the mathematics over them. -/
import Derived.Test.YtjgoejaajmhllaaGreatDoorZ3
set_option linter.unusedVariables false
set_option linter.unusedSimpArgs false
set_option maxRecDepth 100000
set_option maxHeartbeats 4000000
namespace Go.Proofs.YtjgoejaajmhllaaGreatDoor
section
open Option renaming some → a6, none → a7
open Bool renaming false_eq_true → ah, not_true → ak, not_eq_true → aV
open List renaming drop_eq_getElem_cons → au, drop_of_length_le → aB, length_append → aI, length_map → aK, length_drop → aQ
open Nat renaming le_refl → af, lt_or_ge → aF
open Go.RowKit
def oI (b:Int):Bool:=decide (b=32)||decide (b=9)
def Ei (b:Int):Bool:=decide (b=124)||decide (b=38)||decide (b=59)||decide (b=60)||decide (b=62)||decide (b=40)||decide (b=41)
theorem Vg: ∀n:Fin 256,(match Qo ((n.val:Nat):Int)with|some (k,_)=>(bJ k 1==oI ((n.val:Nat):Int))&&(bJ k 3==Ei ((n.val:Nat):Int))|none=>false)=true:=by decide+kernel
theorem ax7 {b:Int} (h:isByte b): ∃k,Qo b=a6 (k,())/\bJ k 1=oI b/\bJ k 3=Ei b:=by
 obtain⟨n,rfl⟩:=Nk h;have:=Vg n
 grind
def La:List bQ:=[[38,38],[124,124],[59,59],[60,60],[60,60,45],[62,62],[60,38],[62,38],[60,62],[62,124],[60],[62],[38],[59],[124],[40],[41]]
def ofF (u:bQ):Nat:=match La.findIdx? (· ==u)with
 |some j=>j+1
 |none=>0
theorem aqC: ∀n:Fin 18,n.val≠0->aei ((n.val:Nat):Int)=a6 (La.getD (n.val-1) [],()):=by decide+kernel
theorem Ux {d:Type} (p:d->Bool) (l:List d) {k:Nat} (h:k<l.length):(l.drop k).findIdx? p=if p l[k]=true then a6 0 else((l.drop (k+1)).findIdx? p).map (· +1):=by
 grind [au]
theorem Sz (u:bQ): ∀(d N k:Nat),k+d=17->d<N->
  EZ N u ((k+1:Nat):Int)=a6 (match(La.drop k).findIdx? (· ==u)with
   |some j=>.inr ((((k+j+1:Nat):Int),()),())
   |none=>.inl ((),()))
 |d,0,k,_,h=>by omega
 |0,N+1,k,h,_=>by
  have hk:k=17:=by omega
  subst hk;rfl
 |d+1,N+1,k,h,i=>by
  have hk:k<La.length:=by show k<17;omega
  have f:=aqC ⟨k+1,by omega⟩ (by simp);simp only[Nat.add_sub_cancel]at f;rw[EZ,PN,bM (nD),f,bu,Ux _ _ hk];have g:La.getD k []=La[k]:=by simp_all
  simp only[g,eX];by_cases e:(La[k]==u)=true
  .rw[e];simp
  .rw[aV]at e;rw[e,dA,show((k+1:Nat):Int)+1=((k+1+1:Nat):Int) by omega];simp only[ac];rw[Sz u d N (k+1) (by omega) (by omega)]
   grind
theorem ax6 (u:bQ) (h:ofF u≠0):u∈La:=by
 unfold ofF at h
 grind
theorem anV (u:bQ):ahV u=a6 (((ofF u:Nat):Int),()):=by
 rw[ahV];by_cases e:u=[]
 .subst e;rfl
 .rw[dD (by grind [eX])];have h:=Sz u 17 bG 0 rfl (dK)
  grind [bu,ofF,dL]
def Lh (t:bQ):Nat->Nat×Nat
 |0=>(0,0)
 |n+1=>if ofF (t.take (n+1))≠0 then(ofF (t.take (n+1)),n+1)else Lh t n
theorem yD (s:bQ) (a n:Nat):sub s (a:Int) ((a+n:Nat):Int)=(s.drop a).take n:=by
 grind [sub,List.drop_take]
theorem Yv (s:bQ) (d:s.length<1000000) (a:Nat): ∀(n N:Nat),n<N->a+n<=s.length->
  Oo N s (a:Int) 0 (n:Int)=a6 (.inl (((((Lh (s.drop a) n).1:Nat):Int),(((Lh (s.drop a) n).2:Nat):Int),()),()))
 |n,0,h,_=>by omega
 |0,N+1,_,_=>by
  rfl
 |n+1,N+1,h,f=>by
  rw[Oo,X5,bM (eU),dA,show(a:Int)+((n+1:Nat):Int)=((a+(n+1):Nat):Int) by omega,
   bM (fH (by omega) (by omega) (by rw[bF];omega)),yD,anV,bu,Lh]
  by_cases e:ofF ((s.drop a).take (n+1))=0
  .rw[e];simp only[show(!bJ ((0:Nat):Int) 0)=false from rfl,ac,ne_eq,not_true_eq_false,if_false];rw[iZ,show((n+1:Nat):Int)-1=(n:Int) by omega];exact Yv s d a n N (by omega) (by omega)
  simp_all [dX]
def zy (t:bQ):Nat×Nat:=Lh t (min 3 t.length)
theorem atg {c:UInt8} {t:List UInt8} (h:c::t∈La):Ei (c.toNat:Int)=true:=by
 have: ∀u∈La,(match u with|c::_=>Ei (c.toNat:Int)|[]=>true)=true:=by decide
 exact this _ h
theorem adO {c:UInt8} {t:List UInt8} (h:Ei (c.toNat:Int)=false): ∀n,Lh (c::t) n=(0,0)
 |0=>rfl
 |n+1=>by
  rw[Lh,ap,adO h n]
  grind [atg,ax6]
theorem aDr {s:List UInt8} (e:s.length<1000000) {a:Nat} (d:a<s.length):arL s a=a6 ((((zy (s.drop a)).1:Nat):Int),((((zy (s.drop a)).2:Nat):Int),())):=by
 rw[arL,dD (gX),dD (Eh (by rw[bF];omega)),bM (dV)];obtain⟨k,f,_,g⟩:=ax7 (kN s a);rw[f,bu];simp only[g];have hd:=au d;rw[byte_at d];cases hm:Ei (s[a].toNat:Int)with
 |false=>
  grind [zy,adO]
 |true=>
  simp only[ak,ac];have h:E8 3 (ed .i64 (bD s) (a:Int))=((min 3 (s.drop a).length:Nat):Int):=by
   grind [bF,iZ,E8]
  rw[h,Yv s e a _ bG (dK) (by grind),bu];rfl
theorem Lu (t:bQ):(zy t).2<=t.length/\((zy t).2=0↔(zy t).1=0)/\(zy t).1<=17:=by
 have h: ∀n,(Lh t n).2<=n/\((Lh t n).2=0↔(Lh t n).1=0)/\(Lh t n).1<=17:=by
  intro n
  induction n with
  |zero=>exact⟨af _,Iff.rfl,by simp[Lh]⟩
  |succ n f=>
   rw[Lh];split
   .rename_i e
    refine⟨af _,⟨fun h=>absurd h (by simp),fun h=>absurd h e⟩, ?_⟩;unfold ofF;split
    .rename_i j d
     have:=(List.findIdx?_eq_some_iff_getElem.1 d).1
     assumption
    omega
   omega
 grind [zy]
theorem auH (c:UInt8): ∀l:bQ,Lib.indexByte l c=if(l.takeWhile (· !=c)).length<l.length then(((l.takeWhile (· !=c)).length:Nat):Int)else-1
 |[]=>rfl
 |b::l=>by
  unfold Lib.indexByte;rw[auH c l];by_cases e:b=c
  .subst e;simp
  .have d:(b==c)=false:=by simpa using e
   have f:(b !=c)=true:=by simpa using e
   have g:(b::l).takeWhile (fun x=>x !=c)=b::l.takeWhile (fun x=>x !=c):=by simp_all
   grind
def iK (s:bQ) (a:Nat):Nat:=a+((s.drop a).takeWhile (· !=10)).length
theorem uI (s:bQ) (a:Nat):a<=iK s a:=Nat.le_add_right _ _
theorem xW {s:List UInt8} {a:Nat} (h:a<=s.length):iK s a<=s.length:=by
 grind [KW,iK]
theorem am4 {s:List UInt8} (g:s.length<1000000) {a:Nat} (d:a<=s.length):amb s a=a6 (((iK s a:Nat):Int),(decide (iK s a<s.length),())):=by
 have i:=xW d;have j:=uI s a;rw[amb,bM (fH (by omega) (by rw[bF];omega) (by omega)),aed,alV,bu,bu];have e:sub s (a:Int) (bD s)=s.drop a:=by simp[sub,bF]
 have f:ibW (sub s (a:Int) (bD s)) 10=if iK s a<s.length then((iK s a-a:Nat):Int)else-1:=by
  rw[e];unfold ibW;rw[show(10:Int).toNat.toUInt8=10 from rfl,auH,aQ];unfold iK at*;omega
 rw[f];by_cases h:iK s a<s.length
 .rw[am h,bM (nD),dA,decide_eq_true h];congr 2;omega
 .rw[ap h,dD (Eh),decide_eq_false h,bF];congr 2;omega
def ul:bQ->Nat
 |[]=>0
 |[c]=>if oI (c.toNat:Int)=true then 1 else 0
 |c::d::t=>if oI (c.toNat:Int)=true then ul (d::t)+1 else if c=92/\d=10 then ul t+2 else 0
theorem Ub: ∀t:bQ,ul t<=t.length
 |[]=>af _
 |[c]=>by grind [ul]
 |c::d::t=>by
  have e:=Ub (d::t);have f:=Ub t
  grind [ul]
def xI (t:bQ):Bool:=match t with
 |c::d::_=>decide (c=92)&&decide (d=10)
 |_=>false
theorem awU (t:bQ):aec t [92,10]=a6 (xI t,()):=by
 rw[aec,alU];cases t with
 |nil=>rfl
 |cons c t=>
  cases t with
  |nil=>rfl
  |cons d t=>
   have e:leI (bD [(92:UInt8),10]) (bD (c::d::t))=true:=nD (by grind [bF]);have f:eG (bD (c::d::t)) 0 (bD [(92:UInt8),10])=true:=fH (by omega) (by rw[bF];simp) (by grind [bF]);simp_all [sub,bF,bu,xI,eX,Bool.beq_eq_decide_eq]
theorem ako {s:List UInt8} {a:Nat} (d:a<=s.length):al9 s a=a6 (xI (s.drop a),()):=by
 rw[al9,bM (fH (by omega) (by rw[bF];omega) (by omega)),show sub s (a:Int) (bD s)=s.drop a by simp[sub,bF],awU,bu]
theorem Gl {c:UInt8} {t:List UInt8}:ul (c::t)=if oI (c.toNat:Int)=true then ul t+1 else if xI (c::t)=true then ul (t.drop 1)+2 else 0:=by
 cases t with
 |nil=>rfl
 |cons d t=>rw[ul];simp[xI]
theorem EK {s:List UInt8} (d:s.length<1000000): ∀(N a:Nat),s.length-a<N->a<=s.length->
  ∃o,Oq N s (a:Int)=a6 o/\dL o (fun f=>a6 (f.1.1,())) (fun g=>a6 (g.1.1,()))=a6 ((((a+ul (s.drop a):Nat):Int)),())
 |0,a,h,_=>by omega
 |N+1,a,h,q=>by
  rw[Oq,X6];by_cases e:a<s.length
  .obtain⟨k,i,j,_⟩:=ax7 (kN s a);have hd:=au e;rw[bM (eU (by rw[bF];omega)),bM (dV),i,bu];simp only[j];rw[byte_at e,hd,Gl];by_cases hb:oI (s[a].toNat:Int)=true
   .rw[hb,aa,am rfl,dA,show(a:Int)+1=((a+1:Nat):Int) by omega];obtain⟨o,l,m⟩:=EK d N (a+1) (by omega) (by omega)
    grind
   .rw[aV]at hb;rw[hb,ac,ap (by simp),ako (by omega),bu,hd];cases hc:xI (s[a]::s.drop (a+1))with
    |true=>
     have u:a+2<=s.length:=by
      rw[<-hd]at hc;rcases aF s.length (a+2)with hl|hl
      .have:(s.drop a).length=1:=by grind
       obtain⟨x,p⟩:=List.length_eq_one_iff.1 this;rw[p]at hc;cases hc
      .exact hl
     simp only[aa,if_true];rw[dA,show(a:Int)+2=((a+2:Nat):Int) by omega,List.drop_drop,show a+1+1=a+2 from rfl];obtain⟨o,l,m⟩:=EK d N (a+2) (by omega) (by omega)
     grind
    |false=>
     simp only[ac,ah,if_false,Nat.add_zero];exact⟨_,rfl,rfl⟩
  .rw[dD (iG (by rw[bF];omega)),aB (by omega)];exact⟨_,rfl,rfl⟩
theorem aqW {s:List UInt8} (d:s.length<1000000) {a:Nat} (e:a<=s.length):ama s a=a6 ((((a+ul (s.drop a):Nat):Int)),()):=by
 rw[ama];obtain⟨o,f,g⟩:=EK d bG a (dK) e
 grind [bu]
def zx (t:bQ):Nat:=if jT t≠0/\(t.drop (jT t)).head?=a6 60\/jT t≠0/\(t.drop (jT t)).head?=a6 62 then jT t else 0
theorem LW (t:bQ):jT t<=t.length:=KW _ _
theorem anT {s:List UInt8} (g:s.length<1000000) {a:Nat} (d:a<=s.length):amc s a=a6 ((((a+zx (s.drop a):Nat):Int)),()):=by
 have e:=LW (s.drop a);rw[aQ]at e;rw[amc,MO (s:=s) (by omega) d,bu];simp only;rw[dA,show(a:Int)+((jT (s.drop a):Nat):Int)=((a+jT (s.drop a):Nat):Int) by omega];unfold zx;by_cases h0:jT (s.drop a)=0
 .simp_all [gX]
 .rw[bM (eU)];by_cases h1:a+jT (s.drop a)<s.length
  .have hd:((s.drop a).drop (jT (s.drop a))).head?=a6 s[a+jT (s.drop a)]:=by
    simp
   rw[bM (eU (by rw[bF];omega)),bM (dV),byte_at h1,hd];by_cases e1:s[a+jT (s.drop a)]=60
   .rw[e1,am (.inl ⟨h0,rfl⟩)];rfl
   .have f:((s[a+jT (s.drop a)].toNat:Nat):Int)≠60:=fun h=>e1 (UInt8.toNat_inj.1 (by grind));rw[dD (dX f),bM (dV)];by_cases e2:s[a+jT (s.drop a)]=62
    .rw[e2,am (.inr ⟨h0,rfl⟩)];rfl
    .have i:((s[a+jT (s.drop a)].toNat:Nat):Int)≠62:=fun h=>e2 (UInt8.toNat_inj.1 (by grind));simp_all [dX]
  .have hd:((s.drop a).drop (jT (s.drop a))).head?=a7:=by
    simp_all
   rw[dD (gX (by rw[bF];omega)),hd,ap (by simp)];simp
theorem aaY: ∀n:Fin 15,(match aeg ((n.val:Nat):Int)with|some (t,_)=>(t==([]:bQ))==(decide (n.val=0)||decide (n.val=12))&&decide (t.length<=2)|none=>false)=true:=by decide+kernel
theorem akk {m:Int} (d:0<=m) (e:m<=14): ∃t,aeg m=a6 (t,())/\(t=[]↔m=0\/m=12)/\t.length<=2:=by
 have:=aaY ⟨m.toNat,by omega⟩
 grind
def Ic (s:fB):Bool:=s.all fun f=>decide (f.1=0)||decide (f.1=12)
theorem Gn (F:List D6) (i:F.length<1000000) (d: ∀f∈F,0<=f.1/\f.1<=14): ∀(N k:Nat) (a b:bQ) (t:List Int),k<N->k<=F.length->t.length<=2*(F.length-k)->
  ∃t',pO N ((k:Int)-1) a b F t=a6 (.inl ((),((a,()),(),(),()),((b,()),(F,()),(),t',())))/\(t'=[]↔t=[]/\ ∀f∈F.take k,f.1=0\/f.1=12)
 |0,k,a,b,t,h,_,_=>by omega
 |N+1,0,a,b,t,h,_,_=>by
  rw[pO,uQ];refine⟨t,rfl, ?_⟩;simp
 |N+1,k+1,a,b,t,h,hk,q=>by
  rw[pO,uQ];have e:k<F.length:=by omega
  have j:gu F (0,(0,())) (k:Int)=F[k]:=by
   simp_all [gu]
  have g:=d F[k] (List.getElem_mem e);obtain⟨c,l,s,u⟩:=akk g.1 g.2;have m:dN (bP t (cZ c)) 1=true:=by
   simp only[dN,bP,cZ,aI,aK,decide_eq_true_eq,kF];omega
  rw[show((k+1:Nat):Int)-1=(k:Int) by omega,bM (nD),bM (dV),j,l,bu];simp only[m,gq,aa];rw[iZ];obtain⟨t',o,p⟩:=Gn F i d N k a b (bP t (cZ c)) (by omega) (by omega) (by grind [bP,cZ]);refine⟨t',o, ?_⟩;rw[p,List.take_add_one,List.getElem?_eq_getElem e];have:bP t (cZ c)=[]↔t=[]/\(F[k].1=0\/F[k].1=12):=by
   simp_all [bP,cZ]
  rw[this];simp only[Option.toList_some,List.mem_append,List.mem_singleton]
  grind
theorem ag1 (w:bQ) (m:w.length<=100000): ∃t,arM w=a6 (t,())/\(!eX t [])= !Ic (lH w 0 eQ).1:=by
 have j:=AC w 0 eQ jL;have q:eQ.1.length=1:=rfl;have s:=ER j.1;rw[arM,az3 w m,bu];obtain⟨l,o,d⟩:=Gn (lo (lH w 0 eQ).1) (by rw[mY];omega) (fun f i=>by
  unfold lo at i
  grind) bG (lo (lH w 0 eQ).1).length [] [] [] (dK (by rw[mY];omega)) (af _) (by simp)
 simp only;rw[bF,iZ (by rw[mY];omega) (by rw[mY];omega),o,bu];refine⟨_,rfl, ?_⟩;congr 1;simp only;rw[List.take_length]at d;have p:(∀f∈lo (lH w 0 eQ).1,f.1=0\/f.1=12)↔Ic (lH w 0 eQ).1=true:=by
  unfold Ic lo;simp only[List.mem_reverse,List.mem_map,List.all_eq_true,Bool.or_eq_true,decide_eq_true_eq];exact⟨fun h f i=>h _ ⟨f,i,rfl⟩,fun h f ⟨g,j,e⟩=>by grind⟩
 rw[p]at d;unfold eX;cases hs:Ic (lH w 0 eQ).1 with
 |true=>rw[d.2 ⟨rfl,hs⟩];rfl
 |false=>
  have:l≠[]:=fun e=>by simp_all
  cases l with
  |nil=>simp_all
  |cons x y=>rfl
def uJ (s:bQ) (d:Bool) (a:Nat):bQ:=if d=true then((s.take (iK s a)).drop a).dropWhile (· ==9)else(s.take (iK s a)).drop a
def lY (s:bQ) (a:Nat):Nat:=if iK s a<s.length then iK s a+1 else iK s a
def nC (s w:bQ) (d:Bool):Nat->Nat->Nat×Bool
 |0,a=>(a,false)
 |n+1,a=>if a<s.length then(if uJ s d a=w then(lY s a,true)else nC s w d n (lY s a))else(a,false)
theorem ZG {s:List UInt8} {a:Nat} (h:a<s.length):a<lY s a/\lY s a<=s.length:=by
 grind [uI,xW,lY]
theorem Qd: ∀(l:bQ) (N:Nat),l.length<N->G8 N l 9=a6 (.inl ((l.dropWhile (· ==9),()),()))
 |l,0,h=>by omega
 |[],N+1,_=>by rfl
 |c::l,N+1,h=>by
  rw[G8,MB,bM (eU (by simp_all [bF])),bM (dV (by omega) (by simp)),show bK (c::l) 0=(c.toNat:Int) from rfl];by_cases e:c=9
  .subst e;rw[show bJ (((9:UInt8).toNat:Nat):Int) 9=true from rfl,aa,bM (fH (by omega) (by grind [bF]) (by omega))];rw[show sub ((9:UInt8)::l) 1 (bD ((9:UInt8)::l))=l by simp[sub,bF],Qd l N (by simp at h;omega)];simp
  .rw[dD (dX (fun h=>e (UInt8.toNat_inj.1 (by grind)))),List.dropWhile_cons_of_neg (by simpa using e)]
theorem atH (l:bQ) (hl:l.length<1000000):aen l 9=a6 (l.dropWhile (· ==9),()):=by
 rw[aen,Qd l bG (dK),bu];rfl
theorem RG {s w:List UInt8} (f:s.length<1000000) (d:Bool): ∀(N a:Nat),s.length-a<N->a<=s.length->
  EY N s (a:Int) w d=a6 (if(nC s w d N a).2=true then .inr (((((nC s w d N a).1:Nat):Int),true,()),())else .inl (((((nC s w d N a).1:Nat):Int),()),()))
 |0,a,h,_=>by omega
 |N+1,a,h,o=>by
  (rewrite [EY,X4];delta BN;rw[nC])
  by_cases e:a<s.length
  .have p:=uI s a;have q:=xW (s:=s) (a:=a) (by omega);have u:=ZG e;have v:=RG (w:=w) f d N (lY s a) (by omega) (by omega);have i:sub s (a:Int) ((iK s a:Nat):Int)=(s.take (iK s a)).drop a:=by simp[sub]
   have g: ∀(x:bQ),x=uJ s d a->
     (bif decide (iK s a<s.length)then
      bif eX x w then(a6 (.inr ((bZ .i64 ((iK s a:Nat):Int) 1,true,()),())):Option (WB.den⊕Xi.den))
      else EY N s (bZ .i64 ((iK s a:Nat):Int) 1) w d
     else bif eX x w then a6 (.inr ((((iK s a:Nat):Int),true,()),()))
      else EY N s ((iK s a:Nat):Int) w d)=
     a6 (if(if uJ s d a=w then(lY s a,true)else nC s w d N (lY s a)).2=true
      then .inr (((((if uJ s d a=w then(lY s a,true)else nC s w d N (lY s a)).1:Nat):Int),true,()),())
      else .inl (((((if uJ s d a=w then(lY s a,true)else nC s w d N (lY s a)).1:Nat):Int),()),())):=by
    intro x j;subst j;have l:eX (uJ s d a) w=decide (uJ s d a=w):=by
     grind [eX]
    rw[l];by_cases hl:iK s a<s.length
    .have m:lY s a=iK s a+1:=by simp_all [lY]
     rw[decide_eq_true hl,aa,dA,show((iK s a:Nat):Int)+1=((lY s a:Nat):Int) by omega]
     grind
    .have m:lY s a=iK s a:=by simp_all [lY]
     grind
   rw[bM (eU (by rw[bF];omega)),am4 f (by omega),bu,am e];simp only;rw[bM (fH (by omega) (by omega) (by rw[bF];omega)),i];cases d with
   |false=>simp_all [uJ]
   |true=>
    simp only[aa];by_cases e0:(s.take (iK s a)).drop a=[]
    .rw[e0,show eX ([]:bQ) []=true from rfl,aa];exact g _ (by rw[uJ,am rfl,e0];rfl)
    .rw[dD (by simp_all [eX])];refine(dD (by rfl)).trans ?_;refine(bM (by rfl)).trans ?_;refine(bM (by rfl)).trans ?_;refine(bM (by rfl)).trans ?_;refine(bM (by rfl)).trans ?_;rw[show bK [9] 0=9 from rfl];rw[atH _ (by grind),bu];exact g _ (by rfl)
  simp_all [iG,bF,ap]
def Aa (s w:bQ) (d:Bool) (a:Nat):Nat×Bool:=nC s w d bG a
theorem awV {s:List UInt8} (e:s.length<1000000) (d:bQ×Bool×Unit) {a:Nat} (f:a<=s.length):arK s a d=a6 ((((Aa s d.1 d.2.1 a).1:Nat):Int),((Aa s d.1 d.2.1 a).2,())):=by
 rw[arK,RG e d.2.1 bG a (dK) f,bu];unfold Aa;cases h:(nC s d.1 d.2.1 bG a).2 with
 |true=>simp[dL]
 |false=>simp[dL]
end
end Go.Proofs.YtjgoejaajmhllaaGreatDoor
