/- Parts of the proof, joined and shortened by a program: the plain machine, the functions as it prints them, and the mathematics over them. -/
import Derived.Test.YtdfhjhkcjecmlaaGreatDoorZ3
import Derived.Test.YtdfhjhkcjecmlaaGreatDoorZ4
import Derived.Test.YtdfhjhkcjecmlaaGreatDoorZ5
import Derived.Test.YtdfhjhkcjecmlaaGreatDoorZ6
import Derived.Test.YtdfhjhkcjecmlaaGreatDoorZ7
import Derived.Test.YtdfhjhkcjecmlaaGreatDoorZ8
import Derived.Test.YtdfhjhkcjecmlaaGreatDoorZ9
import Derived.Test.YtdfhjhkcjecmlaaGreatDoorZ10
set_option linter.unusedVariables false
set_option linter.unusedSimpArgs false
set_option maxRecDepth 100000
set_option maxHeartbeats 4000000
namespace Go.Proofs.YtdfhjhkcjecmlaaGreatDoor
section
open Option renaming some → a6, none → a7
open List renaming length_append → ai, drop_eq_getElem_cons → ay, drop_of_length_le → aB, length_singleton → aI, eq_nil_or_concat → bi, concat_eq_append → bC
open Go.RowKit
theorem iT {e:Type} {l:List e} {d:e} {k:Nat} (h:k<l.length):dQ l d (k:Int)=l[k]:=by
 simp_all [dQ]
abbrev Ctx:=Int×Int×Int×Int×bU×taY
def JS (f:qL):Bool:=decide (f.1=1)||decide (f.1=3)
def wJ (l:List qL):Nat:=l.countP JS
theorem Q9 (F:List qL) (hF:F.length<1000000): ∀(N k:Nat) (c:Int),F.length-k<N->k<=F.length->0<=c->c<=k->
  Qy N c F (bM F) (k:Int)=a6 (.inl ((c+(wJ (F.drop k):Int),()),()))
 |0,k,c,h,_,_,_=>by omega
 |N+1,k,c,h,hk,i,j=>by
  rw[Qy,aft];by_cases e:k<F.length
  .have f:bY .i64 (k:Int) 1=((k+1:Nat):Int):=by grind [dC]
   have g:bY .i64 c 1=c+1:=dC;rw[bW (eX (by rw[bP];omega)),bW (ed),iT e,f,g,
    Q9 F hF N (k+1) (c+1) (by omega) (by omega) (by omega) (by omega),Q9 F hF N (k+1) c (by omega) (by omega) (by omega) (by omega),ay e]
   unfold wJ;rw[List.countP_cons];generalize List.countP JS (F.drop (k+1))=m;have d:c+((m+1:Nat):Int)=c+1+(m:Int):=by omega
   by_cases a:F[k].1=1
   .rw[bW (dW a),show JS F[k]=true by simp[JS,a],am rfl,d]
   .rw[dD (dJ a)];by_cases b:F[k].1=3
    .rw[bW (dW b),show JS F[k]=true by simp[JS,b],am rfl,d]
    simp_all [dJ,JS]
  simp_all [gB,bP,aB,wJ]
theorem aLt {F:List qL} (hF:F.length<1000000):aC3 F=a6 ((wJ F:Int),()):=by
 have h:=Q9 F hF bV 0 0 (dI) (by omega) (by omega) (by omega);rw[aC3,show Qy bV 0 F (bM F) 0=_ from h,bJ];simp_all [dO]
def uK (f:qL):Bool:= !(decide (f.1=0)||decide (f.1=2)||decide (f.1=4)||decide (f.1=5)||decide (f.1=13)||decide (f.1=14))
def TM (l:List qL):Option qL:=l.reverse.find? uK
theorem agx (F:List qL) (hF:F.length<1000000): ∀(k N:Nat),k<=F.length->k<N->
  zA N ((k:Int)-1) F false 0 0=a6 (match(F.take k).reverse.find? uK with
   |none=>.inl ((),((),(),(),()),((),(F,()),(false,()),(0,0,()),()))
   |some f=>.inr ((),((),(),(),()),((),(F,()),(true,()),(f.1,f.2.1,()),())))
 |0,0,_,h=>by omega
 |0,N+1,_,_=>by
  rfl
 |k+1,0,_,h=>by omega
 |k+1,N+1,hk,j=>by
  have d:=agx F hF k N (by omega) (by omega);have e:((k+1:Nat):Int)-1=(k:Int):=by omega
  have g:fO F (k:Int)=true:=ed;have i:dV .i64 (k:Int) 1=(k:Int)-1:=fV
  (rewrite [zA,FI];delta lV;rw[e,bW (lL)])
  simp only[g,iT (show k<F.length by omega),i,d,aa];rw[List.take_succ_eq_append_getElem (by omega),List.reverse_append,List.reverse_singleton,List.singleton_append,List.find?_cons];by_cases h0:F[k].1=0
  .simp_all [dW,uK]
  rw[dD (dJ h0)];by_cases h2:F[k].1=2
  .simp_all [dW,uK]
  rw[dD (dJ h2)];by_cases h4:F[k].1=4
  .simp_all [dW,uK]
  rw[dD (dJ h4)];by_cases h5:F[k].1=5
  .simp_all [dW,uK]
  rw[dD (dJ h5)];by_cases h13:F[k].1=13
  .simp_all [dW,uK]
  rw[dD (dJ h13)];by_cases h14:F[k].1=14
  .simp_all [dW,uK]
  simp_all [dJ,uK]
theorem aqT {F:List qL} (hF:F.length<1000000):aC4 F=a6 ((TM F).getD (0,(0,())),((TM F).isSome,())):=by
 have h:=agx F hF F.length bV (by omega) (dI);rw[List.take_length]at h;have d:dV .i64 (bM F) 1=(F.length:Int)-1:=fV (by rw[bP];omega) (by rw[bP];omega);rw[aC4,d,h,bJ];unfold TM;cases F.reverse.find? uK<;>rfl
def stF (l:List qL):Int:=let m:=(l.getLastD (0,(0,()))).1;if m=4\/m=5\/m=13 then m else 0
theorem aFt {F:List qL} (d:F≠[]) (hF:F.length<1000000):aC7 F=a6 (stF F,()):=by
 obtain⟨r,t,e⟩:=(bi F).resolve_left d;rw[bC]at e;subst e;rw[ai,aI]at hF;have f:dV .i64 (bM (r++[t])) 1=(r.length:Int):=by
  grind [bP,fV]
 have g:dQ (r++[t]) (0,(0,())) (r.length:Int)=t:=ny rfl;unfold stF
 (rewrite [aC7];delta Ep;rw[f,bW (ed (by omega) (by grind))])
 simp only[g,List.getLastD_concat];by_cases h4:t.1=4
 .simp_all [dW]
 rw[dD (dJ h4)];by_cases h5:t.1=5
 .simp_all [dW]
 rw[dD (dJ h5)];by_cases h13:t.1=13
 .simp_all [dW]
 simp_all [dJ]
def NZ (s:bU):Bool:=decide (nl s≠0/\nl s=s.length)
def P8 (w:bU):bU:=match(bQ w).getLast? with
 |none=>[]
 |some p=>if p.1=12/\p.2.2.1=bM w/\NZ (sub w (p.2.1+1) (bM w))=true then sub w (p.2.1+1) (bM w)else []
theorem au9 {w:List UInt8} (o:w.length<=10000) (f: ∀s:bU,s.length<1000000->WH s=a6 (NZ s,())):aC6 w=a6 (P8 w,()):=by
 have g:=rY w;rw[aC6,aH6 w (by omega),bJ];unfold P8;simp only;rcases bi (bQ w)with e|⟨r,t,e⟩
 .rw[e];rfl
 .rw[bC]at e;have d:=QR (s:=w) t (by rw[e];simp);have p:=d.f0;have q:=d.f1;rw[e,ai,aI]at g;rw[e,List.getLast?_concat];have h:dV .i64 (bM (r++[t])) 1=(r.length:Int):=by
   grind [bP,fV]
  have i:dQ (r++[t]) (0,(0,(0,(0,(false,()))))) (r.length:Int)=t:=ny rfl;have j:bY .i64 t.2.1 1=t.2.1+1:=dC;have l:dZ (bM w) (t.2.1+1) (bM w)=true:=eU (by omega) (by rw[bP];omega) (by omega);rw[dD (dJ (by grind [bP])),h,bW (ed (by omega) (by grind))];simp only[i,j,l,aa];by_cases h12:t.1=12
  .rw[dW h12];by_cases h3:t.2.2.1=bM w
   .rw[dW h3];have m:=lq w (t.2.1+1) (bM w);rw[bP]at m;rw[f _ (by rw[bP];omega),bJ]
    grind
   simp_all [dJ]
  simp_all [dJ]
theorem agz (w:bU):(P8 w).length<=w.length:=by
 grind [P8,FP]
def Kw (s:bU) (from_ d:Int) (t:bU):Ctx:=(2,0,from_+bM s-bM t,0,t,false,[],0,d,())
def MB (s:bU) (from_ d k:Int):Ctx:=(k,0,from_+bM s,0,[],false,[],0,d,())
def ZU (s:bU) (from_ d:Int) (f:qL) (w:bU):Ctx:=if f.1=12 then Kw s from_ d []else if(f.1=7\/f.1=8)/\(sub w (f.2.1+2) (bM w)=[]\/NZ (sub w (f.2.1+2) (bM w))=true)then Kw s from_ d (sub w (f.2.1+2) (bM w))else MB s from_ d 5
theorem acP {s:List UInt8} {d e:Int} {f:List Tok} {g h i:Int} {j l:Bool} {t:List UInt8} (m:s.length<=10000) (o:0<=d) (h2:d<=10000) (p:t.length<=10000):
  ag4 s d e f g h i j l t=a6 ((s,(d,(e,(f,(g,(h,(i,(j,(l,()))))))))),(Kw s d e t,())):=by
 rw[ag4,dC (by rw[bP];omega) (by rw[bP];omega),fV (by grind [bP]) (by grind [bP])];rfl
theorem aeY {s:List UInt8} {d e:Int} {f:List Tok} {g h i:Int} {j l:Bool} (k:Int) (m:s.length<=10000) (o:0<=d) (h2:d<=10000):
  ajU s d e f g h i j l k=a6 ((s,(d,(e,(f,(g,(h,(i,(j,(l,()))))))))),(MB s d e k,())):=by
 rw[ajU,dC (by rw[bP];omega) (by rw[bP];omega)];rfl
theorem aqS {s:List UInt8} {g i:Int} {j:List Tok} {l m o:Int} {p q:Bool} {f:qL} {w:List UInt8} (u:s.length<=10000) (v:0<=g) (h2:g<=10000) (A:w.length<=10000)
  (hf:f.1=7\/f.1=8->0<=f.2.1/\f.2.1+2<=w.length) (x: ∀s:bU,s.length<1000000->WH s=a6 (NZ s,())):
  aC5 s g i j l m o p q f w=a6 ((s,(g,(i,(j,(l,(m,(o,(p,(q,()))))))))),(ZU s g i f w,())):=by
 (rewrite [aC5];delta ajW acl ajV)
 unfold ZU;have y:=lq w (f.2.1+2) (bM w);rw[bP]at y;by_cases h12:f.1=12
 .simp_all [dW,acP,bJ]
 rw[dD (dJ h12),aq h12];have B:(f.1=7\/f.1=8)->(bif(dZ (bM w) (bY .i64 f.2.1 2) (bM w))then
    bif(gm (sub w (bY .i64 f.2.1 2) (bM w)) [])then
     bK (ag4 s g i j l m o p q (sub w (bY .i64 f.2.1 2) (bM w))) fun e=>
      a6 ((e.1.1,(e.1.2.1,(e.1.2.2.1,(e.1.2.2.2.1,(e.1.2.2.2.2.1,(e.1.2.2.2.2.2.1,(e.1.2.2.2.2.2.2.1,(e.1.2.2.2.2.2.2.2.1,(e.1.2.2.2.2.2.2.2.2.1,()))))))))),((e.2.1.1,(e.2.1.2.1,(e.2.1.2.2.1,(e.2.1.2.2.2.1,(e.2.1.2.2.2.2.1,(e.2.1.2.2.2.2.2.1,(e.2.1.2.2.2.2.2.2.1,(e.2.1.2.2.2.2.2.2.2.1,(e.2.1.2.2.2.2.2.2.2.2.1,()))))))))),()))
    else
    bK (WH (sub w (bY .i64 f.2.1 2) (bM w))) fun e=>
     bif e.1 then
      bK (ag4 s g i j l m o p q (sub w (bY .i64 f.2.1 2) (bM w))) fun d=>
       a6 ((d.1.1,(d.1.2.1,(d.1.2.2.1,(d.1.2.2.2.1,(d.1.2.2.2.2.1,(d.1.2.2.2.2.2.1,(d.1.2.2.2.2.2.2.1,(d.1.2.2.2.2.2.2.2.1,(d.1.2.2.2.2.2.2.2.2.1,()))))))))),((d.2.1.1,(d.2.1.2.1,(d.2.1.2.2.1,(d.2.1.2.2.2.1,(d.2.1.2.2.2.2.1,(d.2.1.2.2.2.2.2.1,(d.2.1.2.2.2.2.2.2.1,(d.2.1.2.2.2.2.2.2.2.1,(d.2.1.2.2.2.2.2.2.2.2.1,()))))))))),()))
     else
     bK (ajU s g i j l m o p q 5) fun d=>
      a6 ((d.1.1,(d.1.2.1,(d.1.2.2.1,(d.1.2.2.2.1,(d.1.2.2.2.2.1,(d.1.2.2.2.2.2.1,(d.1.2.2.2.2.2.2.1,(d.1.2.2.2.2.2.2.2.1,(d.1.2.2.2.2.2.2.2.2.1,()))))))))),((d.2.1.1,(d.2.1.2.1,(d.2.1.2.2.1,(d.2.1.2.2.2.1,(d.2.1.2.2.2.2.1,(d.2.1.2.2.2.2.2.1,(d.2.1.2.2.2.2.2.2.1,(d.2.1.2.2.2.2.2.2.2.1,(d.2.1.2.2.2.2.2.2.2.2.1,()))))))))),()))
   else
   a7)=a6 ((s,(g,(i,(j,(l,(m,(o,(p,(q,()))))))))),(if(f.1=7\/f.1=8)/\(sub w (f.2.1+2) (bM w)=[]\/NZ (sub w (f.2.1+2) (bM w))=true)then Kw s g i (sub w (f.2.1+2) (bM w))
    else MB s g i 5,())):=by
  intro h;obtain⟨D,g1⟩:=hf h;have z:bY .i64 f.2.1 2=f.2.1+2:=dC;rw[z,bW (eU (by omega) (by rw[bP];omega) (by omega))];by_cases he:sub w (f.2.1+2) (bM w)=[]
  .rw[bW (by rw[he];rfl),acP u v h2 (by rw[bP];omega),bJ,am ⟨h,.inl he⟩]
  .rw[dD (by simpa [gm] using he),x _ (by rw[bP];omega),bJ];by_cases hn:NZ (sub w (f.2.1+2) (bM w))=true
   .rw[bW hn,acP u v h2 (by rw[bP];omega),bJ,am ⟨h,.inr hn⟩]
   simp_all [aeY,bJ]
 by_cases h7:f.1=7
 .simp_all [dW]
 rw[dD (dJ h7)];by_cases h8:f.1=8
 .simp_all [dW]
 simp_all [dJ,aeY,bJ]
end
section
open Go.RowKit
end
section
open Option renaming some → a6, none → a7
open Bool renaming not_true → ak
open List renaming mem_cons_of_mem → au, drop_eq_getElem_cons → ay, drop_of_length_le → aB, getElem_mem → aF, mem_cons_self → aK
open Go.RowKit
def uH (l:List Nd) (leaf:Int):Nat->Int
 |0=> -1
 |k+1=>if(dQ l uI (k:Int)).2.1<=leaf/\leaf<(dQ l uI (k:Int)).2.2.1 then(k:Int)else uH l leaf k
theorem Ub (l:List Nd) (leaf:Int): ∀k,uH l leaf k= -1\/(0<=uH l leaf k/\uH l leaf k<k/\(dQ l uI (uH l leaf k)).2.1<=leaf/\leaf<(dQ l uI (uH l leaf k)).2.2.1)
 |0=>.inl rfl
 |k+1=>by
  rw[uH];split
  .omega
  .rcases Ub l leaf k with h|h
   all_goals omega
theorem agu (l:List Nd) (leaf:Int) (hl:l.length<1000000): ∀(k N:Nat),k<=l.length->k<N->
  Xk N l leaf ((k:Int)-1)=a6 (if uH l leaf k= -1 then .inl ((),())else .inr ((uH l leaf k,()),()))
 |0,0,_,h=>by omega
 |0,N+1,_,_=>by
  rfl
 |k+1,0,_,h=>by omega
 |k+1,N+1,hk,j=>by
  have d:=agu l leaf hl k N (by omega) (by omega);have e:((k+1:Nat):Int)-1=(k:Int):=by omega
  have f:fO l (k:Int)=true:=ed;have g:dV .i64 (k:Int) 1=(k:Int)-1:=fV;rw[Xk,afC,e,bW (lL)];simp only[f,g,d,aa];show(bif leI (dQ l uI (k:Int)).2.1 leaf then bif gU leaf (dQ l uI (k:Int)).2.2.1 then _ else _ else _)=_;by_cases h1:(dQ l uI (k:Int)).2.1<=leaf
  .rw[bW (lL h1)];by_cases h2:leaf<(dQ l uI (k:Int)).2.2.1
   .simp_all [uH,eX]
   simp_all [uH,aq,gB]
  .have i:uH l leaf (k+1)=uH l leaf k:=by rw[uH,aq (fun h=>h1 h.1)]
   rw[dD (xB h1),i]
theorem aCl {l:List Nd} (hl:l.length<1000000) (leaf:Int):aDe l leaf=a6 (uH l leaf l.length,()):=by
 have h:=agu l leaf hl l.length bV (by omega) (dI);have d:dV .i64 (bM l) 1=(l.length:Int)-1:=fV (by rw[bP];omega) (by rw[bP];omega);rw[aDe,d,h,bJ];split
 .rename_i e;rw[e];rfl
 .rfl
def xH (up:Int):List Nd->Nat->List Int
 |[],_=>[]
 |n::m,k=>if n.2.2.2.1=up then(k:Int)::xH up m (k+1)else xH up m (k+1)
theorem acI (up:Int) (l:List Nd): ∀(m:List Nd) (k:Nat),l.drop k=m->k<=l.length-> ∀x∈xH up m k,∃j:Nat,x=(j:Int)/\j<l.length
 |[],_,_,_,x,d=>by cases d
 |n::m,k,h,hk,x,d=>by
  have e:k<l.length:=by
   grind
  have f:=acI up l m (k+1) (by rw[<-List.drop_drop,h];rfl) (by omega)
  grind [xH]
theorem ahv (up:Int): ∀(m:List Nd) (k:Nat),(xH up m k).length<=m.length
 |[],_=>by simp[xH]
 |n::m,k=>by
  have d:=ahv up m (k+1)
  grind [xH]
theorem Qo (l:List Nd) (up:Int) (hl:l.length<1000000): ∀(N k:Nat) (o:List Int),l.length-k<N->k<=l.length->o.length<=k->
  Ol N up l (bM l) (k:Int) o=a6 (.inl ((),(o++xH up (l.drop k) k,())))
 |0,k,o,h,_,_=>by omega
 |N+1,k,o,h,hk,f=>by
  rw[Ol,UW];by_cases e:k<l.length
  .have d:bY .i64 (k:Int) 1=((k+1:Nat):Int):=by grind [dC]
   rw[bW (eX (by rw[bP];omega)),bW (ed),iT e,d,ay e,xH];by_cases h1:l[k].2.2.2.1=up
   .rw[bW (dW h1),am h1,bW (oO (by grind [cu])),Qo l up hl N (k+1) _ (by omega) (by omega) (by simp_all [cu])];simp[cu]
   .rw[dD (dJ h1),aq h1,Qo l up hl N (k+1) _ (by omega) (by omega) (by omega)]
  simp_all [gB,bP,aB,xH]
theorem aH2 {l:List Nd} (hl:l.length<1000000) {i:Int} (e:0<=i) (f:i<l.length):amV l i=a6 (xH i l 0,()):=by
 have h:=Qo l i hl bV 0 [] (dI) (by omega) (by simp);have d:am8 l i=a6 (true,()):=by
  simp_all [am8,lL,eX,bP]
 rw[amV,d,bJ];simp only[ak,ac]
 grind [bJ,dO]
def xE (l:List Nd) (i:Int):List Int->Int->Int->Int×Int
 |[],n,f=>(n,f)
 |k::K,n,f=>if k<i/\(dQ l uI k).1=7 then xE l i K (n+1) (if n=0 then k else f)else xE l i K n f
theorem abv (l:List Nd) (i:Int): ∀(K:List Int) (n f:Int),0<=n->(∀x∈K,∃j:Nat,x=(j:Int)/\j<l.length)->(0<n-> ∃j:Nat,f=(j:Int)/\j<l.length/\(dQ l uI f).1=7)->
  n<=(xE l i K n f).1/\(xE l i K n f).1<=n+K.length/\(0<(xE l i K n f).1-> ∃j:Nat,(xE l i K n f).2=(j:Int)/\j<l.length/\(dQ l uI (xE l i K n f).2).1=7)
 |[],n,f,e,_,d=>⟨by simp[xE],by simp[xE],d⟩
 |k::K,n,f,e,m,d=>by
  rw[xE];have g: ∀x∈K,∃j:Nat,x=(j:Int)/\j<l.length:=fun x o=>m x (au _ o);split
  .rename_i h
   have p:=abv l i K (n+1) (if n=0 then k else f) (by omega) g (fun _=>by
    grind [aK])
   grind
  .have p:=abv l i K n f e g d
   grind
theorem yS (l:List Nd) (i:Int) (K:List Int) (g:K.length<1000000) (d: ∀x∈K,∃j:Nat,x=(j:Int)/\j<l.length): ∀(N j:Nat) (n f:Int),K.length-j<N->j<=K.length->0<=n->n<=j->
  Xl N l i n f K (bM K) (j:Int)=a6 (.inl (((xE l i (K.drop j) n f).1,(xE l i (K.drop j) n f).2,()),()))
 |0,j,n,f,h,_,_,_=>by omega
 |N+1,j,n,f,h,p,s,u=>by
  rw[Xl,afD];by_cases e:j<K.length
  .have m:bY .i64 (j:Int) 1=((j+1:Nat):Int):=by grind [dC]
   have o:bY .i64 n 1=n+1:=dC;obtain⟨q,v,y⟩:=d K[j] (aF e);rw[bW (eX (by rw[bP];omega)),bW (ed),iT e,ay e,xE,m,o];by_cases h2:K[j]<i
   .rw[bW (eX h2),bW (ed)];show(bif bZ (dQ l uI K[j]).1 7 then _ else _)=_;by_cases h3:(dQ l uI K[j]).1=7
    .rw[bW (dW h3),am ⟨h2,h3⟩];by_cases h4:n=0
     .rw[bW (dW h4),am h4,yS l i K g d N (j+1) _ _ (by omega) (by omega) (by omega) (by omega)]
     .rw[dD (dJ h4),aq h4,yS l i K g d N (j+1) _ _ (by omega) (by omega) (by omega) (by omega)]
    .rw[dD (dJ h3),aq (fun h=>h3 h.2),yS l i K g d N (j+1) _ _ (by omega) (by omega) (by omega) (by omega)]
   .rw[dD (gB h2),aq (fun h=>h2 h.1),yS l i K g d N (j+1) _ _ (by omega) (by omega) (by omega) (by omega)]
  .rw[dD (gB (by rw[bP];omega)),aB (by omega)];rfl
theorem aCk {l:List Nd} (hl:l.length<1000000) {up:Int} (d:0<=up) (e:up<l.length) (i:Int):
  axi l up i=a6 ((xE l i (xH up l 0) 0 i).1,((xE l i (xH up l 0) 0 i).2,())):=by
 have hk:=ahv up l 0;have h:=yS l i (xH up l 0) (by omega) (acI up l l 0 rfl (by omega)) bV 0 0 i (dI) (by omega) (by omega) (by omega);rw[axi,aH2 hl d e,bJ]
 grind [bJ,dO]
def XJ:List Lf->Int
 |[]=>0
 |x::l=>if x.1=4 then((Zg x.2.1:Nat):Int)else XJ l
theorem ah8 (v:List Lf) (d:v.length<1000000): ∀(N k:Nat),v.length-k<N->k<=v.length->
  ∃r,QD N v (bM v) (k:Int)=a6 r/\dO r (fun _=>a6 ((0:Int),())) (fun b=>a6 (b.1.1,()))=a6 (XJ (v.drop k),())
 |0,k,h,_=>by omega
 |N+1,k,h,hk=>by
  rw[QD,afE];by_cases e:k<v.length
  .have f:bY .i64 (k:Int) 1=((k+1:Nat):Int):=by grind [dC]
   rw[bW (eX (by rw[bP];omega)),bW (ed),iT e,ay e,XJ,f];by_cases h1:v[k].1=4
   .rw[bW (dW h1),am h1,akI,bJ];exact⟨_,rfl,rfl⟩
   .rw[dD (dJ h1),aq h1];exact ah8 v d N (k+1) (by omega) (by omega)
  .rw[dD (gB (by rw[bP];omega)),aB (by omega)];exact⟨_,rfl,rfl⟩
theorem aMp {f:List Lf} (hf:f.length<1000000) {n:Nd} (d:0<=n.2.1) (e:n.2.1<=n.2.2.1) (h2:n.2.2.1<=f.length):aDf f n=a6 (XJ (sub f n.2.1 n.2.2.1),()):=by
 have g:(sub f n.2.1 n.2.2.1).length<1000000:=by
  grind [mQ]
 obtain⟨r,h,i⟩:=ah8 (sub f n.2.1 n.2.2.1) g bV 0 (dI) (by omega);rw[aDf,bW (eU d e (by rw[bP];omega)),show QD bV (sub f n.2.1 n.2.2.1) (bM (sub f n.2.1 n.2.2.1)) 0=_ from h,bJ];exact i
structure NOk (a b k:Nat) (n:Nd):Prop where
 f0:(a:Int)<=n.2.1
 ft:n.2.1<=n.2.2.1
 t1:n.2.2.1<=b
 wd:n.1=6\/n.1=7->n.2.2.1=n.2.1+1
 u0:0<=n.2.2.2.1
 u1:n.2.2.2.1<k
theorem NOk.mono {a b k d e f:Nat} {n:Nd} (h:NOk a b k n) (g:d<=a) (hb:b<=e) (hk:k<=f):NOk d e f n:=
 ⟨by have:=h.f0;omega,h.ft,by have:=h.t1;omega,h.wd,h.u0,by have:=h.u1;omega⟩
theorem Tr.all {F:List Lf} {a b:Nat} {u:Int} {k:Nat} {m:List Nd} (h:Tr F a b u k m):0<=u->u<k-> ∀n∈m,NOk a b (k+m.length) n:=by
 induction h with
 |nil h=>simp
 | @leaf a b f t u k kd m h1 hk hf h2 i=>
  intro d j n g;have l:=h2.le;rcases List.mem_cons.1 g with e|e
  .subst e;exact⟨by simp only;omega,by simp only;omega,by simp only;omega,by simp only;omega,d,by grind⟩
  .exact(i d (by omega) n e).mono (by omega) (by omega) (by grind)
 | @node a b f t u k kd m n' h1 hk h8 h h2 ih1 o=>
  intro d j n g;have l:=h.le;have p:=h2.le;rcases List.mem_cons.1 g with e|e
  .subst e;exact⟨by simp only;omega,by simp only;omega,by simp only;omega,by simp only;omega,d,by grind⟩
  .rcases List.mem_append.1 e with e|e
   .exact(ih1 (by omega) (by omega) n e).mono (by omega) (by omega) (by grind)
   .exact(o d (by omega) n e).mono (by omega) (by omega) (by grind)
def Dt (s:bU):Nat->Nat->List Tok->List Tok
 |0,_,l=>l
 |n+1,a,l=>if a<s.length then Dt s n (ku s a (0,[],false,())).1.2.2.1.toNat (l++[(ku s a (0,[],false,())).1])else l
def Xb (s:bU):List Tok:=Dt s (s.length+1) 0 []
theorem Qq {s:List UInt8} (d:s.length<=10000): ∀(n m a:Nat) (l:List Tok),s.length<n+a->s.length<m+a->Dt s n a l=Dt s m a l
 |0,0,a,l,_,_=>rfl
 |0,m+1,a,l,h,_=>by rw[Dt,Dt,aq (by omega)]
 |n+1,0,a,l,_,h=>by rw[Dt,Dt,aq (by omega)]
 |n+1,m+1,a,l,f,g=>by
  rw[Dt,Dt];split
  .rename_i e
   have:=uw d e (0,[],false,());exact Qq d n m _ _ (by omega) (by omega)
  .rfl
theorem anM {s:List UInt8} (f:s.length<=10000): ∀(n a:Nat) (l:List Tok),l.length<=a->a<=s.length->(∀t∈l,OkT s t/\t.1≠7)->(∀t∈Dt s n a l,OkT s t/\t.1≠7)/\(Dt s n a l).length<=s.length
 |0,a,l,g,i,h=>⟨h,by grind [Dt]⟩
 |n+1,a,l,g,i,h=>by
  rw[Dt];split
  .rename_i e
   have m:=uw f e (0,[],false,());exact anM f n _ _ (by grind) (by omega) (fun t j=>by
    rcases List.mem_append.1 j with d|d
    .exact h t d
    .rw[List.mem_singleton.1 d];refine⟨⟨by omega,by omega,by omega⟩, ?_⟩
     grind [ku,kJ])
  grind
theorem Ui {s:List UInt8} (d:s.length<=10000):(∀t∈Xb s,OkT s t/\t.1≠7)/\(Xb s).length<=s.length:=
 anM d _ _ _ (by simp) (by omega) (fun t e=>by cases e)
end
section
open Option renaming some → a6, none → a7
open Bool renaming not_true → ak
open Int renaming eq_ofNat_of_zero_le → aV
open List renaming drop_eq_getElem_cons → ay, drop_of_length_le → aB, nil_append → aH, drop_zero → aJ
open Nat renaming le_trans → aQ
open Go.RowKit
def sW (c:Ctx) (r:Int):Ctx:=(c.1,(r,(c.2.2.1,(c.2.2.2.1,(c.2.2.2.2.1,(c.2.2.2.2.2.1,(c.2.2.2.2.2.2.1,(c.2.2.2.2.2.2.2.1,(c.2.2.2.2.2.2.2.2.1,())))))))))
def aFn (c:Ctx) (t:bU) (n:Int):Ctx:=(c.1,(2,(c.2.2.1,(c.2.2.2.1,(c.2.2.2.2.1,(c.2.2.2.2.2.1,(t,(n,(c.2.2.2.2.2.2.2.2.1,())))))))))
def F7 (V:bU->bU) (c:Ctx) (f:List Lf) (l:List Nd):Ctx:=
 let i:=uH l (bM f-1) l.length
 let n:=dQ l uI i
 if n.1=6 then sW c 5 else if n.1≠7 then sW c 9 else
 let a:=xE l i (xH n.2.2.2.1 l 0) 0 i
 let u:=dQ l uI n.2.2.2.1
 if u.1=5 then(if 0<a.1 then aFn c (V (dQ f dLf (dQ l uI a.2).2.1).2.1) a.1 else sW c 1)
 else if u.1=8 then(if XJ (sub f u.2.1 u.2.2.1)=4\/XJ (sub f u.2.1 u.2.2.1)=5 then sW c 4 else sW c 3)
 else if u.1=13 then(if a.1=0 then sW c 6 else sW c 7)
 else if u.1=14 then sW c 7 else if u.1=15 then sW c 8 else sW c 9
abbrev Plc:=bU×Int×Int×(List Tok)×Int×Int×Int×Bool×Bool×Unit
theorem WM {e:Type} {l:List e} {d:e} {i:Int} (f:0<=i) (g:i<l.length):dQ l d i∈l:=by
 obtain⟨k,rfl⟩:=aV f;simp_all [iT]
structure RT (f:List Lf) (l:List Nd):Prop where
 len:l.length<1000000
 hd: ∃m,l=(1,0,(f.length:Int),-1,())::m/\Tr f 0 f.length 0 1 m
theorem RT.node {f:List Lf} {l:List Nd} (h:RT f l) {i:Int} (j:0<=i) (o:i<l.length):0<=(dQ l uI i).2.1/\(dQ l uI i).2.1<=(dQ l uI i).2.2.1/\(dQ l uI i).2.2.1<=f.length/\
  ((dQ l uI i).1=7->(dQ l uI i).2.2.1=(dQ l uI i).2.1+1/\0<=(dQ l uI i).2.2.2.1/\(dQ l uI i).2.2.2.1<l.length):=by
 obtain⟨q,m,e,hT⟩:=h;have g:=WM (d:=uI) j o;generalize dQ l uI i=n at g;subst e;rcases List.mem_cons.1 g with e|g
 .simp_all
 .have:=hT.all (by omega) (by omega) n g;have a:=this.f0;have b:=this.ft;have c:=this.t1;have d:=this.u0;have e:=this.u1;exact⟨by omega,b,c,fun p=>⟨this.wd (.inr p),d,by grind⟩⟩
theorem RT.cov {f:List Lf} {l:List Nd} (h:RT f l) (hf:f≠[]):0<=uH l (bM f-1) l.length/\uH l (bM f-1) l.length<l.length:=by
 obtain⟨g,m,e,hT⟩:=h;have i:0<f.length:=List.length_pos_iff.2 hf;rcases Ub l (bM f-1) l.length with h|h
 .exfalso;have: ∀k,0<k->k<=l.length->uH l (bM f-1) k≠ -1:=by
   intro k
   induction k with
   |zero=>intro h;omega
   |succ k j=>
    intro _ hk;rw[uH];split
    .omega
    .rename_i d
     by_cases hk0:k=0
     .exfalso;apply d;subst hk0;rw[show((0:Nat):Int)=0 from rfl,e,show dQ ((1,0,(f.length:Int),-1,())::m) uI 0=(1,0,(f.length:Int),-1,()) from rfl]
      grind [bP]
     omega
  simp_all
 omega
theorem azE {f:List Lf} (hF:Vy f) (hf:f≠[]) {l:List Nd} (hp:acn f=a6 (l,())) (hT:RT f l) {V:bU->List UInt8} (y: ∀x∈f,∃b,TN x.2.1=a6 (V x.2.1,(b,()))) (c d:Ctx) (p:Plc):
  pM f d.1 d.2.1 d.2.2.1 d.2.2.2.1 d.2.2.2.2.1 d.2.2.2.2.2.1 d.2.2.2.2.2.2.1 d.2.2.2.2.2.2.2.1 d.2.2.2.2.2.2.2.2.1 c.1 c.2.1 c.2.2.1 c.2.2.2.1 c.2.2.2.2.1 c.2.2.2.2.2.1 c.2.2.2.2.2.2.1 c.2.2.2.2.2.2.2.1 c.2.2.2.2.2.2.2.2.1
   p.1 p.2.1 p.2.2.1 p.2.2.2.1 p.2.2.2.2.1 p.2.2.2.2.2.1 p.2.2.2.2.2.2.1 p.2.2.2.2.2.2.2.1 p.2.2.2.2.2.2.2.2.1=
   a6 (.inr ((),((),()),(F7 V c f l,p,()))):=by
 have M:=hF.len;have z:dV .i64 (bM f) 1=bM f-1:=fV (by rw[bP];omega) (by rw[bP];omega);obtain⟨s,v⟩:=hT.cov hf;have A:=hT.node s v
 (rewrite [pM,Bo];delta ww;rw[hp,bJ])
 unfold F7;simp only;rw[aCl hT.len,bJ,z];simp only[show((0:Int),((0:Int),((0:Int),((0:Int),()))))=uI from rfl];generalize uH l (bM f-1) l.length=i at*;have B:fO l i=true:=ed s v;generalize N:dQ l uI i=n at*;simp only[B,aa];by_cases h6:n.1=6
 .rw[bW (dW h6),am h6,dJ (show n.1≠7 by omega)];rfl
 rw[dD (dJ h6),aq h6];by_cases h7:n.1=7
 .obtain⟨O,g,h⟩:=A.2.2.2 h7;rw[dW h7,aq (by simp[h7])];simp only[ak,ac];have hk:=acI n.2.2.2.1 l l 0 rfl (by omega);have D:=abv l i (xH n.2.2.2.1 l 0) 0 i (by omega) hk (by omega);rw[aCk hT.len g h,bJ];simp only;generalize xE l i (xH n.2.2.2.1 l 0) 0 i=a at*;have m:=hT.node g h;have E:fO l n.2.2.2.1=true:=ed g h;generalize dQ l uI n.2.2.2.1=u at*;simp only[E,aa];by_cases h5:u.1=5
  .rw[bW (dW h5),am h5];by_cases h0:0<a.1
   .obtain⟨j,e,S,G⟩:=D.2.2 h0;have q:=hT.node (i:=a.2) (by omega) (by omega);have U:=q.2.2.2 G;have I:fO l a.2=true:=ed;rw[bW (eX h0),am h0,bW I];have J:fO f (dQ l uI a.2).2.1=true:=ed q.1 (by omega);rw[bW J];have K:=WM (l:=f) (d:=dLf) (i:=(dQ l uI a.2).2.1) q.1 (by omega);obtain⟨b,L⟩:=y _ K;rw[show((0:Int),(([]:bU),((0:Int),((0:Int),()))))=dLf from rfl,L,bJ];rfl
   .rw[dD (gB h0),aq h0];rfl
  rw[dD (dJ h5),aq h5];by_cases h8:u.1=8
  .rw[bW (dW h8),am h8,aMp (by omega) m.1 m.2.1 m.2.2.1,bJ];simp only;generalize XJ (sub f u.2.1 u.2.2.1)=o;by_cases o4:o=4
   .rw[bW (dW o4),am (.inl o4)];rfl
   rw[dD (dJ o4)];by_cases o5:o=5
   .rw[bW (dW o5),am (.inr o5)];rfl
   rw[dD (dJ o5),aq (by omega)];rfl
  rw[dD (dJ h8),aq h8];by_cases h13:u.1=13
  .rw[bW (dW h13),am h13];by_cases h0:a.1=0
   .rw[bW (dW h0),am h0];rfl
   .rw[dD (dJ h0),aq h0];rfl
  rw[dD (dJ h13),aq h13];by_cases h14:u.1=14
  .rw[bW (dW h14),am h14];rfl
  rw[dD (dJ h14),aq h14];by_cases h15:u.1=15
  .rw[bW (dW h15),am h15];rfl
  rw[dD (dJ h15),aq h15];rfl
 .rw[dJ h7,am h7];rfl
theorem aqI {s:List UInt8} (d:s.length<1000000): ∃y,WA s=a6 (if jr s=true then sub s 0 (nl s:Int)else [],(y,(jr s,()))):=by
 have f:nl s<=s.length:=by unfold nl;split;omega;exact F9 WS s
 rw[WA,XA d,bJ];simp only;by_cases h0:nl s=0
 .simp_all [dW,jr]
 rw[dD (dJ)];by_cases h1:nl s=s.length
 .simp_all [dW,bP,jr]
 have e:nl s<s.length:=by omega
 rw[dD (dJ (by rw[bP];omega)),bW (ed),byte_at e];have g:s.getD (nl s) 0=s[nl s]:=by simp_all
 by_cases h3:s[nl s]=61
 .rw[h3,show bZ ((61:UInt8).toNat:Int) 61=true from rfl];simp only[ak,ac];rw[dC,bW (eU (by omega) (by omega) (by rw[bP];omega)),bW (eU (by omega) (by rw[bP];omega) (by omega))];simp_all [jr]
 .rw[dJ (fun h=>h3 (UInt8.toNat_inj.1 (by grind)))];simp_all [jr]
def wTx (w:bU):bU:=if jr w=true then sub w 0 (nl w:Int)++[61]else [95]
def JV (s:bU) (tk:List Tok) (b:Int):List Lf:=jD s (tk.filter fun t=>decide (t.2.2.1<=b))++[(6,(wTx (sub s b (bM s)),(0,(0,()))))]
theorem aFE (w:bU):(wTx w).length<=w.length+1:=by
 unfold wTx;split
 .have:=lq w 0 (nl w:Int);have d:nl w<=w.length:=by unfold nl;split;omega;exact F9 WS w
  grind
 .simp
theorem ay5 {s:List UInt8} (e:s.length<=9000) {tk:List Tok} (g:tk.length<=s.length) (b:Int) (i:0<=b):Vy (JV s tk b):=by
 refine⟨?_,fun f d=> ?_⟩
 .unfold JV jD
  grind
 .rcases List.mem_append.1 d with h|h
  .unfold jD at h;obtain⟨t,_,rfl⟩:=List.mem_map.1 h
   grind [aGZ,sub]
  grind [aFE,lq,bP]
theorem Xv (tk:List Tok) (hk:tk.length<1000000) (b d f g i j l:Int) (m:bU) (q:Bool) (s:bU) (u v:Int) (c:Ctx) (p:Plc): ∀(N k:Nat) (o:List Tok),tk.length-k<N->k<=tk.length->o.length<=k->
  yG N b tk (bM tk) (k:Int) d f o g i j l m q s u v c.1 c.2.1 c.2.2.1 c.2.2.2.1 c.2.2.2.2.1 c.2.2.2.2.2.1 c.2.2.2.2.2.2.1 c.2.2.2.2.2.2.2.1 c.2.2.2.2.2.2.2.2.1
   p.1 p.2.1 p.2.2.1 p.2.2.2.1 p.2.2.2.2.1 p.2.2.2.2.2.1 p.2.2.2.2.2.2.1 p.2.2.2.2.2.2.2.1 p.2.2.2.2.2.2.2.2.1=
  a6 (.inl ((b,()),((d,f,()),(),()),(o++(tk.drop k).filter (fun t=>decide (t.2.2.1<=b)),(g,i,j,l,m,q,s,u,v,()),c,p,())))
 |0,k,o,h,_,_=>by omega
 |N+1,k,o,h,z,A=>by
  (rewrite [yG,JD];delta jZ)
  by_cases e:k<tk.length
  .have x:bY .i64 (k:Int) 1=((k+1:Nat):Int):=by grind [dC]
   rw[bW (eX (by rw[bP];omega)),bW (ed)];simp only[iT e,x];rw[ay e,List.filter_cons];by_cases h1:tk[k].2.2.1<=b
   .rw[bW (lL h1),am (by simpa using h1),bW (oO (by grind [cu]))];have y:=Xv tk hk b d f g i j l m q s u v c p N (k+1) (cu o [tk[k]]) (by omega) (by omega) (by simp_all [cu]);refine Eq.trans y ?_;simp[cu]
   .rw[dD (xB h1),aq (by simpa using h1)];exact Xv tk hk b d f g i j l m q s u v c p N (k+1) o (by omega) (by omega) (by omega)
  .rw[dD (gB (by rw[bP];omega)),aB (by omega)];simp only[List.filter_nil,List.append_nil];rfl
theorem oEq {d e:Type} {o o':Option d} {k:d->Option e} (h:o=o'):bK o k=bK o' k:=by rw[h]
theorem af6 {s:List UInt8} (d:s.length<=10000) {l:List Tok} (hl:l.length<=10000) (e: ∀t∈l,OkT s t):Z9 s l=a6 (jD s l,()):=by
 have h:=Oc d l hl e bV 0 (dI) (by omega);rw[Z9,show Aw bV s l (bM l) 0 []=_ from h,bJ];rfl
theorem aH9 {s:List UInt8} (E:s.length<=9000) {tk:List Tok} (G:tk.length<=s.length) (I: ∀t∈tk,OkT s t) {b:Int} (u:0<=b) (J:b<=bM s) {V:bU->List UInt8} (K: ∀w:bU,w.length<=10000-> ∃q,TN w=a6 (V w,(q,())))
  (e f g i j:Int) (o p:Bool) (c:Ctx): ∃l,acn (JV s tk b)=a6 (l,())/\RT (JV s tk b) l/\
  aC8 s e f tk g i j o p c b=a6 ((s,(e,(f,(tk,(g,(i,(j,(o,(p,()))))))))),(F7 V c (JV s tk b) l,())):=by
 have hF:=ay5 E G b u;obtain⟨l,v,X,m,L,hT⟩: ∃l,acn (JV s tk b)=a6 (l,())/\l.length<=16*(JV s tk b).length+1/\ ∃m,l=(1,0,((JV s tk b).length:Int),-1,())::m/\Tr (JV s tk b) 0 (JV s tk b).length 0 1 m:=by
  grind [aic]
 have Y:=hF.len;have z:RT (JV s tk b) l:=⟨by omega,m,L,hT⟩;refine⟨l,v,z, ?_⟩;have M:JV s tk b≠[]:=by unfold JV;simp
 have N: ∀x∈JV s tk b,∃q,TN x.2.1=a6 (V x.2.1,(q,())):=fun x O=>K _ (hF.txt x O);have S:=Xv tk (by omega) b b b 0 0 0 0 [] false [] 0 0 c (s,e,f,tk,g,i,j,o,p,()) bV 0 [] (dI) (by omega) (by simp)
 (rewrite [aC8];delta ajX;rw[show yG bV b tk (bM tk) 0 b b [] 0 0 0 0 [] false [] 0 0 c.1 c.2.1 c.2.2.1 c.2.2.2.1 c.2.2.2.2.1 c.2.2.2.2.2.1 c.2.2.2.2.2.2.1 c.2.2.2.2.2.2.2.1 c.2.2.2.2.2.2.2.2.1 s e f tk g i j o p=_ from S,bJ])
 simp only[dO,aJ,aH];rw[bW (eU u J (by omega))];have U:=lq s b (bM s);rw[bP]at U;obtain⟨y,W⟩:=aqI (s:=sub s b (bM s)) (by rw[bP];omega);rw[W,bJ];simp only;have Z:=List.length_filter_le (fun t:Tok=>decide (t.2.2.1<=b)) tk;have A:Z9 s (tk.filter fun t=>decide (t.2.2.1<=b))=a6 (jD s (tk.filter fun t=>decide (t.2.2.1<=b)),()):=af6 (by omega) (aQ (List.length_filter_le _ _) (by omega)) fun t h=>I t (List.mem_filter.1 h).1;have B:=azE hF M v z N;have D:eH (JV s tk b) 40=true:=oO (by omega);have d:jD s (tk.filter fun t=>decide (t.2.2.1<=b))++[(6,(wTx (sub s b (bM s)),(0,(0,()))))]=JV s tk b:=rfl;unfold wTx at d;by_cases ha:jr (sub s b (bM s))=true
 .have ab:=lq (sub s b (bM s)) 0 (nl (sub s b (bM s)):Int);have ad:nl (sub s b (bM s))<=(sub s b (bM s)).length:=by unfold nl;split;omega;exact F9 WS _
  rw[am ha]at d ⊢;rw[bW ha,bW (mg (by grind [bP])),A,bJ];simp only[cu]at d ⊢;rw[d,bW D];exact(oEq (B c (0,0,0,0,[],false,[],0,0,()) (s,e,f,tk,g,i,j,o,p,()))).trans rfl
 .rw[aq ha]at d ⊢;rw[dD (by simpa using ha),A,bJ];simp only[cu]at d ⊢;rw[d,bW D];exact(oEq (B c (0,0,0,0,[],false,[],0,0,()) (s,e,f,tk,g,i,j,o,p,()))).trans rfl
end
section
open List renaming eq_nil_or_concat → bi, concat_eq_append → bC
open Go.RowKit
def WO (u:bU) (k:Int) (d b:Bool):Bool:=b||(decide (k=7)&&(d|| !(bZ (cO u (bM u-1)) 10)))
def iP (u:bU) (t:Tok):Int:=if t.1=6 then t.2.1 else bM u
theorem ave (u:bU) (f d:Int) (l:List Tok) (hl:l.length<1000000) (b:Bool):
  axe u f d l 0 0 0 false b=some ((u,(f,(d,(l,((gu l).1,((gu l).2.1,((gu l).2.2.1,((gu l).2.2.2.1,(b,()))))))))),()):=by
 rw[axe];rcases bi l with h|⟨r,t,h⟩
 .subst h;rfl
 .rw[bC]at h;subst h;obtain⟨e,g,i⟩:=Oa r t (by grind);simp_all [GR]
theorem aDr (u:bU) (j:u.length<1000000) (f d:Int) (l:List Tok) (k fr to_:Int) (e b:Bool) (g:k=7->u≠[]):
  aC1 u f d l k fr to_ e b=some ((u,(f,(d,(l,(k,(fr,(to_,(e,(b,()))))))))),(WO u k e b,())):=by
 rw[aC1];unfold WO;cases b with
 |true=>rfl
 |false=>
  rw[ac];by_cases h:k=7
  .have m:0<u.length:=List.length_pos_iff.2 (g h);rw[bW (dW h)];cases e with
   |true=>simp[h]
   |false=>
    have i:dV .i64 (bM u) 1=bM u-1:=fV (by rw[bP];omega) (by rw[bP];omega);rw[ac,i,bW (ed (by rw[bP];omega) (by rw[bP];omega))];simp[h]
  simp_all [dJ]
theorem aFG (u:bU) (f d:Int) (l:List Tok) (k fr to_:Int) (e b:Bool):
  aC2 u f d l k fr to_ e b=some ((u,(f,(d,(l,(k,(fr,(to_,(e,(b,()))))))))),(if k=6 then fr else bM u,())):=by
 rw[aC2];by_cases h:k=6
 .simp_all [dW]
 simp_all [dJ]
theorem aN9 (s:gy):(lo s).map (fun f=>letter f.1)=so s:=by
 simp_all [lo,so]
end
section
open Bool renaming and_true → aA
open Int renaming toNat_natCast → aX
open List renaming eq_nil_or_concat → bi, eq_nil_of_length_eq_zero → bD
open Go.RowKit
def TJ (f:List Lf):List Nd:=((acn f).getD ([],())).1
def La (V:bU->bU×Bool):Nat->bU->Int->Int->List Tok->Bool->Ctx
 |0,_,_,_,_,_=>(0,0,0,0,[],false,[],0,0,())
 |n+1,s,d,e,tk,g=>
  if WO s (gu tk).1 (gu tk).2.2.2.1 g=true then MB s d e 4
  else if(gu tk).1=3 then MB s d e 3
  else match TM (lo (ja (sub s (iP s (gu tk)) (bM s)) 0 eQ).1)with
   |some f=>if f.1=1\/f.1=3 then La V n (sub s (iP s (gu tk)+f.2.1+2) (bM s)) (d+(iP s (gu tk)+f.2.1+2)) (e+wJ (lo (ja (sub s (iP s (gu tk)) (bM s)) 0 eQ).1)) (Xb (sub s (iP s (gu tk)+f.2.1+2) (bM s))) false
    else ZU s d (e+wJ (lo (ja (sub s (iP s (gu tk)) (bM s)) 0 eQ).1)) f (sub s (iP s (gu tk)) (bM s))
   |none=>if P8 (sub s (iP s (gu tk)) (bM s))≠[]then Kw s d (e+wJ (lo (ja (sub s (iP s (gu tk)) (bM s)) 0 eQ).1)) (P8 (sub s (iP s (gu tk)) (bM s)))
    else F7 (fun x=>(V x).1) (1,0,d+iP s (gu tk),stF (lo (ja (sub s (iP s (gu tk)) (bM s)) 0 eQ).1),(V (sub s (iP s (gu tk)) (bM s))).1,(V (sub s (iP s (gu tk)) (bM s))).2,[],0,e+wJ (lo (ja (sub s (iP s (gu tk)) (bM s)) 0 eQ).1),())
     (JV s tk (iP s (gu tk))) (TJ (JV s tk (iP s (gu tk))))
theorem anN {s:List UInt8} (d:s.length<=10000) (g i j:Int) (m:Bool): ∀(N a:Nat) (l:List Tok),s.length-a<N->a<=s.length->l.length<=a->
  ∃r,QC N s (a:Int) l=some (.inl r)/\r=((),(Dt s N a l,()))
 |0,a,l,h,_,_=>by omega
 |N+1,a,l,h,u,v=>by
  rw[QC,afA,Dt];by_cases e:a<s.length
  .have x:=uw d e (0,[],false,());rw[bW (eX (by rw[bP];omega)),atZ d e (0,[],false,()) (fun h=>by cases h) (by simp),bJ,am e];simp only[fD,iM,Bool.and_self,aA,aa];obtain⟨b,f⟩: ∃b:Nat,(ku s a (0,[],false,())).1.2.2.1=(b:Int):=⟨(ku s a (0,[],false,())).1.2.2.1.toNat,by omega⟩;rw[bW (oO (by grind [cu]))];have o:=anN d g i j m N b (l++[(ku s a (0,[],false,())).1]) (by omega) (by omega) (by grind);rw[f,aX];obtain⟨r,p,q⟩:=o;refine⟨r, ?_,q⟩;rw[<-p,<-f];rfl
  .rw[dD (gB (by rw[bP];omega)),aq e];exact⟨_,rfl,rfl⟩
theorem aH3 {s:List UInt8} (d:s.length<=10000):aDc s=some (Xb s,()):=by
 obtain⟨r,e,f⟩:=anN d 0 0 0 false bV 0 [] (dI) (by omega) (by simp);rw[aDc,show QC bV s 0 []=_ from e,bJ,f];have g:Dt s bV 0 []=Xb s:=Qq d _ _ _ _ (by have:=dI (n:=s.length) (by omega);omega) (by omega);rw[g];rfl
theorem WZ {l:List Tok} (h:(gu l).1≠0):gu l∈l:=by
 rcases bi l with e|⟨r,t,e⟩
 .rw[e]at h;exact absurd rfl h
 simp_all [GR]
theorem Vu {s:List UInt8} {tk:List Tok} (d: ∀t∈tk,OkT s t):0<=iP s (gu tk)/\iP s (gu tk)<=bM s:=by
 unfold iP;split
 .rename_i h
  have:=d _ (WZ (by omega));have a:=this.f0;have b:=this.ft;have c:=this.t1;rw[bP];omega
 .rw[bP];omega
theorem amK (l:List qL):wJ l<=l.length:=List.countP_le_length
theorem acL {w:List UInt8} {f:qL} (h:f∈lo (ja w 0 eQ).1):IB w.length (f.1,f.2.1):=by
 unfold lo at h;rw[List.mem_reverse,List.mem_map]at h;obtain⟨g,d,rfl⟩:=h;exact axn w g d
theorem V6 {l:List qL} {f:qL} (h:TM l=some f):f∈l/\uK f=true:=by
 grind [TM]
theorem aho {s:List UInt8} (d:s.length<1000000):WH s=some (NZ s,()):=GN d
theorem agc {V:bU->bU×Bool} (i: ∀w:bU,w.length<=10000->TN w=some ((V w).1,((V w).2,()))) (e:Ctx): ∀(N:Nat) (s:bU) (fr dp:Int) (tk:List Tok) (d:Bool),s.length<N->s.length<=1000->0<=fr->fr+s.length<=1000->0<=dp->dp+1002*s.length<=10000000->
  tk.length<=s.length->(∀t∈tk,OkT s t)->
  Qs N s fr dp tk (gu tk).1 (gu tk).2.1 (gu tk).2.2.1 (gu tk).2.2.2.1 d e.1 e.2.1 e.2.2.1 e.2.2.2.1 e.2.2.2.2.1 e.2.2.2.2.2.1 e.2.2.2.2.2.2.1 e.2.2.2.2.2.2.2.1 e.2.2.2.2.2.2.2.2.1=
   some (.inr ((),(La V N s fr dp tk d,())))
 |0,s,fr,dp,tk,d,h,_,_,_,_,_,_,_=>by omega
 |N+1,s,fr,dp,tk,d,h,hs,g,h1,d0,d1,z,j=>by
  (rewrite [Qs,afh];delta Po Pn;rw[La])
  have p:(gu tk).1=7->s≠[]:=fun p=>by
   have:=j _ (WZ (by omega));have a:=this.f0;have b:=this.ft;have c:=this.t1
   grind
  rw[aDr s (by omega) fr dp tk _ _ _ _ d p,bJ];simp only;by_cases hh:WO s (gu tk).1 (gu tk).2.2.2.1 d=true
  .rw[bW hh,am hh,aeY 4 (by omega) g (by omega),bJ];rfl
  rw[dD (by simpa using hh),aq hh];by_cases h3:(gu tk).1=3
  .rw[bW (dW h3),am h3,aeY 3 (by omega) g (by omega),bJ];rfl
  rw[dD (dJ h3),aq h3,aFG,bJ];obtain⟨b0,m⟩:=Vu j;have A:(if(gu tk).1=6 then(gu tk).2.1 else bM s)=iP s (gu tk):=rfl;simp only[A];generalize hb:iP s (gu tk)=b at*;have B:dZ (bM s) b (bM s)=true:=eU b0 m (by omega);have D:((sub s b (bM s)).length:Int)=bM s-b:=mQ b0 m (by rw[bP];omega);rw[bP]at m;generalize q:sub s b (bM s)=w at*;have ae:w.length<=s.length:=by rw[bP]at D;omega
  have E:=zl w 0 eQ jQ;have af:eQ.1.length=1:=rfl;have ag:(lo (ja w 0 eQ).1).length<=w.length+1:=by rw[nC];omega
  have G:lo (ja w 0 eQ).1≠[]:=by
   intro ah;have:(ja w 0 eQ).1.length=0:=by grind [nC]
   have v:=E.1;rw[bD this]at v;exact v
  rw[B,aa,aFL w (by omega),bJ];simp only;have I: ∀f∈lo (ja w 0 eQ).1,IB w.length (f.1,f.2.1):=fun f J=>acL J;have ai:=amK (lo (ja w 0 eQ).1);have K: ∀f,TM (lo (ja w 0 eQ).1)=some f->f∈lo (ja w 0 eQ).1/\uK f=true:=fun f h=>V6 h;generalize hF:lo (ja w 0 eQ).1=F at*;rw[aLt (by omega),bJ,aqT (by omega),bJ];simp only;have L:bY .i64 dp (wJ F:Int)=dp+(wJ F:Int):=dC;rw[L];cases hd:TM F with
  |some f=>
   obtain⟨M,O⟩:=K f hd;have S:=I f M;simp only[IB]at S;simp only[Option.getD_some,Option.isSome_some,aa];have aj:f.1≠0:=fun h=>by simp[uK,h]at O
   have U:0<=f.2.1/\f.2.1+1<=w.length:=by omega
   by_cases h13:f.1=1\/f.1=3
   .have ak:f.2.1+2<=w.length:=by omega
    have W:bY .i64 b f.2.1=b+f.2.1:=dC;have X:bY .i64 (b+f.2.1) 2=b+f.2.1+2:=dC;have Y:bY .i64 fr (b+f.2.1+2)=fr+(b+f.2.1+2):=dC;have Z:dZ (bM s) (b+f.2.1+2) (bM s)=true:=eU;have ab:((sub s (b+f.2.1+2) (bM s)).length:Int)=bM s-(b+f.2.1+2):=mQ (by omega) (by omega) (by rw[bP];omega);rw[am h13];generalize hu:sub s (b+f.2.1+2) (bM s)=u at*;have al:u.length+2<=s.length:=by omega
    have y:=Ui (s:=u) (by omega);have ih:=agc i e N u (fr+(b+f.2.1+2)) (dp+(wJ F:Int)) (Xb u) false (by omega) (by omega) (by omega) (by rw[bP]at ab;omega) (by omega) (by omega) y.2 (fun t o=>(y.1 t o).1);have ad:=ave u (fr+(b+f.2.1+2)) (dp+(wJ F:Int)) (Xb u) (by omega) false;simp only[W,X,Y,Z,hu,fD,kZ,aa,aH3 (show u.length<=10000 by omega),bJ,ad];rcases h13 with h|h
    .simp_all [dW]
    simp_all [dW]
   .rw[aq h13,dD (dJ (fun h=>h13 (.inl h))),dD (dJ (fun h=>h13 (.inr h)))];rw[aqS (by omega) g (by omega) (by omega) (fun h=>⟨U.1,by omega⟩) (fun s h=>aho h),bJ];rfl
  |none=>
   simp only[Option.getD_none,Option.isSome_none,ac];rw[au9 (by omega) (fun s h=>aho h),bJ];simp only;by_cases hdl:P8 w=[]
   .have a0:bY .i64 fr b=fr+b:=dC;obtain⟨l,p1,p2,p3⟩:=aH9 (s:=s) (tk:=tk) (by omega) z j (b:=b) b0 (by assumption) (V:=fun x=>(V x).1) (fun w q=>⟨_,i w q⟩) fr (dp+(wJ F:Int)) (gu tk).1 (gu tk).2.1 (gu tk).2.2.1 (gu tk).2.2.2.1 d
     (1,0,fr+b,stF F,(V w).1,(V w).2,[],0,dp+(wJ F:Int),())
    have o:TJ (JV s tk b)=l:=by grind [TJ]
    rw[dD (by rw[hdl];rfl),aq (by simp[hdl]),aFt G (by omega),bJ];simp only[fD,kZ,iM,iy,Bool.and_self,aA,aa,a0,i w (by omega),bJ];rw[p3,bJ,o];rfl
   .rw[bW (by simp[gm,hdl]),am hdl,acP (by omega) g (by omega) (by
     grind [agz]),bJ]
    rfl
def Ei (V:bU->bU×Bool) (s:bU):Ctx:=La V (s.length+1) s 0 0 (rV s).1 (rV s).2.2.2.1
theorem PX {V:bU->bU×Bool}: ∀(n m:Nat) (s:bU) (fr dp:Int) (tk:List Tok) (d:Bool),s.length<n->s.length<m->(∀t∈tk,OkT s t)->s.length<=10000->La V n s fr dp tk d=La V m s fr dp tk d
 |0,_,_,_,_,_,_,h,_,_,_=>by omega
 |_+1,0,_,_,_,_,_,_,h,_,_=>by omega
 |n+1,m+1,s,fr,dp,tk,d,o,p,e,q=>by
  rw[La,La];obtain⟨b0,g⟩:=Vu e;have u:((sub s (iP s (gu tk)) (bM s)).length:Int)=bM s-iP s (gu tk):=mQ b0 g (by rw[bP];omega);split
  .rfl
  split
  .rfl
  cases hd:TM (lo (ja (sub s (iP s (gu tk)) (bM s)) 0 eQ).1)with
  |none=>rfl
  |some f=>
   simp only;split
   .rename_i v
    have i:=acL (V6 hd).1;simp only[IB]at i;have x:=lq s (iP s (gu tk)+f.2.1+2) (bM s);have y:bM s=(s.length:Int):=rfl;have j:=Ui (s:=sub s (iP s (gu tk)+f.2.1+2) (bM s)) (by omega);exact PX n m _ _ _ _ _ (by omega) (by omega) (fun t l=>(j.1 t l).1) (by omega)
   .rfl
theorem aMs {V:bU->bU×Bool} (e: ∀w:bU,w.length<=10000->TN w=some ((V w).1,((V w).2,()))) {s:List UInt8} (f:s.length<=1000):aCU s=some (Ei V s,()):=by
 obtain⟨d,i,g⟩:=Uj (s:=s) (by omega);have h:=agc e (0,0,0,0,[],false,[],0,0,()) bV s 0 0 (rV s).1 (rV s).2.2.2.1 (dI) f (by omega) (by omega) (by omega) (by omega) g d;rw[aCU,aMn (by omega),bJ];simp only;rw[ave s 0 0 _ (by omega) _,bJ];simp only;rw[show Qs bV s 0 0 (rV s).1 (gu (rV s).1).1 (gu (rV s).1).2.1 (gu (rV s).1).2.2.1 (gu (rV s).1).2.2.2.1 (rV s).2.2.2.1 0 0 0 0 [] false [] 0 0=_ from h,bJ];rw[PX bV (s.length+1) s 0 0 (rV s).1 (rV s).2.2.2.1 (dI) (by omega) d (by omega)];rfl
theorem aCm {V:bU->bU×Bool} (e: ∀w:bU,w.length<=10000->TN w=some ((V w).1,((V w).2,()))) {s:List UInt8} {c:Int} (f:s.length<=1000) (d:0<=c) (g:c<=s.length):fn7 s c=some (Ei V (sub s 0 c),(0,())):=by
 have h:=lq s 0 c;rw[fn7,dD (jq d),dD (jq (by rw[bP];omega)),bW (eU (by omega) d (by rw[bP];omega)),aMs e (by omega),bJ]
end
section
open Option renaming some → a6, none → a7
open Bool renaming not_true → ak
open List renaming getElem_cons_succ → bn
open Go.RowKit
theorem aAt (x:bU) (a b:Int):oI (6,(x,(a,(b,()))))=oI (6,(x,(0,(0,())))):=by
 unfold oI;simp only[show bZ 6 2=false from rfl,show bZ 6 5=false from rfl,show bZ 6 4=false from rfl,ac]
def aAs (w:bU):Bool:=match oI (6,(w,(0,(0,()))))with
 |some ([c],_)=>c !=60&&c !=35
 |_=>false
theorem asJ:O5.all aAs=true:=by kernel_rfl
theorem aAq {x:List UInt8} (hx:x.length<=10000) (a b:Int):Y0 (6,(x,(a,(b,()))))≠60/\Y0 (6,(x,(a,(b,()))))≠35:=by
 unfold Y0;rw[aAt];cases hw:O5.contains x with
 |true=>
  have:=List.all_eq_true.1 asJ x (by simpa using hw);unfold aAs at this
  grind
 |false=>
  have:oI (6,(x,(0,(0,()))))=a6 ([120],()):=by
   unfold oI;simp only[show bZ 6 2=false from rfl,show bZ 6 5=false from rfl,show bZ 6 4=false from rfl,show bZ 6 6=true from rfl,ac,ak]
   grind [ae0,bJ]
  simp_all
theorem aAp {x:List UInt8} (hx:x.length<=10000) (a b:Int):Y0 (4,(x,(a,(b,()))))≠35:=by
 unfold Y0;cases hw:MS.contains x with
 |true=>
  rcases ay6 hw with h|h|h|h|h|h|h|h|h|h|h|h|h|h|h|h|h
  .subst h;rw[show oI (4,([38,38],(a,(b,()))))=a6 ([97],()) by kernel_rfl];decide
  .subst h;rw[show oI (4,([124,124],(a,(b,()))))=a6 ([111],()) by kernel_rfl];decide
  .subst h;rw[show oI (4,([59,59],(a,(b,()))))=a6 ([121],()) by kernel_rfl];decide
  .subst h;rw[show oI (4,([60,60],(a,(b,()))))=a6 ([60],()) by kernel_rfl];decide
  .subst h;rw[show oI (4,([60,60,45],(a,(b,()))))=a6 ([60],()) by kernel_rfl];decide
  .subst h;rw[show oI (4,([62,62],(a,(b,()))))=a6 ([60],()) by kernel_rfl];decide
  .subst h;rw[show oI (4,([60,38],(a,(b,()))))=a6 ([60],()) by kernel_rfl];decide
  .subst h;rw[show oI (4,([62,38],(a,(b,()))))=a6 ([60],()) by kernel_rfl];decide
  .subst h;rw[show oI (4,([60,62],(a,(b,()))))=a6 ([60],()) by kernel_rfl];decide
  .subst h;rw[show oI (4,([62,124],(a,(b,()))))=a6 ([60],()) by kernel_rfl];decide
  .subst h;rw[show oI (4,([60],(a,(b,()))))=a6 ([60],()) by kernel_rfl];decide
  .subst h;rw[show oI (4,([62],(a,(b,()))))=a6 ([60],()) by kernel_rfl];decide
  .subst h;rw[show oI (4,([38],(a,(b,()))))=a6 ([38],()) by kernel_rfl];decide
  .subst h;rw[show oI (4,([59],(a,(b,()))))=a6 ([59],()) by kernel_rfl];decide
  .subst h;rw[show oI (4,([124],(a,(b,()))))=a6 ([124],()) by kernel_rfl];decide
  .subst h;rw[show oI (4,([40],(a,(b,()))))=a6 ([40],()) by kernel_rfl];decide
  .subst h;rw[show oI (4,([41],(a,(b,()))))=a6 ([41],()) by kernel_rfl];decide
 |false=>
  have:oI (4,(x,(a,(b,()))))=a6 ([63],()):=by
   unfold oI;simp only[show bZ 4 2=false from rfl,show bZ 4 5=false from rfl,show bZ 4 4=true from rfl,ac,aa];rw[show(1:Int)=((0:Nat):Int)+1 from rfl,afc x hw 4 a b bV 0 (by omega) (dI)];rfl
  rw[this];decide
theorem aAo {f:Lf} (hf:f.2.1.length<=10000) (h:Y0 f=60):f.1=4:=by
 obtain⟨k,x,a,b,u⟩:=f;by_cases h4:k=4
 .exact h4
 exfalso;by_cases h2:k=2
 .subst h2;rw[show Y0 (2,(x,(a,(b,u))))=110 from rfl]at h;simp_all
 by_cases h5:k=5
 .subst h5;rw[show Y0 (5,(x,(a,(b,u))))=35 from rfl]at h;simp_all
 by_cases h6:k=6
 .grind [aAq]
 simp_all [oI,dJ,Y0]
theorem aFp {f:Lf} (hf:f.2.1.length<=10000) (h:Y0 f=35):f.1≠4:=by
 obtain⟨k,x,a,b,u⟩:=f;rintro rfl;exact aAp hf a b h
theorem aze (t:bU):(Zg t=4↔t=[60,60])/\(Zg t=5↔t=[60,60,45]):=by
 constructor
 .constructor
  .intro h;unfold Zg at h
   grind [List.findIdx?_eq_some_iff_getElem,MS]
  .rintro rfl;rfl
 .constructor
  .intro h;unfold Zg at h;split at h
   .simp_all [List.findIdx?_eq_some_iff_getElem,MS]
   .omega
  .rintro rfl;rfl
theorem Tr.upI {F:List Lf} {a b:Nat} {u:Int} {k:Nat} {m:List Nd} (h:Tr F a b u k m):u<k-> ∀(j:Nat) (d:j<m.length),m[j].2.2.2.1<((k+j:Nat):Int)/\(m[j].2.2.2.1=u\/(k:Int)<=m[j].2.2.2.1):=by
 induction h with
 |nil h=>simp
 | @leaf a b f t u k kd m h1 hk hf h2 g=>
  grind
 | @node a b f t u k kd m n h1 hk h8 h h2 ih1 e=>
  intro i j d;cases j with
  |zero=>simp_all
  |succ j=>
   simp only[bn];by_cases hjm:j<m.length
   .grind
   .have:=e (by omega) (j-m.length) (by grind)
    grind
def Beh (x y:Nd):Prop:=x.1=6\/x.1=7->x.2.2.1<=y.2.1
theorem Tr.pw {F:List Lf} {a b:Nat} {u:Int} {k:Nat} {m:List Nd} (h:Tr F a b u k m):0<=u->u<k->m.Pairwise Beh:=by
 induction h with
 |nil h=>intros;exact .nil
 | @leaf a b f t u k kd m h1 hk hf h2 i=>
  intro d j;refine List.pairwise_cons.2 ⟨fun y e _=> ?_,i d (by omega)⟩;have:=(h2.all d (by omega) y e).f0;exact this
 | @node a b f t u k kd m n h1 hk h8 h h2 ih1 l=>
  intro d j;refine List.pairwise_cons.2 ⟨fun y e g=>by omega,List.pairwise_append.2 ⟨ih1 (by omega) (by omega),l d (by omega),fun x g y e _=> ?_⟩⟩;have o:=(h.all (by omega) (by omega) x g).t1;have p:=(h2.all d (by omega) y e).f0;omega
theorem Tr.kid {F:List Lf} {a b:Nat} {u:Int} {k:Nat} {m:List Nd} (h:Tr F a b u k m):u<k-> ∀(j q:Nat) (l:j<m.length) (o:q<m.length),m[j].1=8->m[q].2.2.2.1=((k+j:Nat):Int)->
  ∃(f t:Nat) (i:List Nd),m[j].2.1=(f:Int)/\m[j].2.2.1=(t:Int)/\RdG F f t i/\m[q]∈i:=by
 induction h with
 |nil h=>simp
 | @leaf a b f t u k kd m h1 hk hf h2 p=>
  grind
 | @node a b f t u k kd m n h1 hk h8n h h2 ih1 s=>
  intro v j q l o g e;cases q with
  |zero=>grind
  |succ q=>
   cases j with
   |zero=>
    simp only[List.getElem_cons_zero,bn]at g e ⊢;have d:q<m.length:=by
     by_cases d:q<m.length
     .exact d
     .exfalso;rw[List.getElem_append_right (by omega)]at e;have:=h2.upI (by omega) (q-m.length) (by grind);omega
    grind
   |succ j=>
    simp only[bn]at g e ⊢;by_cases hjm:j<m.length
    .rw[List.getElem_append_left hjm]at g ⊢;have d:q<m.length:=by
      by_cases d:q<m.length
      .exact d
      .exfalso;rw[List.getElem_append_right (by omega)]at e;have:=h2.upI (by omega) (q-m.length) (by grind);omega
     grind
    .rw[List.getElem_append_right (by omega)]at g ⊢;have d: ¬q<m.length:=fun d=>by
      rw[List.getElem_append_left d]at e;have:=h.upI (by omega) q d;omega
     rw[List.getElem_append_right (by omega)]at e ⊢
     grind
end
section
open Bool renaming and_eq_true → af
open Int renaming eq_ofNat_of_zero_le → aV, toNat_natCast → aX
open List renaming mem_cons_of_mem → au, drop_eq_getElem_cons → ay, drop_of_length_le → aB, getElem_mem → aF, drop_zero → aJ, mem_cons_self → aK, length_take → aZ, getElem_cons_succ → bn, getElem_take → bu
open Go.RowKit
def inA (V:bU->bU) (f:List Lf) (up:Int):List Nd->Int->bU->Int×List UInt8
 |[],n,c=>(n,c)
 |x::m,n,c=>if x.2.2.2.1=up/\x.1=7 then inA V f up m (n+1) (if n=0 then V (dQ f dLf x.2.1).2.1 else c)else inA V f up m n c
theorem ahg {V:bU->List UInt8} {f:List Lf} {up:Int}: ∀(a b:List Nd) (n:Int) (c:bU),(∀x∈a,x.2.2.2.1≠up)->inA V f up (a++b) n c=inA V f up b n c
 |[],b,n,c,_=>rfl
 |x::a,b,n,c,h=>by
  rw[List.cons_append,inA,aq (fun d=>h x (aK ..) d.1)];exact ahg a b n c fun y e=>h y (au _ e)
theorem abx (l:List Nd) (i up:Int): ∀(m:List Nd) (k:Nat) (n f:Int),i<=k->xE l i (xH up m k) n f=(n,f)
 |[],k,n,f,h=>rfl
 |x::m,k,n,f,h=>by
  rw[xH];split
  .rw[xE,aq (fun d=>by omega)];exact abx l i up m (k+1) n f (by omega)
  .exact abx l i up m (k+1) n f (by omega)
theorem abw {V:bU->List UInt8} {f:List Lf} (l:List Nd) (i:Nat) (hi:i<=l.length) (up:Int): ∀(N k:Nat) (n g:Int) (c:bU),l.length-k<N->k<=l.length->0<=n->(0<n->c=V (dQ f dLf (dQ l uI g).2.1).2.1)->
  (inA V f up ((l.take i).drop k) n c).1=(xE l i (xH up (l.drop k) k) n g).1/\(0<(xE l i (xH up (l.drop k) k) n g).1->(inA V f up ((l.take i).drop k) n c).2=V (dQ f dLf (dQ l uI (xE l i (xH up (l.drop k) k) n g).2).2.1).2.1)
 |0,k,n,g,c,h,_,_,_=>by omega
 |N+1,k,n,g,c,h,hk,m,j=>by
  by_cases e:k<i
  .have o:k<(l.take i).length:=by simp_all
   have p:=iT (l:=l) (d:=uI) (show k<l.length by omega);rw[ay o,ay (show k<l.length by omega),bu,inA,xH];by_cases h1:l[k].2.2.2.1=up
   .rw[am h1,xE,p];by_cases h2:l[k].1=7
    .rw[am ⟨h1,h2⟩,am (show(k:Int)<(i:Int)/\l[k].1=7 from⟨by omega,h2⟩)];refine abw l i hi up N (k+1) (n+1) _ _ (by omega) (by omega) (by omega) fun _=> ?_
     grind
    .rw[aq (fun h=>h2 h.2),aq (fun h=>h2 h.2)];exact abw l i hi up N (k+1) n g c (by omega) (by omega) m j
   .rw[aq (fun h=>h1 h.1),aq h1];exact abw l i hi up N (k+1) n g c (by omega) (by omega) m j
  .rw[aB (by simp_all),abx l i up _ k n g (by omega)];exact⟨rfl,j⟩
theorem aqa {d:Type} {F:List d} {p:Nat} (h:p+2<=F.length):sub F (p:Int) ((p+2:Nat):Int)=[F[p],F[p+1]]:=by
 grind [sub,ay]
theorem asL {F:List Lf} {p:Nat} (h:p+3<=F.length):sub F (p:Int) ((p+3:Nat):Int)=[F[p],F[p+1],F[p+2]]:=by
 grind [sub,ay]
theorem aoz {F:List Lf} {p:Nat} {o:UInt8} (h:gq F p [o]=true): ∃h:p<F.length,Y0 F[p]=o:=by
 unfold gq at h;simp only[af,decide_eq_true_eq,List.contains_iff_mem,List.mem_singleton]at h
 grind [Yf]
theorem RT.here {F:List Lf} (hF:Vy F) {l:List Nd} (h:RT F l) {i:Nat} (hi:i<l.length) (D:l[i].1=7) (hx:l[i].2.2.1=F.length) {u:Nd} (d:dQ l uI l[i].2.2.2.1=u) (s:u.1=8):
  2<=F.length/\XJ (sub F u.2.1 u.2.2.1)=((Zg (dQ F dLf (bM F-2)).2.1:Nat):Int):=by
 obtain⟨W,m,e,hT⟩:=h;subst e;cases i with
 |zero=>simp_all
 |succ q=>
  simp only[bn]at D hx d;have v:q<m.length:=by simpa using hi
  have X:=hT.upI (by omega) q v;have x:=hT.all (by omega) (by omega) m[q] (aF _);have E:=x.u0;have Y:=x.u1;obtain⟨j,y⟩:=aV E;cases j with
  |zero=>
   rw[y]at d;rw[show dQ ((1,0,(F.length:Int),-1,())::m) uI ((0:Nat):Int)=(1,0,(F.length:Int),-1,()) from rfl]at d
   grind
  |succ j=>
   have G:j<m.length:=by omega
   rw[y,iT (by omega),bn]at d;rw[<-d]at s ⊢;obtain⟨f,t,Z,I,J,⟨p,g,K,o⟩,z⟩:=hT.kid (by omega) j q G v s (by omega);obtain⟨L,M⟩:=aoz K;have A:=aAo (hF.txt _ (aF L)) M;rcases o with ⟨B,w,o⟩|⟨B,w,o⟩
   .rw[o,List.mem_singleton]at z;rw[z]at hx;simp only at hx;have ab:p+2=F.length:=by omega
    have N:dQ F dLf (bM F-2)=F[p]:=by
     grind [bP,iT]
    refine⟨by omega, ?_⟩;rw[I,J,B,N];rcases g with g|⟨g,O⟩
    .subst g;rw[aqa (by omega),XJ,am A]
    .subst g;obtain⟨S,U⟩:=aoz O;have V:=aFp (hF.txt _ (aF S)) U;rw[show f+1+2=f+3 by omega,asL (by omega),XJ,aq V,XJ,am A]
   simp_all
theorem au7 (l:List Nd) (leaf:Int): ∀(k j:Nat),j<k->(dQ l uI (j:Int)).2.1<=leaf->leaf<(dQ l uI (j:Int)).2.2.1->(j:Int)<=uH l leaf k
 |0,j,h,_,_=>by omega
 |k+1,j,h,d,f=>by
  rw[uH];split
  .omega
  .rename_i g
   by_cases e:j=k
   .simp_all
   .exact au7 l leaf k j (by omega) d f
theorem RT.only {F:List Lf} {l:List Nd} (h:RT F l) (hF:F≠[]) {j:Nat} (f:j<l.length) (hk:l[j].1=6\/l[j].1=7) (hf:l[j].2.1=bM F-1) (p:l[j].2.2.1=bM F):(j:Int)=uH l (bM F-1) l.length:=by
 obtain⟨q,s⟩:=h.cov hF;have g:=iT (l:=l) (d:=uI) f;have u:=au7 l (bM F-1) l.length j f (by rw[g];omega) (by rw[g];omega);have o:=Ub l (bM F-1) l.length;obtain⟨i,v⟩:=aV q;rw[v]at u o s ⊢;by_cases hij:j=i
 .subst hij;rfl
 exfalso;obtain⟨A,m,e,hT⟩:=h;subst e;cases j with
 |zero=>simp_all
 |succ j=>
  cases i with
  |zero=>omega
  |succ i=>
   have x:i<m.length:=by simp_all
   have y:j<m.length:=by omega
   have z:=List.pairwise_iff_getElem.1 (hT.pw (by omega) (by omega)) j i y x (by omega);simp only[bn]at hk hf p;have B:=z hk;rw[iT (by omega),bn]at o;omega
theorem RT.exact {F:List Lf} {l:List Nd} (h:RT F l) (hF:F≠[]) {i:Nat} (hi:uH l (bM F-1) l.length=(i:Int)) (hl:i<l.length) (hk:l[i].1=6\/l[i].1=7):l[i].2.1=bM F-1/\l[i].2.2.1=bM F:=by
 have d:=Ub l (bM F-1) l.length;rw[hi,iT hl]at d;obtain⟨f,m,e,hT⟩:=h;subst e;cases i with
 |zero=>simp_all
 |succ i=>
  have g:i<m.length:=by simpa using hl
  simp only[bn]at hk d ⊢;have:=(hT.all (by omega) (by omega) m[i] (aF _)).wd hk;omega
def O8 (V:bU->bU) (f:List Lf) (l:List Nd) (i:Nat) (B:Ctx):Ctx:=
 let n:=dQ l uI (i:Int)
 if n.1=6 then sW B 5 else if n.1≠7 then B else
 let a:=inA V f n.2.2.2.1 ((l.take i).drop (n.2.2.2.1.toNat+1)) 0 []
 let u:=dQ l uI n.2.2.2.1
 if u.1=5 then(if 0<a.1 then aFn B a.2 a.1 else sW B 1)
 else if u.1=8 then(if(dQ f dLf (bM f-2)).2.1=[60,60]\/(dQ f dLf (bM f-2)).2.1=[60,60,45]then sW B 4 else sW B 3)
 else if u.1=13 then(if a.1=0 then sW B 6 else sW B 7)
 else if u.1=14 then sW B 7 else if u.1=15 then sW B 8 else B
theorem RT.up {F:List Lf} {l:List Nd} (h:RT F l) {j:Nat} (d:j<l.length):l[j].2.2.2.1<(j:Int):=by
 obtain⟨f,m,e,hT⟩:=h;subst e;cases j with
 |zero=>simp
 |succ j=>
  simp only[bn];have:=hT.upI (by omega) j (by simpa using d);omega
theorem axz {V:bU->List UInt8} {f F:List Lf} {l:List Nd} (h:RT F l) (i up:Nat) (hi:i<=l.length):inA V f (up:Int) ((l.take i).drop (up+1)) 0 []=inA V f (up:Int) ((l.take i).drop 0) 0 []:=by
 rw[aJ]
 conv=>rhs;rw[<-List.take_append_drop (up+1) (l.take i)]
 rw[ahg];intro x d;obtain⟨j,e,rfl⟩:=List.getElem_of_mem d;rw[bu,bu];rw[aZ,aZ]at e;have:=h.up (j:=j) (by omega);omega
theorem azD {V:bU->List UInt8} {F:List Lf} (hF:Vy F) {l:List Nd} (h:RT F l) (hf:F≠[]) {i:Nat} (hi:uH l (bM F-1) l.length=(i:Int)) (hl:i<l.length) (c:Ctx):O8 V F l i (sW c 9)=F7 V c F l:=by
 unfold O8 F7;simp only;rw[hi,iT hl];by_cases h6:l[i].1=6
 .rw[am h6,am h6];rfl
 rw[aq h6,aq h6];by_cases h7:l[i].1=7
 .have e: ¬l[i].1≠7:=fun h=>h h7;rw[aq e,aq e];have g:=h.node (i:=(i:Int)) (by omega) (by omega);rw[iT hl]at g;obtain⟨y,o,z⟩:=g.2.2.2 h7;have p:=h.exact hf hi hl (.inr h7);have j:=fun u (m:dQ l uI l[i].2.2.2.1=u)=>h.here hF hl h7 (by rw[p.2,bP]) m;obtain⟨up,q⟩:=aV o;rw[q]at j ⊢;have d:=abw (V:=V) (f:=F) l i (by omega) (up:Int) (l.length+1) 0 0 (i:Int) [] (by omega) (by omega) (by omega) (fun h=>by omega);rw[aX,axz h i up (by omega)];rw[aJ]at d;simp only[aJ]at d ⊢;generalize inA V F (up:Int) (l.take i) 0 []=a at*;generalize xE l i (xH (up:Int) l 0) 0 i=b at*;generalize m:dQ l uI (up:Int)=u at*;obtain⟨s,v⟩:=d;by_cases h5:u.1=5
  .rw[am h5,am h5];by_cases h0:0<a.1
   .rw[am h0,am (by omega),v (by omega),s];rfl
   .rw[aq h0,aq (by omega)];rfl
  rw[aq h5,aq h5];by_cases h8:u.1=8
  .rw[am h8,am h8];obtain⟨A,x⟩:=j u rfl h8;have B:=aze (dQ F dLf (bM F-2)).2.1;rw[x];by_cases hc:(dQ F dLf (bM F-2)).2.1=[60,60]\/(dQ F dLf (bM F-2)).2.1=[60,60,45]
   .rw[am hc,am (by
     grind)]
    rfl
   .rw[aq hc,aq (by
     grind)]
    rfl
  rw[aq h8,aq h8];by_cases h13:u.1=13
  .rw[am h13,am h13];by_cases h0:a.1=0
   .rw[am h0,am (by omega)];rfl
   .rw[aq h0,aq (by omega)];rfl
  rw[aq h13,aq h13];rfl
 simp_all
end
section
open Bool renaming not_true → ak, not_false → az, false_or → aW
open Int renaming eq_ofNat_of_zero_le → aV, toNat_natCast → aX
open List renaming append_assoc → ah, length_append → ai, drop_eq_getElem_cons → ay, drop_of_length_le → aB, nil_append → aH, drop_zero → aJ
open Go.RowKit
def sZ (s:bU):bU×Bool:=if ajQ s=true then([],false)else(CW s,true)
theorem XY (L:List kX) (hl:L.length<1000000) (a b c:bU) (e:List kX) (f:List Int) (g:Bool) (t:bU): ∀(N k:Nat) (M:List lI),L.length-k<N->k<=L.length->
  yF N L (bM L) (k:Int) a b c e M f g t=some (.inl ((),((a,b,()),(),()),((c,e,()),H9 M k (L.drop k),(),f,(g,()),(t,()),())))
 |0,k,M,h,_=>by omega
 |N+1,k,M,h,hk=>by
  rw[yF,JC];by_cases e1:k<L.length
  .have d:dQ L (0,(0,(0,(0,(false,()))))) (k:Int)=L[k]:=by
    simp_all [dQ]
   rw[bW (eX (by rw[bP];omega)),bW (ed),d,dC,show(k:Int)+1=((k+1:Nat):Int) by omega,
    XY L hl a b c e f g t N (k+1) _ (by omega) (by omega),ay e1,H9]
  .rw[dD (gB (by rw[bP];omega)),aB (by omega)];rfl
theorem ZR (s:bU) (I:s.length<=10000) {to_:Int} (S:to_<=s.length) (B:Int) (U:B<=10000000000000) (g:Int) (i:kX) (j l m q:Int) (u:Bool) (v:List Int) (z:Bool) (A:bU) (D:Bool):
  ∀(N:Nat) (at_:Int) (h o:bU),0<N->to_-at_<N->0<=at_->at_<=s.length->(o.length:Int)+h.length<=B+10000*at_->
  ∃o',pK N to_ D at_ g i (dm h) j l m q u v s (bQ s) (Gj s) (dm o) z A=
   some (if tJ s (bQ s) to_ N at_=true then .inr ((),((g,i,()),(),(),(),()),((j,l,m,q,u,()),v,(),(),(s,bQ s,()),Gj s,(),(),dm o',(),(),([],()),()))
    else .inl ((D,()),((g,i,()),(),(),(),()),(dm (h++qf s (bQ s) to_ N at_),(j,l,m,q,u,()),v,(),(),(s,bQ s,()),Gj s,(),(),dm o,(),(z,()),(A,()),())))/\
   (tJ s (bQ s) to_ N at_=false->(o.length:Int)+(h++qf s (bQ s) to_ N at_).length<=B+10000*s.length)
 |0,at_,h,o,V,_,_,_,_=>by omega
 |N+1,at_,h,o,V,ag,E,h1,hh=>by
  (rewrite [pK,FN];delta qE qy jl gp;rw[qf,tJ])
  by_cases e:at_<to_
  .have aj:= @Ii s at_;have al:=JF s (bQ s) at_;have f: ∀(c:bU) (G:Int),c=(gI s (bQ s) at_).2.1->G=(gI s (bQ s) at_).1->G<=s.length->(gI s (bQ s) at_).2.2=false->
     ∃o',(bif eH (dm (h++c)) 1 then pK N to_ D G g i (dm (h++c)) j l m q u v s (bQ s) (Gj s) (dm o) z A else none)=
      some (if((gI s (bQ s) at_).2.2||tJ s (bQ s) to_ N (gI s (bQ s) at_).1)=true then .inr ((),((g,i,()),(),(),(),()),((j,l,m,q,u,()),v,(),(),(s,bQ s,()),Gj s,(),(),dm o',(),(),([],()),()))
       else .inl ((D,()),((g,i,()),(),(),(),()),(dm (h++((gI s (bQ s) at_).2.1++qf s (bQ s) to_ N (gI s (bQ s) at_).1)),(j,l,m,q,u,()),v,(),(),(s,bQ s,()),Gj s,(),(),dm o,(),(z,()),(A,()),())))/\
      (((gI s (bQ s) at_).2.2||tJ s (bQ s) to_ N (gI s (bQ s) at_).1)=false->(o.length:Int)+(h++((gI s (bQ s) at_).2.1++qf s (bQ s) to_ N (gI s (bQ s) at_).1)).length<=B+10000*s.length):=by
    intro c G W X Y Z;subst W X;rw[bW (tX (by grind)),Z,aW];obtain⟨o',J,K⟩:=ZR s I S B U g i j l m q u v z A D N (gI s (bQ s) at_).1 (h++(gI s (bQ s) at_).2.1) o (by omega) (by omega) (by omega) Y (by grind);rw[ah]at J K;exact⟨o',J,K⟩
   have L:bY .i64 at_ 1=at_+1:=dC;rw[bW (eX e),am e,am e];cases hf:uC (bQ s) at_ with
   |none=>
    have d:gI s (bQ s) at_=(at_+1,sub s at_ (at_+1),false):=by unfold gI;rw[hf]
    rw[OQ hf,show bZ 0 0=true from rfl,aa,bW (ed E (by omega)),Ir E (by omega),kM,L];exact f _ _ (by rw[d]) (by rw[d]) (by omega) (by rw[d])
   |some p=>
    obtain⟨x,an⟩:=tV hf;have t0:=x.t0;have t1:=x.t1;obtain⟨m1,m2,m3⟩:=OT I hf;rw[m1,ac,m2,aa];simp only[m3];rw[acM x.f0 (by omega),bJ];by_cases hlone:lone p=true
    .have d:gI s (bQ s) at_=(at_+1,sub s at_ (at_+1),false):=by simp_all [gI]
     rw[hlone,aa,bW (ed E (by omega)),Ir E (by omega),kM,L];exact f _ _ (by rw[d]) (by rw[d]) (by omega) (by rw[d])
    .rw[show lone p=false by simpa using hlone,ac];have ab:dV .i64 p.2.2.1 p.2.1=p.2.2.1-p.2.1:=fV;have ad:bY .i64 p.2.1 1=p.2.1+1:=dC;simp only[ab,ad,kM];by_cases h13:p.1=13
     .have ao:=x.es h13;have d:gI s (bQ s) at_=(p.2.2.1,Nw s p,false):=by simp_all [gI]
      rw[bW (dW h13)];by_cases hto2:p.2.2.1=p.2.1+2
      .rw[dD (jq),bW (ed)];have y:Nw s p=(if cO s (p.2.1+1)=36\/cO s (p.2.1+1)=96\/cO s (p.2.1+1)=34\/cO s (p.2.1+1)=92 then sub s (p.2.1+1) p.2.2.1
         else if cO s (p.2.1+1)=10 then []else mX s p):=by
        simp_all [Nw]
       have ae:ofBytes [cO s (p.2.1+1)]=sub s (p.2.1+1) p.2.2.1:=by
        grind [Ir,uV]
       simp only[ae];by_cases b1:cO s (p.2.1+1)=36
       .rw[bW (dW b1),bW (dW b1)];exact f _ _ (by rw[d,y,am (by omega)]) (by rw[d]) (by omega) (by rw[d])
       .rw[dD (dJ b1)];by_cases b2:cO s (p.2.1+1)=96
        .rw[bW (dW b2),bW (dW b2)];exact f _ _ (by rw[d,y,am (by omega)]) (by rw[d]) (by omega) (by rw[d])
        .rw[dD (dJ b2)];by_cases b3:cO s (p.2.1+1)=34
         .rw[bW (dW b3),bW (dW b3)];exact f _ _ (by rw[d,y,am (by omega)]) (by rw[d]) (by omega) (by rw[d])
         .rw[dD (dJ b3)];by_cases b4:cO s (p.2.1+1)=92
          .rw[bW (dW b4)];exact f _ _ (by rw[d,y,am (by omega)]) (by rw[d]) (by omega) (by rw[d])
          .rw[dD (dJ b4)];have M: ¬(cO s (p.2.1+1)=36\/cO s (p.2.1+1)=96\/cO s (p.2.1+1)=34\/cO s (p.2.1+1)=92):=by omega
           by_cases b5:cO s (p.2.1+1)=10
           .rw[bW (dW b5)];exact f [] _ (by rw[d,y,aq M,am b5]) (by rw[d]) (by omega) (by rw[d])
           .rw[dD (dJ b5),bW (eU x.f0 (by omega) (by rw[bP];omega))];exact f _ _ (by rw[d,y,aq M,aq b5];rfl) (by rw[d]) (by omega) (by rw[d])
      .rw[bW (eX)];exact f _ _ (by simp_all [Nw]) (by rw[d]) (by omega) (by rw[d])
     .have d:gI s (bQ s) at_=(p.2.2.1,mX s p,true):=by simp_all [gI]
      have af:dZ (bM s) p.2.1 p.2.2.1=true:=eU x.f0 (by omega) (by rw[bP];omega);rw[dD (dJ h13)];simp only[uV,kM,af,aa,d,Bool.true_or,if_true];rcases QL h with ⟨he,O⟩|⟨he,O⟩
      .rw[dD (jq)];exact⟨o,rfl,fun h=>by cases h⟩
      .rw[bW (eX O),bW (tX (by grind))];exact⟨o++h,rfl,fun h=>by cases h⟩
  .rw[dD (gB e),aq e,aq e];exact⟨o,by simp,fun _=>by grind⟩
def evR (s:bU) (d:Bool) (e:bU) (E:Bool) (f o':bU):Option (E8.den⊕Fa.den):=some (if E=true then .inr ((),((),(),(),()),((s,bQ s,()),Gj s,(),(),dm o',(),(false,()),([],()),()))else .inl ((),((),(),(),()),(dm f,(),(),(s,bQ s,()),Gj s,(),(),dm o',(),(d,()),(e,()),())))
theorem V8 (s:bU) (z:s.length<=10000) (m:Bool) (u:bU): ∀(N:Nat) (at_:Int) (h o:bU),(s.length:Int)-at_<N->0<=at_->at_<=s.length->(o.length:Int)+h.length<=200000000*at_->
  ∃i o',kH N at_ (dm h) s (bQ s) (Gj s) (dm o) m u=evR s m u (tN s (bQ s) N at_) i o'/\
   (tN s (bQ s) N at_=false->o'++i=o++h++kC s (bQ s) N at_/\(o'.length:Int)+i.length<=200000000*s.length)
 |0,at_,h,o,hN,_,_,_=>by omega
 |N+1,at_,h,o,hN,S,h1,hh=>by
  (rewrite [kH,FM];delta yB yA yz yx yw lW uu dK;rw[kC,tN])
  by_cases e:at_<s.length
  .have aF:= @Ij s at_;have ae:=Yu (s:=s) e;have aG:(stepT s (bQ s) at_).2.length<=100010000:=by
    have h1:=JG s (bQ s) at_;have h2:s.length*s.length<=10000*10000:=Nat.mul_le_mul z z;omega
   have go: ∀(g l:bU) (J:Int),l++g=o++h++(stepT s (bQ s) at_).2->J=(stepT s (bQ s) at_).1->jA s (bQ s) at_=false->
     ∃i o',kH N J (dm g) s (bQ s) (Gj s) (dm l) m u=evR s m u (jA s (bQ s) at_||tN s (bQ s) N (stepT s (bQ s) at_).1) i o'/\
      ((jA s (bQ s) at_||tN s (bQ s) N (stepT s (bQ s) at_).1)=false->o'++i=o++h++((stepT s (bQ s) at_).2++kC s (bQ s) N (stepT s (bQ s) at_).1)/\(o'.length:Int)+i.length<=200000000*s.length):=by
    intro g l J hl G f;subst G;have af:=congrArg List.length hl;simp only[ai]at af;obtain⟨i,o',K,A⟩:=V8 s z m u N (stepT s (bQ s) at_).1 g l (by omega) (by omega) ae (by omega);rw[f,aW];refine⟨i,o',K,fun B=> ?_⟩;have:=A B
    grind
   have U: ∀x:bU,x.length<=200000000->eH (dm (h++x)) 1=true:=fun x B=>tX (by grind);have V: ∀x:bU,x.length<=200000000->eH (dm (o++x)) 1=true:=fun x B=>tX (by grind);have ag:eH (dm (o++h)) 1=true:=tX (by grind);have W: ∀x:bU,x.length<=200000000->eH (dm (o++h++x)) 1=true:=fun x B=>tX (by grind);have aj:bY .i64 at_ 1=at_+1:=dC;have y: ∀a b,(sub s a b).length<=200000000:=fun a b=>by grind [FP]
   rw[bW (eX (b:=bM s) e),am e,am e];cases hf:uC (bQ s) at_ with
   |none=>
    have j:stepT s (bQ s) at_=(at_+1,sub s at_ (at_+1)):=by unfold stepT;rw[hf]
    have f:jA s (bQ s) at_=false:=by unfold jA;rw[hf]
    rw[OQ hf,show bZ 0 0=true from rfl,aa];simp only[Ir S e,kM,show fO s at_=true from ed S e,kZ,fD,aa,U _ (y _ _),aj];exact go (h++sub s at_ (at_+1)) o _ (by rw[j,ah]) (by rw[j]) f
   |some p=>
    obtain⟨v,aI⟩:=tV hf;have t0:=v.t0;have t1:=v.t1;obtain⟨m1,m2,m3⟩:=OT z hf;have al:dZ (bM s) p.2.1 p.2.2.1=true:=eU v.f0 (by omega) (by rw[bP];omega);have an:dZ (bM s) (p.2.1+1) p.2.2.1=true:=eU (by omega) (by omega) (by rw[bP];omega);have ao:bY .i64 p.2.1 1=p.2.1+1:=dC;rw[m1,ac,m2,aa];simp only[m3];rw[acM v.f0 (by omega),bJ];simp only[ao,al,an,uV,kM,aa,U _ (y _ _),V _ (y _ _),W _ (y _ _),ag];have X: ∀(x:bU),x.length<=200000000->x=(stepT s (bQ s) at_).2->p.2.2.1=(stepT s (bQ s) at_).1->jA s (bQ s) at_=false->
     ∃i o',(bif gm h []then kH N p.2.2.1 [] s (bQ s) (Gj s) (dm (o++x)) m u
      else kH N p.2.2.1 [] s (bQ s) (Gj s) (dm (o++h++x)) m u)=evR s m u (jA s (bQ s) at_||tN s (bQ s) N (stepT s (bQ s) at_).1) i o'/\
      ((jA s (bQ s) at_||tN s (bQ s) N (stepT s (bQ s) at_).1)=false->o'++i=o++h++((stepT s (bQ s) at_).2++kC s (bQ s) N (stepT s (bQ s) at_).1)/\(o'.length:Int)+i.length<=200000000*s.length):=by
     intro x B Y G f;by_cases he:h=[]
     .subst he;rw[bW (by rfl)];exact go [] _ _ (by rw[<-Y];simp) G f
     .rw[dD (by simpa [gm] using he)];exact go [] _ _ (by rw[<-Y];simp) G f
    by_cases hpl':lone p=true\/p.1=14
    .have j:stepT s (bQ s) at_=(p.2.2.1,mX s p):=by simp_all [stepT]
     have f:jA s (bQ s) at_=false:=by unfold jA;rw[hf];simp only;rw[am hpl']
     have:=go (h++sub s p.2.1 p.2.2.1) o p.2.2.1 (by rw[j,ah];rfl) (by rw[j]) f;by_cases D:lone p=true
     .simp only[D,aa];exact this
     .have L:p.1=14:=hpl'.resolve_left D;simp only[show lone p=false by simpa using D,L,show bZ 14 14=true from rfl,aa,ac];exact this
    .have D:lone p=false:=by
      simp_all
     have L:p.1≠14:=fun h=>hpl' (.inr h);simp only[D,dJ L,ac];have I:jA s (bQ s) at_=(if p.1=13 then false else if p.1=4 then false else if p.1=5 then tJ s (bQ s) (nK p) s.length (p.2.1+1)else true):=by
      unfold jA;rw[hf];simp only;rw[aq hpl']
     by_cases h13:p.1=13
     .have aK:=v.es h13;have j:stepT s (bQ s) at_=(p.2.2.1,Ny s p):=by simp_all [stepT]
      have f:jA s (bQ s) at_=false:=by rw[I,am h13]
      simp only[dW h13,dJ (show p.1≠4 by omega),aa,ac];by_cases hto2:p.2.2.1=p.2.1+2
      .have M:sub s (p.2.1+1) p.2.2.1=[s.getD (p.2.1+1).toNat 0]:=by
        obtain⟨n,hn⟩:=aV (show 0<=p.2.1+1 by omega);have Z:n<s.length:=by omega
        rw[hn,show p.2.2.1=((n+1:Nat):Int) by omega,yN,ay Z,List.take_succ_cons,List.take_zero,aX,List.getD_eq_getElem?_getD,List.getElem?_eq_getElem Z];rfl
       have au:gm (sub s (p.2.1+1) p.2.2.1) []=false:=by rw[M];simp[gm]
       rw[au,az,aa];by_cases b5:cO s (p.2.1+1)=10
       .have av:gm (sub s (p.2.1+1) p.2.2.1) [10]=true:=by
         rw[M];unfold cO at b5;have aw:s.getD (p.2.1+1).toNat 0=10:=UInt8.toNat_inj.1 (by show _=10;omega);rw[aw];rfl
        rw[av,ak,ac];exact go h o _ (by rw[j];simp_all [Ny]) (by rw[j]) f
       .have:gm (sub s (p.2.1+1) p.2.2.1) [10]=false:=by
         rw[M];have O:s.getD (p.2.1+1).toNat 0≠10:=fun h=>b5 (by unfold cO;rw[h];rfl);simpa [gm] using O
        rw[this,az,aa];exact X _ (y _ _) (by simp_all [Ny]) (by rw[j]) f
      .have ax:sub s (p.2.1+1) p.2.2.1=[]:=by
        grind [sub]
       rw[ax,show(!gm ([]:bU) [])=false from rfl,ac];exact go h o _ (by rw[j];simp_all [Ny]) (by rw[j]) f
     .simp only[dJ h13,ac];by_cases h4:p.1=4
      .have j:stepT s (bQ s) at_=(p.2.2.1,sub s (p.2.1+1) (nK p)):=by simp_all [stepT]
       have f:jA s (bQ s) at_=false:=by rw[I,aq h13,am h4]
       have ab:p.2.1+1<=nK p/\nK p<=p.2.2.1:=by
        unfold nK;by_cases ho:p.2.2.2.2.1=true
        .grind
        .rw[aq ho];have:=v.sh (by simpa using ho) (by omega);omega
       simp only[dW h4,aa];rw[NW z v (.inl h4),bJ];simp only[eU (n:=bM s) (lo:=p.2.1+1) (hi:=nK p) (by omega) ab.1 (by rw[bP];omega),aa,V _ (y _ _),W _ (y _ _)];exact X _ (y _ _) (by rw[j]) (by rw[j]) f
      .simp only[dJ h4,ac];by_cases h5:p.1=5
       .have j:stepT s (bQ s) at_=(p.2.2.1,qf s (bQ s) (nK p) s.length (p.2.1+1)):=by simp_all [stepT]
        have f:jA s (bQ s) at_=tJ s (bQ s) (nK p) s.length (p.2.1+1):=by rw[I,aq h13,aq h4,am h5]
        have ab:p.2.1+1<=nK p/\nK p<=p.2.2.1:=by
         unfold nK;by_cases ho:p.2.2.2.2.1=true
         .grind
         .rw[aq ho];have:=v.sh (by simpa using ho) (by omega);omega
        simp only[dW h5,aa,NW z v (.inr h5),bJ];have dE:tJ s (bQ s) (nK p) bV (p.2.1+1)=jA s (bQ s) at_:=by
         rw[f];exact P6 s _ _ _ _ (by have:=dI (n:=s.length) (by omega);omega) (by omega)
        have dT:qf s (bQ s) (nK p) bV (p.2.1+1)=(stepT s (bQ s) at_).2:=by
         rw[j];exact IJ s _ _ _ _ (by have:=dI (n:=s.length) (by omega);omega) (by omega)
        have ad: ∀(q:bU),q=o++h->
          ∃i o',(bK (pK bV (nK p) false (p.2.1+1) p.2.2.1 (p.1,(p.2.1,(p.2.2.1,(p.2.2.2.1,(p.2.2.2.2.1,()))))) [] p.1 p.2.1 p.2.2.1 p.2.2.2.1 p.2.2.2.2.1 (dm h) s (bQ s) (Gj s) (dm q) m u) fun y2=>
           dO y2 (fun d=>
            bif(bZ (bM d.2.2.1) 0)then
             bif d.1.1 then kH N d.2.1.1.1 [] d.2.2.2.2.2.2.2.1.1 d.2.2.2.2.2.2.2.1.2.1 d.2.2.2.2.2.2.2.2.1 d.2.2.2.2.2.2.2.2.2.2.2.1 d.2.2.2.2.2.2.2.2.2.2.2.2.2.1.1 d.2.2.2.2.2.2.2.2.2.2.2.2.2.2.1.1
             else bif(eH (cu d.2.2.2.2.2.2.2.2.2.2.2.1 (dm (ofBytes d.2.2.1))) 1)then
              kH N d.2.1.1.1 [] d.2.2.2.2.2.2.2.1.1 d.2.2.2.2.2.2.2.1.2.1 d.2.2.2.2.2.2.2.2.1 (cu d.2.2.2.2.2.2.2.2.2.2.2.1 (dm (ofBytes d.2.2.1))) d.2.2.2.2.2.2.2.2.2.2.2.2.2.1.1 d.2.2.2.2.2.2.2.2.2.2.2.2.2.2.1.1
             else none
            else bif(eH (cu d.2.2.2.2.2.2.2.2.2.2.2.1 (dm (ofBytes d.2.2.1))) 1)then
             kH N d.2.1.1.1 [] d.2.2.2.2.2.2.2.1.1 d.2.2.2.2.2.2.2.1.2.1 d.2.2.2.2.2.2.2.2.1 (cu d.2.2.2.2.2.2.2.2.2.2.2.1 (dm (ofBytes d.2.2.1))) d.2.2.2.2.2.2.2.2.2.2.2.2.2.1.1 d.2.2.2.2.2.2.2.2.2.2.2.2.2.2.1.1
            else none) (fun E=>some (.inr ((),((),(),(),()),((E.2.2.2.2.2.2.1.1,E.2.2.2.2.2.2.1.2.1,()),E.2.2.2.2.2.2.2.1,(),(),E.2.2.2.2.2.2.2.2.2.2.1,(),(false,()),(E.2.2.2.2.2.2.2.2.2.2.2.2.2.1.1,()),())))))=
           evR s m u (jA s (bQ s) at_||tN s (bQ s) N (stepT s (bQ s) at_).1) i o'/\
          ((jA s (bQ s) at_||tN s (bQ s) N (stepT s (bQ s) at_).1)=false->o'++i=o++h++((stepT s (bQ s) at_).2++kC s (bQ s) N (stepT s (bQ s) at_).1)/\(o'.length:Int)+i.length<=200000000*s.length):=by
         intro q O;obtain⟨o',K,A⟩:=ZR s z (to_:=nK p) (by omega) 10000000000000 (by omega) p.2.2.1 (p.1,(p.2.1,(p.2.2.1,(p.2.2.2.1,(p.2.2.2.2.1,()))))) p.1 p.2.1 p.2.2.1 p.2.2.2.1 p.2.2.2.2.1 (dm h) m u false bV (p.2.1+1) [] q (by unfold bV;omega) (by have:=dI (n:=s.length) (by omega);omega) (by omega) (by omega) (by grind);rw[show([]:List Int)=dm [] from rfl,K,bJ];rw[dE]at A ⊢;rw[dT]at A ⊢;cases hE1:jA s (bQ s) at_ with
         |true=>
          rw[am rfl,Bool.true_or];exact⟨[],o',rfl,fun h=>by cases h⟩
         |false=>
          have g1:=go [] (q++(stepT s (bQ s) at_).2) p.2.2.1 (by rw[O];simp) (by rw[j]) hE1;have r3:=A hE1;have aA:eH (dm (q++(stepT s (bQ s) at_).2)) 1=true:=tX (by grind);rw[hE1]at g1;rw[aq (by simp)];simp only[dO,uV,kM,aH,aA,aa,ac,Bool.cond_self];exact g1
        by_cases he:h=[]
        .rw[bW (by rw[he];rfl)];exact ad o (by rw[he];simp)
        .rw[dD (by simpa [gm] using he)];exact ad (o++h) rfl
       .have f:jA s (bQ s) at_=true:=by rw[I,aq h13,aq h4,aq h5]
        simp only[dJ h5,ac];rw[f,Bool.true_or];by_cases he:h=[]
        .rw[bW (by rw[he];rfl)];exact⟨[],o,rfl,fun h=>by cases h⟩
        .rw[dD (by simpa [gm] using he)];exact⟨[],o++h,rfl,fun h=>by cases h⟩
  .rw[dD (gB (by rw[bP];omega)),aq e,aq e];exact⟨h,o,rfl,fun _=>by grind⟩
theorem aCq (s:bU) (f:s.length<=10000):TN s=some ((sZ s).1,((sZ s).2,())):=by
 have m:=rY s;rw[TN,aH6 s (by omega),bJ];simp only;have g:=XY (bQ s) (by omega) s s s (bQ s) [] false [] bV 0 [] (dI) (by omega);rw[show yF bV (bQ s) (bM (bQ s)) 0 s s s (bQ s) [] [] false []=_ from g,bJ];simp only[dO,aJ];obtain⟨h,o,i,e⟩:=V8 s f false [] bV 0 [] [] (by have:=dI (n:=s.length) (by omega);omega) (by omega) (by omega) (by simp);rw[show kH bV 0 [] s (bQ s) (H9 [] 0 (bQ s)) [] false []=_ from i,evR,bJ];have j:kC s (bQ s) bV 0=CW s:=D9 s _ _ _ (by have:=dI (n:=s.length) (by omega);omega) (by omega);have l:tN s (bQ s) bV 0=ajQ s:=Qd s _ _ _ (by have:=dI (n:=s.length) (by omega);omega) (by omega);rw[l]at e ⊢;unfold sZ;cases hE:ajQ s with
 |true=>rfl
 |false=>
  obtain⟨d,p⟩:=e hE;rw[j,aH,aH]at d;rw[aq (by simp),aq (by simp)];simp only[dO,uV,kM,fD,aa];by_cases he:h=[]
  .rw[bW (by rw[he];rfl),<-d,he,List.append_nil]
  .rw[dD (by simpa [gm] using he),bW (tX (by grind)),d]
end
section
open Bool renaming false_or → aW
open List renaming drop_eq_getElem_cons → ay, drop_of_length_le → aB
open Go.RowKit
theorem agH (l:List Pce) (hl:l.length<1000000000): ∀(N k:Nat),l.length-k<N->k<=l.length->
  ∃r,Xg N l (k:Int)=some r/\dO r (fun _=>some (false,())) (fun b=>some (b.1.1,()))=some (exB (l.drop k),())
 |0,k,h,_=>by omega
 |N+1,k,h,hk=>by
  rw[Xg,afn];by_cases e:k<l.length
  .have d:dQ l (false,(false,([],()))) (k:Int)=l[k]:=by
    simp_all [dQ]
   have f:bY .i64 (k:Int) 1=((k+1:Nat):Int):=by grind [dC]
   have g:exB (l.drop k)=(l[k].1||exB (l.drop (k+1))):=by rw[ay e];rfl
   rw[bW (eX (by rw[bP];omega)),bW (ed),d,f,g];cases hx:l[k].1 with
   |true=>rw[aa];exact⟨_,rfl,rfl⟩
   |false=>
    rw[ac,aW];exact agH l hl N (k+1) (by omega) (by omega)
  .rw[dD (gB (by rw[bP];omega)),aB (by omega)];exact⟨_,rfl,rfl⟩
theorem ZC (s:bU) (d:s.length<=10000):aw9 s=some (ajQ s,()):=by
 obtain⟨out,e,f,g,i⟩:=Fe s d bV 0 true [] (by have:=dI (n:=s.length) (by omega);omega) (by omega) (by omega) (by simp[jV]) (by simp) (fun h=>by cases h);have j:tN s (bQ s) bV 0=ajQ s:=Qd s _ _ _ (by have:=dI (n:=s.length) (by omega);omega) (by omega);have l:aj1 s=some (out,()):=by
  rw[aj1,aH7 s (by omega),bJ];simp only;rw[e,bJ];rfl
 obtain⟨r,m,o⟩:=agH out (by omega) bV 0 (dI) (by omega)
 grind [aw9,bJ,exB]
end
section
open Go.RowKit
theorem at7 {u:List UInt8} (d:u.length<=10000):acm u false=some ((rV u).1,((rV u).2.2.2.1,())):=by
 simp_all [acm,aMo,bJ]
end
section
open Bool renaming not_true → ak, not_false → az
open Int renaming eq_ofNat_of_zero_le → aV
open List renaming drop_eq_getElem_cons → ay, drop_of_length_le → aB, length_take → aZ, getElem_take → bu
open Nat renaming le_refl → ae
open Go.RowKit
def J7 (x:bU):bU:=(sZ x).1
theorem GL {f:List Lf} (hF:Vy f) {l:List Nd} (hl:l.length<1000000) (g: ∀j:Nat,∀h:j<l.length,l[j].1=7->0<=l[j].2.1/\l[j].2.1<f.length) (i:Nat) (hi:i<=l.length) (up:Int) (A B:Ctx): ∀(N k:Nat) (n:Int) (c:bU),i-k<N->k<=l.length->0<=n->n<=k->(n=0->c=[])->
  Jf N f l (i:Int) up n c (k:Int) A.1 A.2.1 A.2.2.1 A.2.2.2.1 A.2.2.2.2.1 A.2.2.2.2.2.1 A.2.2.2.2.2.2.1 A.2.2.2.2.2.2.2.1 A.2.2.2.2.2.2.2.2.1 B.1 B.2.1 B.2.2.1 B.2.2.2.1 B.2.2.2.2.1 B.2.2.2.2.2.1 B.2.2.2.2.2.2.1 B.2.2.2.2.2.2.2.1 B.2.2.2.2.2.2.2.2.1=
   some (.inl ((f,l,(i:Int),up,(inA J7 f up ((l.take i).drop k) n c).1,(inA J7 f up ((l.take i).drop k) n c).2,()),(A,B,())))
 |0,k,n,c,h,_,_,_,_=>by omega
 |N+1,k,n,c,h,hk,p,L,o=>by
  rw[Jf,Vp];by_cases e:k<i
  .have q:k<l.length:=by omega
   have D:k<(l.take i).length:=by rw[aZ];omega
   have E:bY .i64 (k:Int) 1=((k+1:Nat):Int):=by rw[dC];omega
   have G:bY .i64 n 1=n+1:=dC;have m:fO l (k:Int)=true:=ed;rw[bW (eX),bW m,bW m];simp only[iT q,E,G];rw[ay D,bu,inA];by_cases h2:l[k].2.2.2.1=up
   .rw[bW (dW h2)];by_cases h7:l[k].1=7
    .rw[bW (dW h7),am ⟨h2,h7⟩];by_cases h3:n=0
     .obtain⟨s,u⟩:=g k q h7;have v:fO f l[k].2.1=true:=ed s u;have I:=WM (l:=f) (d:=dLf) (i:=l[k].2.1) s u;have y:=hF.txt _ I;rw[bW (dW h3),bW m,bW v,am h3];simp only[show((0:Int),(([]:bU),((0:Int),((0:Int),()))))=dLf from rfl];generalize M:(dQ f dLf l[k].2.1).2.1=x at*;rw[ZC x y,bJ];have z:=fun J K=>GL hF hl g i hi up A B N (k+1) (n+1) J (by omega) (by omega) (by omega) (by omega) K;cases hex:ajQ x with
      |true=>
       simp only[ak,ac];rw[z c (fun h=>by omega),o h3];have:J7 x=[]:=by unfold J7 sZ;rw[hex];rfl
       rw[this]
      |false=>
       simp only[az,aa,m,v,ai2 x y,bJ];rw[z (CW x) (fun h=>by omega)];have:J7 x=CW x:=by unfold J7 sZ;rw[hex];rfl
       rw[this]
     .rw[dD (dJ h3),aq h3];exact GL hF hl g i hi up A B N (k+1) (n+1) c (by omega) (by omega) (by omega) (by omega) (fun h=>by omega)
    .rw[dD (dJ h7),aq (fun h=>h7 h.2)];exact GL hF hl g i hi up A B N (k+1) n c (by omega) (by omega) p (by omega) o
   .rw[dD (dJ h2),aq (fun h=>h2 h.1)];exact GL hF hl g i hi up A B N (k+1) n c (by omega) (by omega) p (by omega) o
  .rw[dD (gB),aB (by rw[aZ];omega)];rfl
theorem RT.word {F:List Lf} {l:List Nd} (h:RT F l) (j:Nat) (e:j<l.length) (f:l[j].1=7):0<=l[j].2.1/\l[j].2.1<F.length:=by
 have d:=h.node (i:=(j:Int)) (by omega) (by omega);rw[iT e]at d;have:=(d.2.2.2 f).1;omega
def rO (A B:Ctx):Option (UA.den⊕UH.den):=some (.inl ((),(A,B,())))
theorem ah9 {f:List Lf} (hF:Vy f) (hf:f≠[]) {l:List Nd} (h:RT f l) {i:Nat} (hi:uH l (bM f-1) l.length=(i:Int)) (v:i<l.length) (A:Ctx): ∀(N k:Nat) (B:Ctx),l.length-k<N->k<=l.length->
  OC N f l (k:Int) A.1 A.2.1 A.2.2.1 A.2.2.2.1 A.2.2.2.2.1 A.2.2.2.2.2.1 A.2.2.2.2.2.2.1 A.2.2.2.2.2.2.2.1 A.2.2.2.2.2.2.2.2.1 B.1 B.2.1 B.2.2.1 B.2.2.2.1 B.2.2.2.2.1 B.2.2.2.2.2.1 B.2.2.2.2.2.2.1 B.2.2.2.2.2.2.2.1 B.2.2.2.2.2.2.2.2.1=
   rO A (if k<=i then O8 J7 f l i B else B)
 |0,k,B,hk,_=>by omega
 |N+1,k,B,Y,hk=>by
  (rewrite [OC,Vo];delta JB nI)
  have z:=h.len;have Z:=hF.len;by_cases e:k<l.length
  .have d:=fun o=>ah9 hF hf h hi v A N (k+1) o (by omega) (by omega);have x:bY .i64 (k:Int) 1=((k+1:Nat):Int):=by rw[dC];omega
   have D:fO l (k:Int)=true:=ed;have E:dV .i64 (bM f) 1=bM f-1:=fV (by rw[bP];omega) (by rw[bP];omega);rw[bW (eX (by rw[bP];omega))];simp only[D,aa,iT e,x,E];have s: ¬(l[k].1=6\/l[k].1=7)\/ ¬(l[k].2.1=bM f-1/\l[k].2.2.1=bM f)->(if k<=i then O8 J7 f l i B else B)=(if k+1<=i then O8 J7 f l i B else B):=by
    intro p;by_cases g:k=i
    .subst g;rw[am (ae _),aq (by omega)];have q: ¬(l[k].1=6\/l[k].1=7):=by
      rcases p with p|p
      .exact p
      .exact fun G=>p (h.exact hf hi v G)
     unfold O8;simp only;rw[iT e,aq (fun m=>q (.inl m)),am (fun j=>q (.inr j))]
    .by_cases hlt:k<=i
     .rw[am hlt,am (by omega)]
     .rw[aq hlt,aq (by omega)]
   by_cases e1:l[k].2.1=bM f-1
   .rw[dW e1];simp only[ak,ac];by_cases e2:l[k].2.2.1=bM f
    .rw[dW e2];simp only[ak,ac];by_cases m:l[k].1=6
     .have g:=h.only hf e (.inl m) e1 e2;rw[hi]at g;have g:k=i:=by omega
      subst g;rw[bW (dW m),dJ (show l[k].1≠7 by omega)];simp only[az,aa];refine(d (sW B 5)).trans ?_;rw[aq (by omega),am (ae _)];unfold O8;simp only;rw[iT e,am m]
     rw[dD (dJ m)];by_cases j:l[k].1=7
     .have g:=h.only hf e (.inr j) e1 e2;rw[hi]at g;have g:k=i:=by omega
      subst g;have q:=h.node (i:=(k:Int)) (by omega) (by omega);rw[iT e]at q;obtain⟨w1,y,I⟩:=q.2.2.2 j;have ab:=h.up e;have J:=fun u (K:dQ l uI l[k].2.2.2.1=u)=>h.here hF e j (by rw[e2,bP]) K;rw[dW j];simp only[ak,ac];have L:fO l l[k].2.2.2.1=true:=ed y I;obtain⟨up,M⟩:=aV y;have O:bY .i64 l[k].2.2.2.1 1=((up+1:Nat):Int):=by rw[dC,M];omega
      have S:=GL hF z h.word k (by omega) l[k].2.2.2.1 A B bV (up+1) 0 [] (dI) (by omega) (by omega) (by omega) (fun _=>rfl);rw[O,S,bJ];simp only[dO,x];rw[am (ae _)];have U: ∀o,(if k+1<=k then O8 J7 f l k o else o)=o:=fun o=>aq (by omega);simp only[U]at d;unfold O8;simp only;have V:l[k].2.2.2.1.toNat=up:=by omega
      rw[iT e,aq m,aq (show ¬(l[k].1≠7) from fun h=>h j),V];simp only[show((0:Int),((0:Int),((0:Int),((0:Int),()))))=uI from rfl,L,aa];generalize inA J7 f l[k].2.2.2.1 ((l.take k).drop (up+1)) 0 []=a at*;generalize dQ l uI l[k].2.2.2.1=u at*;by_cases h5:u.1=5
      .rw[bW (dW h5),am h5];by_cases h0:0<a.1
       .rw[bW (eX h0),am h0];exact d (aFn B a.2 a.1)
       .rw[dD (gB h0),aq h0];exact d (sW B 1)
      rw[dD (dJ h5),aq h5];by_cases h8:u.1=8
      .obtain⟨p,_⟩:=J u rfl h8;have W:dV .i64 (bM f) 2=bM f-2:=fV (by rw[bP];omega) (by rw[bP];omega);have X:fO f (bM f-2)=true:=ed (by rw[bP];omega) (by rw[bP];omega);rw[bW (dW h8),am h8];simp only[W,X,aa,show((0:Int),(([]:bU),((0:Int),((0:Int),()))))=dLf from rfl];generalize (dQ f dLf (bM f-2)).2.1=t at*;by_cases t1:t=[60,60]
       .rw[am (.inl t1),bW (by rw[t1];rfl)];exact d (sW B 4)
       rw[dD (by simpa [gm] using t1)];by_cases t2:t=[60,60,45]
       .rw[am (.inr t2),bW (by rw[t2];rfl)];exact d (sW B 4)
       rw[dD (by simpa [gm] using t2),aq (fun h=>h.elim t1 t2)];exact d (sW B 3)
      rw[dD (dJ h8),aq h8];by_cases h13:u.1=13
      .rw[bW (dW h13),am h13];by_cases h0:a.1=0
       .rw[bW (dW h0),am h0];exact d (sW B 6)
       .rw[dD (dJ h0),aq h0];exact d (sW B 7)
      rw[dD (dJ h13),aq h13];by_cases h14:u.1=14
      .rw[bW (dW h14),am h14];exact d (sW B 7)
      rw[dD (dJ h14),aq h14];by_cases h15:u.1=15
      .rw[bW (dW h15),am h15];exact d (sW B 8)
      rw[dD (dJ h15),aq h15];exact d B
     .rw[dJ j];simp only[az,aa];refine(d B).trans ?_;rw[s (.inl (fun h=>h.elim m j))]
    .rw[dJ e2];simp only[az,aa];refine(d B).trans ?_;rw[s (.inr (fun h=>e2 h.2))]
   .rw[dJ e1];simp only[az,aa];refine(d B).trans ?_;rw[s (.inr (fun h=>e1 h.1))]
  .rw[dD (gB (by rw[bP];omega)),aq (by omega)];rfl
theorem aML {f:List Lf} (hF:Vy f) (hf:f≠[]) {l:List Nd} (hp:arV f=some (l,())) (hT:RT f l) (A B:Ctx):
  pJ f A.1 A.2.1 A.2.2.1 A.2.2.2.1 A.2.2.2.2.1 A.2.2.2.2.2.1 A.2.2.2.2.2.2.1 A.2.2.2.2.2.2.2.1 A.2.2.2.2.2.2.2.2.1 B.1 B.2.1 B.2.2.1 B.2.2.2.1 B.2.2.2.2.1 B.2.2.2.2.2.1 B.2.2.2.2.2.2.1 B.2.2.2.2.2.2.2.1 B.2.2.2.2.2.2.2.2.1=
   some (.inr ((),(F7 J7 B f l,()))):=by
 have m:=hT.len;obtain⟨h,o⟩:=hT.cov hf;obtain⟨i,d⟩:=aV h;have e:i<l.length:=by omega
 have g:=ah9 hF hf hT d e A bV 0 (sW B 9) (dI) (by omega);rw[pJ,Bl,hp,bJ];simp only;have j:=azD (V:=J7) hF hT hf d e B;rw[am (Nat.zero_le _),j]at g;refine(oEq (show _=_ from g)).trans ?_;rfl
end
section
open Go.RowKit
theorem aMK {s:List UInt8} {c:Int} (d:s.length<=1000) (e:0<=c) (f:c<=s.length):fn7 s c=some (Ei sZ (sub s 0 c),(0,())):=
 aCm (fun w g=>aCq w g) d e f
end
section
open Option renaming some → a6, none → a7
open Tryz
open Go.RowKit
def Ag (d:Int):Option oJ:=bK (J9 d) fun e=>cond (bZ e.1 5) (a6 (true,()))<|cond (bZ e.1 6) (a6 (true,()))<|some ((leI 128 d),())
def agN (d:Int):Option oJ:=cond (bZ d 37) (cond (bZ d 37) (a6 (true,()))<|Ag d)<|cond (bZ d 43) (cond (bZ d 43) (a6 (true,()))<|Ag d)<|cond (bZ d 44) (cond (bZ d 44) (a6 (true,()))<|Ag d)<|cond (bZ d 45) (cond (bZ d 45) (a6 (true,()))<|Ag d)<|cond (bZ d 46) (cond (bZ d 46) (a6 (true,()))<|Ag d)<|cond (bZ d 47) (cond (bZ d 47) (a6 (true,()))<|Ag d)<|cond (bZ d 58) (cond (bZ d 58) (a6 (true,()))<|Ag d)<|cond (bZ d 64) (a6 (true,()))<|Ag d
def aAM:Sum:=⟨[.int .u8],KO,fun x=>agN x.1⟩
theorem asU:dX prog 122 aAM:=qA f122 [] (sE vF aN)
noncomputable def aud:Code:=(Tryz.f165.body).getD .skip
noncomputable def Ad:Code:=cB (cA (cB (cA (cB (aud)))))
def Aq:eY:=⟨[4,900018],[],[],[],[2],[]⟩
def Hf:SP:=⟨us [.u,.u,.u,.u,co] 16,[]⟩
def uk:SP:=⟨us [] 21,[]⟩
def um:SP:=⟨us [.u,.u,co] 18,[]⟩
def FD {d:Type} (e:Option d) (f:Bool->Option d) (g:Bool):Option d:=cond g (f true) e
def iq (d:Bool):Option (uk.den⊕um.den):=FD (a6 (.inl ((),()))) (fun e=>a6 (.inr ((e,()),()))) d
noncomputable def OL:dG:=fK Aq Hf uk um (.exit 999999) (fun v=>iq v.1.1) 6
def lK (d:uk.den⊕um.den):Option oJ:=dO d (fun f=>a6 (false,())) (fun e=>a6 (e.1.1,()))
def anb (d:bU):Option oJ:=cond (gm d [33]) (bK (iq (gm d [33])) fun e=>lK e)<|cond (gm d [123]) (bK (iq (gm d [123])) fun e=>lK e)<|cond (gm d [125]) (bK (iq (gm d [125])) fun e=>lK e)<|cond (gm d [99,97,115,101]) (bK (iq (gm d [99,97,115,101])) fun e=>lK e)<|cond (gm d [100,111]) (bK (iq (gm d [100,111])) fun e=>lK e)<|cond (gm d [100,111,110,101]) (bK (iq (gm d [100,111,110,101])) fun e=>lK e)<|cond (gm d [101,108,105,102]) (bK (iq (gm d [101,108,105,102])) fun e=>lK e)<|cond (gm d [101,108,115,101]) (bK (iq (gm d [101,108,115,101])) fun e=>lK e)<|cond (gm d [101,115,97,99]) (bK (iq (gm d [101,115,97,99])) fun e=>lK e)<|cond (gm d [102,105]) (bK (iq (gm d [102,105])) fun e=>lK e)<|cond (gm d [102,111,114]) (bK (iq (gm d [102,111,114])) fun e=>lK e)<|cond (gm d [105,102]) (bK (iq (gm d [105,102])) fun e=>lK e)<|cond (gm d [105,110]) (bK (iq (gm d [105,110])) fun e=>lK e)<|cond (gm d [116,104,101,110]) (bK (iq (gm d [116,104,101,110])) fun e=>lK e)<|cond (gm d [117,110,116,105,108]) (bK (iq (gm d [117,110,116,105,108])) fun e=>lK e)<|bK (iq (gm d [119,104,105,108,101])) fun e=>lK e
def aLJ:Sum:=⟨[.str],KO,fun x=>anb x.1⟩
noncomputable def Qa:Env:=iW prog tt 165 [] [(800018,Aq)] [(800018,OL)]
theorem Yr {R:Type} (d:Nat) (K:Ex->St->Option R) (e:Bool):
  iter (a6 Aq) (tH (qR Qa (d+6) 165 Ad)) 1 (jf Hf ((e,()),())) K=
   FD (K (.exit 999999) (jf uk ((),()))) (fun f=>K .ret (jf um ((f,()),()))) e:=by kernel_rfl
theorem acD {R:Type} (d:Nat) (K:Ex->St->Option R) (e:Bool):
  iter (a6 Aq) (tH (qR Qa (d+6) 165 Ad)) 1 (jf Hf ((e,()),())) K=bK (iq e) fun o=>dO o (fun a=>K (.exit 999999) (jf uk a)) fun b=>K .ret (jf um b):=by
  rw[Yr];simp only[iq,FD,dw,dA,bJ,dh,dB]
  try simp only[dO]
theorem acZ:qF Qa 165 Ad OL:=wL (by kernel_rfl) fun R d K v o h=>⟨1,(acD d K (v.1.1)).trans (congrArg (fun o=>bK o _) h)⟩
theorem aJd:jk aud=[]:=by kernel_rfl
theorem aIw:uP Qa 165 aud=[Ad]:=by kernel_rfl
theorem aJx:dR Qa 165 aud:=pz aud (fun x _ d=>absurd (show false=true from d) (by decide)) (by rw[aJd];exact aN) (qj (by rw[aIw];exact(aD (fC (by kernel_rfl) (acZ)) aN)))
theorem arb:fH Qa:=eA Tryz.f165 aN (aJx)
theorem atg:dX prog 165 aLJ:=sA arb
def amW (d:bU):Option oJ:=bK (anb d) fun e=>cond e.1 (a6 (true,()))<|cond (!(gm d [])) (bK (Dk d 0) fun f=>a6 ((bZ f.1 (bM d)),()))<|some (false,())
def aAN:Sum:=⟨[.str],KO,fun x=>amW x.1⟩
theorem asV:dX prog 123 aAN:=qA f123 [] (sE atg (sE Rj aN))
noncomputable def b77:Code:=(f77.body).getD .skip
noncomputable def aGg:Code:=cA (cA (cB (cA (cB (cB (cB (b77)))))))
def aGT:eY:=⟨[0,3,8,9,100005],[],[3],[],[2],[]⟩
def aI9:eY:=⟨[0,3,8,9],[],[],[],[],[]⟩
def anI:eY:=⟨[0,3,4,8,9],[],[],[],[],[]⟩
def ao4:SP:=⟨us [ci,.u,.u,cw,.u,.u,.u,.u,cg,cg] 27,[cq,cE]⟩
def alf:SP:=⟨us [.u,.u,.u,cw] 33,[cq,cE]⟩
def alP:SP:=⟨us [.u,.u,ci] 34,[]⟩
def Ih {g:Type} (f:iD) (d:bU) (e:Int) (h:bU->Int->Int->iD->Option g) (i:Int):Option g:=cond (eH (cu f [92]) 1) (cond (fO d e) (cond (eH (cu (cu f [92]) [(cO d e)]) 1) (h d i (bY .i64 e 1) (cu (cu f [92]) [(cO d e)])) a7) a7) a7
def DT {f:Type} (d:bU) (e:Int) (g:iD) (h:bU->Int->Int->iD->Option f) (i:Int):Option f:=cond (fO d e) (cond (eH (cu g [(cO d e)]) 1) (h d i (bY .i64 e 1) (cu g [(cO d e)])) a7) a7
def Ym {i:Type} (h:bU->Int->Int->iD->Option i) (l:iD->Option i) (o:bU->Option i) (e:bU) (g d:Int) (f:iD):Option i:=cond (gU d g) (cond (fO e d) (cond (bZ (cO e d) 10) (cond (eH (cu f (dm [39,10,39])) 1) (h e g (bY .i64 d 1) (cu f (dm [39,10,39]))) a7)<|cond (fO e d) (bK (agN (cO e d)) fun j=>cond (!j.1) (cond (!j.1) (Ih f e d h g)<|DT e d f h g)<|cond (bZ d 0) (bK (amW e) fun m=>cond m.1 (Ih f e d h g)<|DT e d f h g)<|DT e d f h g) a7) a7)<|l f
def EL:Nat->bU->Int->Int->iD->Option (alf.den⊕alP.den)
 |0,_,_,_,_=>a7
 |n+1,d,e,f,g=>Ym (EL n) (fun h=>a6 (.inl ((),((),h,())))) (fun i=>a6 (.inr ((i,()),()))) d e f g
def aKj (n:Nat) (v:ao4.den):=EL n v.1.1 v.1.2.1 v.1.2.2.1 v.2.2.1
noncomputable def ayX:dG:=fK aGT ao4 alf alP (.exit 0) (aKj bV) 6
def aDg (d:bU):Option YG:=cond (gm d []) (a6 ([39,39],()))<|bK (EL bV d (bM d) 0 []) fun f=>dO f (fun e=>cond (bZ (bM e.2.2.1) (bM e.2.2.1)) (a6 ((ofBytes e.2.2.1),())) a7) (fun g=>a6 (g.1.1,()))
def aOn:Sum:=⟨[.str],tzG,fun x=>aDg x.1⟩
noncomputable def av8:Env:=gZ prog tt [(122,aAM),(123,aAN)] [(77,5,aGT),(77,600008,aI9),(77,600011,anI),(77,600012,anI),(77,600014,Uf),(70,600001,zt),(124,600001,zt)] [(77,5,ayX)] []
def aAa {d:Type} (a:ao4.den->Option d) (b:alf.den->Option d) (c:alP.den->Option d) (v:ao4.den):Option d:=Ym (fun e f g h=>a ((e,f,g,()),((),h,()))) (fun i=>b ((),((),i,()))) (aE c) v.1.1 v.1.2.1 v.1.2.2.1 v.2.2.1
theorem aK1:dY av8 77 aGg ayX:=uz (aAa) (h2:=by intros;simp only[aAa,aE,Ym,dw,dA,bJ,dh,dB,Ih,DT])
theorem aNH:dR av8 77 b77:=oq [aGg] (aD (fM (aK1)) aN)
theorem av9:fH av8:=eB (aD asU (aD asV aN)) [77] (aD ⟨f77,b77,by kernel_rfl,by kernel_rfl,aNH⟩ aN)
theorem aBR:dX prog 77 aOn:=sA av9
def aDh (e:bU):Option YG:=bK (aaQ e [39] [39,92,39,39]) fun d=>cond (gG [39] d.1) (a6 ((cu [39] d.1),())) a7
def aOo:Sum:=⟨[.str],tzG,fun x=>aDh x.1⟩
theorem aBS:dX prog 78 aOo:=qA f78 [] (sE aiR aN)
noncomputable def b79:Code:=(f79.body).getD .skip
noncomputable def aGh:Code:=cA (cA (cB (cA (cB (cB (cB (b79)))))))
def aGU:eY:=⟨[0,3,7,8,100004],[],[3],[],[2],[]⟩
def anJ:eY:=⟨[0,3,4,7,8],[],[],[],[],[]⟩
def ao5:SP:=⟨us [ci,.u,.u,cw,.u,.u,.u,cg,cg] 17,[cq,cE]⟩
def alg:SP:=⟨us [.u,.u,.u,cw] 22,[cq,cE]⟩
def alQ:SP:=⟨us [.u,.u,ci] 23,[]⟩
def DU {g:Type} (f:iD) (d:bU) (e:Int) (h:bU->Int->Int->iD->Option g) (i:Int):Option g:=cond (eH (cu f [92]) 1) (cond (fO d e) (cond (eH (cu (cu f [92]) [(cO d e)]) 1) (h d i (bY .i64 e 1) (cu (cu f [92]) [(cO d e)])) a7) a7) a7
def DV {f:Type} (d:bU) (e:Int) (g:iD) (h:bU->Int->Int->iD->Option f) (i:Int):Option f:=cond (fO d e) (cond (eH (cu g [(cO d e)]) 1) (h d i (bY .i64 e 1) (cu g [(cO d e)])) a7) a7
def afF {i:Type} (h:bU->Int->Int->iD->Option i) (j:iD->Option i) (l:bU->Option i) (e:bU) (f d:Int) (g:iD):Option i:=cond (gU d f) (cond (fO e d) (cond (bZ (cO e d) 36) (cond (bZ (cO e d) 36) (DU g e d h f)<|DV e d g h f)<|cond (bZ (cO e d) 96) (cond (bZ (cO e d) 96) (DU g e d h f)<|DV e d g h f)<|cond (bZ (cO e d) 34) (cond (bZ (cO e d) 34) (DU g e d h f)<|DV e d g h f)<|cond (bZ (cO e d) 92) (DU g e d h f)<|DV e d g h f) a7)<|j g
def LK:Nat->bU->Int->Int->iD->Option (alg.den⊕alQ.den)
 |0,_,_,_,_=>a7
 |n+1,d,e,f,g=>afF (LK n) (fun h=>a6 (.inl ((),((),h,())))) (fun i=>a6 (.inr ((i,()),()))) d e f g
def aKk (n:Nat) (v:ao5.den):=LK n v.1.1 v.1.2.1 v.1.2.2.1 v.2.2.1
noncomputable def ayY:dG:=fK aGU ao5 alg alQ (.exit 0) (aKk bV) 6
def aDi (e:bU):Option YG:=cond (eH (cu [] [34]) 1) (bK (LK bV e (bM e) 0 (cu [] [34])) fun f=>dO f (fun d=>cond (bZ (bM d.2.2.1) (bM d.2.2.1)) (a6 ((ofBytes d.2.2.1),())) a7) (fun g=>a6 (g.1.1,()))) a7
def aOp:Sum:=⟨[.str],tzG,fun x=>aDi x.1⟩
noncomputable def awc:Env:=gZ prog tt [] [(79,4,aGU),(79,600002,ayf),(79,600011,anJ),(79,600012,anJ),(79,600014,Uf),(124,600001,zt)] [(79,4,ayY)] []
def aAb {d:Type} (a:ao5.den->Option d) (b:alg.den->Option d) (c:alQ.den->Option d) (v:ao5.den):Option d:=afF (fun e f g h=>a ((e,f,g,()),((),h,()))) (fun i=>b ((),((),i,()))) (aE c) v.1.1 v.1.2.1 v.1.2.2.1 v.2.2.1
theorem aK2:dY awc 79 aGh ayY:=uz (aAb) (h2:=by intros;simp only[aAb,aE,afF,dw,dA,bJ,dh,dB,DU,DV])
theorem aNI:dR awc 79 b79:=oq [aGh] (aD (fM (aK2)) aN)
theorem awd:fH awc:=eB aN [79] (aD ⟨f79,b79,by kernel_rfl,by kernel_rfl,aNI⟩ aN)
theorem aBT:dX prog 79 aOp:=sA awd
def arU (e:bU) (h:Int) (f:Bool):Option YG:=bK (aDg e) fun g=>cond (bZ h 4) (bK (aDh e) fun d=>cond f (cond (gG d.1 [39]) (a6 ((cu d.1 [39]),())) a7)<|some (d.1,()))<|cond (bZ h 5) (bK (aDi e) fun d=>cond f (cond (gG d.1 [34]) (a6 ((cu d.1 [34]),())) a7)<|some (d.1,()))<|cond f (cond (gG g.1 []) (a6 ((cu g.1 []),())) a7)<|some (g.1,())
def aOj:Sum:=⟨[.str,cZ,.bool],tzG,fun x=>arU x.1 x.2.1 x.2.2.1⟩
theorem aBA:dX prog 46 aOj:=qA f46 [] (sE aBR (sE aBS (sE aBT aN)))
noncomputable def b28:Code:=(f28.body).getD .skip
noncomputable def aF0:Code:=cA (cA (cB (cA (cB (b28)))))
def aoN:SP:=⟨us [ci,cg,.u,.u,.u,cg] 12,[]⟩
def akY:SP:=⟨us [] 18,[]⟩
def aly:SP:=⟨us [.u,.u,.u,.u,co] 13,[]⟩
def afq {d:Type} (h:bU->Int->Int->Option d) (i:Option d) (j:Bool->Option d) (e:bU) (g f:Int):Option d:=cond (gU f (bM e)) (cond (fO e f) (bK (Qg (cO e f)) fun l=>cond (!(bZ l.1 g)) (j false)<|h e g (bY .i64 f 1)) a7) i
def Qx:Nat->bU->Int->Int->Option (akY.den⊕aly.den)
 |0,_,_,_=>a7
 |n+1,d,e,f=>afq (Qx n) (a6 (.inl ((),()))) (fun g=>a6 (.inr ((g,()),()))) d e f
def aJ2 (n:Nat) (v:aoN.den):=ba (Qx n) v
noncomputable def ayH:dG:=fK aan aoN akY aly (.exit 0) (aJ2 bV) 6
def aCZ (d:bU) (e:Int):Option oJ:=bK (Qx bV d e 0) fun f=>dO f (fun h=>a6 (true,())) (fun g=>a6 (g.1.1,()))
def aHg:Sum:=⟨[.str,cZ],KO,fun x=>aCZ x.1 x.2.1⟩
noncomputable def avz:Env:=iW prog tt 28 [(30,aiE)] [(2,aan)] [(2,ayH)]
def azT {d:Type} (a:aoN.den->Option d) (b:akY.den->Option d) (c:aly.den->Option d) (v:aoN.den):Option d:=ba (afq (a8 a) (b ((),())) (aE c)) v
theorem aKJ:dY avz 28 aF0 ayH:=uz (azT) (h2:=by intros;simp only[azT,a8,aE,ba,afq,dw,dA,bJ,dh,dB])
theorem aNn:dR avz 28 b28:=oq [aF0] (aD (fM (aKJ)) aN)
theorem avA:fH avz:=eA f28 (aD zK aN) (aNn)
theorem aBn:dX prog 28 aHg:=sA avA
def aC0 (d:Int):Option oJ:=bK (Qg d) fun e=>cond (bZ e.1 5) (a6 (true,()))<|bK (Qg d) fun f=>cond (bZ f.1 6) (a6 (true,()))<|cond (gU 127 d) (a6 (true,()))<|bK (Dl d [37,43,44,45,46,47,58,64]) fun g=>a6 (g.1,())
def aHh:Sum:=⟨[.int .u8],KO,fun x=>aC0 x.1⟩
theorem aBp:dX prog 31 aHh:=qA f31 [] (sE zK (sE zJ aN))
noncomputable def b12:Code:=(f12.body).getD .skip
noncomputable def aFQ:Code:=cA (cA (cB (cA (cB (cA (cB (cA (cB (cB (b12))))))))))
noncomputable def auw:Code:=cA (cA (cB (cA (cB (cA (cB (cA (cB (cB (cB (b12)))))))))))
noncomputable def aux:Code:=cA (cA (cB (cA (cB (cB (cB (cB (cB (cB (b12))))))))))
def aGx:eY:=⟨[0,2,7,8,100005],[],[2,7],[],[6],[]⟩
def axN:eY:=⟨[0,2,7,9,100016],[],[2,7],[],[6],[]⟩
def axO:eY:=⟨[0,7,10,100031],[],[7],[],[6],[]⟩
def aoD:SP:=⟨us [ci,.u,co,.u,.u,.u,.u,ci,cg] 101,[]⟩
def akP:SP:=⟨us [.u,.u,co,.u,.u,.u,.u,ci] 102,[]⟩
def aln:SP:=⟨eZ,[]⟩
def afg {g:Type} (i:bU->Bool->bU->Int->Option g) (j:Bool->bU->Option g) (l:bU->Option g) (e:bU) (h:Bool) (f:bU) (d:Int):Option g:=cond (gU d (bM e)) (cond (fO e d) (cond (bZ (cO e d) 39) (cond (gG f [39,92,39,39]) (i e h (cu f [39,92,39,39]) (bY .i64 d 1)) a7)<|cond (dZ (bM e) d (bY .i64 d 1)) (cond (gG f (sub e d (bY .i64 d 1))) (i e h (cu f (sub e d (bY .i64 d 1))) (bY .i64 d 1)) a7) a7) a7)<|j h f
def LC:Nat->bU->Bool->bU->Int->Option (akP.den⊕aln.den)
 |0,_,_,_,_=>a7
 |n+1,d,e,f,g=>afg (LC n) (fun h i=>a6 (.inl ((h,i,()),()))) (fun j=>a6 (.inr ((j,()),()))) d e f g
def aJS (n:Nat) (v:aoD.den):=aR (LC n) v
noncomputable def ayx:dG:=fK aGx aoD akP aln (.exit 0) (aJS bV) 6
def adi:SP:=⟨us [ci,.u,co,.u,.u,.u,.u,ci,.u,cg] 100,[]⟩
def adW:SP:=⟨us [.u,.u,co,.u,.u,.u,.u,ci] 102,[]⟩
def aew:SP:=⟨eZ,[]⟩
def U0 {g:Type} (i:bU->Bool->bU->Int->Option g) (j:Bool->bU->Option g) (m:bU->Option g) (e:bU) (h:Bool) (f:bU) (d:Int):Option g:=cond (gU d (bM e)) (cond (fO e d) (bK (Dl (cO e d) [36,96,34,92]) fun l=>cond l.1 (cond (gG f [92]) (cond (dZ (bM e) d (bY .i64 d 1)) (cond (gG (cu f [92]) (sub e d (bY .i64 d 1))) (i e h (cu (cu f [92]) (sub e d (bY .i64 d 1))) (bY .i64 d 1)) a7) a7) a7)<|cond (dZ (bM e) d (bY .i64 d 1)) (cond (gG f (sub e d (bY .i64 d 1))) (i e h (cu f (sub e d (bY .i64 d 1))) (bY .i64 d 1)) a7) a7) a7)<|j h f
def EG:Nat->bU->Bool->bU->Int->Option (adW.den⊕aew.den)
 |0,_,_,_,_=>a7
 |n+1,d,e,f,g=>U0 (EG n) (fun h i=>a6 (.inl ((h,i,()),()))) (fun j=>a6 (.inr ((j,()),()))) d e f g
def aDY (n:Nat) (v:adi.den):=aR (EG n) v
noncomputable def an3:dG:=fK axN adi adW aew (.exit 2) (aDY bV) 12
def adk:SP:=⟨us [ci,.u,.u,.u,.u,.u,.u,ci,.u,.u,cg] 99,[]⟩
def adX:SP:=⟨us [.u,.u,.u,.u,.u,.u,.u,ci] 102,[]⟩
def aex:SP:=⟨eZ,[]⟩
def U1 {g:Type} (h:bU->bU->Int->Option g) (i l:bU->Option g) (e f:bU) (d:Int):Option g:=cond (gU d (bM e)) (cond (fO e d) (cond (bZ (cO e d) 10) (cond (gG f [39,10,39]) (h e (cu f [39,10,39]) (bY .i64 d 1)) a7)<|cond (fO e d) (bK (aC0 (cO e d)) fun j=>cond j.1 (cond (dZ (bM e) d (bY .i64 d 1)) (cond (gG f (sub e d (bY .i64 d 1))) (h e (cu f (sub e d (bY .i64 d 1))) (bY .i64 d 1)) a7) a7)<|cond (gG f [92]) (cond (dZ (bM e) d (bY .i64 d 1)) (cond (gG (cu f [92]) (sub e d (bY .i64 d 1))) (h e (cu (cu f [92]) (sub e d (bY .i64 d 1))) (bY .i64 d 1)) a7) a7) a7) a7) a7)<|i f
def ug:Nat->bU->bU->Int->Option (adX.den⊕aex.den)
 |0,_,_,_=>a7
 |n+1,d,e,f=>U1 (ug n) (fun g=>a6 (.inl ((g,()),()))) (fun h=>a6 (.inr ((h,()),()))) d e f
def aDZ (n:Nat) (v:adk.den):=ba (ug n) v
noncomputable def an4:dG:=fK axO adk adX aex (.exit 4) (aDZ bV) 18
def aca (d:bU):Option YG:=cond (bZ (bM d) 1) (cond (fO d 0) (bK (Qg (cO d 0)) fun e=>cond (!(bZ e.1 6)) (bK (ug bV d [] 0) fun f=>dO f (fun g=>a6 (g.1.1,())) (fun h=>a6 (h.1.1,())))<|bK (ug bV d [92] 0) fun f=>dO f (fun g=>a6 (g.1.1,())) (fun h=>a6 (h.1.1,()))) a7)<|bK (ug bV d [92] 0) fun e=>dO e (fun i=>a6 (i.1.1,())) (fun j=>a6 (j.1.1,()))
def WB (e:bU) (h:Int) (i:Bool):Option YG:=cond (bZ h 4) (bK (LC bV e i [39] 0) fun f=>dO f (fun d=>cond d.1.1 (cond (gG d.1.2.1 [39]) (a6 ((cu d.1.2.1 [39]),())) a7)<|some (d.1.2.1,())) (fun g=>a6 (g.1.1,())))<|cond (bZ h 5) (bK (EG bV e i [34] 0) fun f=>dO f (fun d=>cond d.1.1 (cond (gG d.1.2.1 [34]) (a6 ((cu d.1.2.1 [34]),())) a7)<|some (d.1.2.1,())) (fun g=>a6 (g.1.1,())))<|cond (gm e []) (a6 ([39,39],()))<|bK (aCZ e 6) fun f=>cond f.1 (aca e)<|bK (arT e) fun j=>cond j.1 (aca e)<|bK (ug bV e [] 0) fun l=>dO l (fun m=>a6 (m.1.1,())) (fun o=>a6 (o.1.1,()))
def aOc:Sum:=⟨[.str,cZ,.bool],tzG,fun x=>WB x.1 x.2.1 x.2.2.1⟩
noncomputable def agB:Env:=iW prog tt 12 [(30,aiE),(29,aBo),(23,aqi),(28,aHg),(31,aHh)] [(5,aGx),(16,axN),(31,axO)] [(5,ayx),(16,an3),(31,an4)]
def azJ {d:Type} (a:aoD.den->Option d) (b:akP.den->Option d) (c:aln.den->Option d) (v:aoD.den):Option d:=aR (afg (aM a) (aL b) (aE c)) v
theorem aKz:dY agB 12 aFQ ayx:=uz (azJ) (h2:=by intros;simp only[azJ,aM,aL,aE,aR,afg,dw,dA,bJ,dh,dB])
def apC {d:Type} (a:adi.den->Option d) (b:adW.den->Option d) (c:aew.den->Option d) (v:adi.den):Option d:=aR (U0 (aM a) (aL b) (aE c)) v
theorem aEJ:dY agB 12 auw an3:=uz (apC) (h2:=by intros;simp only[apC,aM,aL,aE,aR,U0,dw,dA,bJ,dh,dB])
def apD {d:Type} (a:adk.den->Option d) (b:adX.den->Option d) (c:aex.den->Option d) (v:adk.den):Option d:=ba (U1 (a8 a) (aE b) (aE c)) v
theorem aEK:dY agB 12 aux an4:=uz (apD) (h2:=by intros;simp only[apD,a8,aE,ba,U1,dw,dA,bJ,dh,dB])
theorem aNe:dR agB 12 b12:=oq [aFQ,auw,aux] (aD (fM (aKz)) (aD (fM (aEJ)) (aD (fM (aEK)) aN)))
theorem avk:fH agB:=eA f12 (aD zK (aD aiD (aD zJ (aD aBn (aD aBp aN))))) (aNe)
theorem aAR:dX prog 12 aOc:=sA avk
end
section
open Option renaming some → a6, none → a7
open Bool renaming and_eq_true → af, not_true → ak, not_false → az, true_and → aG, false_or → aW
open List renaming append_assoc → ah, drop_of_length_le → aB, drop_zero → aJ, length_cons → aS, all_cons → aY, takeWhile_cons → bG
open Nat renaming le_refl → ae
open Go.RowKit
def Ye (c:UInt8):Bool:=match agN (c.toNat:Int)with
 |some (b,_)=>b
 |none=>false
def aLo:Bool:=(List.range 256).all fun b=>match agN (b:Int),aC0 (b:Int),Dl (b:Int) [36,96,34,92]with
 |some (x,_),a6 (y,_),a6 (z,_)=>(x==y)&&(z==(bZ b 36||(bZ b 96||(bZ b 34||bZ b 92))))
 |_,_,_=>false
theorem aFm:aLo=true:=by kernel_rfl
theorem ap5 (c:UInt8):agN (c.toNat:Int)=a6 (Ye c,())/\aC0 (c.toNat:Int)=a6 (Ye c,())/\Dl (c.toNat:Int) [36,96,34,92]=a6 ((bZ (c.toNat:Int) 36||(bZ (c.toNat:Int) 96||(bZ (c.toNat:Int) 34||bZ (c.toNat:Int) 92))),()):=by
 have h:=List.all_eq_true.1 aFm c.toNat (List.mem_range.2 (by have:=c.toNat_lt;omega));split at h
 .rename_i x u y v k w d e f
  simp only[af,beq_iff_eq]at h;unfold Ye;simp_all
 .cases h
theorem aym {c n:UInt8} (h:c=n):bZ (c.toNat:Int) (n.toNat:Int)=true:=dW (by rw[h])
theorem aav {c n:UInt8} (h:c≠n):bZ (c.toNat:Int) (n.toNat:Int)=false:=dJ fun e=>h (UInt8.toNat_inj.1 (by omega))
def X5 (s:bU):Bool:=O5.contains s
theorem ai7 {s:List UInt8} (d:s.length<=2000000):arT s=a6 (X5 s,()):=by
 by_cases h:O5.contains s=true
 .unfold X5;rw[h];rcases Uk h with rfl|rfl|rfl|rfl|rfl|rfl|rfl|rfl|rfl|rfl|rfl|rfl|rfl|rfl|rfl|rfl<;>kernel_rfl
 grind [X5,ae0]
theorem ai6 (s:bU):anb s=a6 (X5 s,()):=by
 by_cases h:O5.contains s=true
 .unfold X5;rw[h];rcases Uk h with rfl|rfl|rfl|rfl|rfl|rfl|rfl|rfl|rfl|rfl|rfl|rfl|rfl|rfl|rfl|rfl<;>kernel_rfl
 .have f:O5.contains s=false:=by simpa using h
  have d: ∀w∈O5,gm s w=false:=fun w g=>FZ fun e=>by simp_all
  unfold X5;(rewrite [f,anb];delta lK);simp only[d [33] (by decide),d [123] (by decide),d [125] (by decide),d [99,97,115,101] (by decide),d [100,111] (by decide),d [100,111,110,101] (by decide),d [101,108,105,102] (by decide),d [101,108,115,101] (by decide),d [101,115,97,99] (by decide),d [102,105] (by decide),d [102,111,114] (by decide),d [105,102] (by decide),d [105,110] (by decide),d [116,104,101,110] (by decide),d [117,110,116,105,108] (by decide),d [119,104,105,108,101] (by decide),ac];rfl
theorem VA {s:List UInt8} (d:s.length<4000000): ∀(N k:Nat),s.length-k<N->k<=s.length->
  Qx N s 6 (k:Int)=a6 (if(s.drop k).all TR=true then .inl ((),())else .inr ((false,()),()))
 |0,k,h,_=>by omega
 |N+1,k,h,hk=>by
  rw[Qx,afq];by_cases e:k<s.length
  .obtain⟨_,_,x,f,_,g⟩:=qN s[k];rw[bW (eX (by rw[bP];omega)),bW (ed),byte_at e,f,bJ,qg e,aY,dC,show(k:Int)+1=((k+1:Nat):Int) by omega,VA d N (k+1) (by omega) (by omega),g]
   grind
  simp_all [gB,bP,aB]
theorem aMk {s:List UInt8} (d:s.length<4000000):aCZ s 6=a6 (s.all TR,()):=by
 rw[aCZ,show Qx bV s 6 0=_ from VA d bV 0 (dI) (by omega),bJ,aJ];cases s.all TR with
 |true=>rfl
 |false=>rfl
theorem apk: ∀s:bU,bZ ((lF s:Nat):Int) (bM s)=s.all TR
 |[]=>rfl
 |c::s=>by
  have d:=apk s;unfold lF at d ⊢;rw[bG,aY];cases TR c with
  |true=>
   rw[aG,<-d];simp only[if_true,aS,bP]
   grind [dW,dJ]
  |false=>rfl
def O7 (s:bU):Bool:=X5 s||(!s.isEmpty&&s.all TR)
theorem aFl {s:List UInt8} (d:s.length<4000000):amW s=a6 (O7 s,()):=by
 rw[amW,ai6,bJ];unfold O7;cases X5 s with
 |true=>rfl
 |false=>
  cases s with
  |nil=>rfl
  |cons c r=>
   simp only[ac,aW,List.isEmpty_cons,az,aG];rw[bW (by rfl),show Dk (c::r) 0=_ from Vw d (Nat.zero_le _),bJ,aJ]
   grind [apk]
def pl1 (d:Bool) (c:UInt8):bU:=if c=10 then [39,10,39]else if Ye c=false\/d=true then [92,c]else [c]
def xw (s:bU):bU:=s.flatMap (pl1 false)
def QU (s:bU):bU:=match s with
 |[]=>[39,39]
 |c::r=>pl1 (O7 s) c++xw r
theorem UK (b:Bool) (c:UInt8):(pl1 b c).length<=3:=by grind [pl1]
theorem VQ (c:UInt8) (r:bU):xw (c::r)=pl1 false c++xw r:=rfl
theorem ZK: ∀s:bU,(xw s).length<=3*s.length
 |[]=>ae _
 |c::r=>by have:=ZK r;grind [UK,VQ]
theorem Tc {s:List UInt8} (j:s.length<=2000000) (N k:Nat) (out:bU) (e:k<s.length) (l:out.length<=3*k):
  EL (N+1) s (bM s) (k:Int) (dm out)=EL N s (bM s) ((k+1:Nat):Int) (dm (out++pl1 (decide (k=0)&&O7 s) s[k])):=by
 (rewrite [EL,Ym];delta DT Ih)
 have f:fO s (k:Int)=true:=ed;have hk:bY .i64 (k:Int) 1=((k+1:Nat):Int):=by grind [dC]
 have g:[((s[k].toNat:Nat):Int)]=dm [s[k]]:=rfl;have i:[(92:Int)]=dm [92]:=rfl;have d: ∀x:bU,x.length<=3->eH (dm (out++x)) 1=true:=fun x m=>tX (by grind);rw[bW (eX (by rw[bP];omega))];simp only[f,aa,byte_at e,hk,(ap5 s[k]).1,bJ,g,i,kM,ah,d _ (show([39,10,39]:bU).length<=3 by decide),d _ (show([92]:bU).length<=3 by decide),d _ (show([s[k]]:bU).length<=3 by simp),d _ (show(([92]:bU)++[s[k]]).length<=3 by simp)];unfold pl1;by_cases h:s[k]=10
 .rw[show(10:Int)=(((10:UInt8).toNat:Nat):Int) from rfl,aym h,am h];rfl
 .rw[show(10:Int)=(((10:UInt8).toNat:Nat):Int) from rfl,aav h,aq h,ac];cases hsf:Ye s[k]with
  |false=>rfl
  |true=>
   simp only[ak,ac];by_cases h0:k=0
   .subst h0;rw[bW (b:=bZ ((0:Nat):Int) 0) (dW rfl),aFl (by omega),bJ,decide_eq_true rfl,aG]
    grind
   simp_all [dJ]
theorem S9 {s:List UInt8} (d:s.length<=2000000): ∀(N k:Nat) (out:bU),s.length-k<N->1<=k->k<=s.length->out.length<=3*k->
  EL N s (bM s) (k:Int) (dm out)=a6 (.inl ((),((),dm (out++xw (s.drop k)),())))
 |0,k,out,h,_,_,_=>by omega
 |N+1,k,out,h,g,hk,f=>by
  by_cases e:k<s.length
  .have i:=UK (decide (k=0)&&O7 s) s[k];rw[Tc d N k out e f,S9 d N (k+1) _ (by omega) (by omega) (by omega) (by grind),qg e,VQ,ah,decide_eq_false (by omega),Bool.false_and]
  ·(rewrite [EL,Ym];delta DT Ih;rw[dD (gB (by rw[bP];omega)),aB (by omega)])
   simp[xw]
theorem azs {s:List UInt8} (d:s.length<=2000000):aDg s=a6 (QU s,()):=by
 rw[aDg];cases s with
 |nil=>rfl
 |cons c r=>
  have e:=Tc (s:=c::r) d (bV-1) 0 [] (by simp) (by simp);rw[show bV-1+1=bV by unfold bV;omega]at e;have g:=UK (O7 (c::r)) c;rw[aS]at d;have f:=S9 (s:=c::r) (by assumption) (bV-1) 1 (pl1 (O7 (c::r)) c) (by grind [bV]) (ae _) (by simp) (by omega);rw[dD (FZ (by simp)),show EL bV (c::r) (bM (c::r)) 0 []=_ from e.trans f,bJ];simp only[dO,fD,aa,uV];rfl
end
section
open Bool renaming false_eq_true → ag
open List renaming append_assoc → ah, drop_of_length_le → aB, nil_append → aH, length_singleton → aI, drop_zero → aJ, length_cons → aS
open Nat renaming le_refl → ae
open Go.RowKit
def aFo (c:UInt8):bU:=if c=39 then [39,92,39,39]else [c]
def Q7 (s:bU):bU:=s.flatMap aFo
def db1 (c:UInt8):bU:=if(bZ (c.toNat:Int) 36||(bZ (c.toNat:Int) 96||(bZ (c.toNat:Int) 34||bZ (c.toNat:Int) 92)))=true then [92,c]else [c]
def JU (s:bU):bU:=s.flatMap db1
theorem azA (new:bU) (b:UInt8) (hb:b≠39) (l:bU): ∀k,Lib.replaceK [39] new k (b::l)=b::Lib.replaceK [39] new k l
 |0=>rfl
 |k+1=>by
  have d:List.isPrefixOf [39] (b::l)=false:=by grind
  have e:Lib.index (b::l) [39]=if Lib.index l [39]== -1 then-1 else Lib.index l [39]+1:=by rw[Lib.index,d];rfl
  rw[Lib.replaceK,Lib.replaceK,e];have f:=Lib.index_ge l [39];by_cases h:Lib.index l [39]= -1
  .simp[h]
  .have g:(Lib.index l [39]== -1)=false:=by simpa using h
   have i:(Lib.index l [39]+1== -1)=false:=by simp;omega
   have j:(Lib.index l [39]+1).toNat=(Lib.index l [39]).toNat+1:=by omega
   simp_all
theorem au3 (b:UInt8) (hb:b≠39) (l:bU): ∀f,Lib.countFrom [39] f (b::l)=Lib.countFrom [39] f l
 |0=>rfl
 |f+1=>by
  have d:List.isPrefixOf [39] (b::l)=false:=by grind
  have e:Lib.index (b::l) [39]=if Lib.index l [39]== -1 then-1 else Lib.index l [39]+1:=by rw[Lib.index,d];rfl
  rw[Lib.countFrom,Lib.countFrom,e];have g:=Lib.index_ge l [39];by_cases h:Lib.index l [39]= -1
  .simp[h]
  .have i:(Lib.index l [39]== -1)=false:=by simpa using h
   have j:(Lib.index l [39]+1== -1)=false:=by simp;omega
   have m:(Lib.index l [39]+1).toNat=(Lib.index l [39]).toNat+1:=by omega
   simp_all
theorem al3 (new:bU): ∀(s:bU) (f:Nat),s.length<f->Lib.replaceK [39] new (Lib.countFrom [39] f s) s=s.flatMap fun c=>if c=39 then new else [c]
 |[],f,h=>by
  obtain⟨f,rfl⟩: ∃g,f=g+1:=⟨f-1,by simp at h;omega⟩;rfl
 |c::s,f,h=>by
  rw[aS]at h;by_cases hc:c=39
  .subst hc;obtain⟨f,rfl⟩: ∃g,f=g+1:=⟨f-1,by omega⟩;have d:Lib.index (39::s) [39]=0:=by rfl
   rw[Lib.countFrom,d];simp only[show((0:Int)== -1)=false from rfl,ag,if_false,Int.toNat_zero,Nat.zero_add,aI,List.drop_succ_cons,aJ];rw[Nat.add_comm 1,Lib.replaceK,d];simp only[show((0:Int)== -1)=false from rfl,ag,if_false,Int.toNat_zero,Nat.zero_add,aI,List.drop_succ_cons,aJ,List.take_zero,aH];rw[al3 new s f (by omega),List.flatMap_cons,am rfl]
  .rw[au3 c hc,azA new c hc,al3 new s f (by omega),List.flatMap_cons,aq hc];rfl
theorem Ic: ∀s:bU,(Q7 s).length<=4*s.length
 |[]=>ae _
 |c::r=>by have:=Ic r;grind [aFo,Q7]
theorem Np: ∀s:bU,(JU s).length<=2*s.length
 |[]=>ae _
 |c::r=>by have:=Np r;grind [db1,JU]
theorem aAv {s:List UInt8} (e:s.length<=2000000):aDh s=some ([39]++Q7 s,()):=by
 have f:=Ic s;have g:Lib.replaceAll s [39] [39,92,39,39]=Q7 s:=al3 [39,92,39,39] s (s.length+1) (by omega);have d:aaQ s [39] [39,92,39,39]=some (Q7 s,()):=by
  grind [aaQ]
 rw[aDh,d,bJ,bW (mg (by simp;omega))];rfl
theorem RI {s:List UInt8} (g:s.length<=2000000): ∀(N k:Nat) (out:bU),s.length-k<N->k<=s.length->out.length<=2*k+1->
  LK N s (bM s) (k:Int) (dm out)=some (.inl ((),((),dm (out++JU (s.drop k)),())))
 |0,k,out,h,_,_=>by omega
 |N+1,k,out,h,hk,p=>by
  (rewrite [LK,afF];delta DV DU)
  by_cases e:k<s.length
  .have i:fO s (k:Int)=true:=ed;have j:bY .i64 (k:Int) 1=((k+1:Nat):Int):=by grind [dC]
   have l:[((s[k].toNat:Nat):Int)]=dm [s[k]]:=rfl;have m:[(92:Int)]=dm [92]:=rfl;have d: ∀x:bU,x.length<=2->eH (dm (out++x)) 1=true:=fun x o=>tX (by grind);have f: ∀x:bU,x.length<=2->LK N s (bM s) ((k+1:Nat):Int) (dm (out++x))=some (.inl ((),((),dm (out++x++JU (s.drop (k+1))),()))):=fun x o=>RI g N (k+1) _ (by omega) (by omega) (by grind);have hd:JU (s.drop k)=db1 s[k]++JU (s.drop (k+1)):=by rw[qg e];rfl
   rw[bW (eX (by rw[bP];omega)),hd];simp only[i,aa,byte_at e,j,l,m,kM,ah out [92],d _ (show([92]:bU).length<=2 by decide),d _ (show([s[k]]:bU).length<=2 by simp),d _ (show(([92]:bU)++[s[k]]).length<=2 by simp),f _ (show([s[k]]:bU).length<=2 by simp),f _ (show(([92]:bU)++[s[k]]).length<=2 by simp)]
   grind [db1]
  simp_all [gB,bP,aB,JU]
theorem ava {s:List UInt8} (d:s.length<=2000000):aDi s=some ([34]++JU s,()):=by
 rw[aDi];refine(bW (show eH (cu ([]:List Int) [34]) 1=true by kernel_rfl)).trans ?_;rw[show LK bV s (bM s) 0 (cu [] [34])=_ from RI d bV 0 [34] (dI) (by omega) (by simp),bJ];simp_all [dO,fD,uV]
end
section
open Option renaming some → a6, none → a7
open Tryz
open Go.RowKit
def aw4 (d:Int×Int×Int×Int×bU×taY):Option oJ:=cond (bZ d.1 2) (a6 (true,()))<|cond (bZ d.1 1) (cond (bZ d.2.1 1) (cond (bZ d.2.1 1) (a6 (d.2.2.2.2.2.1,()))<|some (false,()))<|cond (bZ d.2.1 2) (cond (bZ d.2.1 2) (a6 (d.2.2.2.2.2.1,()))<|some (false,()))<|cond (bZ d.2.1 3) (cond (bZ d.2.1 3) (a6 (d.2.2.2.2.2.1,()))<|some (false,()))<|cond (bZ d.2.1 7) (a6 (d.2.2.2.2.2.1,()))<|some (false,()))<|some (false,())
def aOe:Sum:=⟨[.pair cZ tyG],KO,fun x=>aw4 x.1⟩
theorem aAX:dX prog 14 aOe:=qA f14 [] aN
def aIW (d e:bU):Option oJ:=cond (leI (bM e) (bM d)) (cond (dZ (bM d) (dV .i64 (bM d) (bM e)) (bM d)) (a6 ((gm (sub d (dV .i64 (bM d) (bM e)) (bM d)) e),())) a7)<|some (false,())
def aOk:Sum:=⟨[.str,.str],KO,fun x=>aIW x.1 x.2.1⟩
theorem aBB:dX prog 47 aOk:=qA f47 [] aN
def arS (d e:bU):Option oJ:=bK (aIW d e) fun f=>a6 (f.1,())
def aOg:Sum:=⟨[.str,.str],KO,fun x=>arS x.1 x.2.1⟩
theorem aiz:dX prog 16 aOg:=qA f16 [] (sE aBB aN)
def aCV (f:Int×Int×Int×Int×bU×taY) (d:bU) (h:Bool):Option YG:=cond h (bK (arS d [47]) fun g=>cond (!g.1) (bK (arU d f.2.2.2.1 true) fun e=>cond (gG e.1 [32]) (a6 ((cu e.1 [32]),())) a7)<|bK (arU d f.2.2.2.1 false) fun e=>a6 (e.1,()))<|bK (arU d f.2.2.2.1 false) fun g=>a6 (g.1,())
def aOf:Sum:=⟨[.pair cZ tyG,.str,.bool],tzG,fun x=>aCV x.1 x.2.1 x.2.2.1⟩
theorem aA0:dX prog 15 aOf:=qA f15 [] (sE aBA (sE aiz aN))
def axl (d:Int×Int×Int×Int×bU×taY) (g:Int) (e:bU) (h:Bool) (f:bU):Option (Int×bU×Unit):=cond (!(bZ d.1 2)) (a6 (g,(e,())))<|cond h (cond (dZ (bM f) 0 d.2.2.1) (bK (arS (sub f 0 d.2.2.1) [36,123]) fun i=>cond i.1 (cond (gG e [125]) (a6 (d.2.2.1,((cu e [125]),()))) a7)<|some (d.2.2.1,(e,()))) a7)<|some (d.2.2.1,(e,()))
def fn8 (g:bU) (d:Int×Int×Int×Int×bU×taY) (h:Int) (e:bU) (f:Bool):Option (Int×bU×Unit):=cond (bZ d.1 1) (bK (aw4 (d.1,(d.2.1,(d.2.2.1,(d.2.2.2.1,(d.2.2.2.2.1,(d.2.2.2.2.2.1,(d.2.2.2.2.2.2.1,(d.2.2.2.2.2.2.2.1,(d.2.2.2.2.2.2.2.2.1,())))))))))) fun i=>cond i.1 (bK (aCV (d.1,(d.2.1,(d.2.2.1,(d.2.2.2.1,(d.2.2.2.2.1,(d.2.2.2.2.2.1,(d.2.2.2.2.2.2.1,(d.2.2.2.2.2.2.2.1,(d.2.2.2.2.2.2.2.2.1,()))))))))) e f) fun j=>a6 (d.2.2.1,(j.1,())))<|axl d h e f g)<|axl d h e f g
def aPA:Sum:=⟨[.str,.pair cZ tyG,cZ,.str,.bool],[(.int .i64,false),(.str,false)],fun x=>fn8 x.1 x.2.1 x.2.2.1 x.2.2.2.1 x.2.2.2.2.1⟩
theorem aFx:dX prog 8 aPA:=qA f8 [] (sE aAX (sE aA0 (sE aiz aN)))
def aIV (e:bU) (d:taX):Option zN:=cond (gU d.1 0) (a6 (1,()))<|cond (gU (bM e) d.1) (a6 (1,()))<|cond (dZ (bM e) d.1 (bM e)) (bK (ajY (sub e d.1 (bM e)) d.2.1) fun f=>cond (!f.1) (a6 (1,()))<|cond (gU (dV .i64 1048576 (bM d.2.2.1)) (dV .i64 (bM e) (bM d.2.1))) (a6 (2,()))<|some (0,())) a7
def aOh:Sum:=⟨[.str,.pair cZ (.pair .str (.pair .str .unit))],TL,fun x=>aIV x.1 x.2.1⟩
theorem aA8:dX prog 17 aOh:=qA f17 [] (sE aiJ aN)
def fn9 (e:bU) (d f:Int) (g:bU):Option (taX×Int×Unit):=cond (gU d 0) (a6 ((0,([],([],()))),(1,())))<|cond (gU f d) (a6 ((0,([],([],()))),(1,())))<|cond (gU (bM e) f) (a6 ((0,([],([],()))),(1,())))<|cond (dZ (bM e) d f) (bK (aIV e (d,((sub e d f),(g,())))) fun h=>cond (!(bZ h.1 0)) (a6 ((0,([],([],()))),(h.1,())))<|some ((d,((sub e d f),(g,()))),(0,()))) a7
def aPB:Sum:=⟨[.str,cZ,cZ,.str],[(.pair cZ (.pair .str (.pair .str .unit)),false),(.int .i64,false)],fun x=>fn9 x.1 x.2.1 x.2.2.1 x.2.2.2.1⟩
theorem aFy:dX prog 9 aPB:=qA f9 [] (sE aA8 aN)
def fn5 (g:bU) (h:Int) (i:bU) (j:Bool):Option (taX×Int×Int×Unit):=bK (fn7 g h) fun d=>cond (!(bZ d.2.1 0)) (a6 ((0,([],([],()))),(0,(d.2.1,()))))<|bK (fn8 g (d.1.1,(d.1.2.1,(d.1.2.2.1,(d.1.2.2.2.1,(d.1.2.2.2.2.1,(d.1.2.2.2.2.2.1,(d.1.2.2.2.2.2.2.1,(d.1.2.2.2.2.2.2.2.1,(d.1.2.2.2.2.2.2.2.2.1,()))))))))) h i j) fun f=>bK (fn9 g f.1 h f.2.1) fun e=>cond (!(bZ e.2.1 0)) (a6 ((0,([],([],()))),(0,(e.2.1,()))))<|some ((e.1.1,(e.1.2.1,(e.1.2.2.1,()))),((bY .i64 f.1 (bM f.2.1)),(0,())))
def aL1:Sum:=⟨[.str,cZ,.str,.bool],[(.pair cZ (.pair .str (.pair .str .unit)),false),(.int .i64,false),(.int .i64,false)],fun x=>fn5 x.1 x.2.1 x.2.2.1 x.2.2.2.1⟩
theorem aqx:dX prog 5 aL1:=qA Tryz.f5 [] (sE aFw (sE aFx (sE aFy aN)))
end
section
open Nat renaming eq_of_beq_eq_true → aj
open Tryz
open Go.RowKit
noncomputable def aGp (sg:FuncId->Option Sum):Env:={P:=prog,T:=tt,cl:=true,kp:=fun _ _=>none,sg:=sg,lp:=fun _ _=>none,bf:=NY}
theorem aws {sg:FuncId->Option Sum} (h: ∀g s,sg g=some s->dX prog g s):fH (aGp sg):=⟨tok,mixed,XE,h,fun f fn c _ _=>jT (fun _=>rfl) (fun _=>rfl) c,aim _ fun f fn c _ _=>jT (fun _=>rfl) (fun _=>rfl) c,VZ,fun _ _ h=>by cases h⟩
theorem aLp {sg:FuncId->Option Sum} (h: ∀g s,sg g=some s->dX prog g s) {f:FuncId} {d:Sum} (i:dX prog f d): ∀g s,(bif Nat.beq g f then some d else sg g)=some s->dX prog g s:=fun g s e=>by
 rw[cond_eq_ite]at e;split at e
 .rename_i j
  obtain rfl:g=f:=aj j;cases e;exact i
 .exact h g s e
noncomputable def aG4 (g:FuncId):Option Sum:=cond (Nat.beq g 5) (some aL1)<|sg1 g
theorem aAm: ∀g s,aG4 g=some s->dX prog g s:=aLp al6 aqx
theorem aje:TY (aGp aG4) 4 [] KO ()=some (true,()):=by kernel_rfl
def YF:Sum:=⟨[],KO,fun _=>some (true,())⟩
theorem ZA:dX prog 4 YF:=MM (aws aAm) (by decide) fun x y h=>by
 cases h;exact aje
end
section
open Go.RowKit
end
section
open Option renaming some → a6, none → a7
open Bool renaming not_true → ak, not_false → az, true_and → aG
open Int renaming eq_ofNat_of_zero_le → aV
open Go.RowKit
theorem al5 (V:bU->bU) (c:Ctx) (f:List Lf) (l:List Nd):(F7 V c f l).2.2.1=c.2.2.1:=by
 grind [F7,sW,aFn]
theorem LP (s:bU) (fr dp:Int) (t:bU):(Kw s fr dp t).2.2.1=fr+bM s-bM t:=rfl
theorem H6 (s:bU) (fr dp k:Int):(MB s fr dp k).2.2.1=fr+bM s:=rfl
theorem agv (V:bU->bU×Bool): ∀(N:Nat) (s:bU) (fr dp:Int) (tk:List Tok) (d:Bool),s.length<N->s.length<=10000->(∀t∈tk,OkT s t)->
  fr<=(La V N s fr dp tk d).2.2.1/\(La V N s fr dp tk d).2.2.1<=fr+bM s
 |0,s,fr,dp,tk,d,h,_,_=>by omega
 |N+1,s,fr,dp,tk,d,h,m,e=>by
  have o:bM s=(s.length:Int):=rfl;rw[La];obtain⟨b0,g⟩:=Vu e;have p:((sub s (iP s (gu tk)) (bM s)).length:Int)=bM s-iP s (gu tk):=mQ b0 g (by rw[bP];omega);have q:bM (sub s (iP s (gu tk)) (bM s))=((sub s (iP s (gu tk)) (bM s)).length:Int):=rfl;split
  .rw[H6];omega
  split
  .rw[H6];omega
  cases hd:TM (lo (ja (sub s (iP s (gu tk)) (bM s)) 0 eQ).1)with
  |none=>
   simp only;split
   .have:=agz (sub s (iP s (gu tk)) (bM s));have u:bM (P8 (sub s (iP s (gu tk)) (bM s)))=((P8 (sub s (iP s (gu tk)) (bM s))).length:Int):=rfl;rw[LP];omega
   grind [al5]
  |some f=>
   simp only;have i:=acL (V6 hd).1;simp only[IB]at i;split
   .rename_i v
    have x:((sub s (iP s (gu tk)+f.2.1+2) (bM s)).length:Int)=bM s-(iP s (gu tk)+f.2.1+2):=mQ;have j:=Ui (s:=sub s (iP s (gu tk)+f.2.1+2) (bM s)) (by omega);have y:=agv V N (sub s (iP s (gu tk)+f.2.1+2) (bM s)) (fr+(iP s (gu tk)+f.2.1+2)) (dp+wJ (lo (ja (sub s (iP s (gu tk)) (bM s)) 0 eQ).1)) (Xb (sub s (iP s (gu tk)+f.2.1+2) (bM s))) false (by omega) (by omega) (fun t l=>(j.1 t l).1);have z:bM (sub s (iP s (gu tk)+f.2.1+2) (bM s))=((sub s (iP s (gu tk)+f.2.1+2) (bM s)).length:Int):=rfl;omega
   .unfold ZU;split
    .rw[LP];have:bM ([]:bU)=0:=rfl;omega
    split
    .have:=lq (sub s (iP s (gu tk)) (bM s)) (f.2.1+2) (bM (sub s (iP s (gu tk)) (bM s)));have A:bM (sub (sub s (iP s (gu tk)) (bM s)) (f.2.1+2) (bM (sub s (iP s (gu tk)) (bM s))))=((sub (sub s (iP s (gu tk)) (bM s)) (f.2.1+2) (bM (sub s (iP s (gu tk)) (bM s)))).length:Int):=rfl
     grind [LP]
    .rw[H6];omega
theorem PY {s:List UInt8} (d:s.length<=10000):0<=(Ei sZ s).2.2.1/\(Ei sZ s).2.2.1<=bM s:=by
 obtain⟨e,f,g⟩:=Uj d;have:=agv sZ (s.length+1) s 0 0 (rV s).1 (rV s).2.2.2.1 (by omega) d e;unfold Ei;omega
def JW (c:Ctx):Bool:=decide (c.1=2)||(decide (c.1=1)&&(c.2.2.2.2.2.1&&(decide (c.2.1=1)||decide (c.2.1=2)||decide (c.2.1=3)||decide (c.2.1=7))))
theorem atT (c:Ctx):aw4 c=a6 (JW c,()):=by
 rw[aw4];unfold JW;by_cases h2:c.1=2
 .simp_all [dW]
 rw[dD (dJ h2)];by_cases h1:c.1=1
 .rw[bW (dW h1)];by_cases r1:c.2.1=1
  .simp_all [dW]
  rw[dD (dJ r1)];by_cases r2:c.2.1=2
  .simp_all [dW]
  rw[dD (dJ r2)];by_cases r3:c.2.1=3
  .simp_all [dW]
  rw[dD (dJ r3)];by_cases r7:c.2.1=7
  .simp_all [dW]
  simp_all [dJ]
 simp_all [dJ]
def abV (t:bU) (st:Int) (w:Bool):bU:=if st=4 then [39]++Q7 t++(if w=true then [39]else [])else if st=5 then [34]++JU t++(if w=true then [34]else [])else QU t
theorem Ns {t:List UInt8} (d:t.length<=1000) (st:Int) (w:Bool):(abV t st w).length<=10000:=by
 have e:=Ic t;have f:=Np t;unfold abV;split
 .grind
 .split
  .grind
  .unfold QU;grind [ZK,UK]
theorem PS {t:List UInt8} (d:t.length<=1000) (st:Int) (w:Bool):arU t st w=a6 (abV t st w,()):=by
 have e:=Ic t;have f:=Np t;have g:(QU t).length<=10000:=by
  have:=Ns d 0 w
  assumption
 rw[arU,azs (by omega),bJ];unfold abV;by_cases h4:st=4
 .rw[bW (dW h4),aAv (by omega),bJ,am h4];cases w with
  |true=>rw[aa,bW (mg (by simp;omega)),am rfl];rfl
  |false=>simp
 rw[dD (dJ h4),aq h4];by_cases h5:st=5
 .rw[bW (dW h5),ava (by omega),bJ,am h5];cases w with
  |true=>rw[aa,bW (mg (by simp;omega)),am rfl];rfl
  |false=>simp
 rw[dD (dJ h5),aq h5];cases w with
 |true=>rw[aa,bW (mg (by simp;omega))];simp[cu]
 |false=>rfl
def zH (t u:bU):Bool:=decide (u.length<=t.length)&&gm (sub t (bM t-bM u) (bM t)) u
theorem RD {t u:List UInt8} (e:t.length<=100000) (f:u.length<=100000):arS t u=a6 (zH t u,()):=by
 rw[arS,aIW];unfold zH;by_cases h:u.length<=t.length
 .have d:dV .i64 (bM t) (bM u)=bM t-bM u:=fV (by grind [bP]) (by grind [bP]);rw[bW (lL (by grind [bP])),d,bW (eU (by grind [bP]) (by grind [bP]) (by omega)),bJ,decide_eq_true h,aG]
 simp_all [SB,bP,bJ,decide_eq_false]
theorem af5 {t u:List UInt8} (d:t.length<=100000) (h:sub t 0 (bM u)=u) (hl:u.length<=t.length):ajY t u=a6 (true,()):=by
 simp_all [ajY,aDj,lL,bP,eU,bJ,kZ]
def YU (st:Int) (t:bU) (d:Bool):bU:=if d=true/\zH t [47]=false then abV t st true++[32]else abV t st false
theorem aMa {t:List UInt8} (e:t.length<=1000) (c:Ctx) (d:Bool):aCV c t d=a6 (YU c.2.2.2.1 t d,()):=by
 have f:=Ns e c.2.2.2.1 true;rw[aCV];unfold YU;cases d with
 |false=>simp_all [PS,bJ]
 |true=>
  rw[aa,RD (by omega) (by simp),bJ];cases hs:zH t [47]with
  |true=>simp_all [PS,bJ]
  |false=>simp only[az,aa];rw[PS e,bJ,bW (mg (by simp;omega)),am (by simp)];rfl
theorem atI {t:List UInt8} (e:t.length<=1000) (st:Int) (d:Bool):(YU st t d).length<=10001:=by
 grind [Ns,YU]
def yV (s:bU) (c:Ctx) (e:Int) (t:bU) (d:Bool):Int×List UInt8:=if c.1=1/\JW c=true then(c.2.2.1,YU c.2.2.2.1 t d)else if c.1≠2 then(e,t)else if d=true/\zH (sub s 0 c.2.2.1) [36,123]=true then(c.2.2.1,t++[125])else(c.2.2.1,t)
theorem au5 {s:List UInt8} (m:s.length<=1000) {c:Ctx} (g:0<=c.2.2.1) (e:c.2.2.1<=bM s) (f:Int) {t:List UInt8} (o:t.length<=1000) (d:Bool):
  fn8 s c f t d=a6 ((yV s c f t d).1,((yV s c f t d).2,())):=by
 have p:=lq s 0 c.2.2.1;have q:bM s=(s.length:Int):=rfl
 (rewrite [fn8];delta axl)
 unfold yV;have i: ∀(X:Option (Int×List UInt8×Unit)),X=(bif(!(bZ c.1 2))then a6 (f,(t,()))else bif d then
    bif(dZ (bM s) 0 c.2.2.1)then bK (arS (sub s 0 c.2.2.1) [36,123]) fun j=>bif j.1 then bif(gG t [125])then a6 (c.2.2.1,((cu t [125]),()))else a7 else a6 (c.2.2.1,(t,()))else a7
   else a6 (c.2.2.1,(t,())))->
   X=a6 ((if c.1≠2 then(f,t)else if d=true/\zH (sub s 0 c.2.2.1) [36,123]=true then(c.2.2.1,t++[125])else(c.2.2.1,t)).1,((if c.1≠2 then(f,t)else if d=true/\zH (sub s 0 c.2.2.1) [36,123]=true then(c.2.2.1,t++[125])else(c.2.2.1,t)).2,())):=by
  intro X l;subst l;by_cases h2:c.1=2
  .rw[dW h2,ak,ac,aq (by simp[h2])];cases d with
   |false=>rfl
   |true=>
    rw[aa,bW (eU (by omega) g e),RD (by omega) (by simp),bJ];cases hx:zH (sub s 0 c.2.2.1) [36,123]with
    |true=>simp only[aa];rw[bW (mg (by simp;omega)),am (by simp)];rfl
    |false=>rfl
  simp_all [dJ]
 by_cases e:c.1=1
 .rw[bW (dW e)];rw[show aw4 (c.1,(c.2.1,(c.2.2.1,(c.2.2.2.1,(c.2.2.2.2.1,(c.2.2.2.2.2.1,(c.2.2.2.2.2.2.1,(c.2.2.2.2.2.2.2.1,(c.2.2.2.2.2.2.2.2.1,())))))))))=a6 (JW c,()) from atT c,bJ];cases ho:JW c with
  |true=>
   simp only[aa];rw[am ⟨e,trivial⟩]
   grind [aMa,bJ]
  |false=>
   simp_all
 .rw[dD (dJ e),aq (fun h=>e h.1)];exact i _ rfl
theorem PW (s:bU) (c:Ctx) (d:Int) (t:bU) (e:Bool):(yV s c d t e).1=if JW c=true then c.2.2.1 else d:=by
 unfold yV;cases ho:JW c with
 |true=>
  by_cases h1:c.1=1
  .simp_all
  .have f:c.1=2:=by grind [JW]
   grind
 |false=>
  simp_all [JW]
theorem au4 (s:bU) (c:Ctx) (d:Int) (t:bU) (e:Bool) (f:JW c=false):(yV s c d t e).2=t:=by
 simp_all [yV,JW,aq]
theorem ags (s:bU) (c:Ctx) (d:Int) {t:List UInt8} (f:t.length<=1000) (e:Bool):(yV s c d t e).2.length<=20000:=by
 grind [atI,yV]
theorem aiy (s:bU) {a b:Int} (d:0<=a) (e:a<=b) (h2:b<=bM s):sub (sub s a (bM s)) 0 (b-a)=sub s a b:=by
 obtain⟨n,rfl⟩:=aV d;obtain⟨m,rfl⟩:=aV (show 0<=b by omega);simp_all [bP,sub,List.drop_take]
theorem aH4 {s:List UInt8} (i:s.length<=1000) {a b:Int} (d:0<=a) (e:a<=b) (h2:b<=bM s) {t:List UInt8} (j:t.length<=20000):
  fn9 s a b t=a6 ((a,(sub s a b,(t,()))),(0,())):=by
 have l:bM s=(s.length:Int):=rfl;have m:bM t=(t.length:Int):=rfl;have hd:((sub s a b).length:Int)=b-a:=mQ d e (by omega);have f:bM (sub s a b)=((sub s a b).length:Int):=rfl;have o:((sub s a (bM s)).length:Int)=bM s-a:=mQ d (by omega) (by omega);have g:dV .i64 1048576 (bM t)=1048576-bM t:=fV;have h:dV .i64 (bM s) (bM (sub s a b))=bM s-bM (sub s a b):=fV;rw[fn9,dD (jq d),dD (jq e),dD (jq h2),bW (eU d e h2),aIV];simp only;rw[dD (jq d),dD (jq),bW (eU d (by omega) (by omega)),af5 (by omega) (by rw[f,hd];exact aiy s d e h2) (by omega),bJ];simp only[ak,ac,g,h];rw[dD (jq),bJ];rfl
theorem aMq {s:List UInt8} (f:s.length<=1000) {d:Int} (g:0<=d) (j:d<=bM s) {t:List UInt8} (h:t.length<=1000) (e:Bool):
  fn5 s d t e=a6 (((yV s (Ei sZ (sub s 0 d)) d t e).1,(sub s (yV s (Ei sZ (sub s 0 d)) d t e).1 d,((yV s (Ei sZ (sub s 0 d)) d t e).2,()))),
   ((yV s (Ei sZ (sub s 0 d)) d t e).1+bM (yV s (Ei sZ (sub s 0 d)) d t e).2,(0,()))):=by
 have o:bM s=(s.length:Int):=rfl;have p:=lq s 0 d;have q:((sub s 0 d).length:Int)=d-0:=mQ (by omega) g (by omega);obtain⟨l,u⟩:=PY (s:=sub s 0 d) (by omega);have v:bM (sub s 0 d)=((sub s 0 d).length:Int):=rfl;rw[fn5,aMK f g (by omega),bJ];generalize Ei sZ (sub s 0 d)=c at*;simp only;rw[show(!(bZ 0 0))=false from rfl,ac];rw[show fn8 s (c.1,(c.2.1,(c.2.2.1,(c.2.2.2.1,(c.2.2.2.2.1,(c.2.2.2.2.2.1,(c.2.2.2.2.2.2.1,(c.2.2.2.2.2.2.2.1,(c.2.2.2.2.2.2.2.2.1,()))))))))) d t e=_ from au5 f (c:=c) l (by omega) d h e,bJ];simp only;have x:=PW s c d t e;have m:=ags s c d h e;generalize yV s c d t e=r at*;have i:0<=r.1/\r.1<=d:=by
  omega
 have y:bM r.2=(r.2.length:Int):=rfl;rw[aH4 f i.1 i.2 j m,bJ];simp only;rw[show(!(bZ 0 0))=false from rfl,ac,dC]
end
section
open Bool renaming not_true → ak
open Int renaming toNat_natCast → aX
open List renaming append_assoc → ah, length_append → ai, map_cons → ax, drop_eq_getElem_cons → ay, drop_of_length_le → aB, getElem_mem → aF, nil_append → aH, drop_zero → aJ, eq_nil_or_concat → bi, concat_eq_append → bC
open Go.RowKit
theorem anO {s:List UInt8} (d:s.length<=10000): ∀(N a:Nat) (l:List Tok),s.length-a<N->a<=s.length->l.length<=a->
  ∃r,Qz N s (a:Int) l=some (.inl r)/\r=((),(Dt s N a l,()))
 |0,a,l,h,_,_=>by omega
 |N+1,a,l,h,m,o=>by
  rw[Qz,afu,Dt];by_cases e:a<s.length
  .have p:=uw d e (0,[],false,());rw[bW (eX (by rw[bP];omega)),at6 d e (0,[],false,()) (fun h=>by cases h) (by simp),bJ,am e];simp only;obtain⟨b,f⟩: ∃b:Nat,(ku s a (0,[],false,())).1.2.2.1=(b:Int):=⟨(ku s a (0,[],false,())).1.2.2.1.toNat,by omega⟩;rw[bW (oO (by grind [cu]))];have g:=anO d N b (l++[(ku s a (0,[],false,())).1]) (by omega) (by omega) (by grind);rw[f,aX];obtain⟨r,i,j⟩:=g;refine⟨r, ?_,j⟩;rw[<-i,<-f];rfl
  .rw[dD (gB (by rw[bP];omega)),aq e];exact⟨_,rfl,rfl⟩
def TG (s:bU) (i:Bool):List Tok×Bool:=if i=true then(Xb s,false)else((rV s).1,(rV s).2.2.2.1)
theorem IC {s:List UInt8} (d:s.length<=10000) (i:Bool):acm s i=some ((TG s i).1,((TG s i).2,())):=by
 cases i with
 |false=>exact at7 d
 |true=>
  obtain⟨r,e,f⟩:=anO d bV 0 [] (dI) (by omega) (by simp);rw[acm,ak,ac,show Qz bV s 0 []=_ from e,bJ,f];have g:Dt s bV 0 []=Xb s:=Qq d _ _ _ _ (by have:=dI (n:=s.length) (by omega);omega) (by omega);rw[g];rfl
theorem YN {s:List UInt8} (e:s.length<=10000) (i:Bool):(∀t∈(TG s i).1,OkT s t)/\(TG s i).1.length<=s.length:=by
 cases i with
 |false=>
  obtain⟨d,f,g⟩:=Uj e;exact⟨d,g⟩
 |true=>
  obtain⟨d,f⟩:=Ui e;exact⟨fun t h=>(d t h).1,f⟩
theorem aDJ {s:List UInt8} {tk:List Tok} (d: ∀t∈tk,OkT s t) (h:(gu tk).1≠0):s≠[]:=by
 have:=d _ (WZ h);have a:=this.f0;have b:=this.ft;have c:=this.t1
 grind
theorem aCn {u:List UInt8} (g:u.length<=10000) (i:Bool):aCW u i=some (WO u (gu (TG u i).1).1 (gu (TG u i).1).2.2.2.1 (TG u i).2,()):=by
 obtain⟨j,l⟩:=YN g i;rw[aCW,IC g,bJ];unfold WO;simp only;generalize TG u i=d at*;cases d.2 with
 |true=>rfl
 |false=>
  rw[ac];rcases bi d.1 with e|⟨r,t,e⟩
  .rw[e];rfl
  .rw[bC]at e;have f:=aDJ j;rw[e,ai]at l;rw[e,GR]at f ⊢;obtain⟨m,o,p⟩:=Oa r t (by omega);rw[m,aa,o,aa];simp only[p];by_cases h:t.1=7
   .have f:0<u.length:=List.length_pos_iff.2 (f (by omega));have q:dV .i64 (bM u) 1=bM u-1:=fV (by rw[bP];omega) (by rw[bP];omega);rw[bW (dW h),aa];cases t.2.2.2.1 with
    |true=>simp[h]
    |false=>
     rw[ac,q,bW (ed (by rw[bP];omega) (by rw[bP];omega))];simp[h]
   simp_all [dJ]
theorem ai3 {u:List UInt8} (f:u.length<=10000) (i:Bool):aCX u i=some (bZ (gu (TG u i).1).1 3,()):=by
 obtain⟨h,g⟩:=YN f i;rw[aCX,IC f,bJ];simp only;generalize TG u i=d at*;rcases bi d.1 with e|⟨r,t,e⟩
 .rw[e];rfl
 .rw[bC]at e;rw[e,ai]at g;rw[e,GR];obtain⟨j,l,m⟩:=Oa r t (by omega);simp_all
theorem aCs {u:List UInt8} (f:u.length<=10000) (i:Bool):aCY u i=some (iP u (gu (TG u i).1),()):=by
 obtain⟨o,g⟩:=YN f i;rw[aCY,IC f,bJ];unfold iP;simp only;generalize TG u i=d at*;rcases bi d.1 with e|⟨r,t,e⟩
 .rw[e];rfl
 .rw[bC]at e;rw[e,ai]at g;rw[e,GR];obtain⟨j,l,m⟩:=Oa r t (by omega);rw[j,aa,l,aa];simp only[m];by_cases h:t.1=6
  .simp_all [dW]
  simp_all [dJ]
def rL (s:bU) (b:Int) (o:List Lf) (A B:Ctx):Option (aej.den⊕aeS.den):=some (.inl ((s,b,()),(o,A,B,())))
theorem aay {s:List UInt8} (i:s.length<=10000) (tk:List Tok) (hk:tk.length<1000000) (d: ∀t∈tk,OkT s t) (b:Int) (A B:Ctx): ∀(N k:Nat) (o:List Lf),tk.length-k<N->k<=tk.length->o.length<=k->
  LG N s b tk (k:Int) o A.1 A.2.1 A.2.2.1 A.2.2.2.1 A.2.2.2.2.1 A.2.2.2.2.2.1 A.2.2.2.2.2.2.1 A.2.2.2.2.2.2.2.1 A.2.2.2.2.2.2.2.2.1 B.1 B.2.1 B.2.2.1 B.2.2.2.1 B.2.2.2.2.1 B.2.2.2.2.2.1 B.2.2.2.2.2.2.1 B.2.2.2.2.2.2.2.1 B.2.2.2.2.2.2.2.2.1=
  rL s b (o++jD s ((tk.drop k).filter fun t=>decide (t.2.2.1<=b))) A B
 |0,k,o,h,_,_=>by omega
 |N+1,k,o,h,E,G=>by
  (rewrite [LG,afp];delta DR jG)
  by_cases e:k<tk.length
  .have j:bY .i64 (k:Int) 1=((k+1:Nat):Int):=by grind [dC]
   obtain⟨l,I,J⟩:=d _ (aF e);have m:fO tk (k:Int)=true:=ed;have p:dZ (bM s) tk[k].2.1 tk[k].2.2.1=true:=eU l (by omega) (by rw[bP];omega);have q: ∀y:Lf,eH (cu o [y]) 40=true:=fun y=>oO (by grind [cu]);have f:=fun u v=>aay i tk hk d b A B N (k+1) u (by omega) (by omega) v;have x:ahj tk[k]=true->tk[k].2.2.1<=b->LG N s b tk ((k+1:Nat):Int) (cu o [(tk[k].1,(sub s tk[k].2.1 tk[k].2.2.1,(tk[k].2.1,(tk[k].2.2.1,()))))]) A.1 A.2.1 A.2.2.1 A.2.2.2.1 A.2.2.2.2.1 A.2.2.2.2.2.1 A.2.2.2.2.2.2.1 A.2.2.2.2.2.2.2.1 A.2.2.2.2.2.2.2.2.1 B.1 B.2.1 B.2.2.1 B.2.2.2.1 B.2.2.2.2.1 B.2.2.2.2.2.1 B.2.2.2.2.2.2.1 B.2.2.2.2.2.2.2.1 B.2.2.2.2.2.2.2.2.1=
     rL s b (o++jD s ((tk.drop k).filter fun t=>decide (t.2.2.1<=b))) A B:=fun z g=>by
    rw[f _ (by simp_all [cu]),ay e,List.filter_cons,am (by simpa using g)];unfold jD;rw[List.filter_cons_of_pos z,ax,cu,ah];rfl
   have D:ahj tk[k]=false\/ ¬tk[k].2.2.1<=b->LG N s b tk ((k+1:Nat):Int) o A.1 A.2.1 A.2.2.1 A.2.2.2.1 A.2.2.2.2.1 A.2.2.2.2.2.1 A.2.2.2.2.2.2.1 A.2.2.2.2.2.2.2.1 A.2.2.2.2.2.2.2.2.1 B.1 B.2.1 B.2.2.1 B.2.2.2.1 B.2.2.2.2.1 B.2.2.2.2.2.1 B.2.2.2.2.2.2.1 B.2.2.2.2.2.2.2.1 B.2.2.2.2.2.2.2.2.1=
     rL s b (o++jD s ((tk.drop k).filter fun t=>decide (t.2.2.1<=b))) A B:=fun K=>by
    rw[f _ (by omega),ay e,List.filter_cons];by_cases g:tk[k].2.2.1<=b
    .simp_all [jD]
    grind
   rw[bW (eX (by rw[bP];omega))];simp only[iT e,j,m,p,q,aa];unfold ahj at x D;by_cases h1:tk[k].2.2.1<=b
   .rw[bW (lL h1)];by_cases k2:tk[k].1=2
    .simp_all [dW]
    rw[dD (dJ k2)];by_cases k4:tk[k].1=4
    .simp_all [dW]
    rw[dD (dJ k4)];by_cases k5:tk[k].1=5
    .simp_all [dW]
    rw[dD (dJ k5)];by_cases k6:tk[k].1=6
    .simp_all [dW]
    simp_all [dJ]
   simp_all [xB]
  .rw[dD (gB (by rw[bP];omega)),aB (by omega)];show _=rL s b (o++[]) A B;rw[List.append_nil];rfl
theorem aIa {s:List UInt8} (o:s.length<=9000) (i:Bool) {b:Int} (f:0<=b) (g:b<=bM s) (c:Ctx):
  axa c s b i=some (F7 J7 c (JV s (TG s i).1 b) (TJ (JV s (TG s i).1 b)),()):=by
 obtain⟨p,q⟩:=YN (s:=s) (by omega) i;have hT:=IC (s:=s) (by omega) i;generalize TG s i=d at*;have hF:=ay5 o q b f;obtain⟨l,L,u,v⟩: ∃l,acn (JV s d.1 b)=some (l,())/\arV (JV s d.1 b)=some (l,())/\RT (JV s d.1 b) l:=by
  obtain⟨l,x,y,M,m,z,hT⟩:=aic hF;have:=hF.len;exact⟨l,x,y,⟨by omega,m,z,hT⟩⟩
 have N:=hF.len;have A:TJ (JV s d.1 b)=l:=by grind [TJ]
 have B:JV s d.1 b≠[]:=by unfold JV;simp
 have D:=aay (s:=s) (by omega) d.1 (by omega) p b (0,0,0,0,[],false,[],0,0,()) c bV 0 [] (dI) (by omega) (by simp);have h:=aML hF B u v (0,0,0,0,[],false,[],0,0,()) c;have j:eH (JV s d.1 b) 40=true:=oO (by omega);rw[axa,hT,bJ,A];simp only;refine(oEq (show _=_ from D)).trans ?_;unfold rL;rw[bJ];simp only[dO,aJ,aH];have E:=lq s b (bM s);rw[bP]at E;have G:dZ (bM s) b (bM s)=true:=eU f g (by omega);rw[G,aa,aqJ (s:=sub s b (bM s)) (by rw[bP];omega),bJ];simp only;have e:jD s (d.1.filter fun t=>decide (t.2.2.1<=b))++[(6,(wTx (sub s b (bM s)),(0,(0,()))))]=JV s d.1 b:=rfl;unfold wTx at e;cases ha:jr (sub s b (bM s))with
 |true=>
  have O:nl (sub s b (bM s))≠0/\nl (sub s b (bM s))<(sub s b (bM s)).length:=by
   simp_all [jr]
  have S:=lq (sub s b (bM s)) 0 (nl (sub s b (bM s)):Int);have U:((sub s b (bM s)).length:Int)=bM s-b:=mQ f g (by rw[bP];omega);rw[am ha]at e;rw[am rfl,bW (eX)];have I:bY .i64 b (nl (sub s b (bM s)):Int)=b+(nl (sub s b (bM s)):Int):=dC (by omega) (by rw[bP]at*;omega);have J:sub s b (b+(nl (sub s b (bM s)):Int))=sub (sub s b (bM s)) 0 (nl (sub s b (bM s)):Int):=by
   have:=aiy s (a:=b) (b:=b+(nl (sub s b (bM s)):Int)) f (by omega) (by omega)
   grind
  have K:dZ (bM s) b (b+(nl (sub s b (bM s)):Int))=true:=eU f (by omega) (by omega);rw[I,K,aa,J,bW (mg (by grind [bP]))];simp only[cu]at e ⊢;rw[e,bW j];exact(oEq (show _=_ from h)).trans rfl
 |false=>
  rw[aq (by simp[ha])]at e;rw[aq (by simp),dD (gB)];simp only[cu]at e ⊢;rw[e,bW j];exact(oEq (show _=_ from h)).trans rfl
end
section
open List renaming drop_eq_getElem_cons → ay, drop_of_length_le → aB, getElem_mem → aF
open Go.RowKit
def sL (F:List qL):bU:=F.map fun f=>letter f.1
def pL (F:List qL):List Int:=F.map fun f=>f.2.1
theorem aNV (s:gy):po s=pL (lo s):=by
 simp_all [lo,po,pL]
theorem ae7 (F:List qL):(sL F).length=F.length:=by simp[sL]
theorem aK9 (F:List qL):(pL F).length=F.length:=by simp[pL]
theorem azI {F:List qL} {k:Nat} (h:k<F.length):cO (sL F) (k:Int)=((letter F[k].1).toNat:Int):=by
 simp_all [sL,byte_at]
theorem aNR {F:List qL} {k:Nat} (h:k<F.length):dQ (pL F) 0 (k:Int)=F[k].2.1:=by
 simp_all [pL,iT]
theorem acK {m:Int} (d:0<=m) (e:m<=14):bZ ((letter m).toNat:Int) 67=decide (m=1)/\bZ ((letter m).toNat:Int) 79=decide (m=3)/\bZ ((letter m).toNat:Int) 76=decide (m=12)/\bZ ((letter m).toNat:Int) 86=decide (m=7)/\bZ ((letter m).toNat:Int) 73=decide (m=8)/\
  bZ ((letter m).toNat:Int) 83=decide (m=4)/\bZ ((letter m).toNat:Int) 68=decide (m=5)/\bZ ((letter m).toNat:Int) 88=decide (m=13)/\
  Dl ((letter m).toNat:Int) [86,73,66,65,82,69]=some (decide (m=6)||decide (m=7)||decide (m=8)||decide (m=9)||decide (m=10)||decide (m=11),()):=by
 have:m=0\/m=1\/m=2\/m=3\/m=4\/m=5\/m=6\/m=7\/m=8\/m=9\/m=10\/m=11\/m=12\/m=13\/m=14:=by omega
 rcases this with h|h|h|h|h|h|h|h|h|h|h|h|h|h|h<;>subst h<;>
  exact⟨by decide,by decide,by decide,by decide,by decide,by decide,by decide,by decide,by kernel_rfl⟩
def r11 (s:bU) (fr dp d:Int) (i:Bool) (b:Int) (w:bU) (F:List qL) (e:Bool) (A:Ctx):Option (Uu.den⊕UC.den):=some (.inl ((s,fr,dp,d,i,b,w,()),((sL F,pL F,e,()),A,())))
theorem agr (q:FT) (s:bU) (fr j:Int) (i:Bool) (b:Int) (w:bU) (F:List qL) (hF:F.length<1000000) (m: ∀f∈F,0<=f.1/\f.1<=14) (l:Bool) (A:Ctx): ∀(N k:Nat) (dp:Int),F.length-k<N->k<=F.length->0<=dp->dp<=100000000+k->
  Oi q N s fr dp j i b w (k:Int) (sL F) (pL F) l A.1 A.2.1 A.2.2.1 A.2.2.2.1 A.2.2.2.2.1 A.2.2.2.2.2.1 A.2.2.2.2.2.2.1 A.2.2.2.2.2.2.2.1 A.2.2.2.2.2.2.2.2.1=
   r11 s fr (dp+(wJ (F.drop k):Int)) j i b w F l A
 |0,k,dp,h,_,_,_=>by omega
 |N+1,k,dp,h,hk,o,p=>by
  rw[Oi,UR];have G:=ae7 F;by_cases e:k<F.length
  .have v:bY .i64 (k:Int) 1=((k+1:Nat):Int):=by grind [dC]
   have x:bY .i64 dp 1=dp+1:=dC;have y:fO (sL F) (k:Int)=true:=ed;obtain⟨z,B⟩:=m _ (aF e);obtain⟨D,E,_⟩:=acK z B;have g:=fun d o p=>agr q s fr j i b w F hF m l A N (k+1) d (by omega) (by omega) o p;rw[bW (eX (by rw[bP];omega))];simp only[y,aa,azI e,D,E,v,x];rw[ay e];unfold wJ;rw[List.countP_cons];unfold wJ at g;have u:dp+((List.countP JS (F.drop (k+1))+1:Nat):Int)=dp+1+(List.countP JS (F.drop (k+1)):Int):=by omega
   by_cases a:F[k].1=1
   .rw[bW (decide_eq_true a),g _ (by omega) (by omega),show JS F[k]=true by simp[JS,a],am rfl,u]
   .rw[dD (decide_eq_false a)];by_cases c:F[k].1=3
    .rw[bW (decide_eq_true c),g _ (by omega) (by omega),show JS F[k]=true by simp[JS,c],am rfl,u]
    .rw[dD (decide_eq_false c),g _ (by omega) (by omega),show JS F[k]=false by simp[JS,a,c]];simp
  .rw[dD (gB (by rw[bP];omega)),aB (by omega)];simp only[wJ,List.countP_nil,Int.natCast_zero,Int.add_zero];rfl
def aCG (s:bU) (fr dp:Int) (w:bU) (R:qL->Ctx) (f:qL):Ctx:=if f.1=1\/f.1=3 then R f else ZU s fr dp f w
def x16 (c:Ctx):Option (E5.den⊕Jq.den):=some (.inr ((),(c,())))
def r16 (s:bU) (fr dp:Int) (i:Bool) (b:Int) (w:bU) (F:List qL) (d:Bool) (A:Ctx) (R:qL->Ctx):Option qL->Option (E5.den⊕Jq.den)
 |none=>some (.inl ((s,fr,dp,i,b,w,()),((sL F,pL F,d,()),A,())))
 |some f=>x16 (aCG s fr dp w R f)
theorem ZT (q:FT) {s:List UInt8} (I:s.length<=1000) {fr dp:Int} (J:0<=fr) (K:fr<=10000) (i:Bool) {b:Int} (b0:0<=b) {w:List UInt8} (L:(w.length:Int)=s.length-b) (F:List qL) (hF:F.length<1000000) (z: ∀f∈F,0<=f.1/\f.1<=14) (B: ∀f∈F,IB w.length (f.1,f.2.1)) (j:Bool) (A:Ctx) (R:qL->Ctx)
  (D: ∀f∈F,f.1=1\/f.1=3->q.q10 (sub w (f.2.1+2) (bM w)) (fr+b+f.2.1+2) dp=some (R f,())): ∀(k N:Nat),k<=F.length->k<N->
  Oj q N s fr dp (fr+bM s) i b w ((k:Int)-1) (sL F) (pL F) j A.1 A.2.1 A.2.2.1 A.2.2.2.1 A.2.2.2.2.1 A.2.2.2.2.2.1 A.2.2.2.2.2.2.1 A.2.2.2.2.2.2.2.1 A.2.2.2.2.2.2.2.2.1=
   r16 s fr dp i b w F j A R ((F.take k).reverse.find? uK)
 |0,0,_,h=>by omega
 |0,N+1,_,_=>by
  rfl
 |k+1,0,_,h=>by omega
 |k+1,N+1,hk,v=>by
  have M:=ZT q I J K i b0 L F hF z B j A R D k N (by omega) (by omega);have e:((k+1:Nat):Int)-1=(k:Int):=by omega
  have hl:=ae7 F;have an:=aK9 F;have l:k<F.length:=by omega
  have O:fO (sL F) (k:Int)=true:=ed;have S:fO (pL F) (k:Int)=true:=ed;have U:dV .i64 (k:Int) 1=(k:Int)-1:=fV;obtain⟨V,W⟩:=z _ (aF l);obtain⟨X,Y,Z,t7,t8,_,_,_,tI⟩:=acK V W;have ab:=B _ (aF l);have ad:=D _ (aF l)
  (rewrite [Oj,UT];delta Jy Jw;rw[e,bW (lL)])
  simp only[O,S,aa,azI l,aNR l,X,Y,Z,t7,t8,tI,U,M];rw[List.take_succ_eq_append_getElem (by omega),List.reverse_append,List.reverse_singleton,List.singleton_append];generalize F[k]=f at*;generalize (F.take k).reverse=o at*;obtain⟨m,p,u⟩:=f;simp only at*;simp only[IB]at ab;have ao:bM w=(w.length:Int):=rfl;have au:bM s=(s.length:Int):=rfl;have g:uK (m,p,u)=true->r16 s fr dp i b w F j A R (((m,p,u)::o).find? uK)=x16 (aCG s fr dp w R (m,p,u)):=fun h=>by rw[List.find?_cons_of_pos h];rfl
  have no:uK (m,p,u)=false->r16 s fr dp i b w F j A R (((m,p,u)::o).find? uK)=r16 s fr dp i b w F j A R (o.find? uK):=fun h=>by simp_all
  unfold aCG ZU at g;have opn:m=1\/m=3->(bif dZ (bM w) (bY .i64 p 2) (bM w)then
    bK (q.q10 (sub w (bY .i64 p 2) (bM w)) (bY .i64 (bY .i64 (bY .i64 fr b) p) 2) dp) fun d=>
     (some (.inr ((),((d.1.1,d.1.2.1,d.1.2.2.1,d.1.2.2.2.1,d.1.2.2.2.2.1,d.1.2.2.2.2.2.1,d.1.2.2.2.2.2.2.1,d.1.2.2.2.2.2.2.2.1,d.1.2.2.2.2.2.2.2.2.1,()),()))):Option (E5.den⊕Jq.den))
    else none)=x16 (R (m,p,u)):=by
   intro h;have x:bY .i64 p 2=p+2:=dC;have y:bY .i64 (bY .i64 (bY .i64 fr b) p) 2=fr+b+p+2:=by
    rw[show bY .i64 fr b=fr+b from dC,show bY .i64 (fr+b) p=fr+b+p from dC,dC]
   rw[x,y,bW (eU),ad h,bJ];rfl
  by_cases h1:m=1
  .simp_all [uK]
  rw[dD (decide_eq_false h1)];by_cases h3:m=3
  .simp_all [uK]
  rw[dD (decide_eq_false h3)];have ae: ¬(m=1\/m=3):=fun h=>h.elim h1 h3;rw[aq ae]at g;by_cases h12:m=12
  .rw[bW (decide_eq_true h12),g (by simp[uK,h12]),am h12];unfold Kw;rw[show bM ([]:bU)=0 from rfl,Int.sub_zero];rfl
  rw[dD (decide_eq_false h12)];rw[aq h12]at g;have av:=lq w (p+2) (bM w);by_cases h78:m=7\/m=8
  .have x:bY .i64 p 2=p+2:=dC;have y:bY .i64 (bY .i64 (bY .i64 fr b) p) 2=fr+b+p+2:=by
    rw[show bY .i64 fr b=fr+b from dC,show bY .i64 (fr+b) p=fr+b+p from dC,dC]
   have af:dZ (bM w) (p+2) (bM w)=true:=eU;have ag:((sub w (p+2) (bM w)).length:Int)=bM w-(p+2):=mQ;have ah:uK (m,p,u)=true:=by rcases h78 with h|h<;>simp[uK,h]
   have ai:(decide (m=6)||decide (m=7)||decide (m=8)||decide (m=9)||decide (m=10)||decide (m=11))=true:=by grind
   have E:=g ah;have aj:Kw s fr dp (sub w (p+2) (bM w))=(2,0,fr+b+p+2,0,sub w (p+2) (bM w),false,[],0,dp,()):=by
    unfold Kw;rw[show bM (sub w (p+2) (bM w))=((sub w (p+2) (bM w)).length:Int) from rfl,ag,show fr+bM s-(bM w-(p+2))=fr+b+p+2 by omega]
   have v:=rP (s:=sub w (p+2) (bM w)) (by omega);have ak:decide (nl (sub w (p+2) (bM w))≠0/\nl (sub w (p+2) (bM w))=(sub w (p+2) (bM w)).length)=NZ (sub w (p+2) (bM w)):=rfl;rw[ak]at v;rw[aj]at E;simp only[x,y,af,aa,v,bJ,ai];rw[E];have G:(bif bZ (p+2) (bM w)then x16 (2,0,fr+b+p+2,0,sub w (p+2) (bM w),false,[],0,dp,())
     else bif NZ (sub w (p+2) (bM w))then x16 (2,0,fr+b+p+2,0,sub w (p+2) (bM w),false,[],0,dp,())
     else x16 (5,0,fr+bM s,0,[],false,[],0,dp,()))=
     x16 (if(m=7\/m=8)/\(sub w (p+2) (bM w)=[]\/NZ (sub w (p+2) (bM w))=true)then(2,0,fr+b+p+2,0,sub w (p+2) (bM w),false,[],0,dp,())else MB s fr dp 5):=by
    by_cases hz:p+2=bM w
    .simp_all [dW]
    .have al:sub w (p+2) (bM w)≠[]:=fun h=>by grind
     rw[dD (dJ hz)];cases hnm2:NZ (sub w (p+2) (bM w))with
     |true=>simp_all
     |false=>rw[aq (fun h=>h.2.elim al (by simp))];rfl
   rcases h78 with h7|h8
   .rw[bW (decide_eq_true h7)];exact G
   .rw[dD (decide_eq_false (by omega)),bW (decide_eq_true h8)];exact G
  .rw[dD (decide_eq_false (fun h=>h78 (.inl h))),dD (decide_eq_false (fun h=>h78 (.inr h)))];simp only[bJ];rw[aq (fun h=>h78 h.1)]at g;by_cases hd:m=0\/m=2\/m=4\/m=5\/m=13\/m=14
   .rw[no (by grind [uK]),dD (by rcases hd with h|h|h|h|h|h<;>simp[h])]
   .have:m=6\/m=9\/m=10\/m=11:=by omega
    rw[g (by simp_all [uK]),bW (by grind)];rfl
end
section
open Bool renaming not_true → ak, not_false → az
open Int renaming eq_ofNat_of_zero_le → aV, toNat_natCast → aX
open List renaming length_append → ai, length_singleton → aI, drop_zero → aJ, eq_nil_or_concat → bi, concat_eq_append → bC, eq_nil_of_length_eq_zero → bD
open Nat renaming le_refl → ae
open Go.RowKit
theorem aIE (q:FT) {s:List UInt8} (h:s.length<=1000) (i:Bool) {b:Int} (f:0<=b) (g:b<=bM s) {w:List UInt8} (j:w.length<=1000) (k r fr st:Int) (d:bU) (n dp:Int) (A:Ctx):
  lM q s i b w k r fr st [] false d n dp A.1 A.2.1 A.2.2.1 A.2.2.2.1 A.2.2.2.2.1 A.2.2.2.2.2.1 A.2.2.2.2.2.2.1 A.2.2.2.2.2.2.2.1 A.2.2.2.2.2.2.2.2.1=
   some (.inr ((),(F7 J7 (k,r,fr,st,(sZ w).1,(sZ w).2,d,n,dp,()) (JV s (TG s i).1 b) (TJ (JV s (TG s i).1 b)),()))):=by
 have e:=fun c=>aIa (s:=s) (by omega) i f g c;rw[lM,Bf,ZC w (by omega),bJ];unfold sZ;simp only;cases he:ajQ w with
 |true=>
  rw[ak,ac,e,bJ,am rfl];rfl
 |false=>
  rw[az,aa,ai2 w (by omega),bJ];simp only;rw[e,bJ,aq (by simp)];rfl
theorem aID (q:FT) {s:List UInt8} (g:s.length<=1000) {fr dp:Int} (J:0<=fr) (K:fr<=10000) (i:Bool) {b:Int} (h:0<=b) (j:b<=bM s) {w:List UInt8} (l:w.length<=1000) {F:List qL} (m:F≠[]) (hF:F.length<1000000) (o: ∀f∈F,0<=f.1/\f.1<=14) (p:Bool) (A:Ctx):
  sH q s fr dp i b w (sL F) (pL F) p A.1 A.2.1 A.2.2.1 A.2.2.2.1 A.2.2.2.2.1 A.2.2.2.2.2.1 A.2.2.2.2.2.2.1 A.2.2.2.2.2.2.2.1 A.2.2.2.2.2.2.2.2.1=
   some (.inr ((),(F7 J7 (1,0,fr+b,stF F,(sZ w).1,(sZ w).2,[],0,dp,()) (JV s (TG s i).1 b) (TJ (JV s (TG s i).1 b)),()))):=by
 have L:bM s=(s.length:Int):=rfl;have u:bY .i64 fr b=fr+b:=dC;have d:=fun st=>aIE q g i h j l 1 0 (fr+b) st [] 0 dp A;obtain⟨r,t,e⟩:=(bi F).resolve_left m;rw[bC]at e;subst e;rw[ai,aI]at hF;have M:(sL (r++[t])).length=r.length+1:=by rw[ae7];simp
 have v:dV .i64 (bM (sL (r++[t]))) 1=(r.length:Int):=by
  rw[bP,fV];omega
 have x:fO (sL (r++[t])) (r.length:Int)=true:=ed;have y:cO (sL (r++[t])) (r.length:Int)=((letter t.1).toNat:Int):=by
  rw[azI (show r.length<(r++[t]).length by simp)];simp
 obtain⟨z,B⟩:=o t (by simp);obtain⟨_,_,_,_,_,D,E,G,_⟩:=acK z B;rw[sH,Be];simp only[v,x,aa,y,D,E,G,u];have I:stF (r++[t])=if t.1=4\/t.1=5\/t.1=13 then t.1 else 0:=by
  unfold stF;simp
 rw[I];by_cases h4:t.1=4
 .rw[bW (decide_eq_true h4),am (.inl h4),h4];exact(oEq (show _=_ from d 4)).trans rfl
 rw[dD (decide_eq_false h4)];by_cases h5:t.1=5
 .rw[bW (decide_eq_true h5),am (.inr (.inl h5)),h5];exact(oEq (show _=_ from d 5)).trans rfl
 rw[dD (decide_eq_false h5)];by_cases h13:t.1=13
 .rw[bW (decide_eq_true h13),am (.inr (.inr h13)),h13];exact(oEq (show _=_ from d 13)).trans rfl
 rw[dD (decide_eq_false h13),aq (by omega)];exact(oEq (show _=_ from d 0)).trans rfl
theorem aAz (s:bU) {b p:Int} (d:0<=b) (hp:0<=p):sub (sub s b (bM s)) p (bM (sub s b (bM s)))=sub s (b+p) (bM s):=by
 obtain⟨n,rfl⟩:=aV d;obtain⟨m,rfl⟩:=aV hp;have:((n:Int)+(m:Int)).toNat=n+m:=by omega
 unfold sub bM;simp only[aX,List.take_length,List.drop_drop,this]
theorem aFN: ∀(r:Nat) (s:bU) (fr dp:Int),s.length<r->s.length<=1000->0<=fr->fr+s.length<=1000->0<=dp->dp+1002*s.length<=10000000->
  (Y5 r).q10 s fr dp=some (La sZ r s fr dp (TG s (gU 0 dp)).1 (TG s (gU 0 dp)).2,())
 |0,s,fr,dp,h,_,_,_,_,_=>by omega
 |r+1,s,fr,dp,h,E,G,h1,U,d1=>by
  show aCR (Y5 r) s fr dp=_;have ax:bM s=(s.length:Int):=rfl;have V:bY .i64 fr (bM s)=fr+bM s:=dC;obtain⟨W,ay⟩:=YN (s:=s) (by omega) (gU 0 dp);have v:=fun q F x hF X m A b Y Z w I dq=>aID q E (fr:=fr) (dp:=dq) G (by omega) (gU 0 dp) (b:=b) Y Z (w:=w) I (F:=F) x hF X m A
  (rewrite [aCR];delta Wn;rw[aCn (by omega),bJ,La])
  simp only[V,ai3 (show s.length<=10000 by omega),aCs (show s.length<=10000 by omega),bJ];by_cases hh:WO s (gu (TG s (gU 0 dp)).1).1 (gu (TG s (gU 0 dp)).1).2.2.2.1 (TG s (gU 0 dp)).2=true
  .rw[bW hh,am hh];rfl
  rw[dD (by simpa using hh),aq hh];by_cases h3:(gu (TG s (gU 0 dp)).1).1=3
  .rw[bW (dW h3),am h3];rfl
  rw[dD (dJ h3),aq h3];obtain⟨b0,z⟩:=Vu W;generalize hb:iP s (gu (TG s (gU 0 dp)).1)=b at*;have ab:dZ (bM s) b (bM s)=true:=eU b0 z (by omega);have aA:((sub s b (bM s)).length:Int)=bM s-b:=mQ b0 z (by rw[bP];omega);have ad:=fun p (B:0<=p)=>aAz s b0 B;generalize I:sub s b (bM s)=w at*;have aB:bM w=(w.length:Int):=rfl;have aF:w.length<=s.length:=by omega
  have J:=zl w 0 eQ jQ;have aG:eQ.1.length=1:=rfl;have aH:(lo (ja w 0 eQ).1).length<=w.length+1:=by rw[nC];omega
  have x:lo (ja w 0 eQ).1≠[]:=by
   intro af;have:(ja w 0 eQ).1.length=0:=by rw[<-nC,af];rfl
   have K:=J.1;rw[bD this]at K;exact K
  have D: ∀f∈lo (ja w 0 eQ).1,0<=f.1/\f.1<=14:=fun f d=>by
   unfold lo at d;rw[List.mem_reverse,List.mem_map]at d;obtain⟨g,ag,rfl⟩:=d;exact Eu J.1 g ag
  have L: ∀f∈lo (ja w 0 eQ).1,IB w.length (f.1,f.2.1):=fun f d=>acL d;have aK:=amK (lo (ja w 0 eQ).1);have M: ∀f∈lo (ja w 0 eQ).1,f.1=1\/f.1=3->0<wJ (lo (ja w 0 eQ).1):=fun f d h=>List.countP_pos_iff.2 ⟨f,d,by unfold JS;simpa using h⟩;rw[ab,aa,aFM w (by omega),bJ];unfold JX;simp only;rw[<-aN9,aNV];generalize (ja w 0 eQ).2=m;generalize hF:lo (ja w 0 eQ).1=F at*;have hc:=agr (Y5 r) s fr (fr+bM s) (gU 0 dp) b w F (by omega) D m (0,0,0,0,[],false,[],0,0,()) bV 0 dp (dI) (by omega) U (by omega);refine(oEq (show _=_ from hc)).trans ?_;unfold r11;rw[bJ];simp only[dO,aJ];have ah:dV .i64 (bM (sL F)) 1=(F.length:Int)-1:=by
   rw[bP,ae7];exact fV
  rw[ah];have hR:=ZT (Y5 r) E (fr:=fr) (dp:=dp+(wJ F:Int)) G (by omega) (gU 0 dp) b0 (w:=w) (by omega) F (by omega) D L m (0,0,0,0,[],false,[],0,0,())
   (fun f=>La sZ r (sub s (b+f.2.1+2) (bM s)) (fr+(b+f.2.1+2)) (dp+(wJ F:Int)) (Xb (sub s (b+f.2.1+2) (bM s))) false) (fun f d o=>by
    have aj:=L f d;simp only[IB]at aj;have M:=M f d o;have aO:((sub s (b+f.2.1+2) (bM s)).length:Int)=bM s-(b+f.2.1+2):=mQ;have ht:=ad (f.2.1+2) (by omega);have N:=aFN r (sub s (b+f.2.1+2) (bM s)) (fr+(b+f.2.1+2)) (dp+(wJ F:Int)) (by omega) (by omega) (by omega) (by omega) (by omega) (by omega);rw[show gU 0 (dp+(wJ F:Int))=true from eX]at N;rw[ht,show b+(f.2.1+2)=b+f.2.1+2 by omega,show fr+b+f.2.1+2=fr+(b+f.2.1+2) by omega,N];rfl) F.length bV (ae _) (dI)
  refine(oEq (show _=_ from hR)).trans ?_;rw[List.take_length];have al:F.reverse.find? uK=TM F:=rfl;rw[al];cases hd:TM F with
  |some f=>
   unfold r16 x16;rw[bJ];simp only[dO];unfold aCG;by_cases o:f.1=1\/f.1=3
   .simp only[am o]
   .simp only[aq o]
  |none=>
   unfold r16;rw[bJ];simp only[dO];have v:=v (Y5 r) F x (by omega) D m (0,0,0,0,[],false,[],0,0,()) b b0 z w (by omega) (dp+(wJ F:Int));have u:=oEq (k:=fun y=>dO y (fun _=>(none:Option (Ctx×Unit))) (fun j=>some ((j.2.1.1,(j.2.1.2.1,(j.2.1.2.2.1,(j.2.1.2.2.2.1,(j.2.1.2.2.2.2.1,(j.2.1.2.2.2.2.2.1,(j.2.1.2.2.2.2.2.2.1,(j.2.1.2.2.2.2.2.2.2.1,(j.2.1.2.2.2.2.2.2.2.2.1,()))))))))),()))) v;rw[aH7 w (by omega),bJ];simp only;have hl:=rY w;rcases bi (bQ w)with e|⟨pr,t,e⟩
   .have i:P8 w=[]:=by unfold P8;rw[e];rfl
    rw[e,i,aq (fun h=>h rfl)];exact u
   .rw[bC]at e;have O:=QR (s:=w) t (by rw[e];simp);have g0:=O.f0;have g1:=O.f1;rw[e,ai,aI]at hl;have i:P8 w=if t.1=12/\t.2.2.1=bM w/\NZ (sub w (t.2.1+1) (bM w))=true then sub w (t.2.1+1) (bM w)else []:=by
     unfold P8;rw[e,List.getLast?_concat]
    rw[e];have hL:dV .i64 (bM (pr++[t])) 1=(pr.length:Int):=by
     rw[bP,fV (by simp only[ai,aI];omega) (by simp only[ai,aI];omega)];simp
    have an:dQ (pr++[t]) (0,(0,(0,(0,(false,()))))) (pr.length:Int)=t:=ny rfl;have ha:bY .i64 t.2.1 1=t.2.1+1:=dC;have B:dZ (bM w) (t.2.1+1) (bM w)=true:=eU;have ao:fO (pr++[t]) (pr.length:Int)=true:=ed (by omega) (by simp only[ai,aI];omega);have au:((sub w (t.2.1+1) (bM w)).length:Int)=bM w-(t.2.1+1):=mQ;have S:=rP (s:=sub w (t.2.1+1) (bM w)) (by omega);have av:decide (nl (sub w (t.2.1+1) (bM w))≠0/\nl (sub w (t.2.1+1) (bM w))=(sub w (t.2.1+1) (bM w)).length)=NZ (sub w (t.2.1+1) (bM w)):=rfl;rw[av]at S;have a3:bY .i64 (bY .i64 (bY .i64 fr b) t.2.1) 1=fr+b+t.2.1+1:=by
     rw[show bY .i64 fr b=fr+b from dC,show bY .i64 (fr+b) t.2.1=fr+b+t.2.1 from dC,dC]
    rw[bW (eX (by rw[bP];simp only[ai,aI];omega))];simp only[hL,ao,an,ha,B,aa,S,bJ,a3];by_cases h12:t.1=12
    .rw[bW (dW h12)];by_cases h3':t.2.2.1=bM w
     .rw[bW (dW h3')];cases hnm:NZ (sub w (t.2.1+1) (bM w))with
      |true=>
       have aw:sub w (t.2.1+1) (bM w)≠[]:=fun l=>by rw[l]at hnm;cases hnm
       rw[am ⟨h12,h3',hnm⟩]at i;rw[aa,i,am aw];unfold Kw;rw[show bM (sub w (t.2.1+1) (bM w))=((sub w (t.2.1+1) (bM w)).length:Int) from rfl,au,show fr+bM s-(bM w-(t.2.1+1))=fr+b+t.2.1+1 by omega]
      |false=>
       rw[aq (fun l=>by rw[hnm]at l;exact absurd l.2.2 (by simp))]at i;rw[ac,i,aq (fun h=>h rfl)];exact u
     .rw[aq (fun l=>h3' l.2.1)]at i;rw[dD (dJ h3'),i,aq (fun h=>h rfl)];exact u
    .rw[aq (fun l=>h12 l.1)]at i;rw[dD (dJ h12),i,aq (fun h=>h rfl)];exact u
theorem aPf {s:List UInt8} (d:s.length<=1000):aCT s 0 0=some (Ei sZ s,()):=by
 have h:=aFN bV s 0 0 (dI) d (by omega) (by omega) (by omega) (by omega);rw[aCT,h];have e:=Uj (s:=s) (by omega);unfold Ei;show some (La sZ bV s 0 0 (rV s).1 (rV s).2.2.2.1,())=_;rw[PX bV (s.length+1) s 0 0 (rV s).1 (rV s).2.2.2.1 (dI) (by omega) e.1 (by omega)]
end
section
open Bool renaming and_eq_true → af, not_false → az, true_and → aG, false_or → aW
open Int renaming toNat_natCast → aX
open List renaming append_assoc → ah, drop_of_length_le → aB, drop_zero → aJ, all_cons → aY, length_take → aZ
open Go.RowKit
theorem PK {s:List UInt8} {k:Nat} (h:k<s.length):sub s (k:Int) ((k+1:Nat):Int)=[s[k]]:=by
 unfold sub
 grind [aX,List.take_add_one,aZ,List.drop_take]
theorem ZW {s:List UInt8} (g:s.length<=2000000) (b:Bool): ∀(N k:Nat) (out:bU),s.length-k<N->k<=s.length->out.length<=4*k+1->
  LC N s b out (k:Int)=some (.inl ((b,out++Q7 (s.drop k),()),()))
 |0,k,out,h,_,_=>by omega
 |N+1,k,out,h,hk,l=>by
  rw[LC,afg];by_cases e:k<s.length
  .have i:bY .i64 (k:Int) 1=((k+1:Nat):Int):=by grind [dC]
   have d: ∀x:bU,x.length<=4->gG out x=true:=fun x j=>mg;have f: ∀x:bU,x.length<=4->LC N s b (cu out x) ((k+1:Nat):Int)=some (.inl ((b,cu out x++Q7 (s.drop (k+1)),()),())):=fun x j=>ZW g b N (k+1) _ (by omega) (by omega) (by grind [cu]);have hd:Q7 (s.drop k)=aFo s[k]++Q7 (s.drop (k+1)):=by rw[qg e];rfl
   rw[bW (eX (by rw[bP];omega)),bW (ed),hd,i,show dZ (bM s) (k:Int) ((k+1:Nat):Int)=true from eU (by omega) (by omega) (by rw[bP];omega),byte_at e,PK e,d [39,92,39,39] (by decide),d [s[k]] (by simp),f [39,92,39,39] (by decide),f [s[k]] (by simp)];unfold aFo cu;by_cases h:s[k]=39
   .rw[show(39:Int)=(((39:UInt8).toNat:Nat):Int) from rfl,aym h,am h];simp
   .rw[show(39:Int)=(((39:UInt8).toNat:Nat):Int) from rfl,aav h,aq h];simp
  simp_all [gB,bP,aB,Q7]
theorem V9 {s:List UInt8} (f:s.length<=2000000) (b:Bool): ∀(N k:Nat) (out:bU),s.length-k<N->k<=s.length->out.length<=2*k+1->
  EG N s b out (k:Int)=some (.inl ((b,out++JU (s.drop k),()),()))
 |0,k,out,h,_,_=>by omega
 |N+1,k,out,h,hk,j=>by
  rw[EG,U0];by_cases e:k<s.length
  .have g:bY .i64 (k:Int) 1=((k+1:Nat):Int):=by grind [dC]
   have l: ∀d:bU,d.length<=2*(k+1)+1->EG N s b d ((k+1:Nat):Int)=some (.inl ((b,d++JU (s.drop (k+1)),()),())):=fun d i=>V9 f b N (k+1) _ (by omega) (by omega) i;have hd:JU (s.drop k)=db1 s[k]++JU (s.drop (k+1)):=by rw[qg e];rfl
   rw[bW (eX (by rw[bP];omega)),bW (ed),hd,g,show dZ (bM s) (k:Int) ((k+1:Nat):Int)=true from eU (by omega) (by omega) (by rw[bP];omega),byte_at e,PK e,(ap5 s[k]).2.2,bJ]
   grind [mg,cu,db1]
  simp_all [gB,bP,aB,JU]
theorem Lc {s:List UInt8} (g:s.length<=2000000): ∀(N k:Nat) (out:bU),s.length-k<N->k<=s.length->out.length<=3*k+1->
  ug N s out (k:Int)=some (.inl ((out++xw (s.drop k),()),()))
 |0,k,out,h,_,_=>by omega
 |N+1,k,out,h,hk,l=>by
  rw[ug,U1];by_cases e:k<s.length
  .have i:bY .i64 (k:Int) 1=((k+1:Nat):Int):=by grind [dC]
   have f: ∀d:bU,d.length<=3*(k+1)+1->ug N s d ((k+1:Nat):Int)=some (.inl ((d++xw (s.drop (k+1)),()),())):=fun d j=>Lc g N (k+1) _ (by omega) (by omega) j;have hd:xw (s.drop k)=pl1 false s[k]++xw (s.drop (k+1)):=by rw[qg e];rfl
   rw[bW (eX (by rw[bP];omega)),bW (ed),bW (ed),hd,i,show dZ (bM s) (k:Int) ((k+1:Nat):Int)=true from eU (by omega) (by omega) (by rw[bP];omega),byte_at e,PK e,(ap5 s[k]).2.1,bJ];rw[show gG out [39,10,39]=true from mg (by simp;omega),show gG out [92]=true from mg (by simp;omega),show gG (cu out [92]) [s[k]]=true from mg (by simp[cu];omega),show gG out [s[k]]=true from mg (by simp;omega),f _ (by simp[cu];omega),f _ (by simp[cu];omega),f _ (by simp[cu];omega)];unfold pl1 cu;by_cases h:s[k]=10
   .rw[show(10:Int)=(((10:UInt8).toNat:Nat):Int) from rfl,aym h,am h];simp
   .rw[show(10:Int)=(((10:UInt8).toNat:Nat):Int) from rfl,aav h,aq h]
    grind
  simp_all [gB,bP,aB,xw]
theorem headD {s:List UInt8} (e:s≠[]):QU s=(if(s.all TR||X5 s)=true/\ ¬(s.length=1/\TR (s.headD 0)=false)then [92]else [])++xw s:=by
 cases s with
 |nil=>exact absurd rfl e
 |cons c r=>
  show pl1 (O7 (c::r)) c++xw r=_++(pl1 false c++xw r);rw[<-ah];congr 1;unfold O7;rw[List.isEmpty_cons,az,aG];by_cases d:X5 (c::r)=true
  .rcases Uk (x:=c::r) d with h|h|h|h|h|h|h|h|h|h|h|h|h|h|h|h<;>(rw[List.cons.injEq]at h;obtain⟨rfl,rfl⟩:=h;decide+kernel)
  .have d:X5 (c::r)=false:=by simpa using d
   rw[d,aW,Bool.or_false];cases ha:(c::r).all TR with
   |false=>simp
   |true=>
    rw[aY,af]at ha;have f:TR c=true->Ye c=true/\c≠10:=by
     have: ∀n:Fin 256,TR (UInt8.ofNat n.val)=true->Ye (UInt8.ofNat n.val)=true/\UInt8.ofNat n.val≠10:=by decide+kernel
     have h:=this ⟨c.toNat,c.toNat_lt⟩;simpa using h
    obtain⟨g,i⟩:=f ha.1;unfold pl1;simp_all
def aGw (s:bU) (k:Nat) (w:Bool):bU:=if k=4 then [39]++Q7 s++(if w=true then [39]else [])else if k=5 then [34]++JU s++(if w=true then [34]else [])else QU s
theorem Vx {s:List UInt8} (d:s.length<=2000000) (k:Nat) (w:Bool):WB s (k:Int) w=some (aGw s k w,()):=by
 have o:=Ic s;have p:=Np s
 (rewrite [WB];delta aca)
 unfold aGw;by_cases h4:k=4
 .rw[bW (dW),show LC bV s w [39] 0=_ from ZW d w bV 0 [39] (dI) (by omega) (by simp),bJ,am h4];simp only[dO,aJ];cases w with
  |true=>rw[aa,show gG ([39]++Q7 s) [39]=true from mg (by simp;omega)];rfl
  |false=>rw[ac,aq (by simp),List.append_nil]
 .rw[dD (dJ),aq h4];by_cases h5:k=5
  .rw[bW (dW),show EG bV s w [34] 0=_ from V9 d w bV 0 [34] (dI) (by omega) (by simp),bJ,am h5];simp only[dO,aJ];cases w with
   |true=>rw[aa,show gG ([34]++JU s) [34]=true from mg (by simp;omega)];rfl
   |false=>rw[ac,aq (by simp),List.append_nil]
  .rw[dD (dJ),aq h5];by_cases h0:s=[]
   .subst h0;rfl
   .have e:ug bV s [] 0=some (.inl ((xw s,()),())):=by
     have:=Lc d bV 0 [] (dI) (by omega) (by simp)
     assumption
    have f:ug bV s [92] 0=some (.inl (([92]++xw s,()),())):=by
     have:=Lc d bV 0 [92] (dI) (by omega) (by simp)
     assumption
    have g:0<s.length:=List.length_pos_iff.2 h0;obtain⟨_,_,x,h,_,j⟩:=qN s[0];have l:cO s 0=((s[0].toNat:Nat):Int):=byte_at (i:=0) g;have m:s.headD 0=s[0]:=by cases s with
     |nil=>exact absurd rfl h0
     |cons c r=>rfl
    rw[dD (FZ h0),aMk (by omega),bJ,ai7 d,bJ,headD h0,m,l,bW (ed),h,bJ,e,f,j];simp only[bJ,dO];have q:bZ (bM s) 1=decide (s.length=1):=by
     grind [dW,bP,dJ]
    grind
end
section
open Option renaming some → a6, none → a7
open Tryz
open Go.RowKit
def aw2 (d:Int×Int×Int×Int×bU×taY):Option oJ:=cond (bZ d.1 2) (a6 (true,()))<|cond (bZ d.1 1) (cond d.2.2.2.2.2.1 (cond (bZ d.2.1 1) (a6 (true,()))<|cond (bZ d.2.1 2) (a6 (true,()))<|cond (bZ d.2.1 3) (a6 (true,()))<|some ((bZ d.2.1 7),()))<|some (false,()))<|some (false,())
def aOb:Sum:=⟨[.pair cZ tyG],KO,fun x=>aw2 x.1⟩
theorem aAK:dX prog 11 aOb:=qA f11 [] aN
def axg (i:Bool) (h:bU) (g:YG) (e:bU) (d:taP) (f:Int):Option (taX×Unit):=cond i (cond (!(bZ (cO h (dV .i64 (bM h) 1)) 47)) (cond (gG g.1 [32]) (cond (dZ (bM e) d.1.2.2.1 f) (a6 ((d.1.2.2.1,((sub e d.1.2.2.1 f),((cu g.1 [32]),()))),())) a7) a7)<|cond (dZ (bM e) d.1.2.2.1 f) (a6 ((d.1.2.2.1,((sub e d.1.2.2.1 f),(g.1,()))),())) a7)<|cond (dZ (bM e) d.1.2.2.1 f) (a6 ((d.1.2.2.1,((sub e d.1.2.2.1 f),(g.1,()))),())) a7
def axh (h:Bool) (g:YG) (e:bU) (d:taP) (f:Int):Option (taX×Unit):=cond h (cond (gG g.1 [32]) (cond (dZ (bM e) d.1.2.2.1 f) (a6 ((d.1.2.2.1,((sub e d.1.2.2.1 f),((cu g.1 [32]),()))),())) a7) a7)<|cond (dZ (bM e) d.1.2.2.1 f) (a6 ((d.1.2.2.1,((sub e d.1.2.2.1 f),(g.1,()))),())) a7
def ag5 (e:bU) (d:taP) (f:Int) (g:bU):Option (taX×Unit):=cond (dZ (bM e) d.1.2.2.1 f) (a6 ((d.1.2.2.1,((sub e d.1.2.2.1 f),(g,()))),())) a7
def fn6 (f:bU) (g:Int) (e:bU) (h:Bool):Option (taX×Unit):=cond (dZ (bM f) 0 g) (bK (aCT (sub f 0 g) 0 0) fun d=>bK (aw2 (d.1.1,(d.1.2.1,(d.1.2.2.1,(d.1.2.2.2.1,(d.1.2.2.2.2.1,(d.1.2.2.2.2.2.1,(d.1.2.2.2.2.2.2.1,(d.1.2.2.2.2.2.2.2.1,(d.1.2.2.2.2.2.2.2.2.1,())))))))))) fun j=>cond (!j.1) (a6 ((g,([],(e,()))),()))<|cond (bZ d.1.1 1) (cond (gU 0 (bM e)) (cond (fO e (dV .i64 (bM e) 1)) (cond h (bK (WB e d.1.2.2.2.1 (!(bZ (cO e (dV .i64 (bM e) 1)) 47))) fun i=>axg h e i f d g)<|bK (WB e d.1.2.2.2.1 false) fun i=>axg h e i f d g) a7)<|cond h (bK (WB e d.1.2.2.2.1 true) fun i=>axh h i f d g)<|bK (WB e d.1.2.2.2.1 false) fun i=>axh h i f d g)<|cond h (cond (leI 2 d.1.2.2.1) (cond (fO f (dV .i64 d.1.2.2.1 2)) (cond (bZ (cO f (dV .i64 d.1.2.2.1 2)) 36) (cond (fO f (dV .i64 d.1.2.2.1 1)) (cond (bZ (cO f (dV .i64 d.1.2.2.1 1)) 123) (cond (gG e [125]) (cond (dZ (bM f) d.1.2.2.1 g) (a6 ((d.1.2.2.1,((sub f d.1.2.2.1 g),((cu e [125]),()))),())) a7) a7)<|ag5 f d g e) a7)<|ag5 f d g e) a7)<|ag5 f d g e)<|ag5 f d g e) a7
def aOm:Sum:=⟨[.str,cZ,.str,.bool],[(.pair cZ (.pair .str (.pair .str .unit)),false)],fun x=>fn6 x.1 x.2.1 x.2.2.1 x.2.2.2.1⟩
theorem aFv:dX prog 6 aOm:=qA Tryz.f6 [] (sE aAH (sE aAK (sE aAR aN)))
end
section
open Tryz
open Go.RowKit
def axc (d:(taX×Int×Int×Unit)):Option oJ:=cond (bZ d.2.2.1 1) (cond ((bZ d.1.1 0)&&((gm d.1.2.1 [])&&((gm d.1.2.2.1 [])&&true))) (some ((bZ d.2.1 0),()))<|some (false,()))<|some (false,())
def fn3 (f:bU) (g:Int) (h:bU) (i:Bool):Option oJ:=cond (gU 80 (bM f)) (some (true,()))<|cond (gU 40 (bM h)) (some (true,()))<|bK (fn5 f g h i) fun d=>cond (gU g 0) (axc d)<|cond (gU (bM f) g) (axc d)<|bK (fn6 f g h i) fun e=>cond (bZ d.2.2.1 0) (cond ((bZ d.1.1 e.1.1)&&((gm d.1.2.1 e.1.2.1)&&((gm d.1.2.2.1 e.1.2.2.1)&&true))) (some ((bZ d.2.1 (bY .i64 e.1.1 (bM e.1.2.2.1))),()))<|some (false,()))<|some (false,())
def aOi:Sum:=⟨[.str,cZ,.str,.bool],KO,fun x=>fn3 x.1 x.2.1 x.2.2.1 x.2.2.2.1⟩
noncomputable def aMP:Env:=iW prog tt 3 [(4,YF),(5,aL1),(6,aOm)] [] []
theorem aCJ:fH aMP:=eA Tryz.f3 (aD ZA (aD aqx (aD aFv aN)))
end
section
open Bool renaming not_true → ak, true_and → aG
open List renaming getElem_take → bu
open Go.RowKit
theorem aqG {t:List UInt8} (e:t.length<=1000) (st:Int) (w:Bool):WB t st w=some (abV t st w,()):=by
 by_cases h4:st=4
 .subst h4;exact Vx (by omega) 4 w
 by_cases h5:st=5
 .subst h5;exact Vx (by omega) 5 w
 have d:WB t st w=WB t ((0:Nat):Int) w:=by
  simp_all [WB,dJ,aca]
 rw[d,Vx (by omega) 0 w];unfold abV;rw[aq h4,aq h5];rfl
theorem atU (c:Ctx):aw2 c=some (JW c,()):=by
 rw[aw2];unfold JW;by_cases h2:c.1=2
 .simp_all [dW]
 rw[dD (dJ h2)];by_cases h1:c.1=1
 .rw[bW (dW h1)];cases ho:c.2.2.2.2.2.1 with
  |false=>simp_all
  |true=>
   rw[aa];by_cases r1:c.2.1=1
   .simp_all [dW]
   rw[dD (dJ r1)];by_cases r2:c.2.1=2
   .simp_all [dW]
   rw[dD (dJ r2)];by_cases r3:c.2.1=3
   .simp_all [dW]
   rw[dD (dJ r3)]
   grind [dW,dJ]
 simp_all [dJ]
theorem aAA {t:List UInt8} (e:t≠[]):zH t [47]=bZ (cO t (bM t-1)) 47:=by
 have l:0<t.length:=List.length_pos_iff.2 e;obtain⟨n,f⟩: ∃n,t.length=n+1:=⟨t.length-1,by omega⟩;have g:bM t-bM ([47]:bU)=(n:Int):=by
  rw[bP,show bM ([47]:bU)=1 from rfl];omega
 have d:bM t=((n+1:Nat):Int):=by rw[bP,f]
 have i:bM t-1=(n:Int):=by rw[d];omega
 have j:sub t (n:Int) ((n+1:Nat):Int)=[t[n]]:=PK (by omega);unfold zH;rw[g,i,d,j,byte_at (by omega),decide_eq_true (by simp;omega),aG];by_cases h:t[n]=47
 .rw[h];rfl
 .rw[show(47:Int)=(((47:UInt8).toNat:Nat):Int) from rfl,aav h,FZ (by simpa using h)]
theorem aAB {s:List UInt8} {n:Nat} (j:n+2<=s.length):zH (sub s 0 ((n+2:Nat):Int)) [36,123]=(bZ (cO s (n:Int)) 36&&bZ (cO s ((n+1:Nat):Int)) 123):=by
 have e:sub s 0 ((n+2:Nat):Int)=s.take (n+2):=by
  rfl
 have d:(s.take (n+2)).length=n+2:=by simp_all
 have f:bM (s.take (n+2))-bM ([36,123]:bU)=(n:Int):=by
  rw[bP,d,show bM ([36,123]:bU)=2 from rfl];omega
 have g:bM (s.take (n+2))=((n+2:Nat):Int):=by rw[bP,d]
 have i:sub (s.take (n+2)) (n:Int) ((n+2:Nat):Int)=[(s.take (n+2))[n],(s.take (n+2))[n+1]]:=aqa (by omega);unfold zH;rw[e,f,g,i,byte_at (show n<s.length by omega),byte_at (show n+1<s.length by omega),decide_eq_true (by rw[d];simp),aG,bu,bu];by_cases h:s[n]=36
 .by_cases h':s[n+1]=123
  .rw[h,h'];rfl
  .rw[show(123:Int)=(((123:UInt8).toNat:Nat):Int) from rfl,aav h',Bool.and_false,FZ (by simp[h'])]
 .rw[show(36:Int)=(((36:UInt8).toNat:Nat):Int) from rfl,aav h,Bool.false_and,FZ (by simp[h])]
theorem aFu {s:List UInt8} {n:Int} (d:n<2):zH (sub s 0 n) [36,123]=false:=by
 have:=lq s 0 n;unfold zH
 grind
theorem aH8 {s:List UInt8} (y:s.length<=1000) {d:Int} (h:0<=d) (z:d<=bM s) {t:List UInt8} (i:t.length<=1000) (e:Bool):
  fn6 s d t e=some (((yV s (Ei sZ (sub s 0 d)) d t e).1,(sub s (yV s (Ei sZ (sub s 0 d)) d t e).1 d,((yV s (Ei sZ (sub s 0 d)) d t e).2,()))),()):=by
 have A:bM s=(s.length:Int):=rfl;have B:bM t=(t.length:Int):=rfl;have D:((sub s 0 d).length:Int)=d-0:=mQ (by omega) h (by omega);obtain⟨m,E⟩:=PY (s:=sub s 0 d) (by omega);have G:bM (sub s 0 d)=((sub s 0 d).length:Int):=rfl
 (rewrite [fn6];delta ag5 axh axg;rw[bW (eU (by omega) h (by omega)),aPf (by omega),bJ])
 generalize Ei sZ (sub s 0 d)=c at*;simp only;rw[show aw2 (c.1,(c.2.1,(c.2.2.1,(c.2.2.2.1,(c.2.2.2.2.1,(c.2.2.2.2.2.1,(c.2.2.2.2.2.2.1,(c.2.2.2.2.2.2.2.1,(c.2.2.2.2.2.2.2.2.1,())))))))))=some (JW c,()) from atU c,bJ];have j:=PW s c d t e;have I:=au4 s c d t e;simp only;cases ho:JW c with
 |false=>
  simp_all [sub]
 |true=>
  rw[ho,am rfl]at j;have l:dZ (bM s) c.2.2.1 d=true:=eU m (by omega) (by omega);rw[ak,ac,j];by_cases k1:c.1=1
  .have f:(yV s c d t e).2=YU c.2.2.2.1 t e:=by simp_all [yV]
   have J:=fun w=>Ns i c.2.2.2.1 w;have g: ∀w,gG (abV t c.2.2.2.1 w) [32]=true:=fun w=>mg (by grind);rw[bW (dW k1),f];simp only[aqG i,bJ,l,g,aa];unfold YU;by_cases t0:t=[]
   .subst t0;rw[dD (show gU 0 (bM ([]:bU))=false from rfl)];cases e with
    |true=>rfl
    |false=>rfl
   .have K:0<t.length:=List.length_pos_iff.2 t0;have o:dV .i64 (bM t) 1=bM t-1:=fV;have p:fO t (bM t-1)=true:=ed;rw[bW (eX),o,bW p,aAA t0];cases e with
    |true=>
     cases hx:bZ (cO t (bM t-1)) 47 with
     |true=>rfl
     |false=>rfl
    |false=>rfl
  .have k2:c.1=2:=by grind [JW]
   have f:(yV s c d t e).2=if e=true/\zH (sub s 0 c.2.2.1) [36,123]=true then t++[125]else t:=by
    unfold yV
    grind
   have g:gG t [125]=true:=mg (by simp;omega);rw[dD (dJ k1),f];simp only[l,g,aa];cases e with
   |false=>rfl
   |true=>
    rw[aa];by_cases hn:2<=c.2.2.1
    .obtain⟨n,q⟩: ∃n:Nat,c.2.2.1=((n+2:Nat):Int):=⟨(c.2.2.1-2).toNat,by omega⟩;have u:dV .i64 c.2.2.1 2=(n:Int):=by grind [fV]
     have v:dV .i64 c.2.2.1 1=((n+1:Nat):Int):=by grind [fV]
     rw[bW (lL hn),u,v,bW (ed),bW (ed)];have x:=aAB (s:=s) (n:=n) (by omega);rw[q,x];cases bZ (cO s (n:Int)) 36 with
     |false=>rfl
     |true=>
      cases bZ (cO s ((n+1:Nat):Int)) 123 with
      |false=>rfl
      |true=>rfl
    simp_all [xB,aFu]
theorem ayk (s:bU) (d:Int) (t:bU) (e:Bool):fn3 s d t e=some (true,()):=by
 have g:bM s=(s.length:Int):=rfl;have h:bM t=(t.length:Int):=rfl
 (rewrite [fn3];delta axc)
 by_cases hs:s.length<=80
 .rw[dD (jq)];by_cases ht:t.length<=40
  .rw[dD (jq)];by_cases h0:0<=d
   .by_cases h1:d<=bM s
    .rw[aMq (by omega) h0 h1 (by omega) e,bJ,dD (jq h0),dD (jq h1),aH8 (by omega) h0 h1 (by omega) e,bJ];have i:((sub s 0 d).length:Int)=d-0:=mQ (by omega) h0 (by omega);obtain⟨j,l⟩:=PY (s:=sub s 0 d) (by omega);have m:bM (sub s 0 d)=((sub s 0 d).length:Int):=rfl;generalize Ei sZ (sub s 0 d)=c at*;have o:=PW s c d t e;have p:=ags s c d (t:=t) (by omega) e;generalize yV s c d t e=r at*;have q:0<=r.1/\r.1<=d:=by
      omega
     have u:bM r.2=(r.2.length:Int):=rfl;have v:bY .i64 r.1 (bM r.2)=r.1+bM r.2:=dC;simp_all [fD,kZ]
    .have f:fn7 s d=some ((0,(0,(0,(0,([],(false,([],(0,(0,()))))))))),(1,())):=by
      simp_all [fn7,eX]
     rw[fn5,f,bJ];simp only[show(!(bZ 1 0))=true from rfl,aa,bJ];rw[dD (jq h0),bW (eX)];rfl
   .have f:fn7 s d=some ((0,(0,(0,(0,([],(false,([],(0,(0,()))))))))),(1,())):=by
     simp_all [fn7,eX]
    rw[fn5,f,bJ];simp only[show(!(bZ 1 0))=true from rfl,aa,bJ];rw[bW (eX)];rfl
  .rw[bW (eX)]
 .rw[bW (eX)]
end
end Go.Proofs.YtdfhjhkcjecmlaaGreatDoor
