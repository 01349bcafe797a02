/- Parts of the proof, joined and shortened by a program: the plain machine, the functions as it prints them, and the mathematics over them. -/
import Derived.Test.YtjegbhogodknhaaGreatDoorZ3
import Derived.Test.YtjegbhogodknhaaGreatDoorZ4
import Derived.Test.YtjegbhogodknhaaGreatDoorZ5
import Derived.Test.YtjegbhogodknhaaGreatDoorZ6
import Derived.Test.YtjegbhogodknhaaGreatDoorZ7
import Derived.Test.YtjegbhogodknhaaGreatDoorZ8
import Derived.Test.YtjegbhogodknhaaGreatDoorZ9
import Derived.Test.YtjegbhogodknhaaGreatDoorZ10
import Derived.Test.YtjegbhogodknhaaGreatDoorZ11
set_option linter.unusedVariables false
set_option linter.unusedSimpArgs false
set_option maxRecDepth 100000
set_option maxHeartbeats 4000000
namespace Go.Proofs.YtjegbhogodknhaaGreatDoor
section
open Bool renaming and_true → aj
open Int renaming toNat_natCast → aX
open List renaming length_append → ae, append_assoc → ag, map_cons → ay, length_cons → az, length_singleton → aA, append_nil → aG, getElem_mem → aI, length_map → aJ, nil_append → aQ, map_nil → aV, map_append → aZ, cons_append → bz, take_of_length_le → bD, mem_append_left → bJ, take_append_of_le_length → bQ
open Nat renaming le_refl → af, add_zero → aW
open Go.RowKit
theorem U8 {F:List Lf} (hF:yT F): ∃m,nU bY false F ((0:Nat):Int) 0 0 qi=some (.inl ((),((),()),((F,((F.length:Nat):Int),0,0,()),qi++m,())))/\TZ F=some ((1,0,(F.length:Int),-1,())::m,()):=by
 have e:=hF.len;obtain⟨m,g1,g2,g3⟩:=DK hF (-1) bY 0 [(1,0,0,-1,())] false 0 (di) (by omega) (by simp) rfl;refine⟨m,g1, ?_⟩;rw[TZ];have d:fG [((1:Int),((0:Int),((0:Int),((-1:Int),()))))] 32=true:=by kernel_rfl
 simp only[eU,aj,aa,d];rw[aw7,show((0:Int))=((0:Nat):Int) from rfl];simp only[Int.ofNat_zero]at g1 ⊢;rw[g1,bT];simp only[dX,bT];rw[dn (fD (by omega) (by simp)),dn (rX (by simp[dM]))];rfl
theorem PK {F:List Lf} (hF:yT F) {m:List Nd} (e:TZ F=some ((1,0,(F.length:Int),-1,())::m,())) (d:wo m):ShF F:=by
 obtain⟨f,g1,g2⟩:=U8 hF;rw[g2]at e;injection e with e
 injection e with e _
 injection e with _ e
 subst e;exact ahY hF g1 d
theorem QD {F:List Lf} (hF:yT F) (h:ShF F): ∃m,TZ F=some ((1,0,(F.length:Int),-1,())::m,())/\wo m:=by
 obtain⟨m,g1,g2⟩:=U8 hF;obtain⟨g,d,f⟩:=ayT hF h;rw[g1]at d;obtain⟨_,e⟩:=oJ d;subst e;exact⟨m,g2,f⟩
structure Whl (u:List UInt8):Prop where
 o:(wM (gQ u).1).2.2.2.1=false
 b:(gQ u).2.2.2.1=false
 p:(gQ u).2.2.1=[]
 c: ∃m,TZ (eH u (gQ u).1)=some ((1,0,((eH u (gQ u).1).length:Int),-1,())::m,())/\wo m
theorem asr {a r:List UInt8} {t:Tok} (h:OkT a t):qf (a++r) t=qf a t:=by
 unfold qf sub;rw[bQ (by have:=h.t1;omega)]
theorem axG {o s:List UInt8} {t:Tok} (h:OkT s t):(qf (o++s) (VA o.length t)).1=(qf s t).1/\(qf (o++s) (VA o.length t)).2.1=(qf s t).2.1:=by
 have d:=h.f0;have e:=h.ft;refine⟨rfl, ?_⟩;unfold qf sub VA;simp only;rw[show(t.2.2.1+(o.length:Int)).toNat=o.length+t.2.2.1.toNat by omega,show(t.2.1+(o.length:Int)).toNat=o.length+t.2.1.toNat by omega,List.take_length_add_append,Hg]
theorem aiK (k:Nat): ∀T:List Tok,(T.map (VA k)).filter xJ=(T.filter xJ).map (VA k)
 |[]=>rfl
 |t::T=>by
  rw[ay,List.filter_cons,List.filter_cons,aiK k T,show xJ (VA k t)=xJ t from rfl];split<;>rfl
section
variable {a b:List UInt8}
theorem Uz {r:List UInt8} {T:List Tok} (h: ∀t∈T,OkT a t):eH (a++r) T=eH a T:=by
 unfold eH;exact List.map_congr_left fun t d=>asr (h t (List.mem_filter.1 d).1)
theorem zy (s:List UInt8) (T U:List Tok):eH s (T++U)=eH s T++eH s U:=by
 unfold eH;rw[List.filter_append,aZ]
theorem UA (k:Nat) (s:List UInt8) (T:List Tok):eH s (T.map (VA k))=(T.filter xJ).map (fun t=>qf s (VA k t)):=by
 unfold eH;rw[aiK,List.map_map];rfl
theorem al0 {A G:List Lf} (hb:yT (eH b (gQ b).1)) (i:yT G) (hl:b.length<=10000) (o:List UInt8)
  (e:G=A++eH (o++b) ((gQ b).1.map (VA o.length))):Cf True (eH b (gQ b).1) G A.length/\G.length=(eH b (gQ b).1).length+A.length:=by
 have j:G.length=(eH b (gQ b).1).length+A.length:=by
  rw[e,UA,ae,aJ];unfold eH;rw[aJ];omega
 refine⟨⟨hb,i,fun p f=> ?_,fun _=>.inl (AQ),fun _=>by unfold qX;rw[dif_neg (by omega)],fun _ _ _=>trivial,by omega⟩,j⟩;refine⟨by omega, ?_⟩;have g:p<((gQ b).1.filter xJ).length:=by
  unfold eH at f;rwa [aJ]at f
 have l:G[p+A.length]'(by omega)=qf (o++b) (VA o.length ((gQ b).1.filter xJ)[p]):=by
  have d:G[p+A.length]? =some (qf (o++b) (VA o.length ((gQ b).1.filter xJ)[p])):=by
   rw[e,UA,List.getElem?_append_right (by omega),show p+A.length-A.length=p by omega,List.getElem?_map,List.getElem?_eq_getElem g];rfl
  rw[List.getElem?_eq_getElem (by omega)]at d;injection d
 have m:(eH b (gQ b).1)[p]=qf b ((gQ b).1.filter xJ)[p]:=by
  have d:(eH b (gQ b).1)[p]? =some (qf b ((gQ b).1.filter xJ)[p]):=by
   unfold eH;rw[List.getElem?_map,List.getElem?_eq_getElem g];rfl
  rw[List.getElem?_eq_getElem f]at d;injection d
 rw[l,m];exact axG ((Ee hl).1 _ (List.mem_filter.1 (aI g)).1)
theorem Wp (hl:a.length+b.length+1<=10000) (v:Whl a) (hb:Whl b):Whl (a++10::b):=by
 obtain⟨K,Z⟩:=ass hl v.o v.b v.p;have L:=(Ee (s:=a) (by omega)).1;have D:=yF (s:=a) (by omega);have I:=yF (s:=b) (by omega);have i:=yF (s:=a++10::b) (by rw[ae,az];omega);obtain⟨ma,pa,ca⟩:=v.c;obtain⟨mb,pb,cb⟩:=hb.c;have sA:=PK D pa ca;have sB:=PK I pb cb;have M:a++10::b=(a++[10])++b:=by rw[ag];rfl
 have N:(a++[10]).length=a.length+1:=by rw[ae];rfl
 have O: ∀(T:List Tok) (t:Tok),t.2.2.2.1=false->(gQ (a++10::b)).1=T++t::(gQ b).1.map (VA (a.length+1))->(wM (gQ (a++10::b)).1).2.2.2.1=false:=fun T t m e=>by
  rw[e];rcases List.eq_nil_or_concat (gQ b).1 with h|⟨r,u,h⟩
  .rw[h,aV,uk];exact m
  .rw[List.concat_eq_append]at h;have:=hb.o;rw[h,uk]at this;rw[h,aZ,ay,aV,<-bz,<-ag,uk];exact this
 have bb:(gQ (a++10::b)).2.2.2.1=false:=by rw[K];exact hb.b
 have pp:(gQ (a++10::b)).2.2.1=[]:=by rw[K];exact hb.p
 have S:ShF (eH (a++10::b) (gQ (a++10::b)).1)->(wM (gQ (a++10::b)).1).2.2.2.1=false->Whl (a++10::b):=fun h o=>⟨o,bb,pp,QD i h⟩;rcases Z with e|⟨q,f,U,⟨u,t,e2,e3⟩,e⟩
 .refine S ?_ (O _ _ rfl e);have g:eH (a++10::b) (gQ (a++10::b)).1=(eH a (gQ a).1++[(2,[10],(a.length:Int),((a.length+1:Nat):Int),())])++eH ((a++[10])++b) ((gQ b).1.map (VA (a++[10]).length)):=by
   rw[e,N,<-M,show ∀(x:Tok) (l:List Tok),x::l=[x]++l from fun _ _=>rfl,zy,zy,Uz L,ag];congr 2;have:qf (a++10::b) (2,(a.length:Int),((a.length+1:Nat):Int),false,())=(2,[10],(a.length:Int),((a.length+1:Nat):Int),()):=by
    unfold qf sub;simp only[aX];rw[List.take_append,bD (by omega),show a.length+1-a.length=1 by omega,List.drop_left' rfl];rfl
   rw[<-this];rfl
  generalize eH (a++10::b) (gQ (a++10::b)).1=G at g i ⊢;obtain⟨y,z⟩:=al0 (A:=eH a (gQ a).1++[(2,[10],(a.length:Int),((a.length+1:Nat):Int),())]) I i (by omega) (a++[10]) g;rw[ae,aA]at y z;have V:G[(eH a (gQ a).1).length]'(by omega)=(2,[10],(a.length:Int),((a.length+1:Nat):Int),()):=by
   have d:G[(eH a (gQ a).1).length]? =some (2,[10],(a.length:Int),((a.length+1:Nat):Int),()):=by
    rw[g,ag,List.getElem?_append_right (af _),Nat.sub_self];rfl
   rw[List.getElem?_eq_getElem (by omega)]at d;injection d
  have W:qo G (eH a (gQ a).1).length=110:=by
   rw[BX (by omega),V];rfl
  have ab:dW G (eH a (gQ a).1).length [110]=true:=by
   unfold dW;rw[W,decide_eq_true (by omega)];rfl
  have J:Cf True (eH a (gQ a).1) G 0:=⟨D,i,fun p j=>⟨by omega,by
    have d:G[p]? =some ((eH a (gQ a).1)[p]):=by
     rw[g,ag,List.getElem?_append_left j,List.getElem?_eq_getElem j]
    rw[List.getElem?_eq_getElem (by omega)]at d;injection d with d
    simp only[aW];rw[d];exact⟨rfl,rfl⟩⟩,fun _=>.inr W,fun _=>by
    simp only[aW];unfold qX;rw[dif_pos (by omega),V];rfl,fun _ _ _=>trivial,by omega⟩
  exact alv (e0:=1) (.inl trivial) J y z (.inr ⟨rfl,ab⟩) sA sB
 .refine S ?_ (O _ _ rfl e);have X: ∀(s:List UInt8) (t:Tok),t.1=7->eH s [t]=[]:=fun s t m=>by
   unfold eH;rw[List.filter_cons_of_neg (by simp[xJ,m]),List.filter_nil];rfl
  have ad: ∀t∈q,OkT a t:=fun t m=>L t (by rw[U];exact bJ _ m);have eF:eH a (gQ a).1=eH a q:=by
   rw[U,zy,X _ _ rfl,aG]
  have g:eH (a++10::b) (gQ (a++10::b)).1=eH a (gQ a).1++eH ((a++[10])++b) ((gQ b).1.map (VA (a++[10]).length)):=by
   rw[e,eF,N,<-M,show ∀(x:Tok) (l:List Tok),x::l=[x]++l from fun _ _=>rfl,zy,zy,Uz ad,X _ _ rfl,aQ]
  have Y:K2 (eH a (gQ a).1) ((eH a (gQ a).1).length-1):=by
   have d:eH a (gQ a).1=u.map (qf a)++[qf a t]:=by
    unfold eH;rw[e2,aZ];rfl
   rw[d];refine⟨by rw[ae,aA];omega, ?_⟩;have B:(u.map (qf a)++[qf a t])[(u.map (qf a)++[qf a t]).length-1]? =some (qf a t):=by
    rw[ae,aA,Nat.add_sub_cancel,List.getElem?_append_right (af _),Nat.sub_self];rfl
   rw[List.getElem?_eq_getElem (by rw[ae,aA];omega)]at B;injection B with B
   rw[B];exact e3
  generalize eH (a++10::b) (gQ (a++10::b)).1=G at g i ⊢;obtain⟨y,z⟩:=al0 (A:=eH a (gQ a).1) I i (by omega) (a++[10]) g;have J:Cf False (eH a (gQ a).1) G 0:=⟨D,i,fun p j=>⟨by omega,by
    have d:G[p]? =some ((eH a (gQ a).1)[p]):=by
     rw[g,List.getElem?_append_left j,List.getElem?_eq_getElem j]
    rw[List.getElem?_eq_getElem (by omega)]at d;injection d with d
    simp only[aW];rw[d];exact⟨rfl,rfl⟩⟩,fun h=>h.elim,fun h=>h.elim,fun p j hs=>hs (by
    rw[show p=(eH a (gQ a).1).length-1 by omega];exact Y.sg),by omega⟩
  exact alv (e0:=0) (.inr Y) J y z (.inl rfl) sA sB
end
theorem aoH:Whl []:=by
 have d:=yF (s:=[]) (by simp);exact⟨rfl,rfl,rfl,QD d (.inl rfl)⟩
end
section
open Option renaming some → a6, none → a7
open Tryz
open Go.RowKit
def N8 (d:List DL):=gW d (0,(0,(0,(false,())))) (fO .i64 (bV d) 1)
def awZ (e:dC) (d:List DL) (f:Int) (g:DJ) (i:Bool) (j:List gJ) (l:List gI):Option (taT×(DL×Bool×Unit)):=cond (cZ (bV d) 0) (a6 ((e,(d,(f,(g,(i,(j,(l,()))))))),((0,(0,(0,(false,())))),(false,()))))<|cond (iy d (fO .i64 (bV d) 1)) (cond (!(N8 d).2.2.2.1) (a6 ((e,(d,(f,(g,(i,(j,(l,()))))))),((0,(0,(0,(false,())))),(false,()))))<|cond (iy d (fO .i64 (bV d) 1)) (a6 ((e,(d,(f,(g,(i,(j,(l,()))))))),(((N8 d).1,((N8 d).2.1,((N8 d).2.2.1,((N8 d).2.2.2.1,())))),(true,())))) a7) a7
def aHa:gu:=⟨44,tzF,[],[YI,.bool],fun x y=>awZ x.1 x.2.1 x.2.2.1 x.2.2.2.1 x.2.2.2.2.1 x.2.2.2.2.2.1 x.2.2.2.2.2.2.1⟩
theorem auR:dV prog 11 aHa:=qB [] aN
noncomputable def afV:Code:=(f47.body).getD .skip
noncomputable def DU:Code:=(f62.body).getD .skip
noncomputable def ac7:Code:=cA (cA (cB (afV)))
def ad4:fZ:=⟨[0,5,6,7,48000001],[(300000200,.pair (.list .unit) dL)],[],[],[],[]⟩
def anl:fZ:=⟨[2,4],[],[],[],[],[]⟩
def XO:fZ:=⟨[0,3,4,5,6,7],[],[],[],[],[]⟩
def MF:SQ:=⟨us [.yld 3700007,.u,.u,.u,.u,cG,bL,bL] 19,b9,cy⟩
def OL:SQ:=⟨us [] 27,b9,cy⟩
def OT:SQ:=⟨us [] 27,b9,[]⟩
def IB {g:Type} (p:(List gI)->Int->Int->(List gI)->(List gI)->lq->(List gI)->Option g) (q:(List gI)->(List gI)->lq->(List gI)->Option g) (u:(List gI)->(List gI)->Option g) (e:List gI) (i d:Int) (j l:List gI) (f:lq) (m:List gI):Option g:=cond (iV d i) (cond (iy e d) (cond (cZ (gW e (0,(0,(0,(0,())))) d).1 17) (cond (fG (bZ f [d]) 8) (p e i (dJ .i64 d 1) j l (bZ f [d]) m) a7)<|cond (cZ (gW e (0,(0,(0,(0,())))) d).1 18) (cond (fG (bZ f [d]) 8) (p e i (dJ .i64 d 1) j l (bZ f [d]) m) a7)<|p e i (dJ .i64 d 1) j l f m) a7)<|q j l f m
def yJ:Nat->(List gI)->Int->Int->(List gI)->(List gI)->lq->(List gI)->Option (OL.den⊕OT.den)
 |0,_,_,_,_,_,_,_=>a7
 |n+1,d,e,f,g,i,j,l=>IB (yJ n) (fun m p q u=>a6 (.inl ((),((),(),(),(m,p,()),(),()),((),q,(),(u,()),())))) (fun v x=>a6 (.inr ((),((),(),(),(v,x,()),(),()),()))) d e f g i j l
def anx (n:Nat) (v:MF.den):=yJ n v.1.1 v.1.2.1 v.1.2.2.1 v.2.1.2.2.2.1.1 v.2.1.2.2.2.1.2.1 v.2.2.2.1 v.2.2.2.2.2.1.1
noncomputable def XU:dO:=gq ad4 MF OL OT (.exit 0) (anx bY) 6
def aw4 (d:List gI):Option (lq×Unit):=bU (yJ bY d (bV d) 0 d d [] d) fun e=>dX e (fun f=>a6 (f.2.2.2.1,())) (fun g=>a7)
def aAq:Sum:=⟨[.list og],[(.list dL,false)],fun x=>aw4 x.1⟩
noncomputable def aiF:Env:=iE prog tt [] [(47,1,ad4),(62,500003,anl),(25,600001,sN),(47,600003,XO),(35,600001,sN)] [(47,1,XU)] [62]
def Yk {d:Type} (a:MF.den->Option d) (b:OL.den->Option d) (c:OT.den->Option d) (v:MF.den):Option d:=IB (fun e f g i j l m=>a ((e,f,g,()),((),(),(),(i,j,()),(),()),((),l,(),(m,()),()))) (fun p q u x=>b ((),((),(),(),(p,q,()),(),()),((),u,(),(x,()),()))) (fun y z=>c ((),((),(),(),(y,z,()),(),()),())) v.1.1 v.1.2.1 v.1.2.2.1 v.2.1.2.2.2.1.1 v.2.1.2.2.2.1.2.1 v.2.2.2.1 v.2.2.2.2.2.1.1
theorem anG:eY aiF 47 ac7 XU:=oq (Yk) (h2:=by intros;simp only[Yk,IB,dG,dH,bT,dw,dI])
theorem asz:eP aiF 47 afV:=tC [ac7] (aD (fM (anG)) aN)
theorem asn:kX DU=[]:=by kernel_rfl
theorem atQ:lC DU=[(cA (cA (cB (cA (cB (DU))))),cB (cA (cB (cA (cB (DU))))))]:=by kernel_rfl
theorem asA:eP aiF 62 DU:=tH DU (by rw[atQ];exact(aD (fun _=>(show uB 62 3=a6 (cA (cA (cB (cA (cB (DU))))),cB (cA (cB (cA (cB (DU)))))) by kernel_rfl)) aN)) (by rw[asn];exact aN)
theorem aqe:gm aiF:=eB aN [47,62] (aD ⟨f47,afV,by kernel_rfl,by kernel_rfl,asz⟩ (aD ⟨f62,DU,by kernel_rfl,by kernel_rfl,asA⟩ aN))
theorem avn:eX prog 25 aAq:=sA aqe
noncomputable def b12:Code:=(f12.body).getD .skip
noncomputable def azi:Code:=cA (cA (cB (cA (cB (b12)))))
def azN:fZ:=⟨[0,9,10,11,100002],[],[],[],[2],[]⟩
def akk:SQ:=⟨us [co,.u,.u,.u,.u,.u,.u,.u,.u,.v (.list dL),bL,bL] 29,cY,[cD]⟩
def ahc:SQ:=⟨us [] 41,cY,[cD]⟩
def ahy:SQ:=⟨us [.u,.u,bX] 38,cY,[cD]⟩
def ace {i:Type} (x:lq->Int->Int->dC->(List DL)->Int->DJ->Bool->(List gJ)->(List gI)->Option i) (y:dC->(List DL)->Int->DJ->Bool->(List gJ)->(List gI)->Option i) (u:Bool->dC->(List DL)->Int->DJ->Bool->(List gJ)->(List gI)->Option i) (f:lq) (v e:Int) (j:dC) (l:List DL) (m:Int) (p:DJ) (q:Bool) (g:List gJ) (d:List gI):Option i:=cond (iV e v) (cond (iy f e) (cond (iy d (gW f 0 e)) (cond (cZ (gW d (0,(0,(0,(0,())))) (gW f 0 e)).1 17) (u true j l m p q g d)<|cond (iy d (gW f 0 e)) (cond (iV (gW d (0,(0,(0,(0,())))) (gW f 0 e)).2.1 (bV g)) (u true j l m p q g d)<|x f v (dJ .i64 e 1) j l m p q g d) a7) a7) a7)<|y j l m p q g d
def Ol:Nat->lq->Int->Int->dC->(List DL)->Int->DJ->Bool->(List gJ)->(List gI)->Option (ahc.den⊕ahy.den)
 |0,_,_,_,_,_,_,_,_,_,_=>a7
 |n+1,d,e,f,g,i,j,l,m,p,q=>ace (Ol n) (fun u v x y z A B=>a6 (.inl ((),((),()),((u,v,x,y,z,A,B,()),())))) (fun D I J K L M N O=>a6 (.inr ((D,()),((),()),((I,J,K,L,M,N,O,()),())))) d e f g i j l m p q
def aCF (n:Nat) (v:akk.den):=bw (Ol n) v
noncomputable def asK:dO:=gq azN akk ahc ahy (.exit 0) (aCF bY) 6
def arf (i:dC) (j:List DL) (l:Int) (m:DJ) (p:Bool) (q:List gJ) (f:List gI):Option (taT×xy):=bU (aw4 f) fun g=>bU (Ol bY g.1 (bV g.1) 0 i j l m p q f) fun u=>dX u (fun e=>a6 ((e.2.2.1.1,(e.2.2.1.2.1,(e.2.2.1.2.2.1,(e.2.2.1.2.2.2.1,(e.2.2.1.2.2.2.2.1,(e.2.2.1.2.2.2.2.2.1,(e.2.2.1.2.2.2.2.2.2.1,()))))))),(false,()))) (fun d=>a6 ((d.2.2.1.1,(d.2.2.1.2.1,(d.2.2.1.2.2.1,(d.2.2.1.2.2.2.1,(d.2.2.1.2.2.2.2.1,(d.2.2.1.2.2.2.2.2.1,(d.2.2.1.2.2.2.2.2.2.1,()))))))),(d.1.1,())))
def aHb:gu:=⟨44,tzF,[],[.bool],fun x y=>arf x.1 x.2.1 x.2.2.1 x.2.2.2.1 x.2.2.2.2.1 x.2.2.2.2.2.1 x.2.2.2.2.2.2.1⟩
noncomputable def ap3:Env:=iE prog tt [(25,aAq)] [(12,2,azN)] [(12,2,asK)] []
def at6 {d:Type} (a:akk.den->Option d) (b:ahc.den->Option d) (c:ahy.den->Option d) (v:akk.den):Option d:=bw (ace (fun e f g i j l m p q u=>a ((e,f,g,()),((),()),((i,j,l,m,p,q,u,()),()))) (fun x y z A B D I=>b ((),((),()),((x,y,z,A,B,D,I,()),()))) (fun J K L M N O S U=>c ((J,()),((),()),((K,L,M,N,O,S,U,()),())))) v
theorem aDf:eY ap3 12 azi asK:=oq (at6) (h2:=by intros;simp only[at6,bw,ace,dG,dH,bT,dw,dI])
theorem aGt:eP ap3 12 b12:=tC [azi] (aD (fM (aDf)) aN)
theorem ap4:gm ap3:=eB (aD avn aN) [12] (aD ⟨f12,b12,by kernel_rfl,by kernel_rfl,aGt⟩ aN)
theorem auU:dV prog 12 aHb:=sB ap4
noncomputable def b13:Code:=(f13.body).getD .skip
noncomputable def afT:Code:=(f47.body).getD .skip
noncomputable def ac5:Code:=cA (cA (cB (afT)))
def ad2:fZ:=⟨[0,5,6,7,48000001],[],[],[],[],[]⟩
def aB0:fZ:=⟨[2],[],[],[],[],[]⟩
def aBW:fZ:=⟨[0,2],[],[],[],[],[]⟩
def Me:SQ:=⟨us [.yld 1700005,.u,.u,.u,.u,cG,bL,bL] 19,[cz,[.yld 1700005],[]],cW⟩
def OH:SQ:=⟨us [] 27,[cz,[.yld 1700005],[]],cW⟩
def OM:SQ:=⟨us [] 27,[cz,[.yld 1700005],[]],[.lp 1700005 13 (cz) [5] 2 1 (a6 .ret),ej,.box 1000002 4 [bX]]⟩
def Iw {g:Type} (m:(List gI)->Int->Int->(List gI)->Bool->Option g) (p i:(List gI)->Bool->Option g) (e:List gI) (j d:Int) (f:List gI) (l:Bool):Option g:=cond (iV d j) (cond (iy e d) (cond (cZ (gW e (0,(0,(0,(0,())))) d).1 17) (i f false)<|cond (cZ (gW e (0,(0,(0,(0,())))) d).1 18) (i f false)<|m e j (dJ .i64 d 1) f l) a7)<|p f l
def yG:Nat->(List gI)->Int->Int->(List gI)->Bool->Option (OH.den⊕OM.den)
 |0,_,_,_,_,_=>a7
 |n+1,d,e,f,g,i=>Iw (yG n) (fun j l=>a6 (.inl ((),((),(),(),()),((),(j,()),(l,()),())))) (fun m p=>a6 (.inr ((),((),(),(),()),((),(m,()),(p,()),())))) d e f g i
def anu (n:Nat) (v:Me.den):=yG n v.1.1 v.1.2.1 v.1.2.2.1 v.2.2.2.1.1 v.2.2.2.2.1.1
noncomputable def XR:dO:=gq ad2 Me OH OM (.exit 0) (anu bY) 6
def arh (d:List gI):Option xy:=bU (yG bY d (bV d) 0 d false) fun e=>dX e (fun g=>a6 (true,())) (fun f=>a6 (f.2.2.2.2.1.1,()))
def aHc:Sum:=⟨[.list og],YK,fun x=>arh x.1⟩
noncomputable def aiC:Env:=iE prog tt [] [(47,1,ad2),(13,500002,aB0),(13,600001,aBW),(47,600003,XO)] [(47,1,XR)] [13]
def Yh {d:Type} (a:Me.den->Option d) (b:OH.den->Option d) (c:OM.den->Option d) (v:Me.den):Option d:=Iw (fun e f g i j=>a ((e,f,g,()),((),(),(),()),((),(i,()),(j,()),()))) (fun l m=>b ((),((),(),(),()),((),(l,()),(m,()),()))) (fun p q=>c ((),((),(),(),()),((),(p,()),(q,()),()))) v.1.1 v.1.2.1 v.1.2.2.1 v.2.2.2.1.1 v.2.2.2.2.1.1
theorem anD:eY aiC 47 ac5 XR:=oq (Yh) (h2:=by intros;simp only[Yh,Iw,dG,dH,bT,dw,dI])
theorem aGq:kX b13=[]:=by kernel_rfl
theorem aG3:lC b13=[(cA (cA (cB (cA (cB (b13))))),cB (cA (cB (cA (cB (b13))))))]:=by kernel_rfl
theorem aGu:eP aiC 13 b13:=tH b13 (by rw[aG3];exact(aD (fun _=>(show uB 13 2=a6 (cA (cA (cB (cA (cB (b13))))),cB (cA (cB (cA (cB (b13)))))) by kernel_rfl)) aN)) (by rw[aGq];exact aN)
theorem asx:eP aiC 47 afT:=tC [ac5] (aD (fM (anD)) aN)
theorem ap5:gm aiC:=eB aN [13,47] (aD ⟨f13,b13,by kernel_rfl,by kernel_rfl,aGu⟩ (aD ⟨f47,afT,by kernel_rfl,by kernel_rfl,asx⟩ aN))
theorem auW:eX prog 13 aHc:=sA ap5
def ajf (d:(taT×(DL×Bool×Unit))):Option Fb:=bU (arf d.1.1 d.1.2.1 d.1.2.2.1 d.1.2.2.2.1 d.1.2.2.2.2.1 d.1.2.2.2.2.2.1 d.1.2.2.2.2.2.2.1) fun e=>cond e.2.1 (a6 (3,()))<|bU (arh e.1.2.2.2.2.2.2.1) fun f=>cond (!f.1) (a6 (2,()))<|some (1,())
def fn6 (f:dC):Option Fb:=bU (aw2 f) fun e=>bU (aw3 f e.1) fun g=>bU (TZ g.1) fun i=>bU (awZ f e.1 e.2.1.1 e.2.1.2.1 e.2.1.2.2.1 g.1 i.1) fun d=>cond d.2.2.1 (cond d.2.2.1 (a6 (2,()))<|ajf d)<|cond d.1.2.2.2.2.1 (cond d.1.2.2.2.2.1 (a6 (2,()))<|ajf d)<|cond (iV 0 (bV d.1.2.2.2.1)) (a6 (2,()))<|ajf d
def aHj:Sum:=⟨[.str],Xg,fun x=>fn6 x.1⟩
theorem ay5:eX prog 6 aHj:=qC [(6,600001,sN)] (sE auW (sE afp (sE afq (sE afr aN)))) (sF auR (sF auU aN))
end
section
open Option renaming some → a6, none → a7
open Bool renaming not_false → aF, true_and → aS
open List renaming length_append → ae, append_assoc → ag, length_cons → az, length_singleton → aA, drop_eq_getElem_cons → aH, getElem_mem → aI, drop_of_length_le → aO, nil_append → aQ, all_cons → bn
open Nat renaming le_refl → af
open Go.RowKit
def isF (n:Nd):Bool:=decide (n.1=17)||decide (n.1=18)
def oz:Nat->List Nd->List Int
 |_,[]=>[]
 |k,n::l=>if isF n=true then(k:Int)::oz (k+1) l else oz (k+1) l
theorem PO: ∀(l:List Nd) (k:Nat),(oz k l).length<=l.length
 |[],_=>af _
 |n::l,k=>by
  rw[oz];have:=PO l (k+1)
  grind
theorem Fz: ∀(l:List Nd) (k:Nat),∀i∈oz k l,(k:Int)<=i/\i<k+l.length
 |[],k,i,h=>by cases h
 |n::l,k,i,h=>by
  rw[oz]at h;rw[az];split at h
  .rcases List.mem_cons.1 h with h|h
   .subst h;omega
   .have:=Fz l (k+1) i h;omega
  .have:=Fz l (k+1) i h;omega
theorem FB (l a b c:List Nd) (hl:l.length<1000000): ∀(N k:Nat) (d:List Int),l.length-k<N->k<=l.length->d.length<=k->
  yJ N l (bV l) (k:Int) a b d c=a6 (.inl ((),((),(),(),(a,b,()),(),()),((),d++oz k (l.drop k),(),(c,()),())))
 |0,k,d,h,_,_=>by omega
 |N+1,k,d,h,hk,m=>by
  rw[yJ,IB];by_cases e:k<l.length
  .have g:gW l (0,(0,(0,(0,())))) (k:Int)=l[k]:=by
    simp_all [gW]
   have i:dJ .i64 (k:Int) 1=((k+1:Nat):Int):=by grind [dD]
   have j:fG (bZ d [(k:Int)]) 8=true:=ug (by grind [bZ]);have f:=FB l a b c hl N (k+1) (d++[(k:Int)]) (by omega) (by omega) (by simp_all);have no:=FB l a b c hl N (k+1) d (by omega) (by omega) (by omega);rw[dn (fQ (by rw[cu];omega)),dn (fD),g,j,i,aH e,oz];unfold isF;simp only[aa];by_cases h1:l[k].1=17
   .rw[dn (gz h1),am (by simp[h1]),show bZ d [(k:Int)]=d++[(k:Int)] from rfl,f,ag];rfl
   .rw[dY (fB h1)];by_cases h2:l[k].1=18
    .rw[dn (gz h2),am (by simp[h2]),show bZ d [(k:Int)]=d++[(k:Int)] from rfl,f,ag];rfl
    simp_all [fB]
  simp_all [iL,cu,aO,oz]
theorem aoR {l:List Nd} (hl:l.length<1000000):aw4 l=a6 (oz 0 l,()):=by
 have h:=FB l l l l hl bY 0 [] (di) (by omega) (by simp);rw[aw4,show yJ bY l (bV l) 0 l l [] l=_ from h,bT];simp only[dX,List.drop_zero,aQ]
def Bh (l:List Nd):Bool:=l.all fun n=> !isF n
theorem Tm (l:List Nd) (hl:l.length<1000000) (a:List Nd) (b:Bool): ∀(N k:Nat),l.length-k<N->k<=l.length->
  yG N l (bV l) (k:Int) a b=a6 (if Bh (l.drop k)=true then .inl ((),((),(),(),()),((),(a,()),(b,()),()))else .inr ((),((),(),(),()),((),(a,()),(false,()),())))
 |0,k,h,_=>by omega
 |N+1,k,h,hk=>by
  rw[yG,Iw];by_cases e:k<l.length
  .have d:gW l (0,(0,(0,(0,())))) (k:Int)=l[k]:=by
    simp_all [gW]
   have f:dJ .i64 (k:Int) 1=((k+1:Nat):Int):=by grind [dD]
   rw[dn (fQ (by rw[cu];omega)),dn (fD),d,f,aH e,Tm l hl a b N (k+1) (by omega) (by omega)];unfold Bh;rw[bn];by_cases h1:l[k].1=17
   .simp_all [gz,isF]
   .rw[dY (fB h1)];by_cases h2:l[k].1=18
    .simp_all [gz,isF]
    .rw[dY (fB h2),show isF l[k]=false by simp[isF,h1,h2],aF,aS]
  .rw[dY (iL (by rw[cu];omega)),aO (by omega)];rfl
theorem awf {l:List Nd} (hl:l.length<1000000):arh l=a6 (Bh l,()):=by
 have h:=Tm l hl l false bY 0 (di) (by omega);rw[arh,show yG bY l (bV l) 0 l false=_ from h,bT,List.drop_zero];cases Bh l with
 |true=>rfl
 |false=>rfl
def ao5 (f:List Lf) (n:Nd):Bool:=decide (n.1=17)||decide (n.2.1<bV f)
def EW (f:List Lf) (l:List Nd):Bool:=l.any fun n=>isF n&&ao5 f n
theorem TL (f:List Lf): ∀(l pre:List Nd),(oz pre.length l).any (fun i=>ao5 f (gW (pre++l) dNd i))=EW f l
 |[],pre=>rfl
 |n::l,pre=>by
  have d:=TL f l (pre++[n]);rw[ae,aA,ag,List.singleton_append]at d;rw[oz];unfold EW at*;rw[List.any_cons];by_cases h:isF n=true
  .have e:gW (pre++n::l) dNd (pre.length:Int)=n:=by
    simp_all [gW]
   simp_all
  simp_all
theorem Wx (f:List Lf) (l:List Nd) (s:dC) (T:List Tok) (a:Int) (p:List Dlm) (b:Bool) (F:List Int) (hF: ∀i∈F,0<=i/\i<l.length) (hl:F.length<1000000): ∀(N k:Nat),F.length-k<N->k<=F.length->
  Ol N F (bV F) (k:Int) s T a p b f l=a6 (if(F.drop k).any (fun i=>ao5 f (gW l dNd i))=true then .inr ((true,()),((),()),((s,T,a,p,b,f,l,()),()))else .inl ((),((),()),((s,T,a,p,b,f,l,()),())))
 |0,k,h,_=>by omega
 |N+1,k,h,hk=>by
  rw[Ol,ace];by_cases e:k<F.length
  .have d:gW F 0 (k:Int)=F[k]:=by
    simp_all [gW]
   have g:dJ .i64 (k:Int) 1=((k+1:Nat):Int):=by grind [dD]
   obtain⟨j,m⟩:=hF _ (aI e);rw[dn (fQ (by rw[cu];omega)),dn (fD),d,g,Wx f l s T a p b F hF hl N (k+1) (by omega) (by omega),aH e,List.any_cons];have q:iy l F[k]=true:=fD j m;simp only[q,aa];unfold ao5;rw[show(0,(0,(0,(0,()))))=dNd from rfl];by_cases h1:(gW l dNd F[k]).1=17
   .simp_all [gz]
   .rw[dY (fB h1)];by_cases h2:(gW l dNd F[k]).2.1<bV f
    .simp_all [fQ]
    .rw[dY (iL h2)]
     grind
  simp_all [iL,cu,aO]
theorem aza (f:List Lf) {l:List Nd} (hl:l.length<1000000) (s:dC) (T:List Tok) (a:Int) (p:List Dlm) (b:Bool):
  arf s T a p b f l=a6 ((s,(T,(a,(p,(b,(f,(l,()))))))),(EW f l,())):=by
 have g:=PO l 0;have h:=Wx f l s T a p b (oz 0 l) (fun i d=>by have:=Fz l 0 i d;omega) (by omega) bY 0 (di) (by omega);have e:(oz 0 l).any (fun i=>ao5 f (gW l dNd i))=EW f l:=TL f l [];rw[arf,aoR hl,bT];simp only;rw[show Ol bY (oz 0 l) (bV (oz 0 l)) 0 s T a p b f l=_ from h,bT,List.drop_zero,e];cases EW f l with
 |true=>rfl
 |false=>rfl
theorem ayN (s:dC) (T:List Tok) (hT:T.length<1000000) (a:Int) (p:List Dlm) (b:Bool) (f:List Lf) (l:List Nd):
  awZ s T a p b f l=a6 ((s,(T,(a,(p,(b,(f,(l,()))))))),((if(wM T).2.2.2.1=true then wM T else(0,(0,(0,(false,()))))),((wM T).2.2.2.1,()))):=by
 (rewrite [awZ];delta N8)
 rcases List.eq_nil_or_concat T with h|⟨r,t,h⟩
 .subst h;rfl
 .rw[List.concat_eq_append]at h;subst h;rw[ae]at hT;obtain⟨e,d,g⟩:=asj r t (by omega);rw[dY (fB (by grind [cu])),d,aa,uk]
  grind
def VJ (f:List Lf) (l:List Nd):Int:=if EW f l=true then 3 else if Bh l=true then 1 else 2
def VK (u:dC) (l:List Nd):Int:=if(wM (gQ u).1).2.2.2.1=true then 2 else if(gQ u).2.2.2.1=true then 2 else if 0<(gQ u).2.2.1.length then 2 else VJ (eH u (gQ u).1) l
theorem awk {u:List UInt8} (d:u.length<=10000) {l:List Nd} (hp:TZ (eH u (gQ u).1)=a6 (l,())) (hl:l.length<1000000):fn6 u=a6 (VK u l,()):=by
 have hT:=(Ee d).2.2
 (rewrite [fn6];delta ajf;rw[aFu d,bT])
 simp only;rw[aoT d,bT];simp only;rw[hp,bT];simp only;rw[ayN u _ (by omega),bT];unfold VK;simp only;have f:(bU (arf u (gQ u).1 (gQ u).2.1 (gQ u).2.2.1 (gQ u).2.2.2.1 (eH u (gQ u).1) l) fun e=>
   bif e.2.1 then a6 (3,())else bU (arh e.1.2.2.2.2.2.2.1) fun g=>bif !g.1 then a6 (2,())else a6 ((1:Int),()))=a6 (VJ (eH u (gQ u).1) l,()):=by
  rw[aza _ hl,bT];unfold VJ;simp only;cases EW (eH u (gQ u).1) l with
  |true=>rfl
  |false=>
   rw[ac,awf hl,bT,aq (by simp)]
   grind
 cases (wM (gQ u).1).2.2.2.1 with
 |true=>rfl
 |false=>
  rw[ac,aq (by simp)];generalize i:(gQ u).2.2.2.1=bd at f ⊢;cases bd with
  |true=>rfl
  |false=>
   rw[ac,aq (by simp)];by_cases h:0<(gQ u).2.2.1.length
   .simp_all [fQ,cu]
   simp_all [nS,cu]
end
section
open Bool renaming false_eq_true → ai, not_eq_true' → bu
open List renaming mem_cons_of_mem → aB, length_nil → aY
open Go.RowKit
theorem ajk (n:Nd):isF n=false↔n.1≠17/\n.1≠18:=by
 unfold isF;rw[Bool.or_eq_false_iff,decide_eq_false_iff_not,decide_eq_false_iff_not]
theorem Xo (x:Int×Int×Int×Unit) (m:List Nd):Bh ((1,x)::m)=true↔wo m:=by
 unfold Bh wo;rw[List.all_eq_true];constructor
 .intro h n d;have:=h n (aB _ d);rw[bu]at this;exact(ajk n).1 this
 .intro h n d;rw[bu];rcases List.mem_cons.1 d with e|e
  .rw[e];rfl
  .exact(ajk n).2 (h n e)
theorem adb (f:List Lf) {l:List Nd} (h:Bh l=true):EW f l=false:=by
 unfold Bh at h;unfold EW;rw[List.all_eq_true]at h;rw[List.any_eq_false];intro n d;have:=h n d;rw[bu]at this;rw[this];simp
theorem A8 {u:List UInt8} (f:u.length<=10000): ∃k:Int,fn6 u=some (k,())/\(k=1↔Whl u):=by
 obtain⟨l,g,_,B,m,i,_⟩:=aDG f;have D:=(yF f).1;refine⟨VK u l,awk f g (by omega), ?_⟩;constructor
 .intro h;unfold VK at h;split at h
  .exact absurd h (by decide)
  .rename_i v
   split at h
   .exact absurd h (by decide)
   .rename_i z
    split at h
    .exact absurd h (by decide)
    .rename_i j
     unfold VJ at h;split at h
     .exact absurd h (by decide)
     .split at h
      .rename_i d
       rw[i]at d;refine⟨by simpa using v,by simpa using z, ?_,m,by rw[g,i],(Xo _ m).1 d⟩;rcases hq:(gQ u).2.2.1 with _|⟨x,y⟩
       .rfl
       .rw[hq]at j;simp at j
      .exact absurd h (by decide)
 .rintro ⟨o,b,p,A,e,d⟩;rw[g]at e;injection e with e
  injection e with e _
  unfold VK;rw[o,b,p];simp only[ai,if_false,aY,Nat.lt_irrefl];unfold VJ;have q:Bh l=true:=by rw[e];exact(Xo _ A).2 d
  rw[adb _ q,q];simp
end
section
open Option renaming some → a6, none → a7
open Nat renaming eq_of_beq_eq_true → ax
open Tryz
open Go.RowKit
noncomputable def aFT (sg:FuncId->Option Sum):Env:={P:=prog,T:=tt,cl:=true,kp:=fun _ _=>a7,sg:=sg,lp:=fun _ _=>a7,bf:=Ls}
theorem awQ {sg:FuncId->Option Sum} (h: ∀g s,sg g=a6 s->eX prog g s):gm (aFT sg):=⟨tok,mixed,Qi,h,fun f fn c _ _=>kY (fun _=>rfl) (fun _=>rfl) c,ae9 _ fun f fn c _ _=>kY (fun _=>rfl) (fun _=>rfl) c,Tj,fun _ _ h=>by cases h⟩
theorem auH {sg:FuncId->Option Sum} (h: ∀g s,sg g=a6 s->eX prog g s) {f:FuncId} {d:Sum} (i:eX prog f d): ∀g s,(bif Nat.beq g f then a6 d else sg g)=a6 s->eX prog g s:=fun g s e=>by
 rw[cond_eq_ite]at e;split at e
 .rename_i j
  obtain rfl:g=f:=ax j;cases e;exact i
 .exact h g s e
noncomputable def aAe (g:FuncId):Option Sum:=cond (Nat.beq g 22) (a6 aAn)<|sg2 g
theorem auE: ∀g s,aAe g=a6 s->eX prog g s:=auH aDV afp
noncomputable def aAf (g:FuncId):Option Sum:=cond (Nat.beq g 23) (a6 aAo)<|aAe g
theorem auF: ∀g s,aAf g=a6 s->eX prog g s:=auH auE afq
noncomputable def aAg (g:FuncId):Option Sum:=cond (Nat.beq g 24) (a6 aAp)<|aAf g
theorem auG: ∀g s,aAg g=a6 s->eX prog g s:=auH auF afr
theorem al4:O0 (aFT aAg) 5 [] YK ()=a6 (true,()):=by kernel_rfl
def V3:Sum:=⟨[],YK,fun _=>a6 (true,())⟩
theorem Xd:eX prog 5 V3:=V4 (awQ auG) (by decide) fun x y h=>by
 cases h;exact al4
end
section
open Tryz
open Go.RowKit
def fn4 (d e:dC):Option xy:=cond (iV 60 (bV d)) (some (true,()))<|cond (iV 60 (bV e)) (some (true,()))<|bU (fn6 d) fun f=>cond (!(cZ f.1 1)) (some (true,()))<|cond (jf d [10]) (bU (fn6 (bZ d [10])) fun g=>cond (!(cZ g.1 1)) (some (false,()))<|bU (fn6 e) fun i=>cond (!(cZ i.1 1)) (some (true,()))<|cond (jf d [10]) (cond (jf (bZ d [10]) e) (bU (fn6 (bZ (bZ d [10]) e)) fun j=>some ((cZ j.1 1),())) none) none) none
def aEQ:Sum:=⟨[.str,.str],YK,fun x=>fn4 x.1 x.2.1⟩
noncomputable def aFS:Env:=kU prog tt 4 [(5,V3),(6,aHj)] [] []
theorem aiI:gm aFS:=eA Tryz.f4 (aD Xd (aD ay5 aN))
theorem aIb:eX prog 4 aEQ:=sA aiI
end
section
open Bool renaming not_true → au
open List renaming length_append → ae, append_assoc → ag, length_cons → az, length_singleton → aA, length_nil → aY
open Go.RowKit
theorem atW {a b:List UInt8} (h:a.length+b.length<=140737488355328):jf a b=true:=by
 grind [jf,nC]
theorem aso (a b:List UInt8):fn4 a b=some (true,()):=by
 rw[fn4];by_cases ha:a.length<=60
 .rw[dY (nS (by rw[cu];omega))];by_cases hb:b.length<=60
  .rw[dY (nS (by rw[cu];omega))];obtain⟨e,f,g⟩:=A8 (u:=a) (by omega);rw[f,bT];simp only;by_cases h0:e=1
   .have d:=g.1 h0;obtain⟨k1,i,j⟩:=A8 (u:=a++[10]) (by rw[ae,aA];omega);have l:=j.2 (Wp (b:=[]) (by rw[aY];omega) d aoH);obtain⟨k2,m,p⟩:=A8 (u:=b) (by omega);have q:jf a [10]=true:=atW (by rw[aA];omega);rw[gz h0,au,ac,q,aa,show bZ a [10]=a++[10] from rfl,i,bT];simp only;rw[gz l,au,ac,m,bT];simp only;by_cases h2:k2=1
    .obtain⟨k3,v,x⟩:=A8 (u:=a++10::b) (by rw[ae,az];omega);have y:=x.2 (Wp (by omega) d (p.1 h2));have z:jf (a++[10]) b=true:=atW (by rw[ae,aA];omega);rw[gz h2,au,ac,aa,z,aa,show bZ (a++[10]) b=a++10::b from by unfold bZ;rw[ag];rfl,v,bT,gz y]
    .rw[fB h2];rfl
   .rw[fB h0];rfl
  .rw[dn (fQ (by rw[cu];omega))]
 .rw[dn (fQ (by rw[cu];omega))]
end
end Go.Proofs.YtjegbhogodknhaaGreatDoor
