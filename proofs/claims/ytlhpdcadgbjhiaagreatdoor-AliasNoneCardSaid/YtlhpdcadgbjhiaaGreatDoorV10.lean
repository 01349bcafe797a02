/- Parts of the proof, joined and shortened by a program: the plain machine, the functions as it prints them, and the mathematics over them. -/
import Derived.Test.YtlhpdcadgbjhiaaGreatDoorV3
import Derived.Test.YtlhpdcadgbjhiaaGreatDoorV9
set_option linter.unusedVariables false
set_option linter.unusedSimpArgs false
set_option maxRecDepth 100000
set_option maxHeartbeats 4000000
namespace Go.Proofs.YtlhpdcadgbjhiaaGreatDoor
section
open Option renaming some → a6, none → a7
open Tryz
open Go.RowKit
noncomputable def b61:Code:=(f61.body).getD .skip
noncomputable def aoh:Code:=cA (cA (cB (cA (cB (cB (cA (cB (b61))))))))
def aoy:dW:=⟨[0,7,8,100004],[],[],[],[2],[]⟩
def acV:SP:=⟨us [bL,.u,.u,.u,.u,.u,.u,bX,bX] 13,[]⟩
def aaU:SP:=⟨us [] 22,[]⟩
def aaZ:SP:=⟨us [.u,.u,ci] 19,[]⟩
def VS {f:Type} (i:bH->Int->Int->Option f) (j:Option f) (g:Bool->Option f) (e:bH) (h d:Int):Option f:=cond (gY d h) (cond (gm e d) (aZ (aim (bU e d)) fun l=>cond l.1 (cond (gm e d) (cond (!(bC (bU e d) 47)) (i e h (bV .i64 d 1))<|g false) a7)<|g false) a7) j
def Ip:Nat->bH->Int->Int->Option (aaU.den⊕aaZ.den)
 |0,_,_,_=>a7
 |n+1,d,e,f=>VS (Ip n) (a6 (.inl ((),()))) (fun g=>a6 (.inr ((g,()),()))) d e f
def aqC (n:Nat) (v:acV.den):=Ip n v.1.1 v.1.2.1 v.1.2.2.1
noncomputable def ajw:dA:=jb aoy acV aaU aaZ (.exit 0) (aqC bD) 6
def aad (d:bH):Option o8:=cond (iG d []) (a6 (false,()))<|aZ (Ip bD d (bi d) 0) fun e=>dB e (fun g=>a6 (true,())) (fun f=>a6 (f.1.1,()))
def aoR:Sum:=⟨[.str],Wl,fun x=>aad x.1⟩
noncomputable def ahE:Env:=oC prog tt 61 [(91,aoV)] [(4,aoy)] [(4,ajw)]
def akk {d:Type} (a:acV.den->Option d) (b:aaU.den->Option d) (c:aaZ.den->Option d) (v:acV.den):Option d:=VS (fun e f g=>a ((e,f,g,()),())) (b ((),())) (aE c) v.1.1 v.1.2.1 v.1.2.2.1
theorem aqO:dU ahE 61 aoh ajw:=lpS (akk) (h2:=by intros;simp only[akk,aE,VS,di,dm,aY,bZ,dn])
theorem atj:dL ahE 61 b61:=zL [aoh] (aD (fM (aqO)) aN)
theorem ahF:eP ahE:=eA f61 (aD alm aN) (atj)
theorem alh:dO prog 61 aoR:=sA ahF
def amc (e:Int) (f:bH):Option o8:=cond (bC e 1) (cond (bC e 1) (aZ (aac f) fun d=>a6 (d.1,()))<|cond (bC e 2) (cond (bC e 2) (aZ (aad f) fun d=>a6 (d.1,()))<|some (false,()))<|cond (bC e 4) (aZ (aad f) fun d=>a6 (d.1,()))<|some (false,()))<|cond (bC e 3) (aZ (aac f) fun d=>a6 (d.1,()))<|cond (bC e 2) (cond (bC e 2) (aZ (aad f) fun d=>a6 (d.1,()))<|some (false,()))<|cond (bC e 4) (aZ (aad f) fun d=>a6 (d.1,()))<|some (false,())
def aoP:Sum:=⟨[bW,.str],Wl,fun x=>amc x.1 x.2.1⟩
noncomputable def asF:Env:=oC prog tt 35 [(60,alg),(61,aoR)] [] []
theorem ahx:eP asF:=eA f35 (aD OZ (aD alh aN))
theorem alb:dO prog 35 aoP:=sA ahx
def asO (d e:bH):Option EO:=a6 ((aeb d e),())
def aoW:Sum:=⟨[.str,.str],tzD,fun x=>asO x.1 x.2.1⟩
noncomputable def asI:Env:=oC prog tt 97 [(131,V3)] [] []
theorem ahK:eP asI:=eA f97 (aD (RN func131 (by kernel_rfl) (by kernel_rfl) (by kernel_rfl) (by kernel_rfl)) aN)
theorem aln:dO prog 97 aoW:=sA ahK
def amf (d e:bH):Option EO:=aZ (asO d e) fun f=>a6 (f.1,())
def aoS:Sum:=⟨[.str,.str],tzD,fun x=>amf x.1 x.2.1⟩
noncomputable def asH:Env:=oC prog tt 64 [(97,aoW)] [] []
theorem ahG:eP asH:=eA f64 (aD aln aN)
theorem ali:dO prog 64 aoS:=sA ahG
noncomputable def ZB:Code:=(f62.body).getD .skip
noncomputable def WE:Code:=cA (cA (cA (cB (cB (cB (ZB))))))
def XK:dW:=⟨[0,1,2,8,9,10,63000003],[],[0,1,2,8,9],[],[6,7],[]⟩
def ap3:dW:=⟨[0,1],[],[],[],[],[]⟩
def afb:dW:=⟨[0,1,2,8,9,10,11],[],[],[],[],[]⟩
def afc:dW:=⟨[0,1,2,8,9],[],[],[],[],[]⟩
def GL:SQ:=⟨us [.slc 1,bL,.fn 63 [],.u,.u,.u,.u,.u,bX,bX,bX] 38,[cE,bs],[cH,d8]⟩
def II:SQ:=⟨us [.slc 1,bL,.fn 63 [],.u,.u,.u,.u,.u,bX,bX] 39,[cE,bs],[cH,d8]⟩
def IM:SQ:=⟨us [] 49,[cE,bs],[]⟩
def CX {g:Type} (p:bH->Int->Int->Int->bH->bH->Int->(List oU)->Option g) (q:bH->Int->Int->bH->bH->Int->(List oU)->Option g) (u:bH->bH->Option g) (h:bH) (i d e:Int) (j l:bH) (o:Int) (f:List oU):Option g:=cond (gY d e) (cond (leI 0 1) (cond (gm f (BK .i64 (OJ .u64 (BK .u64 (bV .i64 d e)) 1))) (cond (mV (bP (BK .i64 (OJ .u64 (BK .u64 (bV .i64 d e)) 1))) f) (aZ (amf (cO f ([],([],())) (bP (BK .i64 (OJ .u64 (BK .u64 (bV .i64 d e)) 1)))).1 h) fun s=>cond (gY s.1 0) (p h i (bV .i64 (BK .i64 (OJ .u64 (BK .u64 (bV .i64 d e)) 1)) 1) e j l o f)<|p h i d (BK .i64 (OJ .u64 (BK .u64 (bV .i64 d e)) 1)) j l o f) a7) a7) a7)<|q h i d j l o f
def tN:Nat->bH->Int->Int->Int->bH->bH->Int->(List oU)->Option (II.den⊕IM.den)
 |0,_,_,_,_,_,_,_,_=>a7
 |n+1,d,e,f,g,h,i,j,l=>CX (tN n) (fun o p q s u v x=>a6 (.inl ((o,p,q,()),((s,u,()),(),()),((v,()),x,())))) (fun y z=>a6 (.inr ((),((y,z,()),(),()),()))) d e f g h i j l
def afn (n:Nat) (v:GL.den):=tN n v.1.1 v.1.2.1 v.1.2.2.1 v.1.2.2.2.1 v.2.1.1.1 v.2.1.1.2.1 v.2.2.1.1 v.2.2.2.1
noncomputable def QO:dA:=eH XK GL II IM (.exit 0) (afn bD) 6
def aij (g:Int) (e:List oU) (f:bH):Option ((Int×(List oU)×Unit)×(Int×Bool×Unit)):=aZ (tN bD f (bi e) 0 (bi e) f f g e) fun h=>dB h (fun d=>cond (gY d.1.2.2.1 d.1.2.1) (cond (gm d.2.2.2.1 d.1.2.2.1) (cond (mV (bP d.1.2.2.1) d.2.2.2.1) (aZ (amf (cO d.2.2.2.1 ([],([],())) (bP d.1.2.2.1)).1 d.1.1) fun i=>a6 ((d.2.2.1.1,(d.2.2.2.1,())),(d.1.2.2.1,((bC i.1 0),())))) a7) a7)<|some ((d.2.2.1.1,(d.2.2.2.1,())),(d.1.2.2.1,(false,())))) (fun j=>a7)
def alc:fF:=⟨79,tzE,[.str],[bW,.bool],fun x y=>aij x.1 x.2.1 y.1⟩
noncomputable def ahy:Env:=fK prog tt [(64,aoS)] [(62,3,XK),(36,600001,ap3),(62,600005,afb),(62,600008,afc)] [(62,3,QO)] []
def Ro {d:Type} (a:GL.den->Option d) (b:II.den->Option d) (c:IM.den->Option d) (v:GL.den):Option d:=CX (fun e f g h i j l o=>a ((e,f,g,h,()),((i,j,()),(),()),((l,()),o,()))) (fun p q s u x y z=>b ((p,q,s,()),((u,x,()),(),()),((y,()),z,()))) (fun A B=>c ((),((A,B,()),(),()),())) v.1.1 v.1.2.1 v.1.2.2.1 v.1.2.2.2.1 v.2.1.1.1 v.2.1.1.2.1 v.2.2.1.1 v.2.2.2.1
theorem afw:dU ahy 62 WE QO:=lN (Ro) (h2:=by intros;simp only[Ro,CX,di,dm,aY,bZ,dn])
theorem ajk:dL ahy 62 ZB:=zL [WE] (aD (fM (afw)) aN)
theorem ahz:eP ahy:=eB (aD ali aN) [62] (aD ⟨f62,ZB,by kernel_rfl,by kernel_rfl,ajk⟩ aN)
theorem Za:dJ prog 36 alc:=sB ahz
def ama (e:Int) (f:List oU) (g h:bH):Option ((Int×(List oU)×Unit)×EO):=aZ (amc e g) fun i=>cond (!i.1) (a6 ((e,(f,())),(5,())))<|cond (gY 65536 (bi h)) (a6 ((e,(f,())),(2,())))<|aZ (aij e f g) fun d=>cond d.2.2.1 (cond (gm d.1.2.1 d.2.1) (cond (mV (bP d.2.1) d.1.2.1) (a6 ((d.1.1,((gp d.1.2.1 (bP d.2.1) ((cO d.1.2.1 ([],([],())) (bP d.2.1)).1,(h,()))),())),(0,()))) a7) a7)<|cond (leI 10000 (bi d.1.2.1)) (a6 ((d.1.1,(d.1.2.1,())),(12,())))<|cond ((leI 0 d.2.1)&&((leI d.2.1 (bi d.1.2.1))&&(dZ d.1.2.1 64))) (a6 ((d.1.1,((ae2 d.1.2.1 (bP d.2.1) [(g,(h,()))]),())),(0,()))) a7
def akT:fF:=⟨79,tzE,[.str,.str],[bW],fun x y=>ama x.1 x.2.1 y.1 y.2.1⟩
noncomputable def asB:Env:=fK prog tt [(35,aoP)] [] [] [] [(36,alc)]
theorem ahq:eP asB:=eB (aD alb aN) [] aN (hx:=(aD Za aN))
theorem Y8:dJ prog 18 akT:=sB ahq
def ame (e:Int) (f:List oU) (g:bH):Option ((Int×(List oU)×Unit)×(bH×Bool×Unit)):=aZ (aij e f g) fun d=>cond (!d.2.2.1) (a6 ((d.1.1,(d.1.2.1,())),([],(false,()))))<|cond (gm d.1.2.1 d.2.1) (cond (mV (bP d.2.1) d.1.2.1) (a6 ((d.1.1,(d.1.2.1,())),((cO d.1.2.1 ([],([],())) (bP d.2.1)).2.1,(true,())))) a7) a7
def alf:fF:=⟨79,tzE,[.str],[.str,.bool],fun x y=>ame x.1 x.2.1 y.1⟩
noncomputable def asG:Env:=fK prog tt [] [] [] [] [(36,alc)]
theorem ahC:eP asG:=eB aN [] aN (hx:=(aD Za aN))
theorem Zb:dJ prog 43 alf:=sB ahC
def aih (e:Int) (f:List oU) (g:bH):Option ((Int×(List oU)×Unit)×(bH×Bool×Unit)):=aZ (ame e f g) fun d=>a6 ((d.1.1,(d.1.2.1,())),(d.2.1,(d.2.2.1,())))
def adN:fF:=⟨79,tzE,[.str],[.str,.bool],fun x y=>aih x.1 x.2.1 y.1⟩
noncomputable def asC:Env:=fK prog tt [] [] [] [] [(43,alf)]
theorem ahu:eP asC:=eB aN [] aN (hx:=(aD Zb aN))
theorem OY:dJ prog 24 adN:=sB ahu
end
end Go.Proofs.YtlhpdcadgbjhiaaGreatDoor
