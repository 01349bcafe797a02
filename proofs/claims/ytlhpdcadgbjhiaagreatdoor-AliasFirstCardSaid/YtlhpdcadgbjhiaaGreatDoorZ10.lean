/- Parts of the proof, joined and shortened by a program: the plain machine, the functions as it prints them, and the mathematics over them. -/
import Derived.Test.YtlhpdcadgbjhiaaGreatDoorZ3
import Derived.Test.YtlhpdcadgbjhiaaGreatDoorZ4
import Derived.Test.YtlhpdcadgbjhiaaGreatDoorZ5
import Derived.Test.YtlhpdcadgbjhiaaGreatDoorZ6
import Derived.Test.YtlhpdcadgbjhiaaGreatDoorZ7
import Derived.Test.YtlhpdcadgbjhiaaGreatDoorZ8
import Derived.Test.YtlhpdcadgbjhiaaGreatDoorZ9
set_option linter.unusedVariables false
set_option linter.unusedSimpArgs false
set_option maxRecDepth 100000
set_option maxHeartbeats 4000000
namespace Go.Proofs.YtlhpdcadgbjhiaaGreatDoor
section
open Option renaming some → a6, none → a7
open Tryz
open Go.RowKit
def DT (d:Int):Option qG:=bJ (SE d) fun e=>cond (bV e.1 5) (a6 (true,()))<|cond (bV e.1 6) (a6 (true,()))<|some ((leI 128 d),())
def adL (d:Int):Option qG:=cond (bV d 37) (cond (bV d 37) (a6 (true,()))<|DT d)<|cond (bV d 43) (cond (bV d 43) (a6 (true,()))<|DT d)<|cond (bV d 44) (cond (bV d 44) (a6 (true,()))<|DT d)<|cond (bV d 45) (cond (bV d 45) (a6 (true,()))<|DT d)<|cond (bV d 46) (cond (bV d 46) (a6 (true,()))<|DT d)<|cond (bV d 47) (cond (bV d 47) (a6 (true,()))<|DT d)<|cond (bV d 58) (cond (bV d 58) (a6 (true,()))<|DT d)<|cond (bV d 64) (a6 (true,()))<|DT d
def axY:Sum:=⟨[.int .u8],LG,fun x=>adL x.1⟩
theorem afK:dR prog 91 axY:=qA f91 [] (sE uj aN)
noncomputable def aqD:Code:=(f124.body).getD .skip
noncomputable def xA:Code:=cB (cA (cB (cA (cB (aqD)))))
def xJ:eQ:=⟨[4,900018],[],[],[],[2],[]⟩
def Eh:SP:=⟨us [.u,.u,.u,.u,b9] 16,[]⟩
def qw:SP:=⟨us [] 21,[]⟩
def qx:SP:=⟨us [.u,.u,b9] 18,[]⟩
def CW {d:Type} (e:Option d) (f:Bool->Option d) (g:Bool):Option d:=cond g (f true) e
def gU (d:Bool):Option (qw.den⊕qx.den):=CW (a6 (.inl ((),()))) (fun e=>a6 (.inr ((e,()),()))) d
noncomputable def Kr:dE:=fU xJ Eh qw qx (.exit 999999) (fun v=>gU v.1.1) 6
def kX (d:qw.den⊕qx.den):Option qG:=dW d (fun f=>a6 (false,())) (fun e=>a6 (e.1.1,()))
def ajj (d:bZ):Option qG:=cond (fP d [33]) (bJ (gU (fP d [33])) fun e=>kX e)<|cond (fP d [123]) (bJ (gU (fP d [123])) fun e=>kX e)<|cond (fP d [125]) (bJ (gU (fP d [125])) fun e=>kX e)<|cond (fP d [99,97,115,101]) (bJ (gU (fP d [99,97,115,101])) fun e=>kX e)<|cond (fP d [100,111]) (bJ (gU (fP d [100,111])) fun e=>kX e)<|cond (fP d [100,111,110,101]) (bJ (gU (fP d [100,111,110,101])) fun e=>kX e)<|cond (fP d [101,108,105,102]) (bJ (gU (fP d [101,108,105,102])) fun e=>kX e)<|cond (fP d [101,108,115,101]) (bJ (gU (fP d [101,108,115,101])) fun e=>kX e)<|cond (fP d [101,115,97,99]) (bJ (gU (fP d [101,115,97,99])) fun e=>kX e)<|cond (fP d [102,105]) (bJ (gU (fP d [102,105])) fun e=>kX e)<|cond (fP d [102,111,114]) (bJ (gU (fP d [102,111,114])) fun e=>kX e)<|cond (fP d [105,102]) (bJ (gU (fP d [105,102])) fun e=>kX e)<|cond (fP d [105,110]) (bJ (gU (fP d [105,110])) fun e=>kX e)<|cond (fP d [116,104,101,110]) (bJ (gU (fP d [116,104,101,110])) fun e=>kX e)<|cond (fP d [117,110,116,105,108]) (bJ (gU (fP d [117,110,116,105,108])) fun e=>kX e)<|bJ (gU (fP d [119,104,105,108,101])) fun e=>kX e
def aGp:Sum:=⟨[.str],LG,fun x=>ajj x.1⟩
noncomputable def LV:Env:=iO prog tt 124 [] [(800018,xJ)] [(800018,Kr)]
theorem UW {R:Type} (d:Nat) (K:Ex->St->Option R) (e:Bool):
  iter (a6 xJ) (Bg (xn LV (d+6) 124 xA)) 1 (jV Eh ((e,()),())) K=
   CW (K (.exit 999999) (jV qw ((),()))) (fun f=>K .ret (jV qx ((f,()),()))) e:=by kernel_rfl
theorem Y8 {R:Type} (d:Nat) (K:Ex->St->Option R) (e:Bool):
  iter (a6 xJ) (Bg (xn LV (d+6) 124 xA)) 1 (jV Eh ((e,()),())) K=bJ (gU e) fun o=>dW o (fun a=>K (.exit 999999) (jV qw a)) fun b=>K .ret (jV qx b):=by
  rw[UW];simp only[gU,CW,dh,di,bI,cZ,dm]
  try simp only[dW]
theorem ZF:sH LV 124 xA Kr:=DI (by kernel_rfl) fun R d K v o h=>⟨1,(Y8 d K (v.1.1)).trans (congrArg (fun o=>bJ o _) h)⟩
theorem aEs:jC aqD=[]:=by kernel_rfl
theorem aDR:FI LV 124 aqD=[xA]:=by kernel_rfl
theorem aEG:dO LV 124 aqD:=xM aqD (fun x _ d=>absurd (show false=true from d) (by decide)) (by rw[aEs];exact aN) (BH (by rw[aDR];exact(aD (fC (by kernel_rfl) (ZF)) aN)))
theorem anm:eF LV:=eA f124 aN (aEG)
theorem apm:dR prog 124 aGp:=sA anm
def azf (d:bZ):Option qG:=bJ (ajj d) fun e=>cond e.1 (a6 (true,()))<|cond (!(fP d [])) (bJ (zO d 0) fun f=>a6 ((bV f.1 (bM d)),()))<|some (false,())
def aC8:Sum:=⟨[.str],LG,fun x=>azf x.1⟩
theorem axZ:dR prog 92 aC8:=qA f92 [] (sE apm (sE NL aN))
noncomputable def b57:Code:=(Tryz.f57.body).getD .skip
noncomputable def aB0:Code:=cA (cA (cB (cA (cB (cB (cB (b57)))))))
def aCr:eQ:=⟨[0,3,8,9,100005],[],[3],[],[2],[]⟩
def aEo:eQ:=⟨[0,3,8,9],[],[],[],[],[]⟩
def aj9:eQ:=⟨[0,3,4,8,9],[],[],[],[],[]⟩
def alh:SP:=⟨us [bO,.u,.u,cg,.u,.u,.u,.u,bR,bR] 27,[bS,cy]⟩
def ahT:SP:=⟨us [.u,.u,.u,cg] 33,[bS,cy]⟩
def aie:SP:=⟨us eK 34,[]⟩
def EN {g:Type} (f:jg) (d:bZ) (e:Int) (i:bZ->Int->Int->jg->Option g) (j:Int):Option g:=cond (dY (bT f [92]) 1) (cond (fV d e) (cond (dY (bT (bT f [92]) [(bY d e)]) 1) (i d j (dw .i64 e 1) (bT (bT f [92]) [(bY d e)])) a7) a7) a7
def AC {f:Type} (d:bZ) (e:Int) (g:jg) (i:bZ->Int->Int->jg->Option f) (j:Int):Option f:=cond (fV d e) (cond (dY (bT g [(bY d e)]) 1) (i d j (dw .i64 e 1) (bT g [(bY d e)])) a7) a7
def UU {j:Type} (i:bZ->Int->Int->jg->Option j) (o:jg->Option j) (q:bZ->Option j) (e:bZ) (g d:Int) (f:jg):Option j:=cond (gY d g) (cond (fV e d) (cond (bV (bY e d) 10) (cond (dY (bT f (dA [39,10,39])) 1) (i e g (dw .i64 d 1) (bT f (dA [39,10,39]))) a7)<|cond (fV e d) (bJ (adL (bY e d)) fun l=>cond (!l.1) (cond (!l.1) (EN f e d i g)<|AC e d f i g)<|cond (bV d 0) (bJ (azf e) fun p=>cond p.1 (EN f e d i g)<|AC e d f i g)<|AC e d f i g) a7) a7)<|o f
def BR:Nat->bZ->Int->Int->jg->Option (ahT.den⊕aie.den)
 |0,_,_,_,_=>a7
 |n+1,d,e,f,g=>UU (BR n) (fun i=>a6 (.inl ((),((),i,())))) (fun j=>a6 (.inr ((j,()),()))) d e f g
def aFr (n:Nat) (v:alh.den):=BR n v.1.1 v.1.2.1 v.1.2.2.1 v.2.2.1
noncomputable def au5:dE:=fU aCr alh ahT aie (.exit 0) (aFr bQ) 6
def ay8 (d:bZ):Option taU:=cond (fP d []) (a6 ([39,39],()))<|bJ (BR bQ d (bM d) 0 []) fun f=>dW f (fun e=>cond (bV (bM e.2.2.1) (bM e.2.2.1)) (a6 ((ofBytes e.2.2.1),())) a7) (fun g=>a6 (g.1.1,()))
def aKD:Sum:=⟨[.str],tzF,fun x=>ay8 x.1⟩
noncomputable def ass:Env:=gz prog tt [(91,axY),(92,aC8)] [(57,5,aCr),(57,600008,aEo),(57,600011,aj9),(57,600012,aj9),(57,600014,PO),(90,600001,rH),(93,600001,rH)] [(57,5,au5)] []
def awc {d:Type} (a:alh.den->Option d) (b:ahT.den->Option d) (c:aie.den->Option d) (v:alh.den):Option d:=UU (fun e f g i=>a ((e,f,g,()),((),i,()))) (fun j=>b ((),((),j,()))) (aE c) v.1.1 v.1.2.1 v.1.2.2.1 v.2.2.1
theorem aFV:dV ass 57 aB0 au5:=xh (awc) (h2:=by intros;simp only[awc,aE,UU,dh,di,bI,cZ,dm,EN,AC])
theorem aJ1:dO ass 57 b57:=nM [aB0] (aD (fM (aFV)) aN)
theorem ast:eF ass:=eB (aD afK (aD axZ aN)) [57] (aD ⟨Tryz.f57,b57,by kernel_rfl,by kernel_rfl,aJ1⟩ aN)
theorem axN:dR prog 57 aKD:=sA ast
def ay9 (e:bZ):Option taU:=bJ (Xx e [39] [39,92,39,39]) fun d=>cond (gV [39] d.1) (a6 ((bT [39] d.1),())) a7
def aKE:Sum:=⟨[.str],tzF,fun x=>ay9 x.1⟩
theorem axO:dR prog 58 aKE:=qA f58 [] (sE afN aN)
noncomputable def b59:Code:=(f59.body).getD .skip
noncomputable def aB1:Code:=cA (cA (cB (cA (cB (cB (cB (b59)))))))
def aCs:eQ:=⟨[0,3,7,8,100004],[],[3],[],[2],[]⟩
def aka:eQ:=⟨[0,3,4,7,8],[],[],[],[],[]⟩
def ali:SP:=⟨us [bO,.u,.u,cg,.u,.u,.u,bR,bR] 17,[bS,cy]⟩
def ahU:SP:=⟨us [.u,.u,.u,cg] 22,[bS,cy]⟩
def aif:SP:=⟨us eK 23,[]⟩
def AL {g:Type} (f:jg) (d:bZ) (e:Int) (i:bZ->Int->Int->jg->Option g) (j:Int):Option g:=cond (dY (bT f [92]) 1) (cond (fV d e) (cond (dY (bT (bT f [92]) [(bY d e)]) 1) (i d j (dw .i64 e 1) (bT (bT f [92]) [(bY d e)])) a7) a7) a7
def AO {f:Type} (d:bZ) (e:Int) (g:jg) (i:bZ->Int->Int->jg->Option f) (j:Int):Option f:=cond (fV d e) (cond (dY (bT g [(bY d e)]) 1) (i d j (dw .i64 e 1) (bT g [(bY d e)])) a7) a7
def acv {j:Type} (i:bZ->Int->Int->jg->Option j) (l:jg->Option j) (o:bZ->Option j) (e:bZ) (f d:Int) (g:jg):Option j:=cond (gY d f) (cond (fV e d) (cond (bV (bY e d) 36) (cond (bV (bY e d) 36) (AL g e d i f)<|AO e d g i f)<|cond (bV (bY e d) 96) (cond (bV (bY e d) 96) (AL g e d i f)<|AO e d g i f)<|cond (bV (bY e d) 34) (cond (bV (bY e d) 34) (AL g e d i f)<|AO e d g i f)<|cond (bV (bY e d) 92) (AL g e d i f)<|AO e d g i f) a7)<|l g
def IA:Nat->bZ->Int->Int->jg->Option (ahU.den⊕aif.den)
 |0,_,_,_,_=>a7
 |n+1,d,e,f,g=>acv (IA n) (fun i=>a6 (.inl ((),((),i,())))) (fun j=>a6 (.inr ((j,()),()))) d e f g
def aFs (n:Nat) (v:ali.den):=IA n v.1.1 v.1.2.1 v.1.2.2.1 v.2.2.1
noncomputable def au6:dE:=fU aCs ali ahU aif (.exit 0) (aFs bQ) 6
def aza (e:bZ):Option taU:=cond (dY (bT [] [34]) 1) (bJ (IA bQ e (bM e) 0 (bT [] [34])) fun f=>dW f (fun d=>cond (bV (bM d.2.2.1) (bM d.2.2.1)) (a6 ((ofBytes d.2.2.1),())) a7) (fun g=>a6 (g.1.1,()))) a7
def aKF:Sum:=⟨[.str],tzF,fun x=>aza x.1⟩
noncomputable def asu:Env:=gz prog tt [] [(59,4,aCs),(59,600002,aj7),(59,600011,aka),(59,600012,aka),(59,600014,PO),(93,600001,rH)] [(59,4,au6)] []
def awd {d:Type} (a:ali.den->Option d) (b:ahU.den->Option d) (c:aif.den->Option d) (v:ali.den):Option d:=acv (fun e f g i=>a ((e,f,g,()),((),i,()))) (fun j=>b ((),((),j,()))) (aE c) v.1.1 v.1.2.1 v.1.2.2.1 v.2.2.1
theorem aFW:dV asu 59 aB1 au6:=xh (awd) (h2:=by intros;simp only[awd,aE,acv,dh,di,bI,cZ,dm,AL,AO])
theorem aJ2:dO asu 59 b59:=nM [aB1] (aD (fM (aFW)) aN)
theorem asv:eF asu:=eB aN [59] (aD ⟨f59,b59,by kernel_rfl,by kernel_rfl,aJ2⟩ aN)
theorem axP:dR prog 59 aKF:=sA asv
def ay3 (e:bZ) (i:Int) (f:Bool):Option taU:=bJ (ay8 e) fun g=>cond (bV i 4) (bJ (ay9 e) fun d=>cond f (cond (gV d.1 [39]) (a6 ((bT d.1 [39]),())) a7)<|some (d.1,()))<|cond (bV i 5) (bJ (aza e) fun d=>cond f (cond (gV d.1 [34]) (a6 ((bT d.1 [34]),())) a7)<|some (d.1,()))<|cond f (cond (gV g.1 []) (a6 ((bT g.1 []),())) a7)<|some (g.1,())
def aCT:Sum:=⟨[.str,dC,.bool],tzF,fun x=>ay3 x.1 x.2.1 x.2.2.1⟩
theorem axD:dR prog 34 aCT:=qA f34 [] (sE axN (sE axO (sE axP aN)))
noncomputable def b15:Code:=(Tryz.f15.body).getD .skip
noncomputable def aBO:Code:=cA (cA (cB (cA (cB (cB (cA (cB (b15))))))))
def aCh:eQ:=⟨[0,3,7,8,9,100003],[],[3],[],[2],[]⟩
def ak5:SP:=⟨us [bO,.u,.u,bO,.u,.u,.u,.slc 1000007,bR,bR] 18,[.arr 1000007 dC]⟩
def ahI:SP:=⟨us [.u,.u,.u,bO] 24,[]⟩
def ah3:SP:=⟨us eK 25,[]⟩
def UM {j:Type} (l:bZ->bZ->Int->Int->jg->Option j) (p q:bZ->Option j) (f g:bZ) (i d:Int) (e:jg):Option j:=cond (gY d i) (cond (fV e d) (cond (mi (dD d) e) (bJ (ay3 f (dK e 0 (dD d)) true) fun o=>cond (!(fP g [])) (cond (leI (bM g) (bM o.1)) (l f g i (dw .i64 d 1) e)<|l f o.1 i (dw .i64 d 1) e)<|l f o.1 i (dw .i64 d 1) e) a7) a7)<|p g
def uo:Nat->bZ->bZ->Int->Int->jg->Option (ahI.den⊕ah3.den)
 |0,_,_,_,_,_=>a7
 |n+1,d,e,f,g,i=>UM (uo n) (fun j=>a6 (.inl ((j,()),()))) (fun l=>a6 (.inr ((l,()),()))) d e f g i
def aFf (n:Nat) (v:ak5.den):=bh (uo n) v
noncomputable def auT:dE:=fU aCh ak5 ahI ah3 (.exit 0) (aFf bQ) 6
def ayY (d:bZ):Option taU:=bJ (uo bQ d [] (bM [0,4,5]) 0 [0,4,5]) fun e=>dW e (fun f=>a6 (f.1.1,())) (fun g=>a6 (g.1.1,()))
def aCO:Sum:=⟨[.str],tzF,fun x=>ayY x.1⟩
noncomputable def arO:Env:=iO prog tt 15 [(34,aCT)] [(3,aCh)] [(3,auT)]
def avX {d:Type} (a:ak5.den->Option d) (b:ahI.den->Option d) (c:ah3.den->Option d) (v:ak5.den):Option d:=bh (UM (fun e f g i j=>a ((e,f,g,i,()),(j,()))) (aE b) (aE c)) v
theorem aFJ:dV arO 15 aBO auT:=xh (avX) (h2:=by intros;simp only[avX,aE,bh,UM,dh,di,bI,cZ,dm])
theorem aJN:dO arO 15 b15:=nM [aBO] (aD (fM (aFJ)) aN)
theorem arP:eF arO:=eA Tryz.f15 (aD axD aN) (aJN)
theorem aw2:dR prog 15 aCO:=sA arP
def ay2 (d:Int):Option qG:=bJ (SH d) fun e=>cond (bV e.1 5) (a6 (true,()))<|bJ (SH d) fun f=>cond (bV f.1 6) (a6 (true,()))<|cond (gY 127 d) (a6 (true,()))<|bJ (GN d [37,43,44,45,46,47,58,64]) fun g=>a6 (g.1,())
def aCS:Sum:=⟨[.int .u8],LG,fun x=>ay2 x.1⟩
theorem axC:dR prog 33 aCS:=qA f33 [] (sE ES (sE ET aN))
end
section
open Bool renaming and_eq_true → af, not_true → ax, not_false → az, true_and → aK
open List renaming append_assoc → ai, length_cons → aG, drop_of_length_le → aO, drop_zero → aS, all_cons → aW, takeWhile_cons → bz
open Nat renaming le_refl → ae
open Go.RowKit
def Dq (c:UInt8):Bool:=match adL (c.toNat:Int)with
 |some (b,_)=>b
 |none=>false
def aKo:Bool:=(List.range 256).all fun b=>match adL (b:Int)with
 |some _=>true
 |none=>false
theorem awk:aKo=true:=by kernel_rfl
theorem awl (c:UInt8):adL (c.toNat:Int)=some (Dq c,()):=by
 have h:=List.all_eq_true.1 awk c.toNat (List.mem_range.2 (by have:=c.toNat_lt;omega));split at h
 .rename_i x d
  unfold Dq;rw[d]
 .cases h
def aGd:Bool:=(List.range 256).all fun b=>match adL (b:Int),ay2 (b:Int),GN (b:Int) [36,96,34,92]with
 |some (x,_),some (y,_),some (z,_)=>(x==y)&&(z==(bV b 36||(bV b 96||(bV b 34||bV b 92))))
 |_,_,_=>false
theorem aBq:aGd=true:=by kernel_rfl
theorem aBp (c:UInt8):adL (c.toNat:Int)=some (Dq c,())/\ay2 (c.toNat:Int)=some (Dq c,())/\GN (c.toNat:Int) [36,96,34,92]=some ((bV (c.toNat:Int) 36||(bV (c.toNat:Int) 96||(bV (c.toNat:Int) 34||bV (c.toNat:Int) 92))),()):=by
 have h:=List.all_eq_true.1 aBq c.toNat (List.mem_range.2 (by have:=c.toNat_lt;omega));split at h
 .rename_i x u y v k w d e f
  simp only[af,beq_iff_eq]at h;unfold Dq;simp_all
 .cases h
theorem aJI {c n:UInt8} (h:c=n):bV (c.toNat:Int) (n.toNat:Int)=true:=gq (by rw[h])
theorem aJH {c n:UInt8} (h:c≠n):bV (c.toNat:Int) (n.toNat:Int)=false:=dZ fun e=>h (UInt8.toNat_inj.1 (by omega))
def abZ (s:bZ):Bool:=uZ.contains s
theorem aDt {s:List UInt8} (d:s.length<=2000000):atj s=some (abZ s,()):=by
 by_cases h:uZ.contains s=true
 .unfold abZ;rw[h];rcases Zy h with rfl|rfl|rfl|rfl|rfl|rfl|rfl|rfl|rfl|rfl|rfl|rfl|rfl|rfl|rfl|rfl<;>kernel_rfl
 grind [abZ,abU]
theorem af4 (s:bZ):ajj s=some (abZ s,()):=by
 by_cases h:uZ.contains s=true
 .unfold abZ;rw[h];rcases Zy h with rfl|rfl|rfl|rfl|rfl|rfl|rfl|rfl|rfl|rfl|rfl|rfl|rfl|rfl|rfl|rfl<;>kernel_rfl
 .have f:uZ.contains s=false:=by simpa using h
  have d: ∀w∈uZ,fP s w=false:=fun w g=>uu fun e=>by simp_all
  unfold abZ;(rewrite [f,ajj];delta kX);simp only[d [33] (by decide),d [123] (by decide),d [125] (by decide),d [99,97,115,101] (by decide),d [100,111] (by decide),d [100,111,110,101] (by decide),d [101,108,105,102] (by decide),d [101,108,115,101] (by decide),d [101,115,97,99] (by decide),d [102,105] (by decide),d [102,111,114] (by decide),d [105,102] (by decide),d [105,110] (by decide),d [116,104,101,110] (by decide),d [117,110,116,105,108] (by decide),d [119,104,105,108,101] (by decide),ac];rfl
theorem alD: ∀s:bZ,bV ((jH s:Nat):Int) (bM s)=s.all isD
 |[]=>rfl
 |c::s=>by
  have d:=alD s;unfold jH at d ⊢;rw[bz,aW];cases isD c with
  |true=>
   rw[aK,<-d];simp only[if_true,aG,bP]
   grind [gq,dZ]
  |false=>rfl
def EG (s:bZ):Bool:=abZ s||(!s.isEmpty&&s.all isD)
theorem aBn {s:List UInt8} (d:s.length<4000000):azf s=some (EG s,()):=by
 rw[azf,af4,bI];unfold EG;cases abZ s with
 |true=>rfl
 |false=>
  cases s with
  |nil=>rfl
  |cons c r=>
   simp only[ac,Bool.false_or,List.isEmpty_cons,az,aK];rw[cO (by rfl),show zO (c::r) 0=_ from QX d (Nat.zero_le _),bI,aS]
   grind [alD]
def pl1 (d:Bool) (c:UInt8):bZ:=if c=10 then [39,10,39]else if Dq c=false\/d=true then [92,c]else [c]
def G5 (s:bZ):bZ:=s.flatMap (pl1 false)
def nJ (s:bZ):bZ:=match s with
 |[]=>[39,39]
 |c::r=>pl1 (EG s) c++G5 r
theorem Qj (b:Bool) (c:UInt8):(pl1 b c).length<=3:=by grind [pl1]
theorem AY (c:UInt8) (r:bZ):G5 (c::r)=pl1 false c++G5 r:=rfl
theorem Wi: ∀s:bZ,(G5 s).length<=3*s.length
 |[]=>ae _
 |c::r=>by have:=Wi r;grind [Qj,AY]
theorem OY {s:List UInt8} (j:s.length<=2000000) (N k:Nat) (out:bZ) (e:k<s.length) (l:out.length<=3*k):
  BR (N+1) s (bM s) (k:Int) (dA out)=BR N s (bM s) ((k+1:Nat):Int) (dA (out++pl1 (decide (k=0)&&EG s) s[k])):=by
 (rewrite [BR,UU];delta AC EN)
 have f:fV s (k:Int)=true:=eu;have hk:dw .i64 (k:Int) 1=((k+1:Nat):Int):=by grind [dI]
 have g:[((s[k].toNat:Nat):Int)]=dA [s[k]]:=rfl;have i:[(92:Int)]=dA [92]:=rfl;have d: ∀x:bZ,x.length<=3->dY (dA (out++x)) 1=true:=fun x o=>xG (by grind);rw[cO (fO (by rw[bP];omega))];simp only[f,aa,byte_at e,hk,awl s[k],bI,g,i,mZ,ai,d _ (show([39,10,39]:bZ).length<=3 by decide),d _ (show([92]:bZ).length<=3 by decide),d _ (show([s[k]]:bZ).length<=3 by simp),d _ (show(([92]:bZ)++[s[k]]).length<=3 by simp)];unfold pl1;by_cases h:s[k]=10
 .rw[show(10:Int)=(((10:UInt8).toNat:Nat):Int) from rfl,aJI h,am h];rfl
 .rw[show(10:Int)=(((10:UInt8).toNat:Nat):Int) from rfl,aJH h,aq h,ac];cases hsf:Dq s[k]with
  |false=>rfl
  |true=>
   simp only[ax,ac];by_cases h0:k=0
   .subst h0;rw[cO (b:=bV ((0:Nat):Int) 0) (gq rfl),aBn (by omega),bI,decide_eq_true rfl,aK]
    grind
   simp_all [dZ]
theorem OX {s:List UInt8} (d:s.length<=2000000): ∀(N k:Nat) (out:bZ),s.length-k<N->1<=k->k<=s.length->out.length<=3*k->
  BR N s (bM s) (k:Int) (dA out)=some (.inl ((),((),dA (out++G5 (s.drop k)),())))
 |0,k,out,h,_,_,_=>by omega
 |N+1,k,out,h,g,hk,f=>by
  by_cases e:k<s.length
  .have i:=Qj (decide (k=0)&&EG s) s[k];rw[OY d N k out e f,OX d N (k+1) _ (by omega) (by omega) (by omega) (by grind),zJ e,AY,ai,decide_eq_false (by omega),Bool.false_and]
  ·(rewrite [BR,UU];delta AC EN;rw[dN (iE (by rw[bP];omega)),aO (by omega)])
   simp[G5]
theorem avD {s:List UInt8} (d:s.length<=2000000):ay8 s=some (nJ s,()):=by
 rw[ay8];cases s with
 |nil=>rfl
 |cons c r=>
  have e:=OY (s:=c::r) d (bQ-1) 0 [] (by simp) (by simp);rw[show bQ-1+1=bQ by unfold bQ;omega]at e;have g:=Qj (EG (c::r)) c;rw[aG]at d;have f:=OX (s:=c::r) (by assumption) (bQ-1) 1 (pl1 (EG (c::r)) c) (by grind [bQ]) (ae _) (by simp) (by omega);rw[dN (uu (by simp)),show BR bQ (c::r) (bM (c::r)) 0 []=_ from e.trans f,bI];simp only[dW,fJ,aa,BZ];rfl
end
section
open Bool renaming false_eq_true → ag
open List renaming append_assoc → ai, nil_append → aF, length_cons → aG, drop_of_length_le → aO, drop_zero → aS, length_singleton → bC
open Nat renaming le_refl → ae
open Go.RowKit
def aBr (c:UInt8):bZ:=if c=39 then [39,92,39,39]else [c]
def VR (s:bZ):bZ:=s.flatMap aBr
def db1 (c:UInt8):bZ:=if(bV (c.toNat:Int) 36||(bV (c.toNat:Int) 96||(bV (c.toNat:Int) 34||bV (c.toNat:Int) 92)))=true then [92,c]else [c]
def Bh (s:bZ):bZ:=s.flatMap db1
theorem avO (new:bZ) (b:UInt8) (hb:b≠39) (l:bZ): ∀k,Lib.replaceK [39] new k (b::l)=b::Lib.replaceK [39] new k l
 |0=>rfl
 |k+1=>by
  have d:List.isPrefixOf [39] (b::l)=false:=by grind
  have e:Lib.index (b::l) [39]=if Lib.index l [39]== -1 then-1 else Lib.index l [39]+1:=by rw[Lib.index,d];rfl
  rw[Lib.replaceK,Lib.replaceK,e];have f:=Lib.index_ge l [39];by_cases h:Lib.index l [39]= -1
  .simp[h]
  .have g:(Lib.index l [39]== -1)=false:=by simpa using h
   have i:(Lib.index l [39]+1== -1)=false:=by simp;omega
   have j:(Lib.index l [39]+1).toNat=(Lib.index l [39]).toNat+1:=by omega
   simp_all
theorem ary (b:UInt8) (hb:b≠39) (l:bZ): ∀f,Lib.countFrom [39] f (b::l)=Lib.countFrom [39] f l
 |0=>rfl
 |f+1=>by
  have d:List.isPrefixOf [39] (b::l)=false:=by grind
  have e:Lib.index (b::l) [39]=if Lib.index l [39]== -1 then-1 else Lib.index l [39]+1:=by rw[Lib.index,d];rfl
  rw[Lib.countFrom,Lib.countFrom,e];have g:=Lib.index_ge l [39];by_cases h:Lib.index l [39]= -1
  .simp[h]
  .have i:(Lib.index l [39]== -1)=false:=by simpa using h
   have j:(Lib.index l [39]+1== -1)=false:=by simp;omega
   have o:(Lib.index l [39]+1).toNat=(Lib.index l [39]).toNat+1:=by omega
   simp_all
theorem ait (new:bZ): ∀(s:bZ) (f:Nat),s.length<f->Lib.replaceK [39] new (Lib.countFrom [39] f s) s=s.flatMap fun c=>if c=39 then new else [c]
 |[],f,h=>by
  obtain⟨f,rfl⟩: ∃g,f=g+1:=⟨f-1,by simp at h;omega⟩;rfl
 |c::s,f,h=>by
  rw[aG]at h;by_cases hc:c=39
  .subst hc;obtain⟨f,rfl⟩: ∃g,f=g+1:=⟨f-1,by omega⟩;have d:Lib.index (39::s) [39]=0:=by rfl
   rw[Lib.countFrom,d];simp only[show((0:Int)== -1)=false from rfl,ag,if_false,Int.toNat_zero,Nat.zero_add,bC,List.drop_succ_cons,aS];rw[Nat.add_comm 1,Lib.replaceK,d];simp only[show((0:Int)== -1)=false from rfl,ag,if_false,Int.toNat_zero,Nat.zero_add,bC,List.drop_succ_cons,aS,List.take_zero,aF];rw[ait new s f (by omega),List.flatMap_cons,am rfl]
  .rw[ary c hc,avO new c hc,ait new s f (by omega),List.flatMap_cons,aq hc];rfl
theorem KZ: ∀s:bZ,(VR s).length<=4*s.length
 |[]=>ae _
 |c::r=>by have:=KZ r;grind [aBr,VR]
theorem Jv: ∀s:bZ,(Bh s).length<=2*s.length
 |[]=>ae _
 |c::r=>by have:=Jv r;grind [db1,Bh]
theorem awz {s:List UInt8} (e:s.length<=2000000):ay9 s=some ([39]++VR s,()):=by
 have f:=KZ s;have g:Lib.replaceAll s [39] [39,92,39,39]=VR s:=ait [39,92,39,39] s (s.length+1) (by omega);have d:Xx s [39] [39,92,39,39]=some (VR s,()):=by
  grind [Xx]
 rw[ay9,d,bI,cO (IZ (by simp;omega))];rfl
theorem Oe {s:List UInt8} (g:s.length<=2000000): ∀(N k:Nat) (out:bZ),s.length-k<N->k<=s.length->out.length<=2*k+1->
  IA N s (bM s) (k:Int) (dA out)=some (.inl ((),((),dA (out++Bh (s.drop k)),())))
 |0,k,out,h,_,_=>by omega
 |N+1,k,out,h,hk,q=>by
  (rewrite [IA,acv];delta AO AL)
  by_cases e:k<s.length
  .have i:fV s (k:Int)=true:=eu;have j:dw .i64 (k:Int) 1=((k+1:Nat):Int):=by grind [dI]
   have l:[((s[k].toNat:Nat):Int)]=dA [s[k]]:=rfl;have o:[(92:Int)]=dA [92]:=rfl;have d: ∀x:bZ,x.length<=2->dY (dA (out++x)) 1=true:=fun x p=>xG (by grind);have f: ∀x:bZ,x.length<=2->IA N s (bM s) ((k+1:Nat):Int) (dA (out++x))=some (.inl ((),((),dA (out++x++Bh (s.drop (k+1))),()))):=fun x p=>Oe g N (k+1) _ (by omega) (by omega) (by grind);have hd:Bh (s.drop k)=db1 s[k]++Bh (s.drop (k+1)):=by rw[zJ e];rfl
   rw[cO (fO (by rw[bP];omega)),hd];simp only[i,aa,byte_at e,j,l,o,mZ,ai out [92],d _ (show([92]:bZ).length<=2 by decide),d _ (show([s[k]]:bZ).length<=2 by simp),d _ (show(([92]:bZ)++[s[k]]).length<=2 by simp),f _ (show([s[k]]:bZ).length<=2 by simp),f _ (show(([92]:bZ)++[s[k]]).length<=2 by simp)]
   grind [db1]
  simp_all [iE,bP,aO,Bh]
theorem arB {s:List UInt8} (d:s.length<=2000000):aza s=some ([34]++Bh s,()):=by
 rw[aza];refine(cO (show dY (bT ([]:List Int) [34]) 1=true by kernel_rfl)).trans ?_;rw[show IA bQ s (bM s) 0 (bT [] [34])=_ from Oe d bQ 0 [34] (dX) (by omega) (by simp),bI];simp_all [dW,fJ,BZ]
def pJ (s:bZ) (k:Nat):bZ:=if k=4 then [39]++VR s++[39]else if k=5 then [34]++Bh s++[34]else nJ s
theorem aoh {s:List UInt8} (d:s.length<=2000000) (k:Nat):(pJ s k).length<=8000002:=by
 have e:=KZ s;have f:=Jv s;unfold pJ;split
 .simp;omega
 .split
  .simp;omega
  .unfold nJ;grind [Wi,Qj]
theorem Jg {s:List UInt8} (d:s.length<=2000000) (k:Nat):ay3 s (k:Int) true=some (pJ s k,()):=by
 have f:=KZ s;have g:=Jv s;have e:=aoh d k;rw[ay3,avD d,bI];unfold pJ at e ⊢;by_cases h4:k=4
 .rw[cO (gq),awz d,bI,aa,cO (IZ (by simp;omega)),am h4];rfl
 .rw[dN (dZ),aq h4];rw[aq h4]at e;by_cases h5:k=5
  .rw[cO (gq),arB d,bI,aa,cO (IZ (by simp;omega)),am h5];rfl
  .rw[aq h5]at e;rw[dN (dZ),aq h5,aa,cO (IZ (by simp;omega))];simp[bT]
def uq (s:bZ):bZ:=
 let a:=if(pJ s 4).length<(nJ s).length then pJ s 4 else nJ s
 if(pJ s 5).length<a.length then pJ s 5 else a
theorem Nr (s:bZ):nJ s≠[]:=by
 cases s with
 |nil=>simp[nJ]
 |cons c r=>grind [nJ,pl1]
theorem JO (s:bZ) (k:Nat):pJ s k≠[]:=by
 grind [pJ,Nr]
theorem af6 {s:List UInt8} (d:s.length<=2000000):ayY s=some (uq s,()):=by
 have e:=Jg d 0;have q:=Jg d 4;have u:=Jg d 5;have v:pJ s 0=nJ s:=rfl;have st: ∀(N:Nat) (b:bZ) (i k:Nat) (h:i<3),([0,4,5]:List Int)[i]'(by simpa using h)=(k:Int)->b≠[]->uo (N+1) s b 3 (i:Int) [0,4,5]=uo N s (if(pJ s k).length<b.length then pJ s k else b) 3 ((i+1:Nat):Int) [0,4,5]:=fun N b i k h hk f=>by
  rw[uo,UM,cO (fO),cO (eu (by omega) (by grind)),cO (lT (by simp[dD];omega))];have g:dK ([0,4,5]:List Int) 0 (dD (i:Int))=(k:Int):=by simp_all [dK,dD]
  rw[g,Jg d k,bI,cO (by rw[uu f];rfl),dI,show(i:Int)+1=((i+1:Nat):Int) by omega];simp only[bP];by_cases hl:(pJ s k).length<b.length
  .simp_all [Hl]
  simp_all [mW,aq]
 have j:uo (bQ-4+1+1+1+1) s [] 3 0 [0,4,5]=uo (bQ-4+1+1+1) s (nJ s) 3 ((1:Nat):Int) [0,4,5]:=by
  rw[uo,UM,cO (show gY 0 3=true from rfl),cO (show fV ([0,4,5]:List Int) 0=true from rfl),cO (show mi (dD 0) ([0,4,5]:List Int)=true from rfl),show dK ([0,4,5]:List Int) 0 (dD 0)=((0:Nat):Int) from rfl,e,bI,dN (by rw[Wv rfl];rfl)];rfl
 have l: ∀b:bZ,uo (bQ-4+1) s b 3 ((3:Nat):Int) [0,4,5]=some (.inl ((b,()),())):=fun b=>by
  rfl
 have o:bQ=bQ-4+1+1+1+1:=by unfold bQ;omega
 have p:uo bQ s [] 3 0 [0,4,5]=some (.inl ((uq s,()),())):=by
  rw[o,j,st _ _ 1 4 (by omega) rfl (Nr s),st _ _ 2 5 (by omega) rfl (by grind [JO]),l];rfl
 rw[ayY,show uo bQ s [] (bM [0,4,5]) 0 [0,4,5]=_ from p,bI];rfl
end
end Go.Proofs.YtlhpdcadgbjhiaaGreatDoor
