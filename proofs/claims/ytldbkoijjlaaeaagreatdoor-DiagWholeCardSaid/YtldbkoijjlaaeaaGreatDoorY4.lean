/- Parts of the proof, joined and shortened by a program: the plain machine, the functions as it prints them, and the mathematics over them. -/
import Derived.Ground.NamesProg
import Derived.Shelf.Strconv.Itoa3
import Derived.Shelf.Strings.Replace
import Derived.Test.YtldbkoijjlaaeaaGreatDoorY3
set_option linter.unusedVariables false
set_option linter.unusedSimpArgs false
set_option maxRecDepth 100000
set_option maxHeartbeats 4000000
namespace Go.Proofs.YtldbkoijjlaaeaaGreatDoor
section
open Go.RowKit
def Iu (x2:List ed) (x4 x3:Int):=gp x2 (bU x4) ((bY x2 (0,(0,(0,(0,())))) (bU x4)).1,((bY x2 (0,(0,(0,(0,())))) (bU x4)).2.1,(x3,((bY x2 (0,(0,(0,(0,())))) (bU x4)).2.2.2.1,()))))
def nN (x0:List eG) (x1:bH) (x2:List ed) (x3 x4 x5 x6:Int):Option E9:=bif(fU x2 x4)then bif(nH (bU x4) x2)then bif(fU (Iu x2 x4 x3) x4)then bif(nH (bU x4) (Iu x2 x4 x3))then aZ (aoL (bY (Iu x2 x4 x3) (0,(0,(0,(0,())))) (bU x4)).1) fun y0=>bif y0.1 then some ((x0,(x1,((Iu x2 x4 x3),(x3,(x6,((eY .i64 x5 1),())))))),())else some ((x0,(x1,((Iu x2 x4 x3),(x3,(x6,(x5,())))))),())else none else none else none else none
def avn:SQ:=⟨us [.u,.u,.u,.v bV] 13,[[.ptr 0 0]],[.box 0 101 [.v o9,.v .str,.slc 1,.v bV,.v bV,.v bV],.arr 1 rJ]⟩
def avy:SQ:=⟨us [.u,.u,.v bV] 14,[[.ptr 0 0]],[]⟩
def amQ {γ:Type} (rec kE:Int->(List eG)->bH->Int->Int->Int->(List ed)->Option γ) (kR:Int->Option γ) (v0:Int) (v1:List eG) (v2:bH) (v3 v4 v5:Int) (v6:List ed):Option γ:=aZ (lI v1 v2 v6 v3 v4 v5 [110]) fun y0=>bif y0.2.1 then rec (bT .i64 v0 1) y0.1.1 y0.1.2.1 (bT .i64 y0.1.2.2.2.1 1) y0.1.2.2.2.2.1 y0.1.2.2.2.2.2.1 y0.1.2.2.1 else kE v0 y0.1.1 y0.1.2.1 y0.1.2.2.2.1 y0.1.2.2.2.2.1 y0.1.2.2.2.2.2.1 y0.1.2.2.1
def UR:Nat->Int->(List eG)->bH->Int->Int->Int->(List ed)->Option (avn.den⊕avy.den)
 |0,_,_,_,_,_,_,_=>none
 |n+1,v0,v1,v2,v3,v4,v5,v6=>amQ (UR n) (fun e0 e1 e2 e3 e4 e5 e6=>some (.inl ((e0,()),((),()),((e1,e2,e3,e4,e5,()),e6,())))) (fun r0=>some (.inr ((r0,()),((),()),()))) v0 v1 v2 v3 v4 v5 v6
def qN (x0:List eG) (x1:bH) (x2:List ed) (x3 x4 x5:Int):Option (taF×EU):=aZ (UR bC 0 x0 x1 x3 x4 x5 x2) fun y0=>dA y0 (fun a1=>some ((a1.2.2.1.1,(a1.2.2.1.2.1,(a1.2.2.2.1,(a1.2.2.1.2.2.1,(a1.2.2.1.2.2.2.1,(a1.2.2.1.2.2.2.2.1,())))))),(a1.1.1,()))) (fun b1=>none)
def rE (x0:List eG) (x1:bH) (x2:List ed) (x3 x4 x5:Int):Option E9:=aZ (Aw x0 x1 x2 x3 x4 x5 18) fun y0=>aZ (nN y0.1.1 y0.1.2.1 y0.1.2.2.1 y0.1.2.2.2.1 y0.1.2.2.2.2.1 y0.1.2.2.2.2.2.1 y0.2.1) fun y1=>some ((y1.1.1,(y1.1.2.1,(y1.1.2.2.1,(y1.1.2.2.2.1,(y1.1.2.2.2.2.1,(y1.1.2.2.2.2.2.1,())))))),())
def KP (x0:List eG) (x1:bH) (x2:List ed) (x3 x4 x5 x6:Int):Option E9:=aZ (Aw x0 x1 x2 x3 x4 x5 x6) fun y0=>aZ (nN y0.1.1 y0.1.2.1 y0.1.2.2.1 (bT .i64 y0.1.2.2.2.1 1) y0.1.2.2.2.2.1 y0.1.2.2.2.2.2.1 y0.2.1) fun y1=>some ((y1.1.1,(y1.1.2.1,(y1.1.2.2.1,(y1.1.2.2.2.1,(y1.1.2.2.2.2.1,(y1.1.2.2.2.2.2.1,())))))),())
def lw (x0:List eG) (x1:bH) (x2:List ed) (x3 x4 x5:Int) (x6:bH):Option E9:=aZ (lI x0 x1 x2 x3 x4 x5 x6) fun y0=>bif y0.2.1 then some ((y0.1.1,(y0.1.2.1,(y0.1.2.2.1,((bT .i64 y0.1.2.2.2.1 1),(y0.1.2.2.2.2.1,(y0.1.2.2.2.2.2.1,())))))),())else aZ (rE y0.1.1 y0.1.2.1 y0.1.2.2.1 y0.1.2.2.2.1 y0.1.2.2.2.2.1 y0.1.2.2.2.2.2.1) fun y1=>some ((y1.1.1,(y1.1.2.1,(y1.1.2.2.1,(y1.1.2.2.2.1,(y1.1.2.2.2.2.1,(y1.1.2.2.2.2.2.1,())))))),())
def uY (x0:List eG) (x1:bH) (x2:List ed) (x3 x4 x5:Int):Option E9:=bif(iq x3 (bi x0))then bif(fU x0 x3)then bif(bD (eu x0 (0,([],(0,(0,())))) x3).1 6)then aZ (KP x0 x1 x2 x3 x4 x5 7) fun y0=>some ((y0.1.1,(y0.1.2.1,(y0.1.2.2.1,(y0.1.2.2.2.1,(y0.1.2.2.2.2.1,(y0.1.2.2.2.2.2.1,())))))),())else aZ (rE x0 x1 x2 x3 x4 x5) fun y0=>some ((y0.1.1,(y0.1.2.1,(y0.1.2.2.1,(y0.1.2.2.2.1,(y0.1.2.2.2.2.1,(y0.1.2.2.2.2.2.1,())))))),())else none else aZ (rE x0 x1 x2 x3 x4 x5) fun y0=>some ((y0.1.1,(y0.1.2.1,(y0.1.2.2.1,(y0.1.2.2.2.1,(y0.1.2.2.2.2.1,(y0.1.2.2.2.2.2.1,())))))),())
def acP (x0:List eG) (x1:bH) (x2:List ed) (x3 x4 x5:Int):Option E9:=aZ (Aw x0 x1 x2 x3 x4 x5 8) fun y0=>aZ (lI y0.1.1 y0.1.2.1 y0.1.2.2.1 y0.1.2.2.2.1 y0.1.2.2.2.2.1 y0.1.2.2.2.2.2.1 [35]) fun y1=>bif y1.2.1 then aZ (uY y1.1.1 y1.1.2.1 y1.1.2.2.1 (bT .i64 (bT .i64 y1.1.2.2.2.1 1) 1) y1.1.2.2.2.2.1 y1.1.2.2.2.2.2.1) fun y2=>aZ (nN y2.1.1 y2.1.2.1 y2.1.2.2.1 y2.1.2.2.2.1 y2.1.2.2.2.2.1 y2.1.2.2.2.2.2.1 y0.2.1) fun y3=>some ((y3.1.1,(y3.1.2.1,(y3.1.2.2.1,(y3.1.2.2.2.1,(y3.1.2.2.2.2.1,(y3.1.2.2.2.2.2.1,())))))),())else aZ (uY y1.1.1 y1.1.2.1 y1.1.2.2.1 (bT .i64 y1.1.2.2.2.1 1) y1.1.2.2.2.2.1 y1.1.2.2.2.2.2.1) fun y2=>aZ (nN y2.1.1 y2.1.2.1 y2.1.2.2.1 y2.1.2.2.2.1 y2.1.2.2.2.2.1 y2.1.2.2.2.2.2.1 y0.2.1) fun y3=>some ((y3.1.1,(y3.1.2.1,(y3.1.2.2.1,(y3.1.2.2.2.1,(y3.1.2.2.2.2.1,(y3.1.2.2.2.2.2.1,())))))),())
def aqu:SP:=⟨us [] 21,[]⟩
def aqA:SP:=⟨us [.u,.u,.v bV] 18,[]⟩
def aeB {γ:Type} (rec:bH->Int->Option γ) (kE:Option γ) (kR:Int->Option γ) (v0:bH) (v1:Int):Option γ:=bif(iq v1 (bi v0))then bif(fU v0 v1)then bif(bD (bK v0 v1) 61)then bif(gW (bi v0) 0 v1)then aZ (XY (sub v0 0 v1)) fun y0=>bif y0.1 then kR v1 else rec v0 (bT .i64 v1 1)else none else rec v0 (bT .i64 v1 1)else none else kE
def Gw:Nat->bH->Int->Option (aqu.den⊕aqA.den)
 |0,_,_=>none
 |n+1,v0,v1=>aeB (Gw n) (some (.inl ((),()))) (fun r0=>some (.inr ((r0,()),()))) v0 v1
def akr (x0:bH):Option EU:=aZ (Gw bC x0 1) fun y0=>dA y0 (fun a1=>some (0,())) (fun b1=>some (b1.1.1,()))
structure rq where
 q48:(List eG)->bH->(List ed)->Int->Int->Int->Option E9
 q79:(List eG)->bH->(List ed)->Int->Int->Int->Option E9
 q102:(List eG)->bH->(List ed)->Int->Int->Int->Option E9
 q130:(List eG)->bH->(List ed)->Int->Int->Int->Option E9
 q194:(List eG)->bH->(List ed)->Int->Int->Int->Option E9
 q195:(List eG)->bH->(List ed)->Int->Int->Int->Option E9
 q163:(List eG)->bH->(List ed)->Int->Int->Int->Option E9
 q196:(List eG)->bH->(List ed)->Int->Int->Int->Option E9
 q197:(List eG)->bH->(List ed)->Int->Int->Int->Option E9
def al0:SQ:=⟨us [.ptr 0 0,.u,.v bV] 27,[[.ptr 0 0]],[.box 0 101 [.v o9,.v .str,.slc 1,.v bV,.v bV,.v bV],.arr 1 rJ]⟩
def al5:SQ:=⟨us [] 30,[[.ptr 0 0]],[]⟩
def WF (q:rq) {γ:Type} (rec kE:Int->(List eG)->bH->Int->Int->Int->(List ed)->Option γ) (kR:Option γ) (v0:Int) (v1:List eG) (v2:bH) (v3 v4 v5:Int) (v6:List ed):Option γ:=aZ (lI v1 v2 v6 v3 v4 v5 [59,38]) fun y0=>bif y0.2.1 then aZ (qN y0.1.1 y0.1.2.1 y0.1.2.2.1 (bT .i64 y0.1.2.2.2.1 1) y0.1.2.2.2.2.1 y0.1.2.2.2.2.2.1) fun y1=>aZ (NS y1.1.1 y1.1.2.1 y1.1.2.2.1 y1.1.2.2.2.1 y1.1.2.2.2.2.1 y1.1.2.2.2.2.2.1) fun y2=>bif(!y2.2.1)then kE v0 y2.1.1 y2.1.2.1 y2.1.2.2.2.1 y2.1.2.2.2.2.1 y2.1.2.2.2.2.2.1 y2.1.2.2.1 else aZ (q.q79 y2.1.1 y2.1.2.1 y2.1.2.2.1 y2.1.2.2.2.1 y2.1.2.2.2.2.1 y2.1.2.2.2.2.2.1) fun y3=>rec v0 y3.1.1 y3.1.2.1 y3.1.2.2.2.1 y3.1.2.2.2.2.1 y3.1.2.2.2.2.2.1 y3.1.2.2.1 else aZ (qN y0.1.1 y0.1.2.1 y0.1.2.2.1 y0.1.2.2.2.1 y0.1.2.2.2.2.1 y0.1.2.2.2.2.2.1) fun y1=>bif(bD y1.2.1 0)then kE v0 y1.1.1 y1.1.2.1 y1.1.2.2.2.1 y1.1.2.2.2.2.1 y1.1.2.2.2.2.2.1 y1.1.2.2.1 else aZ (NS y1.1.1 y1.1.2.1 y1.1.2.2.1 y1.1.2.2.2.1 y1.1.2.2.2.2.1 y1.1.2.2.2.2.2.1) fun y2=>bif(!y2.2.1)then kE v0 y2.1.1 y2.1.2.1 y2.1.2.2.2.1 y2.1.2.2.2.2.1 y2.1.2.2.2.2.2.1 y2.1.2.2.1 else aZ (q.q79 y2.1.1 y2.1.2.1 y2.1.2.2.1 y2.1.2.2.2.1 y2.1.2.2.2.2.1 y2.1.2.2.2.2.2.1) fun y3=>rec v0 y3.1.1 y3.1.2.1 y3.1.2.2.2.1 y3.1.2.2.2.2.1 y3.1.2.2.2.2.2.1 y3.1.2.2.1
def yV (q:rq):Nat->Int->(List eG)->bH->Int->Int->Int->(List ed)->Option (al0.den⊕al5.den)
 |0,_,_,_,_,_,_,_=>none
 |n+1,v0,v1,v2,v3,v4,v5,v6=>WF q (yV q n) (fun e0 e1 e2 e3 e4 e5 e6=>some (.inl ((e0,()),((),()),((e1,e2,e3,e4,e5,()),e6,())))) (some (.inr ((),((),()),()))) v0 v1 v2 v3 v4 v5 v6
def atT (q:rq) (x0:List eG) (x1:bH) (x2:List ed) (x3 x4 x5:Int):Option E9:=aZ (Aw x0 x1 x2 x3 x4 x5 2) fun y0=>aZ (q.q79 y0.1.1 y0.1.2.1 y0.1.2.2.1 y0.1.2.2.2.1 y0.1.2.2.2.2.1 y0.1.2.2.2.2.2.1) fun y1=>aZ (yV q bC y0.2.1 y1.1.1 y1.1.2.1 y1.1.2.2.2.1 y1.1.2.2.2.2.1 y1.1.2.2.2.2.2.1 y1.1.2.2.1) fun y2=>dA y2 (fun a3=>aZ (nN a3.2.2.1.1 a3.2.2.1.2.1 a3.2.2.2.1 a3.2.2.1.2.2.1 a3.2.2.1.2.2.2.1 a3.2.2.1.2.2.2.2.1 a3.1.1) fun y4=>some ((y4.1.1,(y4.1.2.1,(y4.1.2.2.1,(y4.1.2.2.2.1,(y4.1.2.2.2.2.1,(y4.1.2.2.2.2.2.1,())))))),())) (fun b3=>none)
def avm:SQ:=⟨us [.ptr 0 0,.u,.v bV] 25,[[.ptr 0 0]],[.box 0 101 [.v o9,.v .str,.slc 1,.v bV,.v bV,.v bV],.arr 1 rJ]⟩
def avx:SQ:=⟨us [] 28,[[.ptr 0 0]],[]⟩
def amP (q:rq) {γ:Type} (rec kE:Int->(List eG)->bH->Int->Int->Int->(List ed)->Option γ) (kR:Option γ) (v0:Int) (v1:List eG) (v2:bH) (v3 v4 v5:Int) (v6:List ed):Option γ:=aZ (lI v1 v2 v6 v3 v4 v5 [97,111]) fun y0=>bif y0.2.1 then aZ (qN y0.1.1 y0.1.2.1 y0.1.2.2.1 (bT .i64 y0.1.2.2.2.1 1) y0.1.2.2.2.2.1 y0.1.2.2.2.2.2.1) fun y1=>aZ (NS y1.1.1 y1.1.2.1 y1.1.2.2.1 y1.1.2.2.2.1 y1.1.2.2.2.2.1 y1.1.2.2.2.2.2.1) fun y2=>bif y2.2.1 then aZ (q.q102 y2.1.1 y2.1.2.1 y2.1.2.2.1 y2.1.2.2.2.1 y2.1.2.2.2.2.1 y2.1.2.2.2.2.2.1) fun y3=>rec v0 y3.1.1 y3.1.2.1 y3.1.2.2.2.1 y3.1.2.2.2.2.1 y3.1.2.2.2.2.2.1 y3.1.2.2.1 else aZ (rE y2.1.1 y2.1.2.1 y2.1.2.2.1 y2.1.2.2.2.1 y2.1.2.2.2.2.1 y2.1.2.2.2.2.2.1) fun y3=>rec v0 y3.1.1 y3.1.2.1 y3.1.2.2.2.1 y3.1.2.2.2.2.1 y3.1.2.2.2.2.2.1 y3.1.2.2.1 else kE v0 y0.1.1 y0.1.2.1 y0.1.2.2.2.1 y0.1.2.2.2.2.1 y0.1.2.2.2.2.2.1 y0.1.2.2.1
def UQ (q:rq):Nat->Int->(List eG)->bH->Int->Int->Int->(List ed)->Option (avm.den⊕avx.den)
 |0,_,_,_,_,_,_,_=>none
 |n+1,v0,v1,v2,v3,v4,v5,v6=>amP q (UQ q n) (fun e0 e1 e2 e3 e4 e5 e6=>some (.inl ((e0,()),((),()),((e1,e2,e3,e4,e5,()),e6,())))) (some (.inr ((),((),()),()))) v0 v1 v2 v3 v4 v5 v6
def atU (q:rq) (x0:List eG) (x1:bH) (x2:List ed) (x3 x4 x5:Int):Option E9:=aZ (Aw x0 x1 x2 x3 x4 x5 3) fun y0=>aZ (q.q102 y0.1.1 y0.1.2.1 y0.1.2.2.1 y0.1.2.2.2.1 y0.1.2.2.2.2.1 y0.1.2.2.2.2.2.1) fun y1=>aZ (UQ q bC y0.2.1 y1.1.1 y1.1.2.1 y1.1.2.2.2.1 y1.1.2.2.2.2.1 y1.1.2.2.2.2.2.1 y1.1.2.2.1) fun y2=>dA y2 (fun a3=>aZ (nN a3.2.2.1.1 a3.2.2.1.2.1 a3.2.2.2.1 a3.2.2.1.2.2.1 a3.2.2.1.2.2.2.1 a3.2.2.1.2.2.2.2.1 a3.1.1) fun y4=>some ((y4.1.1,(y4.1.2.1,(y4.1.2.2.1,(y4.1.2.2.2.1,(y4.1.2.2.2.2.1,(y4.1.2.2.2.2.2.1,())))))),())) (fun b3=>none)
def aqr:SQ:=⟨us [.ptr 0 0,.u,.v bV] 31,[[.ptr 0 0]],[.box 0 101 [.v o9,.v .str,.slc 1,.v bV,.v bV,.v bV],.arr 1 rJ]⟩
def aqx:SQ:=⟨us [] 34,[[.ptr 0 0]],[]⟩
def aez (q:rq) {γ:Type} (rec kE:Int->(List eG)->bH->Int->Int->Int->(List ed)->Option γ) (kR:Option γ) (v0:Int) (v1:List eG) (v2:bH) (v3 v4 v5:Int) (v6:List ed):Option γ:=aZ (lI v1 v2 v6 v3 v4 v5 [124]) fun y0=>bif y0.2.1 then aZ (qN y0.1.1 y0.1.2.1 y0.1.2.2.1 (bT .i64 y0.1.2.2.2.1 1) y0.1.2.2.2.2.1 y0.1.2.2.2.2.2.1) fun y1=>aZ (q.q130 y1.1.1 y1.1.2.1 y1.1.2.2.1 y1.1.2.2.2.1 y1.1.2.2.2.2.1 y1.1.2.2.2.2.2.1) fun y2=>rec v0 y2.1.1 y2.1.2.1 y2.1.2.2.2.1 y2.1.2.2.2.2.1 y2.1.2.2.2.2.2.1 y2.1.2.2.1 else kE v0 y0.1.1 y0.1.2.1 y0.1.2.2.2.1 y0.1.2.2.2.2.1 y0.1.2.2.2.2.2.1 y0.1.2.2.1
def CX (q:rq):Nat->Int->(List eG)->bH->Int->Int->Int->(List ed)->Option (aqr.den⊕aqx.den)
 |0,_,_,_,_,_,_,_=>none
 |n+1,v0,v1,v2,v3,v4,v5,v6=>aez q (CX q n) (fun e0 e1 e2 e3 e4 e5 e6=>some (.inl ((e0,()),((),()),((e1,e2,e3,e4,e5,()),e6,())))) (some (.inr ((),((),()),()))) v0 v1 v2 v3 v4 v5 v6
def aj7 (q:rq) (x0:List eG) (x1:bH) (x2:List ed) (x3 x4 x5:Int):Option E9:=aZ (Aw x0 x1 x2 x3 x4 x5 4) fun y0=>aZ (lI y0.1.1 y0.1.2.1 y0.1.2.2.1 y0.1.2.2.2.1 y0.1.2.2.2.2.1 y0.1.2.2.2.2.2.1 [33]) fun y1=>bif y1.2.1 then aZ (q.q130 y1.1.1 y1.1.2.1 y1.1.2.2.1 (bT .i64 y1.1.2.2.2.1 1) y1.1.2.2.2.2.1 y1.1.2.2.2.2.2.1) fun y2=>aZ (CX q bC y0.2.1 y2.1.1 y2.1.2.1 y2.1.2.2.2.1 y2.1.2.2.2.2.1 y2.1.2.2.2.2.2.1 y2.1.2.2.1) fun y3=>dA y3 (fun a4=>aZ (nN a4.2.2.1.1 a4.2.2.1.2.1 a4.2.2.2.1 a4.2.2.1.2.2.1 a4.2.2.1.2.2.2.1 a4.2.2.1.2.2.2.2.1 a4.1.1) fun y5=>some ((y5.1.1,(y5.1.2.1,(y5.1.2.2.1,(y5.1.2.2.2.1,(y5.1.2.2.2.2.1,(y5.1.2.2.2.2.2.1,())))))),())) (fun b4=>none)else aZ (q.q130 y1.1.1 y1.1.2.1 y1.1.2.2.1 y1.1.2.2.2.1 y1.1.2.2.2.2.1 y1.1.2.2.2.2.2.1) fun y2=>aZ (CX q bC y0.2.1 y2.1.1 y2.1.2.1 y2.1.2.2.2.1 y2.1.2.2.2.2.1 y2.1.2.2.2.2.2.1 y2.1.2.2.1) fun y3=>dA y3 (fun a4=>aZ (nN a4.2.2.1.1 a4.2.2.1.2.1 a4.2.2.2.1 a4.2.2.1.2.2.1 a4.2.2.1.2.2.2.1 a4.2.2.1.2.2.2.2.1 a4.1.1) fun y5=>some ((y5.1.1,(y5.1.2.1,(y5.1.2.2.1,(y5.1.2.2.2.1,(y5.1.2.2.2.2.1,(y5.1.2.2.2.2.2.1,())))))),())) (fun b4=>none)
def alX:SQ:=⟨us [.ptr 0 0,.u,.u,.v bV] 140,[[.ptr 0 0]],[.box 0 101 [.v o9,.v .str,.slc 1,.v bV,.v bV,.v bV],.arr 1 rJ]⟩
def al2:SQ:=⟨us [] 144,[[.ptr 0 0]],[]⟩
def ZF (q:rq) {γ:Type} (rec:Int->Int->(List eG)->bH->Int->Int->Int->(List ed)->Option γ) (kE:Int->(List eG)->bH->Int->Int->Int->(List ed)->Option γ) (kR:Option γ) (v0 v1:Int) (v2:List eG) (v3:bH) (v4 v5 v6:Int) (v7:List ed):Option γ:=aZ (XO v2 v3 v7 v4 v5 v6) fun y0=>bif y0.2.1 then aZ (acP y0.1.1 y0.1.2.1 y0.1.2.2.1 y0.1.2.2.2.1 y0.1.2.2.2.2.1 y0.1.2.2.2.2.2.1) fun y1=>rec v0 v1 y1.1.1 y1.1.2.1 y1.1.2.2.2.1 y1.1.2.2.2.2.1 y1.1.2.2.2.2.2.1 y1.1.2.2.1 else bif(iq y0.1.2.2.2.1 (bi y0.1.1))then bif(fU y0.1.1 y0.1.2.2.2.1)then bif(bD (eu y0.1.1 (0,([],(0,(0,())))) y0.1.2.2.2.1).1 6)then bif(bD v1 0)then bif(fU y0.1.1 y0.1.2.2.2.1)then aZ (akr (eu y0.1.1 (0,([],(0,(0,())))) y0.1.2.2.2.1).2.1) fun y1=>bif(iq 0 y1.1)then aZ (KP y0.1.1 y0.1.2.1 y0.1.2.2.1 y0.1.2.2.2.1 y0.1.2.2.2.2.1 y0.1.2.2.2.2.2.1 6) fun y2=>rec v0 v1 y2.1.1 y2.1.2.1 y2.1.2.2.2.1 y2.1.2.2.2.2.1 y2.1.2.2.2.2.2.1 y2.1.2.2.1 else aZ (KP y0.1.1 y0.1.2.1 y0.1.2.2.1 y0.1.2.2.2.1 y0.1.2.2.2.2.1 y0.1.2.2.2.2.2.1 7) fun y2=>rec v0 (bT .i64 v1 1) y2.1.1 y2.1.2.1 y2.1.2.2.2.1 y2.1.2.2.2.2.1 y2.1.2.2.2.2.2.1 y2.1.2.2.1 else none else aZ (KP y0.1.1 y0.1.2.1 y0.1.2.2.1 y0.1.2.2.2.1 y0.1.2.2.2.2.1 y0.1.2.2.2.2.2.1 7) fun y1=>rec v0 (bT .i64 v1 1) y1.1.1 y1.1.2.1 y1.1.2.2.2.1 y1.1.2.2.2.2.1 y1.1.2.2.2.2.2.1 y1.1.2.2.1 else kE v0 y0.1.1 y0.1.2.1 y0.1.2.2.2.1 y0.1.2.2.2.2.1 y0.1.2.2.2.2.2.1 y0.1.2.2.1 else none else kE v0 y0.1.1 y0.1.2.1 y0.1.2.2.2.1 y0.1.2.2.2.2.1 y0.1.2.2.2.2.2.1 y0.1.2.2.1
def AP (q:rq):Nat->Int->Int->(List eG)->bH->Int->Int->Int->(List ed)->Option (alX.den⊕al2.den)
 |0,_,_,_,_,_,_,_,_=>none
 |n+1,v0,v1,v2,v3,v4,v5,v6,v7=>ZF q (AP q n) (fun e0 e1 e2 e3 e4 e5 e6=>some (.inl ((e0,()),((),()),((e1,e2,e3,e4,e5,()),e6,())))) (some (.inr ((),((),()),()))) v0 v1 v2 v3 v4 v5 v6 v7
def Vw:SQ:=⟨us [] 144,[[.ptr 0 0]],[.box 0 101 [.v o9,.v .str,.slc 1,.v bV,.v bV,.v bV],.arr 1 rJ]⟩
def VP:SQ:=⟨us [] 144,[[.ptr 0 0]],[]⟩
def Hq (q:rq) {γ:Type} (kE:(List eG)->bH->Int->Int->Int->(List ed)->Option γ) (kR:Option γ) (v0:List eG) (v1:bH) (v2 v3 v4:Int) (v5:List ed):Option γ:=aZ (Aw v0 v1 v5 v2 v3 v4 5) fun y0=>aZ (AP q bC y0.2.1 0 y0.1.1 y0.1.2.1 y0.1.2.2.2.1 y0.1.2.2.2.2.1 y0.1.2.2.2.2.2.1 y0.1.2.2.1) fun y1=>dA y1 (fun a2=>aZ (nN a2.2.2.1.1 a2.2.2.1.2.1 a2.2.2.2.1 a2.2.2.1.2.2.1 a2.2.2.1.2.2.2.1 a2.2.2.1.2.2.2.2.1 a2.1.1) fun y3=>kE y3.1.1 y3.1.2.1 y3.1.2.2.2.1 y3.1.2.2.2.2.1 y3.1.2.2.2.2.2.1 y3.1.2.2.1) (fun b2=>kR)
def rU (q:rq) (v0:List eG) (v1:bH) (v2 v3 v4:Int) (v5:List ed):Option (Vw.den⊕VP.den):=Hq q (fun e0 e1 e2 e3 e4 e5=>some (.inl ((),((),()),((e0,e1,e2,e3,e4,()),e5,())))) (some (.inr ((),((),()),()))) v0 v1 v2 v3 v4 v5
def CG (q:rq) (y2:(taF×ou)):Option E9:=aZ (rU q y2.1.1 y2.1.2.1 y2.1.2.2.2.1 y2.1.2.2.2.2.1 y2.1.2.2.2.2.2.1 y2.1.2.2.1) fun y4=>dA y4 (fun a5=>some ((a5.2.2.1.1,(a5.2.2.1.2.1,(a5.2.2.2.1,(a5.2.2.1.2.2.1,(a5.2.2.1.2.2.2.1,(a5.2.2.1.2.2.2.2.1,())))))),())) (fun b5=>none)
def aj9 (q:rq) (x0:List eG) (x1:bH) (x2:List ed) (x3 x4 x5:Int):Option E9:=aZ (aoM x0 x1 x2 x3 x4 x5) fun y0=>bif(!y0.2.1)then aZ (rE y0.1.1 y0.1.2.1 y0.1.2.2.1 y0.1.2.2.2.1 y0.1.2.2.2.2.1 y0.1.2.2.2.2.2.1) fun y1=>some ((y1.1.1,(y1.1.2.1,(y1.1.2.2.1,(y1.1.2.2.2.1,(y1.1.2.2.2.2.1,(y1.1.2.2.2.2.2.1,())))))),())else aZ (QW y0.1.1 y0.1.2.1 y0.1.2.2.1 y0.1.2.2.2.1 y0.1.2.2.2.2.1 y0.1.2.2.2.2.2.1) fun y1=>bif y1.2.1 then aZ (q.q163 y1.1.1 y1.1.2.1 y1.1.2.2.1 y1.1.2.2.2.1 y1.1.2.2.2.2.1 y1.1.2.2.2.2.2.1) fun y2=>some ((y2.1.1,(y2.1.2.1,(y2.1.2.2.1,(y2.1.2.2.2.1,(y2.1.2.2.2.2.1,(y2.1.2.2.2.2.2.1,())))))),())else aZ (lI y1.1.1 y1.1.2.1 y1.1.2.2.1 y1.1.2.2.2.1 y1.1.2.2.2.2.1 y1.1.2.2.2.2.2.1 [120]) fun y2=>bif y2.2.1 then bif(iq (bT .i64 y2.1.2.2.2.1 1) (bi y2.1.2.1))then bif(fU y2.1.2.1 (bT .i64 y2.1.2.2.2.1 1))then bif(bD (bK y2.1.2.1 (bT .i64 y2.1.2.2.2.1 1)) 40)then bif(iq y2.1.2.2.2.2.2.1 200)then bif(fU y2.1.1 y2.1.2.2.2.1)then aZ (XY (eu y2.1.1 (0,([],(0,(0,())))) y2.1.2.2.2.1).2.1) fun y3=>bif y3.1 then aZ (Aw y2.1.1 y2.1.2.1 y2.1.2.2.1 y2.1.2.2.2.1 y2.1.2.2.2.2.1 y2.1.2.2.2.2.2.1 16) fun y4=>aZ (KP y4.1.1 y4.1.2.1 y4.1.2.2.1 y4.1.2.2.2.1 y4.1.2.2.2.2.1 y4.1.2.2.2.2.2.1 7) fun y5=>aZ (lw y5.1.1 y5.1.2.1 y5.1.2.2.1 (bT .i64 y5.1.2.2.2.1 1) y5.1.2.2.2.2.1 y5.1.2.2.2.2.2.1 [41]) fun y6=>aZ (qN y6.1.1 y6.1.2.1 y6.1.2.2.1 y6.1.2.2.2.1 y6.1.2.2.2.2.1 y6.1.2.2.2.2.2.1) fun y7=>aZ (QW y7.1.1 y7.1.2.1 y7.1.2.2.1 y7.1.2.2.2.1 y7.1.2.2.2.2.1 y7.1.2.2.2.2.2.1) fun y8=>bif y8.2.1 then aZ (q.q163 y8.1.1 y8.1.2.1 y8.1.2.2.1 y8.1.2.2.2.1 y8.1.2.2.2.2.1 y8.1.2.2.2.2.2.1) fun y9=>aZ (nN y9.1.1 y9.1.2.1 y9.1.2.2.1 y9.1.2.2.2.1 y9.1.2.2.2.2.1 y9.1.2.2.2.2.2.1 y4.2.1) fun y10=>some ((y10.1.1,(y10.1.2.1,(y10.1.2.2.1,(y10.1.2.2.2.1,(y10.1.2.2.2.2.1,(y10.1.2.2.2.2.2.1,())))))),())else aZ (rE y8.1.1 y8.1.2.1 y8.1.2.2.1 y8.1.2.2.2.1 y8.1.2.2.2.2.1 y8.1.2.2.2.2.2.1) fun y9=>aZ (nN y9.1.1 y9.1.2.1 y9.1.2.2.1 y9.1.2.2.2.1 y9.1.2.2.2.2.1 y9.1.2.2.2.2.2.1 y4.2.1) fun y10=>some ((y10.1.1,(y10.1.2.1,(y10.1.2.2.1,(y10.1.2.2.2.1,(y10.1.2.2.2.2.1,(y10.1.2.2.2.2.2.1,())))))),())else CG q y2 else none else CG q y2 else CG q y2 else none else CG q y2 else CG q y2
def akb (q:rq) (x0:List eG) (x1:bH) (x2:List ed) (x3 x4 x5:Int):Option E9:=aZ (qN x0 x1 x2 x3 x4 x5) fun y0=>aZ (NS y0.1.1 y0.1.2.1 y0.1.2.2.1 y0.1.2.2.2.1 y0.1.2.2.2.2.1 y0.1.2.2.2.2.2.1) fun y1=>bif y1.2.1 then aZ (q.q48 y1.1.1 y1.1.2.1 y1.1.2.2.1 y1.1.2.2.2.1 y1.1.2.2.2.2.1 y1.1.2.2.2.2.2.1) fun y2=>some ((y2.1.1,(y2.1.2.1,(y2.1.2.2.1,(y2.1.2.2.2.1,(y2.1.2.2.2.2.1,(y2.1.2.2.2.2.2.1,())))))),())else aZ (rE y1.1.1 y1.1.2.1 y1.1.2.2.1 y1.1.2.2.2.1 y1.1.2.2.2.2.1 y1.1.2.2.2.2.2.1) fun y2=>some ((y2.1.1,(y2.1.2.1,(y2.1.2.2.1,(y2.1.2.2.2.1,(y2.1.2.2.2.2.1,(y2.1.2.2.2.2.2.1,())))))),())
def akc (q:rq) (x0:List eG) (x1:bH) (x2:List ed) (x3 x4 x5:Int):Option E9:=aZ (lw x0 x1 x2 x3 x4 x5 [100]) fun y0=>aZ (q.q194 y0.1.1 y0.1.2.1 y0.1.2.2.1 y0.1.2.2.2.1 y0.1.2.2.2.2.1 y0.1.2.2.2.2.2.1) fun y1=>aZ (lw y1.1.1 y1.1.2.1 y1.1.2.2.1 y1.1.2.2.2.1 y1.1.2.2.2.2.1 y1.1.2.2.2.2.2.1 [103]) fun y2=>some ((y2.1.1,(y2.1.2.1,(y2.1.2.2.1,(y2.1.2.2.2.1,(y2.1.2.2.2.2.1,(y2.1.2.2.2.2.2.1,())))))),())
def aqs:SQ:=⟨us [.ptr 0 0,.u,.u,.v bV] 104,[[.ptr 0 0]],[.box 0 101 [.v o9,.v .str,.slc 1,.v bV,.v bV,.v bV],.arr 1 rJ]⟩
def aqy:SQ:=⟨us [] 108,[[.ptr 0 0]],[]⟩
def aqS (q:rq) {γ:Type} (rec:Int->Int->Int->(List eG)->bH->Int->Int->Int->(List ed)->Option γ) (kE:Int->(List eG)->bH->Int->Int->Int->(List ed)->Option γ) (kR:Option γ) (v0 v1 v2:Int) (v3:List eG) (v4:bH) (v5 v6 v7:Int) (v8:List ed):Option γ:=bif(iq v2 6)then bif(fU [123,40,105,119,114,99] v2)then bif(bD (bK [123,40,105,119,114,99] v2) v0)then rec v0 (bT .i64 9 v2) (bT .i64 v2 1) v3 v4 v5 v6 v7 v8 else rec v0 v1 (bT .i64 v2 1) v3 v4 v5 v6 v7 v8 else none else kE v1 v3 v4 v5 v6 v7 v8
def vH (q:rq):Nat->Int->Int->Int->(List eG)->bH->Int->Int->Int->(List ed)->Option (aqs.den⊕aqy.den)
 |0,_,_,_,_,_,_,_,_,_=>none
 |n+1,v0,v1,v2,v3,v4,v5,v6,v7,v8=>aqS q (vH q n) (fun e0 e1 e2 e3 e4 e5 e6=>some (.inl ((e0,()),((),()),((e1,e2,e3,e4,e5,()),e6,())))) (some (.inr ((),((),()),()))) v0 v1 v2 v3 v4 v5 v6 v7 v8
def Zh:SQ:=⟨us [.ptr 0 0,.u,.u,.u,.u,.v bV] 102,[[.ptr 0 0]],[.box 0 101 [.v o9,.v .str,.slc 1,.v bV,.v bV,.v bV],.arr 1 rJ]⟩
def Zi:SQ:=⟨us [] 108,[[.ptr 0 0]],[]⟩
def ZH (q:rq) {γ:Type} (rec kE:Int->(List eG)->bH->Int->Int->Int->(List ed)->Option γ) (kR:Option γ) (v0:Int) (v1:List eG) (v2:bH) (v3 v4 v5:Int) (v6:List ed):Option γ:=aZ (XO v1 v2 v6 v3 v4 v5) fun y0=>bif y0.2.1 then aZ (acP y0.1.1 y0.1.2.1 y0.1.2.2.1 y0.1.2.2.2.1 y0.1.2.2.2.2.1 y0.1.2.2.2.2.2.1) fun y1=>rec v0 y1.1.1 y1.1.2.1 y1.1.2.2.2.1 y1.1.2.2.2.2.1 y1.1.2.2.2.2.2.1 y1.1.2.2.1 else kE v0 y0.1.1 y0.1.2.1 y0.1.2.2.2.1 y0.1.2.2.2.2.1 y0.1.2.2.2.2.2.1 y0.1.2.2.1
def iT (q:rq):Nat->Int->(List eG)->bH->Int->Int->Int->(List ed)->Option (Zh.den⊕Zi.den)
 |0,_,_,_,_,_,_,_=>none
 |n+1,v0,v1,v2,v3,v4,v5,v6=>ZH q (iT q n) (fun e0 e1 e2 e3 e4 e5 e6=>some (.inl ((e0,()),((),()),((e1,e2,e3,e4,e5,()),e6,())))) (some (.inr ((),((),()),()))) v0 v1 v2 v3 v4 v5 v6
def alY:SQ:=⟨us [.ptr 0 0,.u,.u,.u,.u,.v bV] 102,[[.ptr 0 0]],[.box 0 101 [.v o9,.v .str,.slc 1,.v bV,.v bV,.v bV],.arr 1 rJ]⟩
def al3:SQ:=⟨us [] 108,[[.ptr 0 0]],[]⟩
def ZG (q:rq) {γ:Type} (rec kE:Int->(List eG)->bH->Int->Int->Int->(List ed)->Option γ) (kR:Option γ) (v0:Int) (v1:List eG) (v2:bH) (v3 v4 v5:Int) (v6:List ed):Option γ:=aZ (lI v1 v2 v6 v3 v4 v5 [101]) fun y0=>bif y0.2.1 then aZ (q.q194 y0.1.1 y0.1.2.1 y0.1.2.2.1 (bT .i64 y0.1.2.2.2.1 1) y0.1.2.2.2.2.1 y0.1.2.2.2.2.2.1) fun y1=>aZ (lw y1.1.1 y1.1.2.1 y1.1.2.2.1 y1.1.2.2.2.1 y1.1.2.2.2.2.1 y1.1.2.2.2.2.2.1 [116]) fun y2=>aZ (q.q194 y2.1.1 y2.1.2.1 y2.1.2.2.1 y2.1.2.2.2.1 y2.1.2.2.2.2.1 y2.1.2.2.2.2.2.1) fun y3=>rec v0 y3.1.1 y3.1.2.1 y3.1.2.2.2.1 y3.1.2.2.2.2.1 y3.1.2.2.2.2.2.1 y3.1.2.2.1 else kE v0 y0.1.1 y0.1.2.1 y0.1.2.2.2.1 y0.1.2.2.2.2.1 y0.1.2.2.2.2.2.1 y0.1.2.2.1
def AQ (q:rq):Nat->Int->(List eG)->bH->Int->Int->Int->(List ed)->Option (alY.den⊕al3.den)
 |0,_,_,_,_,_,_,_=>none
 |n+1,v0,v1,v2,v3,v4,v5,v6=>ZG q (AQ q n) (fun e0 e1 e2 e3 e4 e5 e6=>some (.inl ((e0,()),((),()),((e1,e2,e3,e4,e5,()),e6,())))) (some (.inr ((),((),()),()))) v0 v1 v2 v3 v4 v5 v6
def lu (y5:Zh.den⊕Zi.den):Option E9:=dA y5 (fun a6=>aZ (nN a6.2.2.1.1 a6.2.2.1.2.1 a6.2.2.2.1 a6.2.2.1.2.2.1 a6.2.2.1.2.2.2.1 a6.2.2.1.2.2.2.2.1 a6.1.1) fun y7=>some ((y7.1.1,(y7.1.2.1,(y7.1.2.2.1,(y7.1.2.2.2.1,(y7.1.2.2.2.2.1,(y7.1.2.2.2.2.2.1,())))))),())) (fun b6=>none)
def xH (q:rq) (x0:List eG) (x1:bH) (x2:List ed) (x3 x4 x5:Int):Option E9:=bif(fU x1 x3)then aZ (vH q bC (bK x1 x3) 9 0 x0 x1 x3 x4 x5 x2) fun y0=>dA y0 (fun a1=>aZ (Aw a1.2.2.1.1 a1.2.2.1.2.1 a1.2.2.2.1 a1.2.2.1.2.2.1 a1.2.2.1.2.2.2.1 a1.2.2.1.2.2.2.2.1 a1.1.1) fun y2=>bif(bD a1.1.1 9)then aZ (q.q194 y2.1.1 y2.1.2.1 y2.1.2.2.1 (bT .i64 y2.1.2.2.2.1 1) y2.1.2.2.2.2.1 y2.1.2.2.2.2.2.1) fun y3=>aZ (lw y3.1.1 y3.1.2.1 y3.1.2.2.1 y3.1.2.2.2.1 y3.1.2.2.2.2.1 y3.1.2.2.2.2.2.1 [125]) fun y4=>aZ (iT q bC y2.2.1 y4.1.1 y4.1.2.1 y4.1.2.2.2.1 y4.1.2.2.2.2.1 y4.1.2.2.2.2.2.1 y4.1.2.2.1) fun y5=>lu y5 else bif(bD a1.1.1 10)then aZ (q.q194 y2.1.1 y2.1.2.1 y2.1.2.2.1 (bT .i64 y2.1.2.2.2.1 1) y2.1.2.2.2.2.1 y2.1.2.2.2.2.2.1) fun y3=>aZ (lw y3.1.1 y3.1.2.1 y3.1.2.2.1 y3.1.2.2.2.1 y3.1.2.2.2.2.1 y3.1.2.2.2.2.2.1 [41]) fun y4=>aZ (iT q bC y2.2.1 y4.1.1 y4.1.2.1 y4.1.2.2.2.1 y4.1.2.2.2.2.1 y4.1.2.2.2.2.2.1 y4.1.2.2.1) fun y5=>lu y5 else bif(bD a1.1.1 11)then aZ (q.q194 y2.1.1 y2.1.2.1 y2.1.2.2.1 (bT .i64 y2.1.2.2.2.1 1) y2.1.2.2.2.2.1 y2.1.2.2.2.2.2.1) fun y3=>aZ (lw y3.1.1 y3.1.2.1 y3.1.2.2.1 y3.1.2.2.2.1 y3.1.2.2.2.2.1 y3.1.2.2.2.2.2.1 [116]) fun y4=>aZ (q.q194 y4.1.1 y4.1.2.1 y4.1.2.2.1 y4.1.2.2.2.1 y4.1.2.2.2.2.1 y4.1.2.2.2.2.2.1) fun y5=>aZ (AQ q bC y2.2.1 y5.1.1 y5.1.2.1 y5.1.2.2.2.1 y5.1.2.2.2.2.1 y5.1.2.2.2.2.2.1 y5.1.2.2.1) fun y6=>dA y6 (fun a7=>aZ (lI a7.2.2.1.1 a7.2.2.1.2.1 a7.2.2.2.1 a7.2.2.1.2.2.1 a7.2.2.1.2.2.2.1 a7.2.2.1.2.2.2.2.1 [108]) fun y8=>bif y8.2.1 then aZ (q.q194 y8.1.1 y8.1.2.1 y8.1.2.2.1 (bT .i64 y8.1.2.2.2.1 1) y8.1.2.2.2.2.1 y8.1.2.2.2.2.2.1) fun y9=>aZ (lw y9.1.1 y9.1.2.1 y9.1.2.2.1 y9.1.2.2.2.1 y9.1.2.2.2.2.1 y9.1.2.2.2.2.2.1 [102]) fun y10=>aZ (iT q bC a7.1.1 y10.1.1 y10.1.2.1 y10.1.2.2.2.1 y10.1.2.2.2.2.1 y10.1.2.2.2.2.2.1 y10.1.2.2.1) fun y11=>lu y11 else aZ (lw y8.1.1 y8.1.2.1 y8.1.2.2.1 y8.1.2.2.2.1 y8.1.2.2.2.2.1 y8.1.2.2.2.2.2.1 [102]) fun y9=>aZ (iT q bC a7.1.1 y9.1.1 y9.1.2.1 y9.1.2.2.2.1 y9.1.2.2.2.2.1 y9.1.2.2.2.2.2.1 y9.1.2.2.1) fun y10=>lu y10) (fun b7=>none)else bif(bD a1.1.1 12)then aZ (q.q194 y2.1.1 y2.1.2.1 y2.1.2.2.1 (bT .i64 y2.1.2.2.2.1 1) y2.1.2.2.2.2.1 y2.1.2.2.2.2.2.1) fun y3=>aZ (q.q195 y3.1.1 y3.1.2.1 y3.1.2.2.1 y3.1.2.2.2.1 y3.1.2.2.2.2.1 y3.1.2.2.2.2.2.1) fun y4=>aZ (iT q bC y2.2.1 y4.1.1 y4.1.2.1 y4.1.2.2.2.1 y4.1.2.2.2.2.1 y4.1.2.2.2.2.2.1 y4.1.2.2.1) fun y5=>lu y5 else bif(bD a1.1.1 13)then aZ (q.q196 y2.1.1 y2.1.2.1 y2.1.2.2.1 (bT .i64 y2.1.2.2.2.1 1) y2.1.2.2.2.2.1 y2.1.2.2.2.2.2.1) fun y3=>aZ (iT q bC y2.2.1 y3.1.1 y3.1.2.1 y3.1.2.2.2.1 y3.1.2.2.2.2.1 y3.1.2.2.2.2.2.1 y3.1.2.2.1) fun y4=>lu y4 else bif(bD a1.1.1 14)then aZ (q.q197 y2.1.1 y2.1.2.1 y2.1.2.2.1 (bT .i64 y2.1.2.2.2.1 1) y2.1.2.2.2.2.1 y2.1.2.2.2.2.2.1) fun y3=>aZ (iT q bC y2.2.1 y3.1.1 y3.1.2.1 y3.1.2.2.2.1 y3.1.2.2.2.2.1 y3.1.2.2.2.2.2.1 y3.1.2.2.1) fun y4=>lu y4 else aZ (iT q bC y2.2.1 y2.1.1 y2.1.2.1 (bT .i64 y2.1.2.2.2.1 1) y2.1.2.2.2.2.1 y2.1.2.2.2.2.2.1 y2.1.2.2.1) fun y3=>lu y3) (fun b1=>none)else none
def aqv:SQ:=⟨us [.ptr 0 0] 112,[[.ptr 0 0]],[.box 0 101 [.v o9,.v .str,.slc 1,.v bV,.v bV,.v bV],.arr 1 rJ]⟩
def aqB:SQ:=⟨us [] 113,[[.ptr 0 0]],[]⟩
def aeC (q:rq) {γ:Type} (rec kE:(List eG)->bH->Int->Int->Int->(List ed)->Option γ) (kR:Option γ) (v0:List eG) (v1:bH) (v2 v3 v4:Int) (v5:List ed):Option γ:=bif(iq v2 (bi v0))then bif(fU v0 v2)then bif(bD (eu v0 (0,([],(0,(0,())))) v2).1 6)then aZ (KP v0 v1 v5 v2 v3 v4 7) fun y0=>rec y0.1.1 y0.1.2.1 y0.1.2.2.2.1 y0.1.2.2.2.2.1 y0.1.2.2.2.2.2.1 y0.1.2.2.1 else kE v0 v1 v2 v3 v4 v5 else none else kE v0 v1 v2 v3 v4 v5
def Gy (q:rq):Nat->(List eG)->bH->Int->Int->Int->(List ed)->Option (aqv.den⊕aqB.den)
 |0,_,_,_,_,_,_=>none
 |n+1,v0,v1,v2,v3,v4,v5=>aeC q (Gy q n) (fun e0 e1 e2 e3 e4 e5=>some (.inl ((),((),()),((e0,e1,e2,e3,e4,()),e5,())))) (some (.inr ((),((),()),()))) v0 v1 v2 v3 v4 v5
def FT (y1:E9) (q:rq):Option E9:=aZ (lI y1.1.1 y1.1.2.1 y1.1.2.2.1 y1.1.2.2.2.1 y1.1.2.2.2.2.1 y1.1.2.2.2.2.2.1 [59]) fun y2=>bif y2.2.1 then aZ (qN y2.1.1 y2.1.2.1 y2.1.2.2.1 (bT .i64 y2.1.2.2.2.1 1) y2.1.2.2.2.2.1 y2.1.2.2.2.2.2.1) fun y3=>aZ (q.q195 y3.1.1 y3.1.2.1 y3.1.2.2.1 y3.1.2.2.2.1 y3.1.2.2.2.2.1 y3.1.2.2.2.2.2.1) fun y4=>some ((y4.1.1,(y4.1.2.1,(y4.1.2.2.1,(y4.1.2.2.2.1,(y4.1.2.2.2.2.1,(y4.1.2.2.2.2.2.1,())))))),())else aZ (qN y2.1.1 y2.1.2.1 y2.1.2.2.1 y2.1.2.2.2.1 y2.1.2.2.2.2.1 y2.1.2.2.2.2.2.1) fun y3=>aZ (lI y3.1.1 y3.1.2.1 y3.1.2.2.1 y3.1.2.2.2.1 y3.1.2.2.2.2.1 y3.1.2.2.2.2.2.1 [107]) fun y4=>bif y4.2.1 then aZ (Gy q bC y4.1.1 y4.1.2.1 (bT .i64 y4.1.2.2.2.1 1) y4.1.2.2.2.2.1 y4.1.2.2.2.2.2.1 y4.1.2.2.1) fun y5=>dA y5 (fun a6=>aZ (lI a6.2.2.1.1 a6.2.2.1.2.1 a6.2.2.2.1 a6.2.2.1.2.2.1 a6.2.2.1.2.2.2.1 a6.2.2.1.2.2.2.2.1 [59]) fun y7=>bif y7.2.1 then aZ (qN y7.1.1 y7.1.2.1 y7.1.2.2.1 (bT .i64 y7.1.2.2.2.1 1) y7.1.2.2.2.2.1 y7.1.2.2.2.2.2.1) fun y8=>aZ (q.q195 y8.1.1 y8.1.2.1 y8.1.2.2.1 y8.1.2.2.2.1 y8.1.2.2.2.2.1 y8.1.2.2.2.2.2.1) fun y9=>some ((y9.1.1,(y9.1.2.1,(y9.1.2.2.1,(y9.1.2.2.2.1,(y9.1.2.2.2.2.1,(y9.1.2.2.2.2.2.1,())))))),())else aZ (qN y7.1.1 y7.1.2.1 y7.1.2.2.1 y7.1.2.2.2.1 y7.1.2.2.2.2.1 y7.1.2.2.2.2.2.1) fun y8=>bif(bD y8.2.1 0)then aZ (rE y8.1.1 y8.1.2.1 y8.1.2.2.1 y8.1.2.2.2.1 y8.1.2.2.2.2.1 y8.1.2.2.2.2.2.1) fun y9=>aZ (q.q195 y9.1.1 y9.1.2.1 y9.1.2.2.1 y9.1.2.2.2.1 y9.1.2.2.2.2.1 y9.1.2.2.2.2.2.1) fun y10=>some ((y10.1.1,(y10.1.2.1,(y10.1.2.2.1,(y10.1.2.2.2.1,(y10.1.2.2.2.2.1,(y10.1.2.2.2.2.2.1,())))))),())else aZ (q.q195 y8.1.1 y8.1.2.1 y8.1.2.2.1 y8.1.2.2.2.1 y8.1.2.2.2.2.1 y8.1.2.2.2.2.2.1) fun y9=>some ((y9.1.1,(y9.1.2.1,(y9.1.2.2.1,(y9.1.2.2.2.1,(y9.1.2.2.2.2.1,(y9.1.2.2.2.2.2.1,())))))),())) (fun b6=>none)else aZ (q.q195 y4.1.1 y4.1.2.1 y4.1.2.2.1 y4.1.2.2.2.1 y4.1.2.2.2.2.1 y4.1.2.2.2.2.2.1) fun y5=>some ((y5.1.1,(y5.1.2.1,(y5.1.2.2.1,(y5.1.2.2.2.1,(y5.1.2.2.2.2.1,(y5.1.2.2.2.2.2.1,())))))),())
def akd (q:rq) (x0:List eG) (x1:bH) (x2:List ed) (x3 x4 x5:Int):Option E9:=bif(iq x3 (bi x0))then bif(fU x0 x3)then bif(bD (eu x0 (0,([],(0,(0,())))) x3).1 6)then bif(fU x0 x3)then aZ (XY (eu x0 (0,([],(0,(0,())))) x3).2.1) fun y0=>bif y0.1 then aZ (KP x0 x1 x2 x3 x4 x5 7) fun y1=>FT y1 q else aZ (rE x0 x1 x2 x3 x4 x5) fun y1=>FT y1 q else none else aZ (rE x0 x1 x2 x3 x4 x5) fun y0=>FT y0 q else none else aZ (rE x0 x1 x2 x3 x4 x5) fun y0=>FT y0 q
def alZ:SQ:=⟨us [.ptr 0 0,.u,.u,.v bV] 96,[[.ptr 0 0]],[.box 0 101 [.v o9,.v .str,.slc 1,.v bV,.v bV,.v bV],.arr 1 rJ]⟩
def al4:SQ:=⟨us [] 100,[[.ptr 0 0]],[]⟩
def ZI (q:rq) {γ:Type} (rec kE:Int->(List eG)->bH->Int->Int->Int->(List ed)->Option γ) (kR:Option γ) (v0:Int) (v1:List eG) (v2:bH) (v3 v4 v5:Int) (v6:List ed):Option γ:=aZ (lI v1 v2 v6 v3 v4 v5 [124]) fun y0=>bif y0.2.1 then aZ (uY y0.1.1 y0.1.2.1 y0.1.2.2.1 (bT .i64 y0.1.2.2.2.1 1) y0.1.2.2.2.2.1 y0.1.2.2.2.2.2.1) fun y1=>rec v0 y1.1.1 y1.1.2.1 y1.1.2.2.2.1 y1.1.2.2.2.2.1 y1.1.2.2.2.2.2.1 y1.1.2.2.1 else kE v0 y0.1.1 y0.1.2.1 y0.1.2.2.2.1 y0.1.2.2.2.2.1 y0.1.2.2.2.2.2.1 y0.1.2.2.1
def uo (q:rq):Nat->Int->(List eG)->bH->Int->Int->Int->(List ed)->Option (alZ.den⊕al4.den)
 |0,_,_,_,_,_,_,_=>none
 |n+1,v0,v1,v2,v3,v4,v5,v6=>ZI q (uo q n) (fun e0 e1 e2 e3 e4 e5 e6=>some (.inl ((e0,()),((),()),((e1,e2,e3,e4,e5,()),e6,())))) (some (.inr ((),((),()),()))) v0 v1 v2 v3 v4 v5 v6
def aqw:SQ:=⟨us [.ptr 0 0] 99,[[.ptr 0 0]],[.box 0 101 [.v o9,.v .str,.slc 1,.v bV,.v bV,.v bV],.arr 1 rJ]⟩
def aqC:SQ:=⟨us [] 100,[[.ptr 0 0]],[]⟩
def tJ {γ:Type} (q:rq) (y1:(taF×EU)) (y3:E9) (rec:Bool->(List eG)->bH->Int->Int->Int->(List ed)->Option γ) (kR:Option γ):Option γ:=aZ (uo q bC y1.2.1 y3.1.1 y3.1.2.1 y3.1.2.2.2.1 y3.1.2.2.2.2.1 y3.1.2.2.2.2.2.1 y3.1.2.2.1) fun y4=>dA y4 (fun a5=>aZ (lw a5.2.2.1.1 a5.2.2.1.2.1 a5.2.2.2.1 a5.2.2.1.2.2.1 a5.2.2.1.2.2.2.1 a5.2.2.1.2.2.2.2.1 [41]) fun y6=>aZ (qN y6.1.1 y6.1.2.1 y6.1.2.2.1 y6.1.2.2.2.1 y6.1.2.2.2.2.1 y6.1.2.2.2.2.2.1) fun y7=>aZ (NS y7.1.1 y7.1.2.1 y7.1.2.2.1 y7.1.2.2.2.1 y7.1.2.2.2.2.1 y7.1.2.2.2.2.2.1) fun y8=>bif y8.2.1 then aZ (q.q48 y8.1.1 y8.1.2.1 y8.1.2.2.1 y8.1.2.2.2.1 y8.1.2.2.2.2.1 y8.1.2.2.2.2.2.1) fun y9=>aZ (nN y9.1.1 y9.1.2.1 y9.1.2.2.1 y9.1.2.2.2.1 y9.1.2.2.2.2.1 y9.1.2.2.2.2.2.1 a5.1.1) fun y10=>aZ (lI y10.1.1 y10.1.2.1 y10.1.2.2.1 y10.1.2.2.2.1 y10.1.2.2.2.2.1 y10.1.2.2.2.2.2.1 [121]) fun y11=>bif y11.2.1 then aZ (qN y11.1.1 y11.1.2.1 y11.1.2.2.1 (bT .i64 y11.1.2.2.2.1 1) y11.1.2.2.2.2.1 y11.1.2.2.2.2.2.1) fun y12=>rec y11.2.1 y12.1.1 y12.1.2.1 y12.1.2.2.2.1 y12.1.2.2.2.2.1 y12.1.2.2.2.2.2.1 y12.1.2.2.1 else rec y11.2.1 y11.1.1 y11.1.2.1 y11.1.2.2.2.1 y11.1.2.2.2.2.1 y11.1.2.2.2.2.2.1 y11.1.2.2.1 else aZ (nN y8.1.1 y8.1.2.1 y8.1.2.2.1 y8.1.2.2.2.1 y8.1.2.2.2.2.1 y8.1.2.2.2.2.2.1 a5.1.1) fun y9=>aZ (lI y9.1.1 y9.1.2.1 y9.1.2.2.1 y9.1.2.2.2.1 y9.1.2.2.2.2.1 y9.1.2.2.2.2.2.1 [121]) fun y10=>bif y10.2.1 then aZ (qN y10.1.1 y10.1.2.1 y10.1.2.2.1 (bT .i64 y10.1.2.2.2.1 1) y10.1.2.2.2.2.1 y10.1.2.2.2.2.2.1) fun y11=>rec y10.2.1 y11.1.1 y11.1.2.1 y11.1.2.2.2.1 y11.1.2.2.2.2.1 y11.1.2.2.2.2.2.1 y11.1.2.2.1 else rec y10.2.1 y10.1.1 y10.1.2.1 y10.1.2.2.2.1 y10.1.2.2.2.2.1 y10.1.2.2.2.2.2.1 y10.1.2.2.1) (fun b5=>kR)
def WC (q:rq) {γ:Type} (rec:Bool->(List eG)->bH->Int->Int->Int->(List ed)->Option γ) (kE:(List eG)->bH->Int->Int->Int->(List ed)->Option γ) (kR:Option γ) (v0:Bool) (v1:List eG) (v2:bH) (v3 v4 v5:Int) (v6:List ed):Option γ:=bif v0 then aZ (lI v1 v2 v6 v3 v4 v5 [40]) fun y0=>bif y0.2.1 then aZ (Aw y0.1.1 y0.1.2.1 y0.1.2.2.1 y0.1.2.2.2.1 y0.1.2.2.2.2.1 y0.1.2.2.2.2.2.1 15) fun y1=>aZ (lI y1.1.1 y1.1.2.1 y1.1.2.2.1 y1.1.2.2.2.1 y1.1.2.2.2.2.1 y1.1.2.2.2.2.2.1 [40]) fun y2=>bif y2.2.1 then aZ (uY y2.1.1 y2.1.2.1 y2.1.2.2.1 (bT .i64 y2.1.2.2.2.1 1) y2.1.2.2.2.2.1 y2.1.2.2.2.2.2.1) fun y3=>tJ q y1 y3 rec kR else aZ (uY y2.1.1 y2.1.2.1 y2.1.2.2.1 y2.1.2.2.2.1 y2.1.2.2.2.2.1 y2.1.2.2.2.2.2.1) fun y3=>tJ q y1 y3 rec kR else bif(iq y0.1.2.2.2.1 (bi y0.1.1))then bif(fU y0.1.1 y0.1.2.2.2.1)then bif(bD (eu y0.1.1 (0,([],(0,(0,())))) y0.1.2.2.2.1).1 6)then aZ (lI y0.1.1 y0.1.2.1 y0.1.2.2.1 y0.1.2.2.2.1 y0.1.2.2.2.2.1 y0.1.2.2.2.2.2.1 [122]) fun y1=>bif(!y1.2.1)then aZ (Aw y1.1.1 y1.1.2.1 y1.1.2.2.1 y1.1.2.2.2.1 y1.1.2.2.2.2.1 y1.1.2.2.2.2.2.1 15) fun y2=>aZ (lI y2.1.1 y2.1.2.1 y2.1.2.2.1 y2.1.2.2.2.1 y2.1.2.2.2.2.1 y2.1.2.2.2.2.2.1 [40]) fun y3=>bif y3.2.1 then aZ (uY y3.1.1 y3.1.2.1 y3.1.2.2.1 (bT .i64 y3.1.2.2.2.1 1) y3.1.2.2.2.2.1 y3.1.2.2.2.2.2.1) fun y4=>tJ q y2 y4 rec kR else aZ (uY y3.1.1 y3.1.2.1 y3.1.2.2.1 y3.1.2.2.2.1 y3.1.2.2.2.2.1 y3.1.2.2.2.2.2.1) fun y4=>tJ q y2 y4 rec kR else kE y1.1.1 y1.1.2.1 y1.1.2.2.2.1 y1.1.2.2.2.2.1 y1.1.2.2.2.2.2.1 y1.1.2.2.1 else kE y0.1.1 y0.1.2.1 y0.1.2.2.2.1 y0.1.2.2.2.2.1 y0.1.2.2.2.2.2.1 y0.1.2.2.1 else none else kE y0.1.1 y0.1.2.1 y0.1.2.2.2.1 y0.1.2.2.2.2.1 y0.1.2.2.2.2.2.1 y0.1.2.2.1 else kE v1 v2 v3 v4 v5 v6
def yU (q:rq):Nat->Bool->(List eG)->bH->Int->Int->Int->(List ed)->Option (aqw.den⊕aqC.den)
 |0,_,_,_,_,_,_,_=>none
 |n+1,v0,v1,v2,v3,v4,v5,v6=>WC q (yU q n) (fun e0 e1 e2 e3 e4 e5=>some (.inl ((),((),()),((e0,e1,e2,e3,e4,()),e5,())))) (some (.inr ((),((),()),()))) v0 v1 v2 v3 v4 v5 v6
def ake (q:rq) (x0:List eG) (x1:bH) (x2:List ed) (x3 x4 x5:Int):Option E9:=aZ (uY x0 x1 x2 x3 x4 x5) fun y0=>aZ (qN y0.1.1 y0.1.2.1 y0.1.2.2.1 y0.1.2.2.2.1 y0.1.2.2.2.2.1 y0.1.2.2.2.2.2.1) fun y1=>aZ (lw y1.1.1 y1.1.2.1 y1.1.2.2.1 y1.1.2.2.2.1 y1.1.2.2.2.2.1 y1.1.2.2.2.2.2.1 [107]) fun y2=>aZ (qN y2.1.1 y2.1.2.1 y2.1.2.2.1 y2.1.2.2.2.1 y2.1.2.2.2.2.1 y2.1.2.2.2.2.2.1) fun y3=>aZ (yU q bC true y3.1.1 y3.1.2.1 y3.1.2.2.2.1 y3.1.2.2.2.2.1 y3.1.2.2.2.2.2.1 y3.1.2.2.1) fun y4=>dA y4 (fun a5=>aZ (lw a5.2.2.1.1 a5.2.2.1.2.1 a5.2.2.2.1 a5.2.2.1.2.2.1 a5.2.2.1.2.2.2.1 a5.2.2.1.2.2.2.2.1 [122]) fun y6=>some ((y6.1.1,(y6.1.2.1,(y6.1.2.2.1,(y6.1.2.2.2.1,(y6.1.2.2.2.2.1,(y6.1.2.2.2.2.2.1,())))))),())) (fun b5=>none)
def fO:Nat->rq
 |0=>⟨(fun _ _ _ _ _ _=>none),(fun _ _ _ _ _ _=>none),(fun _ _ _ _ _ _=>none),(fun _ _ _ _ _ _=>none),(fun _ _ _ _ _ _=>none),(fun _ _ _ _ _ _=>none),(fun _ _ _ _ _ _=>none),(fun _ _ _ _ _ _=>none),(fun _ _ _ _ _ _=>none)⟩
 |r+1=>⟨atT (fO r),atU (fO r),aj7 (fO r),aj9 (fO r),akb (fO r),akc (fO r),xH (fO r),akd (fO r),ake (fO r)⟩
def awG (x0:List eG) (x1:bH) (x2:List ed) (x3 x4 x5:Int):Option E9:=(fO bC).q48 x0 x1 x2 x3 x4 x5
def avg:SP:=⟨us [.v o9,.u,.u,.v .str] 57,[]⟩
def avr:SP:=⟨us [.u,.u,.v KN] 58,[]⟩
def amL {γ:Type} (rec:(List eG)->bH->Int->Option γ) (kE:(List eG)->bH->Option γ) (kR:(List ed)->Option γ) (v0:List eG) (v1:bH) (v2:Int):Option γ:=bif(iq v2 (bi v0))then bif(fU v0 v2)then aZ (Qd (eu v0 (0,([],(0,(0,())))) v2)) fun y0=>bif(kT v1 y0.1)then rec v0 (bF v1 y0.1) (bT .i64 v2 1)else none else none else kE v0 v1
def Ov:Nat->(List eG)->bH->Int->Option (avg.den⊕avr.den)
 |0,_,_,_=>none
 |n+1,v0,v1,v2=>amL (Ov n) (fun e0 e1=>some (.inl ((e0,e1,()),()))) (fun r0=>some (.inr ((r0,()),()))) v0 v1 v2
def avh:SP:=⟨us [.u,.u,.u,.u,.u,.ptr 1000024 0,.v bV] 54,[.arr 1200482 rJ,.box 1000024 101 [.v o9,.v .str,.slc 1200482,.v bV,.v bV,.v bV]]⟩
def avs:SP:=⟨us [.u,.u,.v KN] 58,[]⟩
def amM {γ:Type} (rec:(List eG)->Int->Int->(List ed)->(List eG)->bH->Int->Int->Int->Option γ) (kE:Int->(List ed)->(List eG)->bH->Int->Int->Int->Option γ) (kR:(List ed)->Option γ) (v0:List eG) (v1 v2:Int) (v3:List ed) (v4:List eG) (v5:bH) (v6 v7 v8:Int):Option γ:=bif(iq v6 (bi v0))then aZ (lI v4 v5 v3 v6 v7 v8 [110]) fun y0=>bif y0.2.1 then rec v0 v1 v2 y0.1.2.2.1 y0.1.1 y0.1.2.1 (bT .i64 y0.1.2.2.2.1 1) y0.1.2.2.2.2.1 y0.1.2.2.2.2.2.1 else bif(!(bD v2 2))then aZ (NS y0.1.1 y0.1.2.1 y0.1.2.2.1 y0.1.2.2.2.1 y0.1.2.2.2.2.1 y0.1.2.2.2.2.2.1) fun y1=>bif y1.2.1 then aZ (awG y1.1.1 y1.1.2.1 y1.1.2.2.1 y1.1.2.2.2.1 y1.1.2.2.2.2.1 y1.1.2.2.2.2.2.1) fun y2=>rec v0 v1 2 y2.1.2.2.1 y2.1.1 y2.1.2.1 y2.1.2.2.2.1 y2.1.2.2.2.2.1 y2.1.2.2.2.2.2.1 else aZ (KP y1.1.1 y1.1.2.1 y1.1.2.2.1 y1.1.2.2.2.1 y1.1.2.2.2.2.1 y1.1.2.2.2.2.2.1 17) fun y2=>rec v0 v1 17 y2.1.2.2.1 y2.1.1 y2.1.2.1 y2.1.2.2.2.1 y2.1.2.2.2.2.1 y2.1.2.2.2.2.2.1 else aZ (KP y0.1.1 y0.1.2.1 y0.1.2.2.1 y0.1.2.2.2.1 y0.1.2.2.2.2.1 y0.1.2.2.2.2.2.1 17) fun y1=>rec v0 v1 17 y1.1.2.2.1 y1.1.1 y1.1.2.1 y1.1.2.2.2.1 y1.1.2.2.2.2.1 y1.1.2.2.2.2.2.1 else kE v1 v3 v4 v5 v6 v7 v8
def IJ:Nat->(List eG)->Int->Int->(List ed)->(List eG)->bH->Int->Int->Int->Option (avh.den⊕avs.den)
 |0,_,_,_,_,_,_,_,_,_=>none
 |n+1,v0,v1,v2,v3,v4,v5,v6,v7,v8=>amM (IJ n) (fun e0 e1 e2 e3 e4 e5 e6=>some (.inl ((e0,()),(e1,(e2,e3,e4,e5,e6,()),())))) (fun r0=>some (.inr ((r0,()),()))) v0 v1 v2 v3 v4 v5 v6 v7 v8
def aoH (x0:List eG):Option ((List ed)×Unit):=aZ (Ov bC x0 [] 0) fun y0=>dA y0 (fun a1=>aZ (Aw a1.1.1 a1.1.2.1 [] 0 (-1) 0 1) fun y2=>aZ (IJ bC a1.1.1 y2.2.1 0 y2.1.2.2.1 y2.1.1 y2.1.2.1 y2.1.2.2.2.1 y2.1.2.2.2.2.1 y2.1.2.2.2.2.2.1) fun y3=>dA y3 (fun a4=>aZ (nN a4.2.2.1.1 a4.2.2.1.2.1 a4.2.1 a4.2.2.1.2.2.1 a4.2.2.1.2.2.2.1 a4.2.2.1.2.2.2.2.1 a4.1.1) fun y5=>some (y5.1.2.2.1,())) (fun b4=>some (b4.1.1,()))) (fun b1=>some (b1.1.1,()))
end
section
open Go.RowKit
end
section
open Go.RowKit
end
section
open Tryz
open Go.RowKit
def Ir (x1:List uI):=eu x1 (0,(0,(0,(false,())))) (eY .i64 (bi x1) 1)
def agO (x0:bH) (x1:List uI) (x2:Int) (x3:wu) (x4:Bool) (x5:List eG) (x6:List ed):Option (taO×(uI×Bool×Unit)):=bif(bD (bi x1) 0)then some ((x0,(x1,(x2,(x3,(x4,(x5,(x6,()))))))),((0,(0,(0,(false,())))),(false,())))else bif(fU x1 (eY .i64 (bi x1) 1))then bif(!(Ir x1).2.2.2.1)then some ((x0,(x1,(x2,(x3,(x4,(x5,(x6,()))))))),((0,(0,(0,(false,())))),(false,())))else bif(fU x1 (eY .i64 (bi x1) 1))then some ((x0,(x1,(x2,(x3,(x4,(x5,(x6,()))))))),(((Ir x1).1,((Ir x1).2.1,((Ir x1).2.2.1,((Ir x1).2.2.2.1,())))),(true,())))else none else none
def aeF:fV:=⟨45,tzC,[],[Xf,.bool],fun x y=>agO x.1 x.2.1 x.2.2.1 x.2.2.2.1 x.2.2.2.2.1 x.2.2.2.2.2.1 x.2.2.2.2.2.2.1⟩
noncomputable def awl:Env:=dK prog tt [] [] [] []
theorem ajk:dm awl:=eB aN [] aN
theorem PE:dO prog 13 aeF:=sB ajk
noncomputable def aam:Code:=(f60.body).getD .skip
noncomputable def yE:Code:=(f61.body).getD .skip
noncomputable def Xt:Code:=cA (cA (cB (aam)))
def Yn:dE:=⟨[0,5,6,7,61000001],[(300000200,.pair (.list .unit) bV)],[],[],[],[]⟩
def ahc:dE:=⟨[2,4],[],[],[],[],[]⟩
def auf:dE:=⟨[0],[],[],[],[],[]⟩
def ag3:dE:=⟨[0,3,4,5,6,7],[],[],[],[],[]⟩
def ag2:dE:=⟨[0],[],[],[],[],[]⟩
def G8:SQ:=⟨us [.yld 3700007,.u,.u,.u,.u,.v KN,.v bV,.v bV] 19,[us [.u,.u,.ptr 3000002 0,.u,.nils] 8,[.yld 3700007],[.fn 60 [(2000001,0)],.u,.u,.fn 60 [(2000001,0)],.u],[.v KN,.u,.u,.v KN,.fn 60 [(2000001,0)],.u],[]],[.lp 3700007 61 (us [.u,.u,.ptr 3000002 0,.u,.nils] 8) [7] 3 0 none,.arr 3500002 bV,.box 3000002 80 [.slc 3500002],.box 2000001 43 [.v KN]]⟩
def I7:SQ:=⟨us [] 27,[us [.u,.u,.ptr 3000002 0,.u,.nils] 8,[.yld 3700007],[.fn 60 [(2000001,0)],.u,.u,.fn 60 [(2000001,0)],.u],[.v KN,.u,.u,.v KN,.fn 60 [(2000001,0)],.u],[]],[.lp 3700007 61 (us [.u,.u,.ptr 3000002 0,.u,.nils] 8) [7] 3 0 none,.arr 3500002 bV,.box 3000002 80 [.slc 3500002],.box 2000001 43 [.v KN]]⟩
def Jc:SQ:=⟨us [] 27,[us [.u,.u,.ptr 3000002 0,.u,.nils] 8,[.yld 3700007],[.fn 60 [(2000001,0)],.u,.u,.fn 60 [(2000001,0)],.u],[.v KN,.u,.u,.v KN,.fn 60 [(2000001,0)],.u],[]],[]⟩
def Dt {γ:Type} (rec:(List ed)->Int->Int->(List ed)->(List ed)->gX->(List ed)->Option γ) (kE:(List ed)->(List ed)->gX->(List ed)->Option γ) (kR:(List ed)->(List ed)->Option γ) (v0:List ed) (v1 v2:Int) (v3 v4:List ed) (v5:gX) (v6:List ed):Option γ:=bif(iq v2 v1)then bif(fU v0 v2)then bif(bD (eu v0 (0,(0,(0,(0,())))) v2).1 17)then bif(dY (bF v5 [v2]) 8)then rec v0 v1 (bT .i64 v2 1) v3 v4 (bF v5 [v2]) v6 else none else bif(bD (eu v0 (0,(0,(0,(0,())))) v2).1 18)then bif(dY (bF v5 [v2]) 8)then rec v0 v1 (bT .i64 v2 1) v3 v4 (bF v5 [v2]) v6 else none else rec v0 v1 (bT .i64 v2 1) v3 v4 v5 v6 else none else kE v3 v4 v5 v6
def xU:Nat->(List ed)->Int->Int->(List ed)->(List ed)->gX->(List ed)->Option (I7.den⊕Jc.den)
 |0,_,_,_,_,_,_,_=>none
 |n+1,v0,v1,v2,v3,v4,v5,v6=>Dt (xU n) (fun e0 e1 e2 e3=>some (.inl ((),((),(),(),(e0,e1,()),(),()),((),e2,(),(e3,()),())))) (fun r0 r1=>some (.inr ((),((),(),(),(r0,r1,()),(),()),()))) v0 v1 v2 v3 v4 v5 v6
def ahn (n:Nat) (v:G8.den):=xU n v.1.1 v.1.2.1 v.1.2.2.1 v.2.1.2.2.2.1.1 v.2.1.2.2.2.1.2.1 v.2.2.2.1 v.2.2.2.2.2.1.1
noncomputable def Ro:dw:=fE Yn G8 I7 Jc (.exit 0) (ahn bC) 6
def akv (x0:List ed):Option (gX×Unit):=aZ (xU bC x0 (bi x0) 0 x0 x0 [] x0) fun y0=>dA y0 (fun a1=>some (a1.2.2.2.1,())) (fun b1=>none)
def anI:Sum:=⟨[KN],[(.list bV,false)],fun x=>akv x.1⟩
noncomputable def acA:Env:=dK prog tt [] [(60,1,Yn),(61,500003,ahc),(34,600001,auf),(60,600003,ag3),(36,600001,ag2)] [(60,1,Ro)] [61]
def Su {γ:Type} (a:G8.den->Option γ) (b:I7.den->Option γ) (c:Jc.den->Option γ) (v:G8.den):Option γ:=Dt (fun v0 v1 v2 v3 v4 v5 v6=>a ((v0,v1,v2,()),((),(),(),(v3,v4,()),(),()),((),v5,(),(v6,()),()))) (fun e0 e1 e2 e3=>b ((),((),(),(),(e0,e1,()),(),()),((),e2,(),(e3,()),()))) (fun r0 r1=>c ((),((),(),(),(r0,r1,()),(),()),())) v.1.1 v.1.2.1 v.1.2.2.1 v.2.1.2.2.2.1.1 v.2.1.2.2.2.1.2.1 v.2.2.2.1 v.2.2.2.2.2.1.1
theorem ahv:dV acA 60 Xt Ro:=lW (Su) (h2:=by intros;simp only[Su,Dt,cO,cZ,aY,bW,dh])
theorem als:dJ acA 60 aam:=zK [Xt] (aD (fM (ahv)) aN)
theorem alh:iG yE=[]:=by kernel_rfl
theorem amg:iI yE=[(cA (cA (cB (cA (cB (yE))))),cB (cA (cB (cA (cB (yE))))))]:=by kernel_rfl
theorem alu:dJ acA 61 yE:=kH yE (by rw[amg];exact(aD (fun _=>(show mW 61 3=some (cA (cA (cB (cA (cB (yE))))),cB (cA (cB (cA (cB (yE)))))) by kernel_rfl)) aN)) (by rw[alh];exact aN)
theorem ajs:dm acA:=eB aN [60,61] (aD ⟨f60,aam,by kernel_rfl,by kernel_rfl,als⟩ (aD ⟨f61,yE,by kernel_rfl,by kernel_rfl,alu⟩ aN))
theorem ZM:dN prog 34 anI:=sA ajs
noncomputable def b14:Code:=(f14.body).getD .skip
noncomputable def aq5:Code:=cA (cA (cB (cA (cB (b14)))))
def arn:dE:=⟨[0,9,10,11,100002],[],[],[],[2],[]⟩
def adU:SQ:=⟨us [.ptr 0 0,.u,.u,.u,.u,.u,.u,.u,.u,.v (.list bV),.v bV,.v bV] 29,[[.ptr 0 0]],[.box 0 45 [.v .str,.v (.list Xf),.v bV,.v (.list KW),.v .bool,.v o9,.v KN]]⟩
def aby:SQ:=⟨us [] 41,[[.ptr 0 0]],[.box 0 45 [.v .str,.v (.list Xf),.v bV,.v (.list KW),.v .bool,.v o9,.v KN]]⟩
def abH:SQ:=⟨us [.u,.u,.v .bool] 38,[[.ptr 0 0]],[.box 0 45 [.v .str,.v (.list Xf),.v bV,.v (.list KW),.v .bool,.v o9,.v KN]]⟩
def WA {γ:Type} (rec:gX->Int->Int->bH->(List uI)->Int->wu->Bool->(List eG)->(List ed)->Option γ) (kE:bH->(List uI)->Int->wu->Bool->(List eG)->(List ed)->Option γ) (kR:Bool->bH->(List uI)->Int->wu->Bool->(List eG)->(List ed)->Option γ) (v0:gX) (v1 v2:Int) (v3:bH) (v4:List uI) (v5:Int) (v6:wu) (v7:Bool) (v8:List eG) (v9:List ed):Option γ:=bif(iq v2 v1)then bif(fU v0 v2)then bif(fU v9 (eu v0 0 v2))then bif(bD (eu v9 (0,(0,(0,(0,())))) (eu v0 0 v2)).1 17)then kR true v3 v4 v5 v6 v7 v8 v9 else bif(fU v9 (eu v0 0 v2))then bif(iq (eu v9 (0,(0,(0,(0,())))) (eu v0 0 v2)).2.1 (bi v8))then kR true v3 v4 v5 v6 v7 v8 v9 else rec v0 v1 (bT .i64 v2 1) v3 v4 v5 v6 v7 v8 v9 else none else none else none else kE v3 v4 v5 v6 v7 v8 v9
def II:Nat->gX->Int->Int->bH->(List uI)->Int->wu->Bool->(List eG)->(List ed)->Option (aby.den⊕abH.den)
 |0,_,_,_,_,_,_,_,_,_,_=>none
 |n+1,v0,v1,v2,v3,v4,v5,v6,v7,v8,v9=>WA (II n) (fun e0 e1 e2 e3 e4 e5 e6=>some (.inl ((),((),()),((e0,e1,e2,e3,e4,e5,e6,()),())))) (fun r0 r1 r2 r3 r4 r5 r6 r7=>some (.inr ((r0,()),((),()),((r1,r2,r3,r4,r5,r6,r7,()),())))) v0 v1 v2 v3 v4 v5 v6 v7 v8 v9
def auR (n:Nat) (v:adU.den):=II n v.1.1 v.1.2.1 v.1.2.2.1 v.2.2.1.1 v.2.2.1.2.1 v.2.2.1.2.2.1 v.2.2.1.2.2.2.1 v.2.2.1.2.2.2.2.1 v.2.2.1.2.2.2.2.2.1 v.2.2.1.2.2.2.2.2.2.1
noncomputable def alC:dw:=fE arn adU aby abH (.exit 0) (auR bC) 6
def akp (x0:bH) (x1:List uI) (x2:Int) (x3:wu) (x4:Bool) (x5:List eG) (x6:List ed):Option (taO×ou):=aZ (akv x6) fun y0=>aZ (II bC y0.1 (bi y0.1) 0 x0 x1 x2 x3 x4 x5 x6) fun y1=>dA y1 (fun a2=>some ((a2.2.2.1.1,(a2.2.2.1.2.1,(a2.2.2.1.2.2.1,(a2.2.2.1.2.2.2.1,(a2.2.2.1.2.2.2.2.1,(a2.2.2.1.2.2.2.2.2.1,(a2.2.2.1.2.2.2.2.2.2.1,()))))))),(false,()))) (fun b2=>some ((b2.2.2.1.1,(b2.2.2.1.2.1,(b2.2.2.1.2.2.1,(b2.2.2.1.2.2.2.1,(b2.2.2.1.2.2.2.2.1,(b2.2.2.1.2.2.2.2.2.1,(b2.2.2.1.2.2.2.2.2.2.1,()))))))),(b2.1.1,())))
def arI:fV:=⟨45,tzC,[],[.bool],fun x y=>akp x.1 x.2.1 x.2.2.1 x.2.2.2.1 x.2.2.2.2.1 x.2.2.2.2.2.1 x.2.2.2.2.2.2.1⟩
noncomputable def ajl:Env:=dK prog tt [(34,anI)] [(14,2,arn)] [(14,2,alC)] []
def amn {γ:Type} (a:adU.den->Option γ) (b:aby.den->Option γ) (c:abH.den->Option γ) (v:adU.den):Option γ:=WA (fun v0 v1 v2 v3 v4 v5 v6 v7 v8 v9=>a ((v0,v1,v2,()),((),()),((v3,v4,v5,v6,v7,v8,v9,()),()))) (fun e0 e1 e2 e3 e4 e5 e6=>b ((),((),()),((e0,e1,e2,e3,e4,e5,e6,()),()))) (fun r0 r1 r2 r3 r4 r5 r6 r7=>c ((r0,()),((),()),((r1,r2,r3,r4,r5,r6,r7,()),()))) v.1.1 v.1.2.1 v.1.2.2.1 v.2.2.1.1 v.2.2.1.2.1 v.2.2.1.2.2.1 v.2.2.1.2.2.2.1 v.2.2.1.2.2.2.2.1 v.2.2.1.2.2.2.2.2.1 v.2.2.1.2.2.2.2.2.2.1
theorem au8:dV ajl 14 aq5 alC:=lW (amn) (h2:=by intros;simp only[amn,WA,cO,cZ,aY,bW,dh])
theorem aw3:dJ ajl 14 b14:=zK [aq5] (aD (fM (au8)) aN)
theorem ajm:dm ajl:=eB (aD ZM aN) [14] (aD ⟨f14,b14,by kernel_rfl,by kernel_rfl,aw3⟩ aN)
theorem am7:dO prog 14 arI:=sB ajm
noncomputable def b15:Code:=(f15.body).getD .skip
noncomputable def aak:Code:=(f60.body).getD .skip
noncomputable def Xq:Code:=cA (cA (cB (aak)))
def Yl:dE:=⟨[0,5,6,7,61000001],[],[],[],[],[]⟩
def aum:dE:=⟨[2],[],[],[],[],[]⟩
def auc:dE:=⟨[0,2],[],[],[],[],[]⟩
def agZ:dE:=⟨[0,3,4,5,6,7],[],[],[],[],[]⟩
def G5:SQ:=⟨us [.yld 1700005,.u,.u,.u,.u,.v KN,.v bV,.v bV] 19,[[.u,.u,.ptr 1000002 0,.u,.u,.u],[.yld 1700005],[]],[.lp 1700005 15 ([.u,.u,.ptr 1000002 0,.u,.u,.u]) [5] 2 0 none,.box 2000001 43 [.v KN],.box 1000002 4 [.v .bool]]⟩
def IZ:SQ:=⟨us [] 27,[[.u,.u,.ptr 1000002 0,.u,.u,.u],[.yld 1700005],[]],[.lp 1700005 15 ([.u,.u,.ptr 1000002 0,.u,.u,.u]) [5] 2 0 none,.box 2000001 43 [.v KN],.box 1000002 4 [.v .bool]]⟩
def I9:SQ:=⟨us [] 27,[[.u,.u,.ptr 1000002 0,.u,.u,.u],[.yld 1700005],[]],[.lp 1700005 15 ([.u,.u,.ptr 1000002 0,.u,.u,.u]) [5] 2 1 (some .ret),.box 2000001 43 [.v KN],.box 1000002 4 [.v .bool]]⟩
def Dn {γ:Type} (rec:(List ed)->Int->Int->(List ed)->Bool->Option γ) (kE kR:(List ed)->Bool->Option γ) (v0:List ed) (v1 v2:Int) (v3:List ed) (v4:Bool):Option γ:=bif(iq v2 v1)then bif(fU v0 v2)then bif(bD (eu v0 (0,(0,(0,(0,())))) v2).1 17)then kR v3 false else bif(bD (eu v0 (0,(0,(0,(0,())))) v2).1 18)then kR v3 false else rec v0 v1 (bT .i64 v2 1) v3 v4 else none else kE v3 v4
def tq:Nat->(List ed)->Int->Int->(List ed)->Bool->Option (IZ.den⊕I9.den)
 |0,_,_,_,_,_=>none
 |n+1,v0,v1,v2,v3,v4=>Dn (tq n) (fun e0 e1=>some (.inl ((),((),(),(),()),((),(e0,()),(e1,()),())))) (fun r0 r1=>some (.inr ((),((),(),(),()),((),(r0,()),(r1,()),())))) v0 v1 v2 v3 v4
def ahk (n:Nat) (v:G5.den):=tq n v.1.1 v.1.2.1 v.1.2.2.1 v.2.2.2.1.1 v.2.2.2.2.1.1
noncomputable def Rl:dw:=fE Yl G5 IZ I9 (.exit 0) (ahk bC) 6
def akq (x0:List ed):Option ou:=aZ (tq bC x0 (bi x0) 0 x0 false) fun y0=>dA y0 (fun a1=>some (true,())) (fun b1=>some (b1.2.2.2.2.1.1,()))
def arJ:Sum:=⟨[KN],Tc,fun x=>akq x.1⟩
noncomputable def acy:Env:=dK prog tt [] [(60,1,Yl),(15,500002,aum),(15,600001,auc),(60,600003,agZ)] [(60,1,Rl)] [15]
def Sl {γ:Type} (a:G5.den->Option γ) (b:IZ.den->Option γ) (c:I9.den->Option γ) (v:G5.den):Option γ:=Dn (fun v0 v1 v2 v3 v4=>a ((v0,v1,v2,()),((),(),(),()),((),(v3,()),(v4,()),()))) (fun e0 e1=>b ((),((),(),(),()),((),(e0,()),(e1,()),()))) (fun r0 r1=>c ((),((),(),(),()),((),(r0,()),(r1,()),()))) v.1.1 v.1.2.1 v.1.2.2.1 v.2.2.2.1.1 v.2.2.2.2.1.1
theorem ahs:dV acy 60 Xq Rl:=lW (Sl) (h2:=by intros;simp only[Sl,Dn,cO,cZ,aY,bW,dh])
theorem awZ:iG b15=[]:=by kernel_rfl
theorem axn:iI b15=[(cA (cA (cB (cA (cB (b15))))),cB (cA (cB (cA (cB (b15))))))]:=by kernel_rfl
theorem aw4:dJ acy 15 b15:=kH b15 (by rw[axn];exact(aD (fun _=>(show mW 15 2=some (cA (cA (cB (cA (cB (b15))))),cB (cA (cB (cA (cB (b15)))))) by kernel_rfl)) aN)) (by rw[awZ];exact aN)
theorem alq:dJ acy 60 aak:=zK [Xq] (aD (fM (ahs)) aN)
theorem ajn:dm acy:=eB aN [15,60] (aD ⟨f15,b15,by kernel_rfl,by kernel_rfl,aw4⟩ (aD ⟨f60,aak,by kernel_rfl,by kernel_rfl,alq⟩ aN))
theorem ana:dN prog 15 arJ:=sA ajn
def awR:dE:=⟨[0],[],[],[],[],[]⟩
def adc (y3:(taO×(uI×Bool×Unit))):Option EU:=aZ (akp y3.1.1 y3.1.2.1 y3.1.2.2.1 y3.1.2.2.2.1 y3.1.2.2.2.2.1 y3.1.2.2.2.2.2.1 y3.1.2.2.2.2.2.2.1) fun y4=>bif y4.2.1 then some (3,())else aZ (akq y4.1.2.2.2.2.2.2.1) fun y5=>bif(!y5.1)then some (2,())else some (1,())
def fn7 (x0:bH):Option EU:=aZ (akt x0) fun y0=>aZ (aku x0 y0.1) fun y1=>aZ (Ul y1.1) fun y2=>aZ (agO x0 y0.1 y0.2.1.1 y0.2.1.2.1 y0.2.1.2.2.1 y1.1 y2.1) fun y3=>bif y3.2.2.1 then bif y3.2.2.1 then some (2,())else adc y3 else bif y3.1.2.2.2.2.1 then bif y3.1.2.2.2.2.1 then some (2,())else adc y3 else bif(iq 0 (bi y3.1.2.2.2.1))then some (2,())else adc y3
def axu:Sum:=⟨[.str],tzE,fun x=>fn7 x.1⟩
noncomputable def ayl:Env:=dK prog tt [(15,arJ),(31,aeQ),(32,aeR),(33,aeS)] [(7,600001,awR)] [] [] [(13,aeF),(14,arI)]
theorem aow:dm ayl:=eB (aD ana (aD PH (aD PK (aD PM aN)))) [] aN (hx:=(aD PE (aD am7 aN)))
theorem aqU:dN prog 7 axu:=sA aow
end
section
open Bool renaming and_eq_true → af
open Nat renaming le_refl → ae, eq_of_beq_eq_true → aj, le_trans → aA, le_mul_of_pos_right → aX
open Tryz
open Go.RowKit Go.Shelf Go.Lib
def UK:Go.Shelf.Ren:=⟨fun|171=>26|243=>53|246=>83|283=>104|284=>105|285=>106|286=>107|129=>132|317=>131|318=>133|319=>134|320=>135|337=>168|338=>169|n=>n,fun|3=>3|9=>9|2=>2|4=>4|171=>142|0=>0|53=>143|37=>67|5=>5|173=>146|212=>167|51=>168|20=>20|213=>169|46=>152|232=>201|233=>202|n=>n,fun|17=>0|18=>1|19=>2|n=>n⟩
theorem ali:Go.Proofs.LaysM.n171 prog UK:={
 mixed:=by kernel_rfl
 f129:=func132.trans (congrArg some (by kernel_rfl))
 f171:=func26.trans (congrArg some (by kernel_rfl))
 f243:=func53.trans (congrArg some (by kernel_rfl))
 f246:=func83.trans (congrArg some (by kernel_rfl))
 f283:=func104.trans (congrArg some (by kernel_rfl))
 f284:=func105.trans (congrArg some (by kernel_rfl))
 f285:=func106.trans (congrArg some (by kernel_rfl))
 f286:=func107.trans (congrArg some (by kernel_rfl))
 f317:=func131.trans (congrArg some (by kernel_rfl))
 f318:=func133.trans (congrArg some (by kernel_rfl))
 f319:=func134.trans (congrArg some (by kernel_rfl))
 f320:=func135.trans (congrArg some (by kernel_rfl))
 f337:=func168.trans (congrArg some (by kernel_rfl))
 f338:=func169.trans (congrArg some (by kernel_rfl))
 t0:=underlying0
 a0:=isAgg0
 z0:=sizeOf0
 v0:=zeroValue0
 t2:=underlying2
 a2:=isAgg2
 z2:=sizeOf2
 v2:=zeroValue2
 t3:=underlying3
 a3:=isAgg3
 z3:=sizeOf3
 v3:=zeroValue3
 t4:=underlying4
 a4:=isAgg4
 z4:=sizeOf4
 v4:=zeroValue4
 t5:=underlying5
 a5:=isAgg5
 z5:=sizeOf5
 v5:=zeroValue5
 t9:=underlying9
 a9:=isAgg9
 z9:=sizeOf9
 v9:=zeroValue9
 t20:=underlying20
 a20:=isAgg20
 z20:=sizeOf20
 v20:=zeroValue20
 t37:=underlying67
 a37:=isAgg67
 z37:=sizeOf67
 v37:=zeroValue67
 t46:=underlying152
 a46:=isAgg152
 z46:=sizeOf152
 v46:=zeroValue152
 t51:=underlying168
 a51:=isAgg168
 z51:=sizeOf168
 v51:=zeroValue168
 t53:=underlying143
 a53:=isAgg143
 z53:=sizeOf143
 v53:=zeroValue143
 t171:=underlying142
 a171:=isAgg142
 z171:=sizeOf142
 v171:=zeroValue142
 t173:=underlying146
 a173:=isAgg146
 z173:=sizeOf146
 v173:=zeroValue146
 t212:=underlying167
 a212:=isAgg167
 z212:=sizeOf167
 v212:=zeroValue167
 t213:=underlying169
 a213:=isAgg169
 z213:=sizeOf169
 t232:=underlying201
 a232:=isAgg201
 z232:=sizeOf201
 v232:=zeroValue201
 t233:=underlying202
 a233:=isAgg202
 z233:=sizeOf202
 v233:=zeroValue202
 g17:=by kernel_rfl
 g18:=by kernel_rfl
 g19:=by kernel_rfl
 i0:=by kernel_rfl
 i2:=by kernel_rfl
 i3:=by kernel_rfl
 i4:=by kernel_rfl
 i5:=by kernel_rfl
 i9:=by kernel_rfl
 i20:=by kernel_rfl
 i37:=by kernel_rfl
 i46:=by kernel_rfl
 i51:=by kernel_rfl
 i53:=by kernel_rfl
 i171:=by kernel_rfl
 i173:=by kernel_rfl
 i212:=by kernel_rfl
 i232:=by kernel_rfl
 i233:=by kernel_rfl
 m17:=by kernel_rfl
 m18:=by kernel_rfl
 m19:=by kernel_rfl}
def Ot:Go.Shelf.Ren:=⟨fun|155=>119|154=>155|138=>189|165=>190|143=>191|166=>28|197=>192|169=>30|195=>228|218=>229|240=>55|241=>230|219=>231|260=>232|276=>84|277=>258|217=>181|225=>259|224=>260|267=>261|266=>220|314=>271|n=>n,fun|9=>9|3=>3|4=>4|72=>69|0=>0|76=>75|105=>199|21=>21|5=>5|70=>66|20=>20|37=>67|75=>74|127=>108|164=>127|46=>152|119=>236|139=>239|138=>238|146=>243|51=>168|80=>78|n=>n,fun|1=>3|3=>4|4=>5|n=>n⟩
theorem Oq:Go.Proofs.Lays.n155 prog Ot:={
 mixed:=by kernel_rfl
 f138:=func189.trans (congrArg some (by kernel_rfl))
 f143:=func191.trans (congrArg some (by kernel_rfl))
 f154:=func155.trans (congrArg some (by kernel_rfl))
 f155:=func119.trans (congrArg some (by kernel_rfl))
 f165:=func190.trans (congrArg some (by kernel_rfl))
 f166:=func28.trans (congrArg some (by kernel_rfl))
 f169:=func30.trans (congrArg some (by kernel_rfl))
 f195:=func228.trans (congrArg some (by kernel_rfl))
 f197:=func192.trans (congrArg some (by kernel_rfl))
 f217:=func181.trans (congrArg some (by kernel_rfl))
 f218:=func229.trans (congrArg some (by kernel_rfl))
 f219:=func231.trans (congrArg some (by kernel_rfl))
 f224:=func260.trans (congrArg some (by kernel_rfl))
 f225:=func259.trans (congrArg some (by kernel_rfl))
 f240:=func55.trans (congrArg some (by kernel_rfl))
 f241:=func230.trans (congrArg some (by kernel_rfl))
 f260:=func232.trans (congrArg some (by kernel_rfl))
 f266:=func220.trans (congrArg some (by kernel_rfl))
 f267:=func261.trans (congrArg some (by kernel_rfl))
 f276:=func84.trans (congrArg some (by kernel_rfl))
 f277:=func258.trans (congrArg some (by kernel_rfl))
 f314:=func271.trans (congrArg some (by kernel_rfl))
 t0:=underlying0
 a0:=isAgg0
 z0:=sizeOf0
 v0:=zeroValue0
 t3:=underlying3
 a3:=isAgg3
 z3:=sizeOf3
 v3:=zeroValue3
 t4:=underlying4
 a4:=isAgg4
 z4:=sizeOf4
 v4:=zeroValue4
 t5:=underlying5
 a5:=isAgg5
 z5:=sizeOf5
 v5:=zeroValue5
 t9:=underlying9
 a9:=isAgg9
 z9:=sizeOf9
 v9:=zeroValue9
 t20:=underlying20
 a20:=isAgg20
 z20:=sizeOf20
 v20:=zeroValue20
 t21:=underlying21
 a21:=isAgg21
 z21:=sizeOf21
 v21:=zeroValue21
 t37:=underlying67
 a37:=isAgg67
 z37:=sizeOf67
 v37:=zeroValue67
 t46:=underlying152
 a46:=isAgg152
 z46:=sizeOf152
 v46:=zeroValue152
 t51:=underlying168
 a51:=isAgg168
 z51:=sizeOf168
 v51:=zeroValue168
 t70:=underlying66
 a70:=isAgg66
 z70:=sizeOf66
 v70:=zeroValue66
 t72:=underlying69
 a72:=isAgg69
 z72:=sizeOf69
 v72:=zeroValue69
 t75:=underlying74
 a75:=isAgg74
 z75:=sizeOf74
 v75:=zeroValue74
 t76:=underlying75
 a76:=isAgg75
 z76:=sizeOf75
 v76:=zeroValue75
 t105:=underlying199
 a105:=isAgg199
 z105:=sizeOf199
 v105:=zeroValue199
 t119:=underlying236
 a119:=isAgg236
 z119:=sizeOf236
 t127:=underlying108
 a127:=isAgg108
 z127:=sizeOf108
 v127:=zeroValue108
 t138:=underlying238
 a138:=isAgg238
 z138:=sizeOf238
 v138:=zeroValue238
 t139:=underlying239
 a139:=isAgg239
 z139:=sizeOf239
 v139:=zeroValue239
 t146:=underlying243
 a146:=isAgg243
 z146:=sizeOf243
 v146:=zeroValue243
 t164:=underlying127
 a164:=isAgg127
 z164:=sizeOf127
 v164:=zeroValue127
 g1:=by kernel_rfl
 g3:=by kernel_rfl
 g4:=by kernel_rfl}
def ajd:Nat->Nat->List UInt8
 |0,_=>[]
 |f+1,u=>bif Nat.blt u 10 then [UInt8.ofNat (48+u)]else ajd f (u/10)++[UInt8.ofNat (48+u %10)]
theorem TR: ∀(f u:Nat),0<f->u<10^f->ajd f u=Lib.decDigits u
 |0,u,h,_=>by omega
 |f+1,u,_,h=>by
  rw[ajd,Lib.decDigits];by_cases hu:u<10
  ·rw[dif_pos hu,show Nat.blt u 10=true from by simpa [Nat.blt_eq] using hu,cond_true]
  ·rw[dif_neg hu,show Nat.blt u 10=false from Bool.eq_false_iff.2 (by simpa [Nat.blt_eq] using hu),cond_false];have hf:0<f:=by
    rcases Nat.eq_zero_or_pos f with e|e
    ·subst e;simp at h;omega
    ·exact e
   rw[TR f (u/10) hf (by rw[Nat.pow_succ]at h;omega)]
def akN (n:Int):List UInt8:=bif decide (n<0)then 45::ajd 20 n.natAbs else ajd 20 n.toNat
theorem akO {n:Int} (h1: -9223372036854775808<=n) (h2:n<=9223372036854775807):akN n=Lib.itoa n:=by
 have h20:(10:Nat)^20=100000000000000000000:=by decide
 unfold akN Lib.itoa;rw[TR 20 _ (by omega) (by rw[h20];omega),TR 20 _ (by omega) (by rw[h20];omega)];by_cases h:n<0
 ·rw[if_pos h,decide_eq_true h];rfl
 ·rw[if_neg h,decide_eq_false h];rfl
def akM (n:Int):Option (List UInt8×Unit):=bif decide (-9223372036854775808<=n)&&decide (n<=9223372036854775807)then some (akN n,())else none
def WY:Sum:=⟨[.int .i64],[(.str,false)],fun x=>akM x.1⟩
theorem asE: ∀(k:Nat) (w:World),(w.drewN k).heap=w.heap:=fun k w=>rfl
theorem aca:dN prog 26 WY:=by
 intro w bar args' x y hphi hbar hdv hy;obtain⟨u,us1,e1,h1,h3⟩:=hdv;obtain rfl:us1=[]:=h3;have ha:args'= #[u]:=by
  apply Array.ext';simpa using e1
 subst ha;have e4:=h1.int_inv;subst e4;have hy:akM x.1=some y:=hy;unfold akM at hy;obtain⟨hb,hy⟩:=bQ hy;simp only[af,decide_eq_true_eq]at hb;cases hy;rw[akO hb.1 hb.2];have hc:=Any.strconv_Itoa ali x.1 hb.1 hb.2 w hphi.1;refine .inl ⟨rO J9 func26 (show f26.body=some ((f26.body).getD .skip) by kernel_rfl) _ _,hc.mono fun e w' ⟨he,k,os,hw⟩=> ?_⟩;have hbel:Below w.heap.size w w':=by
  subst hw;refine⟨rfl,rfl,rfl, ?_,fun b hb=> ?_⟩
  ·show w.heap.size<=(w.heap++os).size;simp
  ·show(w.heap++os)[b]? =w.heap[b]?;exact Array.getElem?_append_left hb
 refine⟨(jS w bar).at_ w',[.string ⟨(Lib.itoa x.1).toArray⟩],he,rfl,(MQ hphi hbar).ext hbel,rfl,rfl,rfl, ?_⟩;simp only[WY,mi,bg,bu,and_true];exact VD.str_mk
theorem aoF:Builder.Extra prog Ot where
 sizeBuilder:=by kernel_rfl
 liesBuilder:=by kernel_rfl
 t5:=Oq.t5
 a5:=Oq.a5
 z5:=Oq.z5
 v5:=Oq.v5
 infoByte:=by kernel_rfl
 cellsByte:=by kernel_rfl
 sizeByte:=by kernel_rfl
 neB5:=by decide
def Si (s old new:List UInt8):Option (List UInt8×Unit):=bif decide (s.length<4294967281)&&decide (1<=old.length)&&decide (s.length+s.length*new.length<=140737488355328)then some (Lib.replaceAll s old new,())else none
def aeU:Sum:=⟨[.str,.str,.str],[(.str,false)],fun x=>Si x.1 x.2.1 x.2.2.1⟩
theorem ZR:dN prog 119 aeU:=by
 intro w bar args' x y hphi hbar hdv hy;obtain⟨u,us1,e1,h1,u2,us2,e2,h2,u3,us3,e3,h3,h4⟩:=hdv;obtain rfl:us3=[]:=h4;subst e3 e2;have ha:args'= #[u,u2,u3]:=by
  apply Array.ext';simpa using e1
 subst ha;have e4:=h1.str_inv;have e5:=h2.str_inv;have e6:=h3.str_inv;subst e4 e5 e6;have hy:Si x.1 x.2.1 x.2.2.1=some y:=hy;unfold Si at hy;obtain⟨hb,hy⟩:=bQ hy;simp only[af,decide_eq_true_eq]at hb;cases hy;obtain⟨m,hm⟩:=hphi.2;have hsz: ∀l:List UInt8,(⟨l.toArray⟩:ByteArray).size=l.length:=fun l=>by simp[ByteArray.size]
 have hcb:Lib.countB ⟨x.1.toArray⟩ ⟨x.2.1.toArray⟩<=x.1.length:=by
  have:=Lib.countB_mul_le (⟨x.2.1.toArray⟩:ByteArray) (by rw[hsz];exact hb.1.2) (⟨x.1.toArray⟩:ByteArray).size ⟨x.1.toArray⟩ (ae _);rw[hsz,hsz]at this;exact aA (aX _ (by omega)) this
 have hc:=Any.strings_ReplaceAll Oq aoF ⟨x.1.toArray⟩ ⟨x.2.1.toArray⟩ ⟨x.2.2.1.toArray⟩ m w (by rw[hsz];exact hb.1.1) hm (by rw[hsz];exact hb.1.2)
  (by rw[hsz,hsz];have:=Nat.mul_le_mul_right x.2.2.1.length hcb;omega)
 refine .inl ⟨rO J9 func119 (show f119.body=some ((f119.body).getD .skip) by kernel_rfl) _ _,hc.mono fun e w' ⟨he,hbel⟩=> ?_⟩;refine⟨(jS w bar).at_ w',[.string ⟨(Lib.replaceAll x.1 x.2.1 x.2.2.1).toArray⟩],he,rfl,(MQ hphi hbar).ext hbel,rfl,rfl,rfl, ?_⟩;simp only[aeU,mi,bg,bu,and_true];exact VD.str_mk
noncomputable def sg2 (g:FuncId):Option Sum:=bif Nat.beq g 26 then some WY else bif Nat.beq g 119 then some aeU else sg1 g
theorem avP: ∀g s,sg2 g=some s->dN prog g s:=fun g s h=>by
 unfold sg2 at h;rw[cond_eq_ite]at h;split at h
 ·rename_i hg
  obtain rfl:g=26:=aj hg;cases h;exact aca
 rw[cond_eq_ite]at h;split at h
 ·rename_i hg
  obtain rfl:g=119:=aj hg;cases h;exact ZR
 exact amA g s h
end
section
open Tryz
open Go.RowKit
def uV (x0:Int):Option ou:=aZ (DL x0) fun y0=>bif(bD y0.1 5)then some (true,())else bif(bD y0.1 6)then some (true,())else some ((leI 128 x0),())
def acE (x0:Int):Option ou:=bif(bD x0 37)then bif(bD x0 37)then some (true,())else uV x0 else bif(bD x0 43)then bif(bD x0 43)then some (true,())else uV x0 else bif(bD x0 44)then bif(bD x0 44)then some (true,())else uV x0 else bif(bD x0 45)then bif(bD x0 45)then some (true,())else uV x0 else bif(bD x0 46)then bif(bD x0 46)then some (true,())else uV x0 else bif(bD x0 47)then bif(bD x0 47)then some (true,())else uV x0 else bif(bD x0 58)then bif(bD x0 58)then some (true,())else uV x0 else bif(bD x0 64)then some (true,())else uV x0
def amV:Sum:=⟨[.int .u8],Tc,fun x=>acE x.1⟩
noncomputable def asL:Env:=gz prog tt 117 [(139,BP)] [] []
theorem afj:dm asL:=eA f117 (aD pX aN)
theorem ahM:dN prog 117 amV:=sA afj
noncomputable def aiK:Code:=(f153.body).getD .skip
noncomputable def uS:Code:=cB (cA (cB (cA (cB (aiK)))))
def vC:dE:=⟨[4,900018],[],[],[],[2],[]⟩
def Bi:SP:=⟨us [.u,.u,.u,.u,.v .bool] 16,[]⟩
def oQ:SP:=⟨us [] 21,[]⟩
def oV:SP:=⟨us [.u,.u,.v .bool] 18,[]⟩
def zD {γ:Type} (kE:Option γ) (kR:Bool->Option γ) (v0:Bool):Option γ:=bif v0 then kR true else kE
def fF (v0:Bool):Option (oQ.den⊕oV.den):=zD (some (.inl ((),()))) (fun r0=>some (.inr ((r0,()),()))) v0
noncomputable def GU:dw:=iO vC Bi oQ oV (.exit 999999) (fun v=>fF v.1.1) 6
def jF (y0:oQ.den⊕oV.den):Option ou:=dA y0 (fun a1=>some (false,())) (fun b1=>some (b1.1.1,()))
def acN (x0:bH):Option ou:=bif(gQ x0 [33])then aZ (fF (gQ x0 [33])) fun y0=>jF y0 else bif(gQ x0 [123])then aZ (fF (gQ x0 [123])) fun y0=>jF y0 else bif(gQ x0 [125])then aZ (fF (gQ x0 [125])) fun y0=>jF y0 else bif(gQ x0 [99,97,115,101])then aZ (fF (gQ x0 [99,97,115,101])) fun y0=>jF y0 else bif(gQ x0 [100,111])then aZ (fF (gQ x0 [100,111])) fun y0=>jF y0 else bif(gQ x0 [100,111,110,101])then aZ (fF (gQ x0 [100,111,110,101])) fun y0=>jF y0 else bif(gQ x0 [101,108,105,102])then aZ (fF (gQ x0 [101,108,105,102])) fun y0=>jF y0 else bif(gQ x0 [101,108,115,101])then aZ (fF (gQ x0 [101,108,115,101])) fun y0=>jF y0 else bif(gQ x0 [101,115,97,99])then aZ (fF (gQ x0 [101,115,97,99])) fun y0=>jF y0 else bif(gQ x0 [102,105])then aZ (fF (gQ x0 [102,105])) fun y0=>jF y0 else bif(gQ x0 [102,111,114])then aZ (fF (gQ x0 [102,111,114])) fun y0=>jF y0 else bif(gQ x0 [105,102])then aZ (fF (gQ x0 [105,102])) fun y0=>jF y0 else bif(gQ x0 [105,110])then aZ (fF (gQ x0 [105,110])) fun y0=>jF y0 else bif(gQ x0 [116,104,101,110])then aZ (fF (gQ x0 [116,104,101,110])) fun y0=>jF y0 else bif(gQ x0 [117,110,116,105,108])then aZ (fF (gQ x0 [117,110,116,105,108])) fun y0=>jF y0 else aZ (fF (gQ x0 [119,104,105,108,101])) fun y0=>jF y0
def am8:Sum:=⟨[.str],Tc,fun x=>acN x.1⟩
noncomputable def Ik:Env:=gz prog tt 153 [] [(800018,vC)] [(800018,GU)]
theorem PD {R:Type} (d:Nat) (K:Ex->St->Option R) (v0:Bool):
  iter (some vC) (DF (zt Ik (d+6) 153 uS)) 1 (jg Bi ((v0,()),())) K=
   zD (K (.exit 999999) (jg oQ ((),()))) (fun r0=>K .ret (jg oV ((r0,()),()))) v0:=by kernel_rfl
theorem UB {R:Type} (d:Nat) (K:Ex->St->Option R) (v0:Bool):
  iter (some vC) (DF (zt Ik (d+6) 153 uS)) 1 (jg Bi ((v0,()),())) K=aZ (fF v0) fun o=>dA o (fun a=>K (.exit 999999) (jg oQ a)) fun b=>K .ret (jg oV b):=by
  rw[PD];simp only[fF,zD,cO,cZ,aY,bW,dh]
  try simp only[dA]
theorem U3:zI Ik 153 uS GU:=Ae (by kernel_rfl) fun R d K v o h=>⟨1,(UB d K (v.1.1)).trans (congrArg (fun o=>aZ o _) h)⟩
theorem aur:iG aiK=[]:=by kernel_rfl
theorem asy:IC Ik 153 aiK=[uS]:=by kernel_rfl
theorem auF:dJ Ik 153 aiK:=AO aiK (fun x _ hx=>absurd (show false=true from hx) (by decide)) (by rw[aur];exact aN) (Gf (by rw[asy];exact(aD (fC (by kernel_rfl) (U3)) aN)))
theorem afD:dm Ik:=eA f153 aN (auF)
theorem ahY:dN prog 153 am8:=sA afD
def acF (x0:bH):Option ou:=aZ (acN x0) fun y0=>bif y0.1 then some (true,())else bif(!(gQ x0 []))then aZ (xK x0 0) fun y1=>some ((bD y1.1 (bi x0)),())else some (false,())
def amW:Sum:=⟨[.str],Tc,fun x=>acF x.1⟩
noncomputable def asM:Env:=gz prog tt 118 [(153,am8),(154,WR)] [] []
theorem afk:dm asM:=eA f118 (aD ahY (aD Js aN))
theorem ahN:dN prog 118 amW:=sA afk
noncomputable def b91:Code:=(f91.body).getD .skip
noncomputable def ara:Code:=cA (cA (cB (cA (cB (cB (cB (b91)))))))
def art:dE:=⟨[0,3,8,9,100005],[],[3],[],[2],[]⟩
def auj:dE:=⟨[0,3,8,9],[],[],[],[],[]⟩
def apn:dE:=⟨[0,3,4,8,9],[],[],[],[],[]⟩
def apo:dE:=⟨[0,3,4,8,9],[],[],[],[],[]⟩
def apq:dE:=⟨[3],[],[],[],[],[]⟩
def ag9:dE:=⟨[0,1],[],[],[],[],[]⟩
def aha:dE:=⟨[0,1],[],[],[],[],[]⟩
def adZ:SP:=⟨us [.v .str,.u,.u,.ptr 1000003 0,.u,.u,.u,.u,.v bV,.v bV] 27,[.box 1000003 69 [.slf 1000003,.slc 1500003],.arr 1500003 (.int .u8)]⟩
def abD:SP:=⟨us [.u,.u,.u,.ptr 1000003 0] 33,[.box 1000003 69 [.slf 1000003,.slc 1500003],.arr 1500003 (.int .u8)]⟩
def abM:SP:=⟨us [.u,.u,.v .str] 34,[]⟩
def BN {γ:Type} (v3:gX) (v0:bH) (v2:Int) (rec:bH->Int->Int->gX->Option γ) (v1:Int):Option γ:=bif(dY (bF v3 [92]) 1)then bif(fU v0 v2)then bif(dY (bF (bF v3 [92]) [(bK v0 v2)]) 1)then rec v0 v1 (bT .i64 v2 1) (bF (bF v3 [92]) [(bK v0 v2)])else none else none else none
def yj {γ:Type} (v0:bH) (v2:Int) (v3:gX) (rec:bH->Int->Int->gX->Option γ) (v1:Int):Option γ:=bif(fU v0 v2)then bif(dY (bF v3 [(bK v0 v2)]) 1)then rec v0 v1 (bT .i64 v2 1) (bF v3 [(bK v0 v2)])else none else none
def Pq {γ:Type} (rec:bH->Int->Int->gX->Option γ) (kE:gX->Option γ) (kR:bH->Option γ) (v0:bH) (v1 v2:Int) (v3:gX):Option γ:=bif(iq v2 v1)then bif(fU v0 v2)then bif(bD (bK v0 v2) 10)then bif(dY (bF v3 (bJ [39,10,39])) 1)then rec v0 v1 (bT .i64 v2 1) (bF v3 (bJ [39,10,39]))else none else bif(fU v0 v2)then aZ (acE (bK v0 v2)) fun y0=>bif(!y0.1)then bif(!y0.1)then BN v3 v0 v2 rec v1 else yj v0 v2 v3 rec v1 else bif(bD v2 0)then aZ (acF v0) fun y1=>bif y1.1 then BN v3 v0 v2 rec v1 else yj v0 v2 v3 rec v1 else yj v0 v2 v3 rec v1 else none else none else kE v3
def yX:Nat->bH->Int->Int->gX->Option (abD.den⊕abM.den)
 |0,_,_,_,_=>none
 |n+1,v0,v1,v2,v3=>Pq (yX n) (fun e0=>some (.inl ((),((),e0,())))) (fun r0=>some (.inr ((r0,()),()))) v0 v1 v2 v3
def auW (n:Nat) (v:adZ.den):=yX n v.1.1 v.1.2.1 v.1.2.2.1 v.2.2.1
noncomputable def alH:dw:=iO art adZ abD abM (.exit 0) (auW bC) 6
def aoO (x0:bH):Option Xe:=bif(gQ x0 [])then some ([39,39],())else aZ (yX bC x0 (bi x0) 0 []) fun y0=>dA y0 (fun a1=>bif(bD (bi a1.2.2.1) (bi a1.2.2.1))then some ((ofBytes a1.2.2.1),())else none) (fun b1=>some (b1.1.1,()))
def arV:Sum:=⟨[.str],tzF,fun x=>aoO x.1⟩
noncomputable def ajL:Env:=dK prog tt [(117,amV),(118,amW)] [(91,5,art),(91,600008,auj),(91,600011,apn),(91,600012,apo),(91,600014,apq),(28,600001,ag9),(29,600001,aha)] [(91,5,alH)] []
def amu {γ:Type} (a:adZ.den->Option γ) (b:abD.den->Option γ) (c:abM.den->Option γ) (v:adZ.den):Option γ:=Pq (fun v0 v1 v2 v3=>a ((v0,v1,v2,()),((),v3,()))) (fun e0=>b ((),((),e0,()))) (fun r0=>c ((r0,()),())) v.1.1 v.1.2.1 v.1.2.2.1 v.2.2.1
theorem avd:dV ajL 91 ara alH:=lpS (amu) (h2:=by intros;simp only[amu,Pq,cO,cZ,aY,bW,dh,BN,yj])
theorem axa:dJ ajL 91 b91:=zK [ara] (aD (fM (avd)) aN)
theorem ajM:dm ajL:=eB (aD ahM (aD ahN aN)) [91] (aD ⟨f91,b91,by kernel_rfl,by kernel_rfl,axa⟩ aN)
theorem anV:dN prog 91 arV:=sA ajM
def aoP (x0:bH):Option Xe:=aZ (Si x0 [39] [39,92,39,39]) fun y0=>bif(kT [39] y0.1)then some ((bF [39] y0.1),())else none
def arW:Sum:=⟨[.str],tzF,fun x=>aoP x.1⟩
noncomputable def awC:Env:=gz prog tt 92 [(119,aeU)] [] []
theorem ajN:dm awC:=eA f92 (aD ZR aN)
theorem anW:dN prog 92 arW:=sA ajN
noncomputable def b93:Code:=(f93.body).getD .skip
noncomputable def arb:Code:=cA (cA (cB (cA (cB (cB (cB (b93)))))))
def aru:dE:=⟨[0,3,7,8,100004],[],[3],[],[2],[]⟩
def auk:dE:=⟨[0,3],[],[],[],[],[]⟩
def apr:dE:=⟨[0,3,4,7,8],[],[],[],[],[]⟩
def aps:dE:=⟨[0,3,4,7,8],[],[],[],[],[]⟩
def apt:dE:=⟨[3],[],[],[],[],[]⟩
def ahb:dE:=⟨[0,1],[],[],[],[],[]⟩
def ad1:SP:=⟨us [.v .str,.u,.u,.ptr 1000003 0,.u,.u,.u,.v bV,.v bV] 17,[.box 1000003 69 [.slf 1000003,.slc 1500003],.arr 1500003 (.int .u8)]⟩
def abE:SP:=⟨us [.u,.u,.u,.ptr 1000003 0] 22,[.box 1000003 69 [.slf 1000003,.slc 1500003],.arr 1500003 (.int .u8)]⟩
def abN:SP:=⟨us [.u,.u,.v .str] 23,[]⟩
def yl {γ:Type} (v3:gX) (v0:bH) (v2:Int) (rec:bH->Int->Int->gX->Option γ) (v1:Int):Option γ:=bif(dY (bF v3 [92]) 1)then bif(fU v0 v2)then bif(dY (bF (bF v3 [92]) [(bK v0 v2)]) 1)then rec v0 v1 (bT .i64 v2 1) (bF (bF v3 [92]) [(bK v0 v2)])else none else none else none
def yu {γ:Type} (v0:bH) (v2:Int) (v3:gX) (rec:bH->Int->Int->gX->Option γ) (v1:Int):Option γ:=bif(fU v0 v2)then bif(dY (bF v3 [(bK v0 v2)]) 1)then rec v0 v1 (bT .i64 v2 1) (bF v3 [(bK v0 v2)])else none else none
def WI {γ:Type} (rec:bH->Int->Int->gX->Option γ) (kE:gX->Option γ) (kR:bH->Option γ) (v0:bH) (v1 v2:Int) (v3:gX):Option γ:=bif(iq v2 v1)then bif(fU v0 v2)then bif(bD (bK v0 v2) 36)then bif(bD (bK v0 v2) 36)then yl v3 v0 v2 rec v1 else yu v0 v2 v3 rec v1 else bif(bD (bK v0 v2) 96)then bif(bD (bK v0 v2) 96)then yl v3 v0 v2 rec v1 else yu v0 v2 v3 rec v1 else bif(bD (bK v0 v2) 34)then bif(bD (bK v0 v2) 34)then yl v3 v0 v2 rec v1 else yu v0 v2 v3 rec v1 else bif(bD (bK v0 v2) 92)then yl v3 v0 v2 rec v1 else yu v0 v2 v3 rec v1 else none else kE v3
def EE:Nat->bH->Int->Int->gX->Option (abE.den⊕abN.den)
 |0,_,_,_,_=>none
 |n+1,v0,v1,v2,v3=>WI (EE n) (fun e0=>some (.inl ((),((),e0,())))) (fun r0=>some (.inr ((r0,()),()))) v0 v1 v2 v3
def auX (n:Nat) (v:ad1.den):=EE n v.1.1 v.1.2.1 v.1.2.2.1 v.2.2.1
noncomputable def alI:dw:=iO aru ad1 abE abN (.exit 0) (auX bC) 6
def aoQ (x0:bH):Option Xe:=bif(dY (bF [] [34]) 1)then aZ (EE bC x0 (bi x0) 0 (bF [] [34])) fun y0=>dA y0 (fun a1=>bif(bD (bi a1.2.2.1) (bi a1.2.2.1))then some ((ofBytes a1.2.2.1),())else none) (fun b1=>some (b1.1.1,()))else none
def arX:Sum:=⟨[.str],tzF,fun x=>aoQ x.1⟩
noncomputable def ajO:Env:=dK prog tt [] [(93,4,aru),(93,600002,auk),(93,600011,apr),(93,600012,aps),(93,600014,apt),(29,600001,ahb)] [(93,4,alI)] []
def amv {γ:Type} (a:ad1.den->Option γ) (b:abE.den->Option γ) (c:abN.den->Option γ) (v:ad1.den):Option γ:=WI (fun v0 v1 v2 v3=>a ((v0,v1,v2,()),((),v3,()))) (fun e0=>b ((),((),e0,()))) (fun r0=>c ((r0,()),())) v.1.1 v.1.2.1 v.1.2.2.1 v.2.2.1
theorem ave:dV ajO 93 arb alI:=lpS (amv) (h2:=by intros;simp only[amv,WI,cO,cZ,aY,bW,dh,yl,yu])
theorem axb:dJ ajO 93 b93:=zK [arb] (aD (fM (ave)) aN)
theorem ajP:dm ajO:=eB aN [93] (aD ⟨f93,b93,by kernel_rfl,by kernel_rfl,axb⟩ aN)
theorem anX:dN prog 93 arX:=sA ajP
def aoK (x0:bH) (x1:Int) (x2:Bool):Option Xe:=aZ (aoO x0) fun y0=>bif(bD x1 4)then aZ (aoP x0) fun y1=>bif x2 then bif(kT y1.1 [39])then some ((bF y1.1 [39]),())else none else some (y1.1,())else bif(bD x1 5)then aZ (aoQ x0) fun y1=>bif x2 then bif(kT y1.1 [34])then some ((bF y1.1 [34]),())else none else some (y1.1,())else bif x2 then bif(kT y0.1 [])then some ((bF y0.1 []),())else none else some (y0.1,())
def arQ:Sum:=⟨[.str,bV,.bool],tzF,fun x=>aoK x.1 x.2.1 x.2.2.1⟩
noncomputable def awt:Env:=gz prog tt 64 [(91,arV),(92,arW),(93,arX)] [] []
theorem ajC:dm awt:=eA f64 (aD anV (aD anW (aD anX aN)))
theorem anQ:dN prog 64 arQ:=sA ajC
noncomputable def b41:Code:=(f41.body).getD .skip
noncomputable def aq7:Code:=cA (cA (cB (cA (cB (cB (cA (cB (b41))))))))
def arp:dE:=⟨[0,3,7,8,9,100003],[],[3],[],[2],[]⟩
def adW:SP:=⟨us [.v .str,.u,.u,.v .str,.u,.u,.u,.slc 1000007,.v bV,.v bV] 18,[.arr 1000007 bV]⟩
def abA:SP:=⟨us [.u,.u,.u,.v .str] 24,[]⟩
def abJ:SP:=⟨us [.u,.u,.v .str] 25,[]⟩
def Po {γ:Type} (rec:bH->bH->Int->Int->gX->Option γ) (kE kR:bH->Option γ) (v0 v1:bH) (v2 v3:Int) (v4:gX):Option γ:=bif(iq v3 v2)then bif(fU v4 v3)then bif(nH (bU v3) v4)then aZ (aoK v0 (bY v4 0 (bU v3)) true) fun y0=>bif(!(gQ v1 []))then bif(leI (bi v1) (bi y0.1))then rec v0 v1 v2 (bT .i64 v3 1) v4 else rec v0 y0.1 v2 (bT .i64 v3 1) v4 else rec v0 y0.1 v2 (bT .i64 v3 1) v4 else none else none else kE v1
def ry:Nat->bH->bH->Int->Int->gX->Option (abA.den⊕abJ.den)
 |0,_,_,_,_,_=>none
 |n+1,v0,v1,v2,v3,v4=>Po (ry n) (fun e0=>some (.inl ((e0,()),()))) (fun r0=>some (.inr ((r0,()),()))) v0 v1 v2 v3 v4
def auT (n:Nat) (v:adW.den):=ry n v.1.1 v.1.2.1 v.1.2.2.1 v.1.2.2.2.1 v.2.1
noncomputable def alE:dw:=iO arp adW abA abJ (.exit 0) (auT bC) 6
def agQ (x0:bH):Option Xe:=aZ (ry bC x0 [] (bi [0,4,5]) 0 [0,4,5]) fun y0=>dA y0 (fun a1=>some (a1.1.1,())) (fun b1=>some (b1.1.1,()))
def anL:Sum:=⟨[.str],tzF,fun x=>agQ x.1⟩
noncomputable def ajv:Env:=gz prog tt 41 [(64,arQ)] [(3,arp)] [(3,alE)]
def amq {γ:Type} (a:adW.den->Option γ) (b:abA.den->Option γ) (c:abJ.den->Option γ) (v:adW.den):Option γ:=Po (fun v0 v1 v2 v3 v4=>a ((v0,v1,v2,v3,()),(v4,()))) (fun e0=>b ((e0,()),())) (fun r0=>c ((r0,()),())) v.1.1 v.1.2.1 v.1.2.2.1 v.1.2.2.2.1 v.2.1
theorem ava:dV ajv 41 aq7 alE:=lpS (amq) (h2:=by intros;simp only[amq,Po,cO,cZ,aY,bW,dh])
theorem aw7:dJ ajv 41 b41:=zK [aq7] (aD (fM (ava)) aN)
theorem ajw:dm ajv:=eA f41 (aD anQ aN) (aw7)
theorem ZN:dN prog 41 anL:=sA ajw
def acO (x0:Int):Option ou:=some ((!(bD x0 x0)),())
def am9:Sum:=⟨[bV],Tc,fun x=>acO x.1⟩
noncomputable def asY:Env:=gz prog tt 156 [] [] []
theorem afF:dm asY:=eA f156 aN
theorem ahZ:dN prog 156 am9:=sA afF
def acG (x0 x1:Int):Option ou:=aZ (acO x0) fun y0=>bif y0.1 then aZ (acO x1) fun y1=>bif(!y1.1)then some (true,())else some ((iq x0 x1),())else some ((iq x0 x1),())
def amX:Sum:=⟨[bV,bV],Tc,fun x=>acG x.1 x.2.1⟩
noncomputable def asN:Env:=gz prog tt 120 [(156,am9)] [] []
theorem afl:dm asN:=eA f120 (aD ahZ aN)
theorem ahO:dN prog 120 amX:=sA afl
def acH (x0:Int):Option ou:=some ((!(bD x0 x0)),())
def amY:Sum:=⟨[bV],Tc,fun x=>acH x.1⟩
noncomputable def asO:Env:=gz prog tt 121 [] [] []
theorem afm:dm asO:=eA f121 aN
theorem ahP:dN prog 121 amY:=sA afm
noncomputable def b94:Code:=(f94.body).getD .skip
noncomputable def arc:Code:=cA (cA (cA (cB (cB (cB (b94))))))
def arv:dE:=⟨[0,1,6,7,8,100003],[],[0,1,6,7],[],[4,5],[]⟩
def ad2:SP:=⟨us [.v (.list bV),.v bV,.u,.u,.u,.u,.v bV,.v bV,.v bV] 45,[]⟩
def abG:SP:=⟨us [.v (.list bV),.v bV,.u,.u,.u,.u,.v bV,.v bV] 46,[]⟩
def abO:SP:=⟨us [.u,.u,.u,.u,.v bV,.v .bool] 48,[]⟩
def WJ {γ:Type} (rec:gX->Int->Int->Int->Int->Option γ) (kE:gX->Int->Int->Int->Option γ) (kR:Int->Bool->Option γ) (v0:gX) (v1 v2 v3 v4:Int):Option γ:=bif(iq v3 v4)then bif(leI 0 1)then bif(fU v0 (Ia .i64 (QC .u64 (Ia .u64 (bT .i64 v3 v4)) 1)))then aZ (acG (eu v0 0 (Ia .i64 (QC .u64 (Ia .u64 (bT .i64 v3 v4)) 1))) v1) fun y0=>bif y0.1 then rec v0 v1 v2 (bT .i64 (Ia .i64 (QC .u64 (Ia .u64 (bT .i64 v3 v4)) 1)) 1) v4 else rec v0 v1 v2 v3 (Ia .i64 (QC .u64 (Ia .u64 (bT .i64 v3 v4)) 1))else none else none else kE v0 v1 v2 v3
def IL:Nat->gX->Int->Int->Int->Int->Option (abG.den⊕abO.den)
 |0,_,_,_,_,_=>none
 |n+1,v0,v1,v2,v3,v4=>WJ (IL n) (fun e0 e1 e2 e3=>some (.inl ((e0,e1,e2,e3,()),()))) (fun r0 r1=>some (.inr ((r0,r1,()),()))) v0 v1 v2 v3 v4
def auY (n:Nat) (v:ad2.den):=IL n v.1.1 v.1.2.1 v.1.2.2.1 v.1.2.2.2.1 v.1.2.2.2.2.1
noncomputable def alJ:dw:=iO arv ad2 abG abO (.exit 0) (auY bC) 6
def aoR (x0:gX) (x1:Int):Option (Int×Bool×Unit):=aZ (IL bC x0 x1 (bi x0) 0 (bi x0)) fun y0=>dA y0 (fun a1=>bif(iq a1.1.2.2.2.1 a1.1.2.2.1)then bif(fU a1.1.1 a1.1.2.2.2.1)then bif(bD (eu a1.1.1 0 a1.1.2.2.2.1) a1.1.2.1)then some (a1.1.2.2.2.1,(true,()))else bif(fU a1.1.1 a1.1.2.2.2.1)then aZ (acH (eu a1.1.1 0 a1.1.2.2.2.1)) fun y2=>bif y2.1 then aZ (acH a1.1.2.1) fun y3=>some (a1.1.2.2.2.1,(y3.1,()))else some (a1.1.2.2.2.1,(false,()))else none else none else some (a1.1.2.2.2.1,(false,()))) (fun b1=>some (b1.1.1,(b1.1.2.1,())))
def arY:Sum:=⟨[.list bV,bV],[(.int .i64,false),(.bool,false)],fun x=>aoR x.1 x.2.1⟩
noncomputable def ajQ:Env:=gz prog tt 94 [(120,amX),(121,amY)] [(3,arv)] [(3,alJ)]
def amw {γ:Type} (a:ad2.den->Option γ) (b:abG.den->Option γ) (c:abO.den->Option γ) (v:ad2.den):Option γ:=WJ (fun v0 v1 v2 v3 v4=>a ((v0,v1,v2,v3,v4,()),())) (fun e0 e1 e2 e3=>b ((e0,e1,e2,e3,()),())) (fun r0 r1=>c ((r0,r1,()),())) v.1.1 v.1.2.1 v.1.2.2.1 v.1.2.2.2.1 v.1.2.2.2.2.1
theorem avf:dV ajQ 94 arc alJ:=lpS (amw) (h2:=by intros;simp only[amw,WJ,cO,cZ,aY,bW,dh])
theorem axc:dJ ajQ 94 b94:=zK [arc] (aD (fM (avf)) aN)
theorem ajR:dm ajQ:=eA f94 (aD ahO (aD ahP aN)) (axc)
theorem anY:dN prog 94 arY:=sA ajR
def atX (x0:Int) (x1:gX) (x2:Int):Option ((Int×gX×Unit)×EU):=aZ (aoR x1 x2) fun y0=>some ((x0,(x1,())),(y0.1,()))
def arR:fV:=⟨88,[(.int .i64,false),(.list bV,true)],[bV],[bV],fun x y=>atX x.1 x.2.1 y.1⟩
noncomputable def awu:Env:=dK prog tt [(94,arY)] [] [] []
theorem ajD:dm awu:=eB (aD anY aN) [] aN
theorem anR:dO prog 65 arR:=sB ajD
def atY (x0:Int) (x1:gX) (x2:Int):Option ((Int×gX×Unit)×EU):=bif(bD x2 0)then some ((x0,(x1,())),(0,()))else bif(fU x1 (eY .i64 x2 1))then bif(nH (bU (eY .i64 x2 1)) x1)then some ((x0,(x1,())),((bT .i64 (bY x1 0 (bU (eY .i64 x2 1))) 1),()))else none else none
def arS:fV:=⟨88,[(.int .i64,false),(.list bV,true)],[bV],[bV],fun x y=>atY x.1 x.2.1 y.1⟩
noncomputable def awv:Env:=dK prog tt [] [] [] []
theorem ajE:dm awv:=eB aN [] aN
theorem anS:dO prog 66 arS:=sB ajE
def X6 (x0:Int) (x1:gX) (x2:Int):Option ((Int×gX×Unit)×(Int×Int×Int×Unit)):=bif(iq x2 0)then some ((x0,(x1,())),(0,(0,(1,()))))else bif(iq x0 x2)then some ((x0,(x1,())),(0,(0,(1,()))))else aZ (atX x0 x1 x2) fun y0=>aZ (atY y0.1.1 y0.1.2.1 y0.2.1) fun y1=>some ((y1.1.1,(y1.1.2.1,())),(y0.2.1,((eY .i64 x2 y1.2.1),(0,()))))
def arM:fV:=⟨88,[(.int .i64,false),(.list bV,true)],[bV],[bV,bV,bV],fun x y=>X6 x.1 x.2.1 y.1⟩
noncomputable def awq:Env:=dK prog tt [] [] [] [] [(65,arR),(66,arS)]
theorem ajx:dm awq:=eB aN [] aN (hx:=(aD anR (aD anS aN)))
theorem anM:dO prog 42 arM:=sB ajx
def akw (x0:Int):Option Xe:=bif(iq x0 0)then some ([],())else bif(leI (bi [[],[112,114,111,103,114,97,109],[108,105,115,116],[97,110,100,45,111,114],[112,105,112,101],[115,105,109,112,108,101],[97,115,115,105,103,110],[119,111,114,100],[114,101,100,105,114,101,99,116],[98,114,97,99,101],[115,117,98,115,104,101,108,108],[105,102],[108,111,111,112],[102,111,114],[99,97,115,101],[105,116,101,109],[102,117,110,99,116,105,111,110],[101,114,114,111,114],[109,105,115,115,105,110,103]]) x0)then some ([],())else bif(fU [[],[112,114,111,103,114,97,109],[108,105,115,116],[97,110,100,45,111,114],[112,105,112,101],[115,105,109,112,108,101],[97,115,115,105,103,110],[119,111,114,100],[114,101,100,105,114,101,99,116],[98,114,97,99,101],[115,117,98,115,104,101,108,108],[105,102],[108,111,111,112],[102,111,114],[99,97,115,101],[105,116,101,109],[102,117,110,99,116,105,111,110],[101,114,114,111,114],[109,105,115,115,105,110,103]] x0)then bif(nH (bU x0) [[],[112,114,111,103,114,97,109],[108,105,115,116],[97,110,100,45,111,114],[112,105,112,101],[115,105,109,112,108,101],[97,115,115,105,103,110],[119,111,114,100],[114,101,100,105,114,101,99,116],[98,114,97,99,101],[115,117,98,115,104,101,108,108],[105,102],[108,111,111,112],[102,111,114],[99,97,115,101],[105,116,101,109],[102,117,110,99,116,105,111,110],[101,114,114,111,114],[109,105,115,115,105,110,103]])then some ((bY [[],[112,114,111,103,114,97,109],[108,105,115,116],[97,110,100,45,111,114],[112,105,112,101],[115,105,109,112,108,101],[97,115,115,105,103,110],[119,111,114,100],[114,101,100,105,114,101,99,116],[98,114,97,99,101],[115,117,98,115,104,101,108,108],[105,102],[108,111,111,112],[102,111,114],[99,97,115,101],[105,116,101,109],[102,117,110,99,116,105,111,110],[101,114,114,111,114],[109,105,115,115,105,110,103]] [] (bU x0)),())else none else none
def arP:Sum:=⟨[bV],tzF,fun x=>akw x.1⟩
noncomputable def aws:Env:=gz prog tt 63 [] [] []
theorem ajB:dm aws:=eA f63 aN
theorem anP:dN prog 63 arP:=sA ajB
def oI (x6:List ed) (x7:Int):=eu x6 (0,(0,(0,(0,())))) x7
def Au (x5:List eG) (x6:List ed) (x7:Int):=eu x5 (0,([],(0,(0,())))) (oI x6 x7).2.1
def aoI (x0:bH) (x1:List uI) (x2:Int) (x3:wu) (x4:Bool) (x5:List eG) (x6:List ed) (x7:Int):Option (taO×(Int×bH×Unit)):=bif(fU x6 x7)then bif(iq (oI x6 x7).2.1 (bi x5))then bif(fU x5 (oI x6 x7).2.1)then bif(bD (oI x6 x7).1 18)then bif(fU x6 (oI x6 x7).2.2.2.1)then aZ (akw (eu x6 (0,(0,(0,(0,())))) (oI x6 x7).2.2.2.1).1) fun y0=>bif(kT [115,111,109,101,116,104,105,110,103,32,105,115,32,109,105,115,115,105,110,103,32,105,110,32] y0.1)then some ((x0,(x1,(x2,(x3,(x4,(x5,(x6,()))))))),((Au x5 x6 x7).2.2.1,((bF [115,111,109,101,116,104,105,110,103,32,105,115,32,109,105,115,115,105,110,103,32,105,110,32] y0.1),())))else none else none else bif(fU x5 (oI x6 x7).2.1)then bif(bD (Au x5 x6 x7).1 2)then some ((x0,(x1,(x2,(x3,(x4,(x5,(x6,()))))))),((Au x5 x6 x7).2.2.1,([117,110,101,120,112,101,99,116,101,100,32,110,101,119,108,105,110,101],())))else bif(fU x5 (oI x6 x7).2.1)then aZ (agQ (Au x5 x6 x7).2.1) fun y0=>bif(kT [117,110,101,120,112,101,99,116,101,100,32] y0.1)then some ((x0,(x1,(x2,(x3,(x4,(x5,(x6,()))))))),((Au x5 x6 x7).2.2.1,((bF [117,110,101,120,112,101,99,116,101,100,32] y0.1),())))else none else none else none else none else bif(bD (oI x6 x7).1 18)then bif(fU x6 (oI x6 x7).2.2.2.1)then aZ (akw (eu x6 (0,(0,(0,(0,())))) (oI x6 x7).2.2.2.1).1) fun y0=>bif(kT [115,111,109,101,116,104,105,110,103,32,105,115,32,109,105,115,115,105,110,103,32,105,110,32] y0.1)then some ((x0,(x1,(x2,(x3,(x4,(x5,(x6,()))))))),((bi x0),((bF [115,111,109,101,116,104,105,110,103,32,105,115,32,109,105,115,115,105,110,103,32,105,110,32] y0.1),())))else none else none else bif(fU x5 (oI x6 x7).2.1)then bif(bD (Au x5 x6 x7).1 2)then some ((x0,(x1,(x2,(x3,(x4,(x5,(x6,()))))))),((bi x0),([117,110,101,120,112,101,99,116,101,100,32,110,101,119,108,105,110,101],())))else bif(fU x5 (oI x6 x7).2.1)then aZ (agQ (Au x5 x6 x7).2.1) fun y0=>bif(kT [117,110,101,120,112,101,99,116,101,100,32] y0.1)then some ((x0,(x1,(x2,(x3,(x4,(x5,(x6,()))))))),((bi x0),((bF [117,110,101,120,112,101,99,116,101,100,32] y0.1),())))else none else none else none else none
def arK:fV:=⟨45,tzC,[bV],[bV,.str],fun x y=>aoI x.1 x.2.1 x.2.2.1 x.2.2.2.1 x.2.2.2.2.1 x.2.2.2.2.2.1 x.2.2.2.2.2.2.1 y.1⟩
noncomputable def awo:Env:=dK prog tt [(41,anL),(63,arP)] [] [] []
theorem ajt:dm awo:=eB (aD ZN (aD anP aN)) [] aN
theorem anJ:dO prog 39 arK:=sB ajt
def agP (x0:bH) (x1:List uI) (x2:Int) (x3:wu) (x4:Bool) (x5:List eG) (x6:List ed):Option (taO×(wu×Unit)):=aZ (agO x0 x1 x2 x3 x4 x5 x6) fun y0=>bif y0.2.2.1 then bif(bD y0.2.1.1 7)then some ((y0.1.1,(y0.1.2.1,(y0.1.2.2.1,(y0.1.2.2.2.1,(y0.1.2.2.2.2.1,(y0.1.2.2.2.2.2.1,(y0.1.2.2.2.2.2.2.1,()))))))),([],()))else some ((y0.1.1,(y0.1.2.1,(y0.1.2.2.1,(y0.1.2.2.2.1,(y0.1.2.2.2.2.1,(y0.1.2.2.2.2.2.1,(y0.1.2.2.2.2.2.2.1,()))))))),(y0.1.2.2.2.1,()))else some ((y0.1.1,(y0.1.2.1,(y0.1.2.2.1,(y0.1.2.2.2.1,(y0.1.2.2.2.2.1,(y0.1.2.2.2.2.2.1,(y0.1.2.2.2.2.2.2.1,()))))))),(y0.1.2.2.2.1,()))
def arL:fV:=⟨45,tzC,[],[.list KW],fun x y=>agP x.1 x.2.1 x.2.2.1 x.2.2.2.1 x.2.2.2.2.1 x.2.2.2.2.2.1 x.2.2.2.2.2.2.1⟩
noncomputable def awp:Env:=dK prog tt [] [] [] [] [(13,aeF)]
theorem aju:dm awp:=eB aN [] aN (hx:=(aD PE aN))
theorem anK:dO prog 40 arL:=sB aju
def awF (x0:Int):Option Xe:=bif(bD x0 1)then some ([112,114,111,103,114,97,109],())else bif(bD x0 2)then some ([108,105,115,116],())else bif(bD x0 3)then some ([97,110,100,45,111,114],())else bif(bD x0 4)then some ([112,105,112,101],())else bif(bD x0 5)then some ([115,105,109,112,108,101],())else bif(bD x0 8)then some ([114,101,100,105,114,101,99,116],())else bif(bD x0 9)then some ([98,114,97,99,101],())else bif(bD x0 10)then some ([115,117,98,115,104,101,108,108],())else bif(bD x0 11)then some ([105,102],())else bif(bD x0 12)then some ([108,111,111,112],())else bif(bD x0 13)then some ([102,111,114],())else bif(bD x0 14)then some ([99,97,115,101],())else bif(bD x0 15)then some ([105,116,101,109],())else bif(bD x0 16)then some ([102,117,110,99,116,105,111,110],())else some ([],())
def at1 (x0:Int):Option ou:=aZ (aaM x0) fun y0=>bif(bD y0.1 5)then some (true,())else aZ (aaM x0) fun y1=>bif(bD y1.1 6)then some (true,())else bif(iq 127 x0)then some (true,())else aZ (F5 x0 [37,43,44,45,46,47,58,64]) fun y2=>some (y2.1,())
end
section
open Go.RowKit
theorem bM {a b:Int} (h1: -9223372036854775808<=a+b) (h2:a+b<=9223372036854775807):bT .i64 a b=a+b:=by
 unfold bT;rw[IntKind.wrap_i64];omega
theorem gI {a b:Int} (h1: -9223372036854775808<=a-b) (h2:a-b<=9223372036854775807):eY .i64 a b=a-b:=by
 unfold eY;rw[IntKind.wrap_i64];omega
theorem apH {a b:Int}:leI a b=true↔a<=b:=by simp[leI]
theorem ap3 {a b:Int}:iq a b=true↔a<b:=by simp[iq]
theorem aoA {a b:Int}:bD a b=true↔a=b:=by simp[bD]
theorem aoZ {α:Type} {l:List α} {i:Int}:fU l i=true↔0<=i/\i<l.length:=by simp[fU]
theorem ap4 {α:Type} {l:List α} {i:Nat}:nH i l=true↔i<l.length:=by simp[nH,KR]
theorem ahA {n lo hi:Int}:gW n lo hi=true↔0<=lo/\lo<=hi/\hi<=n:=by simp[gW]
theorem bI {α:Type} {b:Bool} {x y:α} (h:b=true):(bif b then x else y)=x:=by rw[h];rfl
theorem dB {α:Type} {b:Bool} {x y:α} (h:b=false):(bif b then x else y)=y:=by rw[h];rfl
theorem vF {a b:Int} (h:a<=b):leI a b=true:=apH.2 h
theorem YG {a b:Int} (h:b<a):leI a b=false:=by simp[leI];omega
theorem eX {a b:Int} (h:a<b):iq a b=true:=ap3.2 h
theorem mr {a b:Int} (h:b<=a):iq a b=false:=by simp[iq];omega
theorem DV {a b:Int} (h: ¬a<=b):leI a b=false:=YG (by omega)
theorem gB {a b:Int} (h: ¬a<b):iq a b=false:=mr (by omega)
theorem fQ {a b:Int} (h:a=b):bD a b=true:=aoA.2 h
theorem dQ {a b:Int} (h:a≠b):bD a b=false:=by simp[bD];exact h
theorem dU {α:Type} {l:List α} {i:Int} (h:0<=i) (h2:i<l.length):fU l i=true:=aoZ.2 ⟨h,h2⟩
theorem qQ {α:Type} {l:List α} {i:Nat} (h:i<l.length):nH i l=true:=ap4.2 h
theorem iP {n lo hi:Int} (h:0<=lo) (h1:lo<=hi) (h2:hi<=n):gW n lo hi=true:=ahA.2 ⟨h,h1,h2⟩
theorem bz {α:Type} {l:List α}:bi l=(l.length:Int):=rfl
theorem dC {n:Nat} (h:n<1000000000000000000000000):n<bC:=by unfold bC;omega
theorem Iz {α:Type} {l:List α} {d x:α} {i:Int} (h:i=l.length):eu (l++[x]) d i=x:=by
 unfold eu;subst h;simp[List.getD]
end
section
open List renaming length_append → ai, length_singleton → aO
open Go.RowKit
abbrev gq:=List tX
def lo (s:gq):List mg:=(s.map fun f=>(f.1,f.2,())).reverse
theorem qh (f:tX) (s:gq):lo (f::s)=lo s++[(f.1,f.2,())]:=by simp[lo]
theorem mO (s:gq):(lo s).length=s.length:=by simp[lo]
def JI (b:Int):Bool:=decide (b=32)||decide (b=9)||decide (b=10)||decide (b=124)||decide (b=38)||decide (b=59)||decide (b=60)||decide (b=62)||decide (b=40)||decide (b=41)
def isByte (b:Int):Prop:=0<=b/\b<256
theorem Xp {b:Int} (h:isByte b): ∃n:Fin 256,b=((n.val:Nat):Int):=⟨⟨b.toNat,by have:=h.2;have:=h.1;omega⟩,by have:=h.1;simp;omega⟩
theorem pJ (s:bH) (i:Int):isByte (bK s i):=by
 grind [bK,isByte,UInt8.toNat_lt]
theorem awk: ∀n:Fin 256,DN ((n.val:Nat):Int)=some (JI ((n.val:Nat):Int),()):=by decide+kernel
theorem aji {b:Int} (h:isByte b):DN b=some (JI b,()):=by
 obtain⟨n,rfl⟩:=Xp h;exact awk n
theorem Rw {α:Type} {l:List α} (x:α) (h:l.length<1000000):bU (eY .i64 (bi (l++[x])) 1)=l.length:=by
 grind [bz,gI,bU]
theorem Jn {α:Type} {l:List α} (x:α) (h:l.length<1000000):eY .i64 (bi (l++[x])) 1=l.length:=by
 grind [bz,gI]
theorem ad3 {s:gq} (hb:s.length<1000000) (fr:Bool) (at_ m:Int):uj (lo s) fr at_ m=some ((lo ((m,at_)::s),(fr,(at_,()))),()):=by
 have h:dY (bF (lo s) [(m,(at_,()))]) 16=true:=by
  simp only[dY,bF,ai,mO,aO,decide_eq_true_eq,mF];omega
 simp_all [uj,bD,bF,qh]
theorem Lt {f g:Int×Int} {r:gq} (hb:(f::g::r).length<1000000) (fr:Bool) (at_:Int):ui (lo (f::g::r)) fr at_=some ((lo (g::r),(fr,(at_,()))),()):=by
 have hl:(lo (g::r)).length=r.length+1:=by rw[mO];rfl
 have hb':r.length+2<1000000:=by simpa using hb
 unfold ui;rw[qh f,Jn _ (by omega),bI (eX (by grind [bz])),bI (iP (by omega) (by omega) (by rw[bz];simp;omega))];simp[takeN,bU]
theorem pO {f:Int×Int} {r:gq} (hb:(f::r).length<1000000) (fr:Bool) (at_ m:Int):rF (lo (f::r)) fr at_ m=some ((lo ((m,f.2)::r),(fr,(at_,()))),()):=by
 have hl:(lo r).length=r.length:=mO r;have hb':r.length+1<1000000:=by simpa using hb
 unfold rF;rw[qh f,Jn _ (by omega),bI (dU (by omega) (by simp;omega)),bI (qQ (by simp[bU]))];simp[bU,bY,gp,qh]
theorem Zj {f g:Int×Int} {r:gq} (hb:(f::g::r).length<1000000) (fr:Bool) (at_:Int):ac4 (lo (f::g::r)) fr at_=some ((lo (f::g::r),(fr,(at_,()))),(g.1,())):=by
 have hl:(lo r).length=r.length:=mO r;have hb':r.length+2<1000000:=by simpa using hb
 have e:yY (eY .i64 (bi (lo (f::g::r))) 2) 0=r.length:=by
  grind [bz,gI,mO,yY]
 unfold ac4;rw[e,qh f,qh g,bI (dU (by omega) (by simp[hl];omega)),bI (qQ (by simp[bU,hl]))];simp_all [bU,bY]
theorem Ag {α:Type} {f:α->α->Bool} (h: ∀x,f x x=true): ∀l:List α,uh f l l=true
 |[]=>rfl
 |x::l=>by simp[uh,h,Ag h l]
theorem Nz: ∀(t:Ty) (x:t.den),TW t x x=true
 |.unit,_=>rfl
 |.bool,x=>by simp[TW]
 |.int _,x=>by simp[TW,bD]
 |.str,x=>by simp[TW,gQ]
 |.list t,x=>Ag (Nz t) x
 |.pair a b,x=>by simp[TW,Nz]
theorem lU (t:Ty) (x:List t.den):TY t x x=true:=Ag (Nz t) x
theorem dZ (x:Int):bD x x=true:=by simp[bD]
theorem FC (x:bH):gQ x x=true:=by simp[gQ]
theorem qK (x:Bool):Qc x x=true:=by simp[Qc]
end
section
open Go.RowKit
def IB (s:gq) (b at_:Int):Option gq:=if b=92 then some ((13,at_)::s)else if b=36 then some ((12,at_)::s)else if b=96 then some ((6,at_)::s)else none
def OY (m:Int) (s:gq) (fr:Bool) (b at_:Int):gq×Bool:=if b=92 then((13,at_)::s,fr)else if b=35/\fr=true then((14,at_)::s,fr)else if b=40 then(if m=0 then s else(2,at_)::s,true)else if b=41 then(if m=0 then s else s.tail, !decide (m=1))else if b=39 then((4,at_)::s,false)else if b=34 then((5,at_)::s,false)else if b=36 then((12,at_)::s,false)else if b=96 then((6,at_)::s,false)else(s,JI b)
def jA (m:Int) (s:gq) (fr:Bool) (b at_:Int):gq×Bool:=
 if m=0\/m=1\/m=2 then OY m s fr b at_
 else if m=13 then(s.tail,fr&&decide (b=10))
 else if m=4 then(if b=39 then s.tail else s,fr)
 else if m=14 then(if b=10 then(s.tail,true)else(s,fr))
 else if m=6 then(if b=96 then s.tail else if b=92 then(13,at_)::s else s,fr)
 else match IB s b at_ with
  |some s'=>(s',fr)
  |none=>
   if m=9\/m=10 then(if b=40 then(10,at_)::s else if b=41 then(if m=10 then s.tail else(11,(s.headD (0,0)).2)::s.tail)else s,fr)
   else(if b=34 then(if m=5 then s.tail else(5,at_)::s)else if b=125/\m≠5 then s.tail else if b=39/\m=7 then(4,at_)::s else s,fr)
def gm (s:gq) (fr:Bool) (b at_:Int):gq×Bool:=
 match s with
 |[]=>([],fr)
 |f::r=>
  if f.1=12 then
   (if b=40 then((3,f.2)::r,true)
   else if b=123 then((if(r.headD (0,0)).1=5\/(r.headD (0,0)).1=8 then 8 else 7,f.2)::r,fr)
   else if b=36 then(r,fr)
   else jA (r.headD (0,0)).1 r fr b at_)
  else if f.1=3 then(if b=40 then((9,f.2)::r,false)else jA 1 ((1,f.2)::r) fr b at_)
  else if f.1=11 then(if b=41 then(r,fr)else jA 9 ((9,f.2)::r) fr b at_)
  else jA f.1 (f::r) fr b at_
theorem qG (b:Int):b=10\/b=34\/b=35\/b=36\/b=39\/b=40\/b=41\/b=92\/b=96\/b=123\/b=125\/
  (b≠10/\b≠34/\b≠35/\b≠36/\b≠39/\b≠40/\b≠41/\b≠92/\b≠96/\b≠123/\b≠125):=by omega
theorem iF (a b:Int):bD a b=decide (a=b):=by
 rfl
def pst (x:gq×Bool) (at_:Int):(List mg×Bool×Int×Unit):=(lo x.1,(x.2,(at_,())))
theorem abR {m:Int} {f:Int×Int} {r:gq} (hm:m=0\/((m=1\/m=2)/\ ∃g r',r=g::r')) (hb:(f::r).length<1000000) (fr:Bool) {b:Int} (hby:isByte b) (at_:Int):
  Q3 (lo (f::r)) fr at_ m b=some (pst (OY m (f::r) fr b at_) at_,()):=by
 have e:=aji hby;rcases hm with rfl|⟨rfl|rfl,g,r,rfl⟩<;>rcases qG b with rfl|rfl|rfl|rfl|rfl|rfl|rfl|rfl|rfl|rfl|rfl|⟨h1,h2,h3,h4,h5,h6,h7,h8,h9,h10,h11⟩<;>cases fr<;>
  simp_all [Q3,NQ,OY,pst,iF,ad3,Lt,JI,aY,FZ]
theorem aqE {m:Int} {f:Int×Int} {r:gq} (hm:m=0\/((m=1\/m=2\/m=4\/m=5\/m=6\/m=7\/m=8\/m=9\/m=10\/m=13\/m=14)/\ ∃g r',r=g::r')) (hb:(f::r).length<1000000) (fr:Bool) {b:Int} (hby:isByte b) (at_:Int):
  JM (lo (f::r)) fr at_ m b=some (pst (jA m (f::r) fr b at_) at_,()):=by
 rcases hm with rfl|⟨rfl|rfl|hm,g,r,rfl⟩
 ·simp[JM,jA,iF,abR (.inl rfl) hb fr hby at_,pst,aY,yN]
 ·simp[JM,jA,iF,abR (.inr ⟨.inl rfl,g,r,rfl⟩) hb fr hby at_,pst,aY,yN]
 ·simp[JM,jA,iF,abR (.inr ⟨.inr rfl,g,r,rfl⟩) hb fr hby at_,pst,aY,yN]
 ·rcases hm with rfl|rfl|rfl|rfl|rfl|rfl|rfl|rfl|rfl<;>rcases qG b with rfl|rfl|rfl|rfl|rfl|rfl|rfl|rfl|rfl|rfl|rfl|⟨h1,h2,h3,h4,h5,h6,h7,h8,h9,h10,h11⟩<;>cases fr<;>
  simp_all [JM,ac5,ac6,NQ,jA,IB,pst,iF,ad3,Lt,pO,aY,yN,Ug,Uh]
def UL (m:Int):Prop:=m=0\/m=1\/m=2\/m=5\/m=6\/m=7\/m=8\/m=9\/m=10
def iQ:gq->Prop
 |[]=>False
 |[f]=>f.1=0
 |f::g::r=>1<=f.1/\f.1<=14/\UL g.1/\iQ (g::r)
theorem awI: ∃k,bC=k+2:=by
 simp_all [bC]
theorem Y2 {l:List mg} {x:Int×Int×Unit} (h:l.length<1000000):bY (l++[x]) (0,(0,())) (bU (eY .i64 (bi (l++[x])) 1))=x:=by
 rw[Rw x h];simp[bY]
theorem adh {α:Type} {l:List α} {x:α} (h:l.length<1000000):fU (l++[x]) (eY .i64 (bi (l++[x])) 1)=true:=by
 grind [Jn,dU]
theorem adN {α:Type} {l:List α} {x:α} (h:l.length<1000000):nH (bU (eY .i64 (bi (l++[x])) 1)) (l++[x])=true:=by
 simp_all [Rw,qQ]
theorem vP {f:Int×Int} {r:gq} (n:Nat) (hm:f.1=0\/((f.1=1\/f.1=2\/f.1=4\/f.1=5\/f.1=6\/f.1=7\/f.1=8\/f.1=9\/f.1=10\/f.1=13\/f.1=14)/\ ∃g r',r=g::r')) (hb:(f::r).length<1000000) (fr:Bool) {b:Int} (hby:isByte b) (at_:Int):
  tu (n+1) b fr at_ (lo (f::r))=some (.inl ((),((),()),(((jA f.1 (f::r) fr b at_).2,at_,()),lo (jA f.1 (f::r) fr b at_).1,()))):=by
 have hl:(lo r).length<1000000:=by grind [mO]
 have n12:f.1≠12:=by omega
 have n3:f.1≠3:=by omega
 have n11:f.1≠11:=by omega
 have hp:=aqE hm hb fr hby at_;rw[tu,yg];rw[show lo (f::r)=lo r++[(f.1,f.2,())] from qh f r,adh hl,adN hl,Y2 hl];simp only[cond_true,iF,n12,n3,n11,decide_false,cond_false];rw[<-qh,hp,aY];rfl
theorem ahi {f:Int×Int} {r:gq} (hg:iQ (f::r)) (hl:UL f.1):f.1=0\/((f.1=1\/f.1=2\/f.1=4\/f.1=5\/f.1=6\/f.1=7\/f.1=8\/f.1=9\/f.1=10\/f.1=13\/f.1=14)/\ ∃g r',r=g::r'):=by
 cases r with
 |nil=>exact .inl hg
 |cons g r=>
  unfold UL at hl
  grind
theorem aaL {s:gq} (hg:iQ s) (hb:s.length<1000000) (fr:Bool) {b:Int} (hby:isByte b) {at_:Int} (h0:0<=at_) (h1:at_<1000000000):QZ (lo s) fr at_ b=some (pst (gm s fr b at_) (at_+1),()):=by
 obtain⟨k,hk⟩:=awI;cases s with
 |nil=>cases hg
 |cons f r=>
 have hl:(lo r).length<1000000:=by grind [mO]
 have hne:bD (bi (lo (f::r))) 0=false:=dQ (by rw[bz,mO];simp;omega);have ha:bT .i64 at_ 1=at_+1:=bM (by omega) (by omega);unfold QZ;rw[hne,cond_false,hk];by_cases hp:f.1=12\/f.1=3\/f.1=11
 ·cases r with
  |nil=>have:f.1=0:=hg;omega
  |cons g r=>
  have hlow:=ahi hg.2.2.2 hg.2.2.1;have hb2:(g::r).length<1000000:=by grind
  rw[show k+2=(k+1)+1 from rfl,tu,yg,show lo (f::g::r)=lo (g::r)++[(f.1,f.2,())] from qh f _,adh hl,adN hl,Y2 hl,<-qh];rcases hp with e|e|e
  ·have hd:JL (lo (f::g::r)) fr at_ b=some ((if b=40 then(lo ((3,f.2)::g::r),(true,(at_,())))else if b=123 then(lo ((if g.1=5\/g.1=8 then 8 else 7,f.2)::g::r),(fr,(at_,())))else(lo (g::r),(fr,(at_,())))),(decide (b=40\/b=123\/b=36),())):=by
    by_cases e1:b=40
    ·subst e1;simp[JL,iF,pO hb,aY]
    ·by_cases e2:b=123
     ·subst e2;by_cases e5:g.1=5
      ·simp[JL,iF,pO hb,Zj hb,aY,e5]
      ·by_cases e8:g.1=8<;>simp[JL,iF,pO hb,Zj hb,aY,e5,e8]
     ·by_cases e3:b=36<;>simp[JL,iF,Lt hb,aY,e1,e2,e3]
   simp only[cond_true,iF,e,decide_true];rw[hd,aY];by_cases e1:b=40\/b=123\/b=36
   ·simp only[e1,decide_true,cond_true,aY,dA,ha];rcases e1 with rfl|rfl|rfl<;>simp[gm,e,pst,ha]
   ·have e1':b≠40/\b≠123/\b≠36:=by omega
    simp only[e1'.1,e1'.2.1,e1'.2.2,or_self,decide_false,cond_false,if_false];simp_all [vP,aY,dA,gm,pst]
  ·simp only[cond_true,iF,e,decide_true,show decide ((3:Int)=12)=false from rfl,cond_false];by_cases e1:b=40
   ·simp_all [pO,aY,dA,gm,pst]
   ·simp only[e1,decide_false,cond_false,pO hb,aY];rw[vP k (f:=(1,f.2)) (.inr ⟨.inl rfl,g,r,rfl⟩) (by simpa using hb) fr hby at_,aY];simp[dA,gm,e,e1,pst,ha]
  ·simp only[cond_true,iF,e,decide_true,show decide ((11:Int)=12)=false from rfl,show decide ((11:Int)=3)=false from rfl,cond_false];by_cases e1:b=41
   ·simp_all [Lt,aY,dA,gm,pst]
   ·simp only[e1,decide_false,cond_false,pO hb,aY];rw[vP k (f:=(9,f.2)) (.inr ⟨by simp,g,r,rfl⟩) (by simpa using hb) fr hby at_,aY];simp[dA,gm,e,e1,pst,ha]
 ·have hm:f.1=0\/((f.1=1\/f.1=2\/f.1=4\/f.1=5\/f.1=6\/f.1=7\/f.1=8\/f.1=9\/f.1=10\/f.1=13\/f.1=14)/\ ∃g r',r=g::r'):=by
   cases r with
   |nil=>exact .inl hg
   |cons g r=>have h1:=hg.1;have h2:=hg.2.1;grind
  simp_all [vP,aY,dA,gm,pst]
end
section
open Go.RowKit
end
section
open Go.RowKit
theorem agU {f:Int×Int} {r:gq} (h:iQ (f::r)):0<=f.1/\f.1<=14:=by
 cases r with
 |nil=>have:f.1=0:=h;omega
 |cons g r=>have:=h.1;have:=h.2.1;omega
theorem agV {s:gq} (hg:iQ s) (hl: ∃f r,s=f::r/\UL f.1) {m at_:Int} (h1:1<=m) (h2:m<=14):iQ ((m,at_)::s):=by
 obtain⟨f,r,rfl,hf⟩:=hl;exact⟨h1,h2,hf,hg⟩
theorem AB {f:Int×Int} {r:gq} (hg:iQ (f::r)) (hr:r≠[]) {m at_:Int} (h1:1<=m) (h2:m<=14):iQ ((m,at_)::r):=by
 cases r with
 |nil=>exact absurd rfl hr
 |cons g r=>exact⟨h1,h2,hg.2.2.1,hg.2.2.2⟩
theorem CQ {f:Int×Int} {r:gq} (hg:iQ (f::r)) (hr:r≠[]):iQ r:=by
 cases r with
 |nil=>exact absurd rfl hr
 |cons g r=>exact hg.2.2.2
theorem lV {f:Int×Int} {r:gq} (hg:iQ (f::r)) (h:f.1≠0):r≠[]:=by
 rintro rfl;exact h hg
theorem yO {m:Int} {f:Int×Int} {r:gq} (hf:f.1=m) (hg:iQ (f::r)) (hm:m≠12/\m≠3/\m≠11) (fr:Bool) (b at_:Int):
  iQ (jA m (f::r) fr b at_).1/\(jA m (f::r) fr b at_).1.length<=(f::r).length+1:=by
 obtain⟨g0,g1⟩:=agU hg;have hr:f.1≠0->r≠[]:=lV hg;have cases_m:m=0\/m=1\/m=2\/m=4\/m=5\/m=6\/m=7\/m=8\/m=9\/m=10\/m=13\/m=14:=by omega
 have push: ∀k,UL f.1->1<=k->k<=14->iQ ((k,at_)::f::r):=fun k hl h1 h2=>agV hg ⟨f,r,rfl,hl⟩ h1 h2;have lowf:m=0\/m=1\/m=2\/m=5\/m=6\/m=7\/m=8\/m=9\/m=10->UL f.1:=fun h=>by simp_all [UL]
 have tl:m≠0->iQ r:=fun h=>CQ hg (hr (by rw[hf];exact h));have st: ∀k,m≠0->1<=k->k<=14->iQ ((k,f.2)::r):=fun k h h1 h2=>AB hg (hr (by rw[hf];exact h)) h1 h2;rcases cases_m with e|e|e|e|e|e|e|e|e|e|e|e<;>subst e<;>rcases qG b with rfl|rfl|rfl|rfl|rfl|rfl|rfl|rfl|rfl|rfl|rfl|⟨h1,h2,h3,h4,h5,h6,h7,h8,h9,h10,h11⟩<;>cases fr<;>
  simp_all [jA,OY,IB]<;>first|omega|(refine⟨?_,by omega⟩;assumption)
end
section
open List renaming drop_eq_getElem_cons → aF, drop_of_length_le → aK, eq_nil_of_length_eq_zero → aW
open Go.RowKit
theorem good_step {s:gq} (hg:iQ s) (fr:Bool) (b at_:Int):iQ (gm s fr b at_).1/\(gm s fr b at_).1.length<=s.length+1:=by
 cases s with
 |nil=>cases hg
 |cons f r=>
 simp only[gm];split
 ·rename_i e
  have hr:r≠[]:=lV hg (by omega);have hs: ∀k,1<=k->k<=14->iQ ((k,f.2)::r):=fun k h1 h2=>AB hg hr h1 h2;have ht:=CQ hg hr;split
  ·simp_all
  ·split
   ·grind
   ·split
    ·grind
    ·cases r with
     |nil=>exact absurd rfl hr
     |cons g r=>
      have hlow:=hg.2.2.1;have h:=yO rfl ht (by unfold UL at hlow;omega) fr b at_
      grind
 ·split
  ·rename_i e
   have hr:r≠[]:=lV hg (by omega);split
   ·grind [AB]
   ·have h:=yO (f:=(1,f.2)) rfl (AB hg hr (by omega) (by omega)) (by omega) fr b at_
    assumption
  ·split
   ·rename_i e
    have hr:r≠[]:=lV hg (by omega);split
    ·grind [CQ]
    ·have h:=yO (f:=(9,f.2)) rfl (AB hg hr (by omega) (by omega)) (by omega) fr b at_
     assumption
   ·exact yO rfl hg (by omega) fr b at_
def md (s:gq):List Int:=s.map (·.1)
theorem GV (m:Int) {s s':gq} (h:md s=md s') (fr:Bool) (b a a':Int):md (jA m s fr b a).1=md (jA m s' fr b a').1/\(jA m s fr b a).2=(jA m s' fr b a').2:=by
 have ht:md s.tail=md s'.tail:=by
  have:=congrArg List.tail h;simpa [md] using this
 have cases_m:m=0\/m=1\/m=2\/m=4\/m=5\/m=6\/m=7\/m=9\/m=10\/m=13\/m=14\/(m≠0/\m≠1/\m≠2/\m≠4/\m≠5/\m≠6/\m≠7/\m≠9/\m≠10/\m≠13/\m≠14):=by omega
 have hc: ∀k (p q:Int),md ((k,p)::s)=md ((k,q)::s'):=fun k p q=>by simp_all [md]
 have hd: ∀k (p q:Int),md ((k,p)::s.tail)=md ((k,q)::s'.tail):=fun k p q=>by simp_all [md]
 rcases cases_m with rfl|rfl|rfl|rfl|rfl|rfl|rfl|rfl|rfl|rfl|rfl|⟨m1,m2,m3,m4,m5,m6,m7,m8,m9,m10,m11⟩<;>rcases qG b with rfl|rfl|rfl|rfl|rfl|rfl|rfl|rfl|rfl|rfl|rfl|⟨h1,h2,h3,h4,h5,h6,h7,h8,h9,h10,h11⟩<;>cases fr<;>
  simp_all [jA,OY,IB]<;>first|exact h|exact ht|exact hc _ _ _|exact hd _ _ _
theorem ap5 {s s':gq} (h:md s=md s') (fr:Bool) (b a a':Int):md (gm s fr b a).1=md (gm s' fr b a').1/\(gm s fr b a).2=(gm s' fr b a').2:=by
 cases s with
 |nil=>cases s' with
  |nil=>exact⟨rfl,rfl⟩
  |cons _ _=>simp[md]at h
 |cons f r=>cases s' with
  |nil=>simp[md]at h
  |cons f' r'=>
   have h1:f.1=f'.1:=by simp_all [md]
   have h2:md r=md r':=by simp_all [md]
   have h3:(r.headD (0,0)).1=(r'.headD (0,0)).1:=by
    cases r<;>cases r'<;>simp[md]at h2 ⊢;exact h2.1
   have hc: ∀k (p q:Int),md ((k,p)::r)=md ((k,q)::r'):=fun k p q=>by simp_all [md]
   simp only[gm,<-h1,<-h3];split
   ·split
    ·grind
    ·split
     ·grind
     ·split
      ·exact⟨h2,rfl⟩
      grind [GV]
   ·split
    ·split
     ·grind
     grind [GV]
    ·split
     ·split
      ·exact⟨h2,rfl⟩
      grind [GV]
     grind [GV]
def jC (b:UInt8):Int:=(b.toNat:Int)
def uH:bH->Int->gq×Bool->gq×Bool
 |[],_,x=>x
 |b::l,a,x=>uH l (a+1) (gm x.1 x.2 (jC b) a)
def fK:gq×Bool:=([(0,0)],true)
theorem nO:iQ fK.1:=rfl
theorem drop_at {s:List UInt8} {i:Int} (h0:0<=i) (h:i<s.length): ∃b,s.drop i.toNat=b::s.drop (i+1).toNat/\bK s i=jC b:=by
 have hi:i.toNat<s.length:=by omega
 refine⟨s[i.toNat], ?_, ?_⟩
 ·grind [aF]
 simp_all [bK,jC]
theorem XD {s:List UInt8} {i:Int} (h:s.length<=i):s.drop i.toNat=[]:=aK (by omega)
theorem arz (s:bH) (hs:s.length<=100000): ∀(N:Nat) (i:Int) (x:gq×Bool),(s.length:Int)-i<N->0<=i->i<=s.length->iQ x.1->(x.1.length:Int)<=i+1->
  Gx N s (bi s) i x.2 i (lo x.1)=some (.inl ((),(((uH (s.drop i.toNat) i x).2,(s.length:Int),()),lo (uH (s.drop i.toNat) i x).1,())))
 |0,i,x,h,_,_,_,_=>by omega
 |N+1,i,x,h,h0,hi,hg,hl=>by
  rw[Gx,LP];by_cases e:i<s.length
  ·obtain⟨b,hd,hb⟩:=drop_at h0 e;rw[bI (eX (b:=bi s) e),bI (dU h0 e),aaL hg (by omega) x.2 (pJ s i) h0 (by omega),aY,hd,uH,<-hb];simp only[pst];rw[bM (by omega) (by omega)];have hst:=good_step hg x.2 (bK s i) i;exact arz s hs N (i+1) (gm x.1 x.2 (bK s i) i) (by omega) (by omega) (by omega) hst.1 (by have:=hst.2;omega)
  ·have hi':i=s.length:=by omega
   simp_all [mr,bz,uH]
theorem N9: ∀(l:bH) (a:Int) (x:gq×Bool),iQ x.1->iQ (uH l a x).1/\(uH l a x).1.length<=x.1.length+l.length
 |[],a,x,h=>⟨h,by simp[uH]⟩
 |b::l,a,x,h=>by
  have h1:=good_step h x.2 (jC b) a;have h2:=N9 l (a+1) (gm x.1 x.2 (jC b) a) h1.1
  grind [uH]
theorem acl {n:Nat} (h:n<=1000000000):n<bC:=by unfold bC;omega
theorem av8 (s:bH) (hs:s.length<=100000):acS s=some (lo (uH s 0 fK).1,((uH s 0 fK).2,())):=by
 have h:=arz s hs bC 0 fK (by have:=acl (n:=s.length) (by omega);omega) (by omega) (by omega) nO (by simp[fK]);have hg:=N9 s 0 fK nO;unfold acS;rw[show([(0,(0,()))]:List mg)=lo fK.1 from rfl,show(true:Bool)=fK.2 from rfl,h,aY];simp only[dA,Int.toNat_zero,List.drop_zero];have hlen:(lo (uH s 0 fK).1).length≠0:=by
  rw[mO];intro e;rw[aW e]at hg;exact hg.1
 rw[dB (dQ (by rw[bz];omega))];have hc:lS (lo (uH s 0 fK).1)=some (lo (uH s 0 fK).1,()):=by
  unfold lS pq;have:dY (lo (uH s 0 fK).1) 16=true:=by
   have:=hg.2;have h1:fK.1.length=1:=rfl;simp only[dY,mO,decide_eq_true_eq,mF];omega
  rw[this];rfl
 grind [aY,ac0,iF,bz]
end
section
open Bool renaming false_eq_true → ag
open List renaming length_cons → az
open Nat renaming le_refl → ae
open Go.RowKit
def zJ (s:gq) (b:Int):Bool:=JI b&&(match s with
 |[_]=>true
 |[f,_]=>decide (f.1=12)&& !decide (b=40)
 |_=>false)
def Ij:bH->Int->gq×Bool->Nat
 |[],_,_=>0
 |b::l,a,x=>if zJ x.1 (jC b)then 0 else Ij l (a+1) (gm x.1 x.2 (jC b) a)+1
theorem acu: ∀(l:bH) (a:Int) (x:gq×Bool),Ij l a x<=l.length
 |[],_,_=>ae _
 |b::l,a,x=>by
  simp only[Ij,az];split
  ·omega
  ·have:=acu l (a+1) (gm x.1 x.2 (jC b) a);omega
theorem ajh {s s':gq} (h:md s=md s') (b:Int):zJ s b=zJ s' b:=by
 match s,s' with
 |[],[]=>rfl
 |[_],[_]=>rfl
 |[f,_],[f',_]=>simp_all [md,zJ]
 |_::_::_::_,_::_::_::_=>rfl
 |[],_::_=>simp[md]at h
 |_::_,[]=>simp[md]at h
 |[_],_::_::_=>simp[md]at h
 |_::_::_,[_]=>simp[md]at h
 |[_,_],_::_::_::_=>simp[md]at h
 |_::_::_::_,[_,_]=>simp[md]at h
theorem acv: ∀(l:bH) (a a':Int) (x x':gq×Bool),md x.1=md x'.1->x.2=x'.2->Ij l a x=Ij l a' x'
 |[],_,_,_,_,_,_=>rfl
 |b::l,a,a',x,x',h1,h2=>by
  have hs:=ap5 h1 x.2 (jC b) a a';simp only[Ij,ajh h1,<-h2];rw[acv l (a+1) (a'+1) _ _ hs.1 hs.2]
theorem aou {s:gq} (hg:iQ s) (hb:s.length<1000000) (fr:Bool) (at_:Int) {b:Int} (hby:isByte b):acR (lo s) fr at_ b=some ((lo s,(fr,(at_,()))),(zJ s b,())):=by
 unfold acR;rw[aji hby,aY];cases he:JI b with
 |false=>simp[zJ,he]
 |true=>
  match s with
  |[]=>cases hg
  |[f]=>simp[zJ,he,iF,bz,lo]
  |[f,g]=>
   have h1:fU (lo [f,g]) 1=true:=dU (by omega) (by simp[lo]);have h2:nH (bU 1) (lo [f,g])=true:=qQ (by simp[lo,bU]);have h3:bY (lo [f,g]) (0,(0,())) (bU 1)=(f.1,f.2,()):=by rfl
   have h4:(lo [f,g]).length=2:=by simp[lo]
   simp only[iF,bz,h1,h2,h3,h4,cond_true]
   grind [zJ]
  |f::g::h::r=>
   grind [mO,iF,bz,zJ]
theorem ajg (s:bH) (hs:s.length<=100000): ∀(N:Nat) (i a:Int) (x:gq×Bool),(s.length:Int)-i<N->0<=i->i<=s.length->0<=a->a<=i->iQ x.1->(x.1.length:Int)<=a+1->
  ∃o,Gu N s i x.2 a (lo x.1)=some o/\dA o (fun a1=>some (a1.1.1,())) (fun b1=>some (b1.1.1,()))=some (i+Ij (s.drop i.toNat) a x,())
 |0,i,a,x,h,_,_,_,_,_,_=>by omega
 |N+1,i,a,x,h,h0,hi,ha0,ha,hg,hl=>by
  rw[Gu,LM];by_cases e:i<s.length
  ·obtain⟨b,hd,hb⟩:=drop_at h0 e;rw[bI (eX (b:=bi s) e),bI (dU h0 e),aou hg (by omega) x.2 a (pJ s i),aY,hd,Ij,<-hb];cases hw:zJ x.1 (bK s i)with
   |true=>exact⟨_,rfl,by simp[dA]⟩
   |false=>
    simp only[cond_false,ag,if_false];rw[bI (dU h0 e),aaL hg (by omega) x.2 (pJ s i) (by omega) (by omega),aY];simp only[pst];rw[bM (by omega) (by omega)];have hst:=good_step hg x.2 (bK s i) a;obtain⟨o,h1,h2⟩:=ajg s hs N (i+1) (a+1) (gm x.1 x.2 (bK s i) a) (by omega) (by omega) (by omega) (by omega) (by omega) hst.1 (by have:=hst.2;omega)
    grind
  ·rw[dB (mr (b:=bi s) (by rw[bz];omega)),XD (by omega)];exact⟨_,rfl,by simp[dA,Ij]⟩
theorem av6 (s:bH) (hs:s.length<=100000) {i:Int} (h0:0<=i) (hi:i<=s.length):XV s i=some (i+Ij (s.drop i.toNat) i fK,()):=by
 obtain⟨o,h1,h2⟩:=ajg s hs bC i 0 fK (by have:=acl (n:=s.length) (by omega);omega) h0 hi (by omega) h0 nO (by simp[fK]);unfold XV;rw[dB (mr h0),dB (mr (a:=bi s) hi),show([(0,(0,()))]:List mg)=lo fK.1 from rfl,show(true:Bool)=fK.2 from rfl,h1,aY,h2,acv _ i 0 fK fK rfl rfl]
end
section
open Bool renaming and_eq_true → af, not_true → ax
open List renaming drop_eq_getElem_cons → aF, drop_of_length_le → aK, length_drop → aU
open Go.RowKit
def Z9 (c:UInt8):Bool:=(97<=c&&c<=122)||(65<=c&&c<=90)||c==95
def isD (c:UInt8):Bool:=48<=c&&c<=57
def Us (c:UInt8):Bool:=Z9 c||isD c
def isP (c:UInt8):Bool:=c==64||c==42||c==35||c==63||c==45||c==36||c==33
def aop:Bool:=(List.range 256).all fun b=>match X5 (b:Int),XZ (b:Int),aaM (b:Int)with
 |some (x,_),some (y,_),some (k,_)=>(x==Z9 (UInt8.ofNat b))&&((y==isD (UInt8.ofNat b))&&((decide (k=5)==Z9 (UInt8.ofNat b))&&(decide (k=6)==isD (UInt8.ofNat b))))
 |_,_,_=>false
theorem ai9:aop=true:=by kernel_rfl
theorem xB (c:UInt8):X5 (c.toNat:Int)=some (Z9 c,())/\XZ (c.toNat:Int)=some (isD c,())/\ ∃k,aaM (c.toNat:Int)=some (k,())/\bD k 5=Z9 c/\bD k 6=isD c:=by
 have h:=List.all_eq_true.1 ai9 c.toNat (List.mem_range.2 (by have:=c.toNat_lt;omega));have hc:UInt8.ofNat c.toNat=c:=by simp
 rw[hc]at h;split at h
 ·rename_i x u y v k w h1 h2 h3
  simp only[af,beq_iff_eq]at h
  grind [bD]
 ·cases h
def axg:Bool:=(List.range 256).all fun b=>match F5 (b:Int) [64,42,35,63,45,36,33]with
 |some (x,_)=>(x==isP (UInt8.ofNat b))&&(isP (UInt8.ofNat b)==(bD (b:Int) 64||(bD (b:Int) 42||(bD (b:Int) 35||(bD (b:Int) 63||(bD (b:Int) 45||(bD (b:Int) 36||bD (b:Int) 33)))))))
 |_=>false
theorem avp:axg=true:=by kernel_rfl
theorem avo (c:UInt8):F5 (c.toNat:Int) [64,42,35,63,45,36,33]=some (isP c,())/\isP c=(bD (c.toNat:Int) 64||(bD (c.toNat:Int) 42||(bD (c.toNat:Int) 35||(bD (c.toNat:Int) 63||(bD (c.toNat:Int) 45||(bD (c.toNat:Int) 36||bD (c.toNat:Int) 33)))))):=by
 have h:=List.all_eq_true.1 avp c.toNat (List.mem_range.2 (by have:=c.toNat_lt;omega));have hc:UInt8.ofNat c.toNat=c:=by simp
 grind
theorem byte_at {s:List UInt8} {i:Nat} (h:i<s.length):bK s (i:Int)=(s[i].toNat:Int):=by
 simp_all [bK]
def runN (s:bH):Nat:=(s.takeWhile Us).length
def EP (s:bH):Nat:=(s.takeWhile Z9).length
def oz (s:bH):Nat:=(s.takeWhile isD).length
theorem H8 (p:UInt8->Bool) (s:bH):(s.takeWhile p).length<=s.length:=by
 induction s with
 |nil=>simp
 |cons c v ih=>grind [List.takeWhile_cons]
theorem H7 (p:UInt8->Bool): ∀(s:bH) (i:Nat) (h:i<s.length),i<(s.takeWhile p).length->p s[i]=true
 |[],i,h,_=>by simp at h
 |c::v,i,h,h2=>by
  rw[List.takeWhile_cons]at h2;split at h2
  ·rename_i hc
   match i with
   |0=>exact hc
   |i+1=>exact H7 p v i (by simpa using h) (by simpa using h2)
  ·simp at h2
theorem zH (p:UInt8->Bool): ∀(s:bH) (h:(s.takeWhile p).length<s.length),p s[(s.takeWhile p).length]=false
 |[],h=>by simp at h
 |c::v,h=>by
  by_cases hc:p c=true
  ·have e:List.takeWhile p (c::v)=c::v.takeWhile p:=by simp_all
   have h':(v.takeWhile p).length<v.length:=by simp_all
   have:=zH p v h';simp_all
  simp_all
theorem axY (p:UInt8->Bool) (s:bH) (n:Nat) (hn:n<=s.length) (h1: ∀i (h:i<s.length),i<n->p s[i]=true) (h2: ∀h:n<s.length,p s[n]=false):(s.takeWhile p).length=n:=by
 have a:=H8 p s;by_cases c:(s.takeWhile p).length<n
 ·grind [zH]
 grind [H7]
def nl (s:bH):Nat:=if EP s=0 then 0 else runN s
theorem amm {s:List UInt8} (h:EP s≠0):runN s≠0:=by
 unfold EP at h;unfold runN
 match s with
 |[]=>simp at h
 |c::v=>
  simp_all [List.takeWhile_cons,Us]
theorem axf (s:bH):nl s<=s.length:=by
 unfold nl;split
 ·omega
 ·exact H8 _ _
theorem Tt {s:List UInt8} (hs:s.length<4000000) {a k:Nat} (h:a+k<s.length): ∃hk:k<(s.drop a).length,bK s (bT .i64 (a:Int) (k:Int))=(((s.drop a)[k]).toNat:Int):=by
 have hk:k<(s.drop a).length:=by grind
 refine⟨hk, ?_⟩;rw[bM (by omega) (by omega),show(a:Int)+(k:Int)=((a+k:Nat):Int) by omega,byte_at h,List.getElem_drop]
theorem arG {s:List UInt8} (hs:s.length<4000000) {at_:Nat} (ha:at_<=s.length) (a:bH) (b:Int) (c:bH) (d:Int): ∀(N k:Nat),s.length-k<N->k<=EP (s.drop at_)->
  kV N s (at_:Int) (k:Int) a b c d=some (.inl ((((EP (s.drop at_):Nat):Int),()),((a,b,c,d,()),(),()),()))
 |0,k,h,hk=>by
  omega
 |N+1,k,h,hk=>by
  have hle:=H8 Z9 (s.drop at_);have hld:=aU (i:=at_) (l:=s);rw[kV,qx];have hk':k<=((s.drop at_).takeWhile Z9).length:=hk;have e0:bT .i64 (at_:Int) (k:Int)=(at_:Int)+k:=bM (by omega) (by omega);by_cases h1:at_+k<s.length
  ·obtain⟨hkd,hb⟩:=Tt hs h1;rw[hb,e0,bI (eX (by rw[bz];omega)),bI (dU (by omega) (by omega)),(xB _).1,aY];by_cases h2:k<EP (s.drop at_)
   ·rw[H7 Z9 _ k hkd h2];simp only[ax,cond_false];rw[bM (by omega) (by omega),show(k:Int)+1=((k+1:Nat):Int) by omega];exact arG hs ha a b c d N (k+1) (by omega) (by omega)
   ·obtain rfl:k=EP (s.drop at_):=by omega
    grind [zH,EP]
  ·obtain rfl:k=EP (s.drop at_):=by grind [EP]
   rw[e0,dB (gB (by rw[bz];omega))]
theorem arH {s:List UInt8} (hs:s.length<4000000) {at_:Nat} (ha:at_<=s.length) (a:bH) (b:Int) (c:bH) (d:Int): ∀(N k:Nat),s.length-k<N->k<=runN (s.drop at_)->
  lL N s (at_:Int) (k:Int) a b c d=some (.inl ((((runN (s.drop at_):Nat):Int),()),((a,b,c,d,()),(),()),()))
 |0,k,h,hk=>by
  omega
 |N+1,k,h,hk=>by
  have hle:=H8 Us (s.drop at_);have hld:=aU (i:=at_) (l:=s);rw[lL,vY];have hk':k<=((s.drop at_).takeWhile Us).length:=hk;have e0:bT .i64 (at_:Int) (k:Int)=(at_:Int)+k:=bM (by omega) (by omega);by_cases h1:at_+k<s.length
  ·obtain⟨hkd,hb⟩:=Tt hs h1;have ea:bT .i64 (k:Int) 1=((k+1:Nat):Int):=by grind [bM]
   rw[hb,e0,bI (eX (by rw[bz];omega)),bI (dU (by omega) (by omega)),(xB _).1,aY,(xB _).2.1];by_cases h2:k<runN (s.drop at_)
   ·have ih:=arH hs ha a b c d N (k+1) (by omega) (by omega);have hn:=H7 Us _ k hkd h2;rw[ea];cases hL:Z9 (s.drop at_)[k]with
    |true=>exact ih
    |false=>
     simp_all [Us,aY]
   ·obtain rfl:k=runN (s.drop at_):=by omega
    have:=zH Us _ hkd;have h3:Us (s.drop at_)[runN (s.drop at_)]=false:=this;simp_all [Us,aY]
  ·obtain rfl:k=runN (s.drop at_):=by grind [runN]
   rw[e0,dB (gB (by rw[bz];omega))]
theorem arF {s:List UInt8} (hs:s.length<4000000) {at_:Nat} (ha:at_<=s.length) (a:bH) (b:Int) (c:bH) (d:Int): ∀(N k:Nat),s.length-k<N->k<=oz (s.drop at_)->
  nY N s (at_:Int) (k:Int) a b c d=some (.inl ((((oz (s.drop at_):Nat):Int),()),((a,b,c,d,()),(),()),()))
 |0,k,h,hk=>by
  omega
 |N+1,k,h,hk=>by
  have hle:=H8 isD (s.drop at_);have hld:=aU (i:=at_) (l:=s);rw[nY,vX];have hk':k<=((s.drop at_).takeWhile isD).length:=hk;have e0:bT .i64 (at_:Int) (k:Int)=(at_:Int)+k:=bM (by omega) (by omega);by_cases h1:at_+k<s.length
  ·obtain⟨hkd,hb⟩:=Tt hs h1;rw[hb,e0,bI (eX (by rw[bz];omega)),bI (dU (by omega) (by omega)),(xB _).2.1,aY];by_cases h2:k<oz (s.drop at_)
   ·rw[H7 isD _ k hkd h2];simp only[ax,cond_false];rw[bM (by omega) (by omega),show(k:Int)+1=((k+1:Nat):Int) by omega];exact arF hs ha a b c d N (k+1) (by omega) (by omega)
   ·obtain rfl:k=oz (s.drop at_):=by omega
    grind [zH,oz]
  ·obtain rfl:k=oz (s.drop at_):=by grind [oz]
   rw[e0,dB (gB (by rw[bz];omega))]
theorem L9 {s:List UInt8} (hs:s.length<4000000) {a:Nat} (ha:a<=s.length):xK s a=some (((oz (s.drop a):Nat):Int),()):=by
 rw[xK,dB (gB (by omega))];by_cases h0:a=s.length
 ·subst h0;rw[bI (vF (by rw[bz];omega)),List.drop_length];rfl
 rw[dB (DV (by rw[bz];omega)),show nY bC s a 0 s a s a=_ from arF hs ha s a s a bC 0 (dC (by omega)) (by omega),aY];rfl
theorem aiG {s:List UInt8} (hs:s.length<4000000) {a:Nat} (ha:a<=s.length):NR s a=some (((nl (s.drop a):Nat):Int),()):=by
 (rewrite [NR];delta Uk;rw[dB (gB (by omega))])
 by_cases h0:a=s.length
 ·subst h0;rw[bI (vF (by rw[bz];omega)),List.drop_length];rfl
 rw[dB (DV (by rw[bz];omega)),show kV bC s a 0 s a s a=_ from arG hs ha s a s a bC 0 (dC (by omega)) (by omega),aY];unfold dA;simp only;unfold nl;by_cases h1:EP (s.drop a)=0
 ·rw[if_pos h1,h1];rfl
 ·rw[if_neg h1,dB (dQ (by omega)),dB (gB (by omega)),dB (DV (by rw[bz];omega)),show lL bC s a 0 _ _ _ _=_ from arH hs ha _ _ _ _ bC 0 (dC (by omega)) (by omega)];rfl
theorem JV {s:List UInt8} (hs:s.length<4000000): ∀(N k:Nat),s.length-k<N->k<=runN s->
  Gv N s (k:Int)=some (if runN s=s.length then .inl ((),())else .inr ((false,()),()))
 |0,k,h,hk=>by omega
 |N+1,k,h,hk=>by
  have hle:=H8 Us s;have hk':k<=(s.takeWhile Us).length:=hk;rw[Gv,aeA];by_cases h1:k<s.length
  ·obtain⟨c,hc,h5,h6⟩:=(xB s[k]).2.2;have hin:fU s (k:Int)=true:=dU (by omega) (by omega);rw[bI (eX (by rw[bz];omega)),hin,byte_at h1,hc,aY,h5];by_cases h2:k<runN s
   ·have ih:=JV hs N (k+1) (by omega) (by omega);have hn:=H7 Us s k h1 h2;have ea:bT .i64 (k:Int) 1=((k+1:Nat):Int):=by grind [bM]
    rw[ea];cases hL:Z9 s[k]with
    |true=>exact ih
    |false=>
     simp_all [Us,aY]
   ·obtain rfl:k=runN s:=by omega
    have:=zH Us s h1;have h3:Us s[runN s]=false:=this;simp only[Us,Bool.or_eq_false_iff]at h3;rw[h3.1,if_neg (by omega)];simp_all [aY]
  ·obtain rfl:k=runN s:=by grind [runN]
   rw[dB (gB (by rw[bz];omega)),if_pos (by omega)]
theorem akE {s:List UInt8} (h0:s≠[]):EP s=0↔Z9 (s.headD 0)=false:=by
 match s,h0 with
 |c::v,_=>
  simp_all [EP,List.takeWhile_cons]
theorem yQ {s:List UInt8} (hs:s.length<4000000):XY s=some (decide (nl s≠0/\nl s=s.length),()):=by
 rw[XY];by_cases h0:s=[]
 ·subst h0;rfl
 have hp:0<s.length:=List.length_pos_iff.2 h0;obtain⟨_,_,c,hc1,hc2,hc3⟩:=xB s[0];have hb:bK s 0=(s[0].toNat:Int):=byte_at (i:=0) hp;have hh:s.headD 0=s[0]:=by
  match s,h0 with
  |c::v,_=>rfl
 rw[dB (dQ (by rw[bz];omega)),bI (dU (by omega) (by omega)),hb,hc1,aY];simp only;rw[hc2];unfold nl;cases hL:Z9 s[0]with
 |false=>
  simp_all [akE]
 |true=>
  have h1:EP s≠0:=fun h=>by simp_all [akE]
  have h2:=amm h1;simp only[ax,cond_false];rw[if_neg h1,show Gv bC s 1=_ from JV hs bC 1 (dC (by omega)) (by omega)];by_cases h3:runN s=s.length
  ·rw[if_pos h3,decide_eq_true ⟨h2,h3⟩];rfl
  ·rw[if_neg h3,decide_eq_false (fun h=>h3 h.2)];rfl
def prl (s:bH):Nat:=if nl s≠0 then nl s else match s with
 |c::_=>if isP c||isD c then 1 else 0
 |[]=>0
theorem amb (s:bH):prl s<=s.length:=by
 unfold prl
 grind [axf]
theorem CB {s:List UInt8} {a:Nat} (h:a<s.length):s.drop a=s[a]::s.drop (a+1):=aF h
theorem aod {s:List UInt8} (hs:s.length<4000000) {a:Nat} (ha:a<=s.length):Q4 s a=some (((prl (s.drop a):Nat):Int),()):=by
 rw[Q4,aiG hs ha,aY];unfold prl;by_cases e:nl (s.drop a)=0
 ·rw[dB (gB (by omega)),if_neg (by omega),dB (gB (by omega))];by_cases h:a<s.length
  ·rw[dB (DV (by rw[bz];omega)),bI (dU (by omega) (by omega)),byte_at h,L9 hs ha,aY];have hd:EF ((oz (s.drop a):Nat):Int) 1=if isD s[a]then 1 else 0:=by
    grind [oz,CB,List.takeWhile_cons,EF]
   have hp:=(avo s[a]).2;rw[hd,CB h]
   grind
  simp_all [vF,bz,aK]
 ·rw[bI (eX (by omega)),if_pos e]
end
section
open Bool renaming and_true → ay
open List renaming length_append → ai, length_cons → az
open Nat renaming le_refl → ae
open Go.RowKit
abbrev kF:=Int×Int×Int×Int×Bool×Unit
abbrev Ef:=Int×Int×Unit
def dP:kF:=(0,(0,(0,(0,(false,())))))
def dF:Ef:=(0,(0,()))
def counts (m:Int):Int:=if m=3 then 1 else if m=11 then 9 else m
theorem Xz (m:Int):Q5 m=some (counts m,()):=by
 unfold Q5 counts;simp only[iF];by_cases h1:m=3
 ·simp[h1]
 ·by_cases h2:m=11<;>simp[h1,h2]
theorem Dh {α:Type} {l:List α} {d x:α} {i:Nat} (h:i<l.length):bY (gp l i x) d i=x:=by
 simp_all [bY,gp]
theorem ZB {α:Type} {l:List α} {i:Nat} {x y:α}:gp (gp l i x) i y=gp l i y:=by
 simp_all [gp]
theorem adg {α:Type} {l:List α} {i:Nat} {x:α} {k:Int}:fU (gp l i x) k=fU l k:=by
 simp_all [fU,gp]
theorem adM {α:Type} {l:List α} {i k:Nat} {x:α}:nH k (gp l i x)=nH k l:=by
 simp_all [nH,gp]
theorem sU {α:Type} {l:List α} {i:Nat} {x:α}:(gp l i x).length=l.length:=by
 simp_all [gp]
theorem XG (n:Nat):eqN n n=true:=by simp[eqN]
def KL (L:List kF) (j:Nat) (a:Int):List kF:=gp L j ((bY L dP j).1,(bY L dP j).2.1,a,(bY L dP j).2.2.2.1,false,())
def Ru (L:List kF) (j:Nat) (m:Int):List kF:=gp L j (m,(bY L dP j).2)
theorem Dk (L:List kF) (j:Nat) (a:Int):(KL L j a).length=L.length:=sU
theorem Dc (L:List kF) (j:Nat) (m:Int):(Ru L j m).length=L.length:=sU
def mG (F:List Ef) (a:Int):Nat->List kF->List Int->List kF×List Int
 |0,L,H=>(L,H)
 |n+1,L,H=>
  if n+1<=F.length/\(F.getD n dF).2.1=(bY L dP (H.getD n 0).toNat).2.1 then(L,H)
  else mG F a n (KL L (H.getD n 0).toNat (a+1)) (H.take n)
def xY (F:List Ef) (H:List Int):Nat->Nat->List kF->List kF
 |0,_,L=>L
 |k+1,i,L=>xY F H k (i+1) (Ru L (H.getD i 0).toNat (counts (F.getD i dF).1))
theorem ZA (F:List Ef) {a:Int} (ha0:0<=a) (ha:a<1000000) (hF:F.length<1000000): ∀(N n:Nat) (L:List kF) (H:List Int),n<N->n=H.length->n<1000000->L.length<1000000->
  (∀j∈H,0<=j/\j<L.length)->
  GH N F a (n:Int) L H=some (.inl ((F,()),((),()),((),(mG F a n L H).1,(mG F a n L H).2,())))
 |0,n,L,H,h,_,_,_,_=>by omega
 |N+1,0,L,H,h,_,_,_,_=>by
  rfl
 |N+1,n+1,L,H,h,hn,hb,hL,hH=>by
  have hlt:n<H.length:=by omega
  have hs:eY .i64 ((n+1:Nat):Int) 1=(n:Int):=by grind [gI]
  have hmem:H.getD n 0∈H:=by simp_all
  obtain⟨hj0,hj1⟩:=hH _ hmem;have hnt:bY H 0 (bU (n:Int))=H.getD n 0:=rfl;have hgt:eu F (0,(0,())) (n:Int)=F.getD n dF:=rfl;have hin:fU L (H.getD n 0)=true:=dU hj0 hj1;have hl:nH (bU (H.getD n 0)) L=true:=qQ (by simp only[bU];omega);have hp:gW (bi H) 0 (n:Int)=true:=iP (by omega) (by omega) (by rw[bz];omega);have hsub:sub H 0 (n:Int)=H.take n:=by simp[sub]
  have hat:bT .i64 a 1=a+1:=bM (by omega) (by omega);have hnl:bU (H.getD n 0)<L.length:=by simp only[bU];omega
  have iM: ∀x,bY (gp L (bU (H.getD n 0)) x) (0,(0,(0,(0,(false,()))))) (bU (H.getD n 0))=x:=fun x=>Dh hnl;have go:=ZA F ha0 ha hF N n (KL L (H.getD n 0).toNat (a+1)) (H.take n) (by omega) (by grind) (by omega) (by rw[Dk];exact hL)
   (fun j hj=>by grind [Dk])
  (rewrite [GH,LW];delta Dp tN tK iK;rw[mG])
  simp only[hs,hnt,hgt,hin,hl,hp,hsub,hat,adg,adM,iM,ZB,cond_true];rw[bI (eX (by omega)),bI (dU (by omega) (by omega)),bI (qQ (by assumption))];by_cases e:n+1<=F.length
  ·rw[bI (vF (by rw[bz];omega)),bI (dU (by omega) (by omega))];by_cases e2:(F.getD n dF).2.1=(bY L dP (H.getD n 0).toNat).2.1
   ·rw[if_pos ⟨e,e2⟩];exact bI (fQ e2)
   ·rw[if_neg (fun h=>e2 h.2)];exact(dB (dQ e2)).trans go
  ·rw[dB (DV (by rw[bz];omega)),if_neg (fun h=>e h.1)];exact go
theorem Zz (F:List Ef) (H:List Int) (hF:F.length<1000000) (hHl:H.length<1000000): ∀(k i N:Nat) (L:List kF),i+k=H.length->H.length<=F.length->L.length<1000000->(∀j∈H,0<=j/\j<L.length)->
  qi (N+k) F (bi F) (i:Int) L H=qi N F (bi F) (H.length:Int) (xY F H k i L) H
 |0,i,N,L,h,_,_,_=>by simp_all [xY]
 |k+1,i,N,L,h,hle,hL,hH=>by
  have hi:i<H.length:=by omega
  have hmem:H.getD i 0∈H:=by simp_all
  obtain⟨hj0,hj1⟩:=hH _ hmem;have hnt:bY H 0 (bU (i:Int))=H.getD i 0:=rfl;have hgt:eu F (0,(0,())) (i:Int)=F.getD i dF:=rfl;have hin:fU L (H.getD i 0)=true:=dU hj0 hj1;have hl:nH (bU (H.getD i 0)) L=true:=qQ (by simp only[bU];omega);have go:=Zz F H hF hHl k (i+1) N (Ru L (H.getD i 0).toNat (counts (F.getD i dF).1)) (by omega) hle (by rw[Dc];exact hL) (fun j hj=>by grind [Dc])
  (rewrite [show N+(k+1)=(N+k)+1 by omega,qi,zF];delta kw ku jr;rw[xY,<-go])
  rw[bI (eX (by rw[bz];omega)),bI (dU (by omega) (by omega)),bI (eX (by rw[bz];omega)),bI (dU (by omega) (by omega)),bI (qQ (by assumption)),Xz,aY,hnt,hin,hl];simp only[adg,hin,cond_true,XG,ay,hgt];rw[bM (by omega) (by omega),show(i:Int)+1=((i+1:Nat):Int) by omega];rfl
theorem IQ (F:List Ef) (H:List Int): ∀(k i:Nat) (L:List kF),(xY F H k i L).length=L.length
 |0,_,_=>rfl
 |k+1,i,L=>by rw[xY,IQ F H k,Dc]
theorem Jm (F:List Ef) (a:Int): ∀(n:Nat) (L:List kF) (H:List Int),(mG F a n L H).1.length=L.length/\(mG F a n L H).2.length<=H.length/\(∀j∈(mG F a n L H).2,j∈H)
 |0,_,H=>⟨rfl,ae _,fun _ h=>h⟩
 |n+1,L,H=>by
  rw[mG];split
  ·simp
  ·have h:=Jm F a n (KL L (H.getD n 0).toNat (a+1)) (H.take n)
   grind [Dk]
def Wq (L:List kF) (H:List Int) (F:List Ef) (a:Int):List kF×List Int:=
 let r:=mG F a H.length L H
 let L2:=xY F r.2 r.2.length 0 r.1
 if F.length=r.2.length then(L2,r.2)
 else(L2++[(counts (F.getD r.2.length dF).1,((F.getD r.2.length dF).2.1,(0,((if r.2.length=0 then-1 else r.2.getD (r.2.length-1) 0),(true,())))))],r.2++[(L2.length:Int)])
theorem axq {L:List kF} {H:List Int} {F:List Ef} {t:Ef} {a:Int} (ha0:0<=a) (ha:a<1000000) (hF:F.length<1000000) (hL:L.length<1000000) (hHl:H.length<1000000) (hH: ∀j∈H,0<=j/\j<L.length)
  (h1:(mG F a H.length L H).2.length<=F.length) (h2:F.length<=(mG F a H.length L H).2.length+1):
  X3 L H (t::F) a=some (((Wq L H F a).1,((Wq L H F a).2,())),()):=by
 have hsl:=Jm F a H.length L H;have e1:sub (t::F) 1 (bi (t::F))=F:=by simp[sub,bi]
 have hsh:=ZA F ha0 ha hF bC H.length L H (dC (by omega)) rfl hHl hL hH;unfold X3;rw[bI (iP (by omega) (by rw[bz];simp;omega) (by rw[bz];omega)),e1,bz (l:=H),hsh,aY];simp only[dA];unfold Wq;generalize hr:mG F a H.length L H=r at*;have hH2: ∀j∈r.2,0<=j/\j<r.1.length:=fun j hj=>by simp_all
 have hm:=IQ F r.2 r.2.length 0 r.1;obtain⟨K,hK⟩: ∃K,bC=(K+2)+r.2.length:=⟨bC-2-r.2.length,by have:=dC (n:=r.2.length+2) (by omega);omega⟩;have hmo:=Zz F r.2 hF (by omega) r.2.length 0 (K+2) r.1 (by omega) h1 (by omega) hH2;rw[<-hK]at hmo;rw[show(0:Int)=((0:Nat):Int) from rfl,hmo];by_cases e:F.length=r.2.length
 ·(rewrite [qi,zF];delta kw ku jr;rw[dB (gB (by rw[bz];omega)),if_pos e,aY])
 ·rw[if_neg e];have hi:r.2.length<F.length:=by omega
  generalize hL2:xY F r.2 r.2.length 0 r.1=L2 at*;have hgt:eu F (0,(0,())) (r.2.length:Int)=F.getD r.2.length dF:=rfl;have hfit: ∀x:kF,dY (bF L2 [x]) 40=true:=fun x=>by simp only[dY,bF,ai,az,List.length_nil,decide_eq_true_eq,mF];omega
  have hfit2: ∀x:Int,dY (bF r.2 [x]) 8=true:=fun x=>by simp only[dY,bF,ai,az,List.length_nil,decide_eq_true_eq,mF];omega
  have hend: ∀L' H',(H'.length:Int)=r.2.length+1->qi (K+1) F (bi F) (bT .i64 (r.2.length:Int) 1) L' H'=some (.inl ((),((),()),((),L',H',()))):=fun L' H' h'=>by
   (rewrite [qi,zF];delta kw ku jr;rw[dB (gB (by grind [bz,bM]))])
  (rewrite [qi,zF];delta kw ku jr;rw[bI (eX (by rw[bz];omega)),bI (dU (by omega) (by omega)),dB (gB (by rw[bz];omega))])
  simp only[hgt,Xz,aY,dZ,hfit,hfit2,ay,cond_true,qK];by_cases e0:r.2.length=0
  ·rw[dB (gB (by omega)),if_pos e0,hend _ _ (by simp[bF]),aY];rfl
  ·have hs:eY .i64 (r.2.length:Int) 1=((r.2.length-1:Nat):Int):=by grind [gI]
   rw[bI (eX (by omega)),hs,bI (dU (by omega) (by omega)),bI (qQ (by simp only[bU];omega)),if_neg e0,hend _ _ (by simp[bF]),aY];rfl
end
section
open Go.RowKit
def NY (s:gq):List Ef:=(s.dropLast.map fun f=>(f.1,f.2,())).reverse
def Zk (s:gq):List Int:=(s.dropLast.map (·.2)).reverse
theorem V9 (s:gq):(NY s).map (·.2.1)=Zk s:=by
 simp only[NY,Zk,List.map_reverse,List.map_map];rfl
theorem auu {s:gq} (hg:iQ s): ∃t:Ef,lo s=t::NY s:=by
 have hne:s≠[]:=by rintro rfl;exact hg
 grind [List.dropLast_concat_getLast,lo,NY]
theorem Zl (f:tX) {r:gq} (h:r≠[]):Zk (f::r)=Zk r++[f.2]:=by
 cases r with
 |nil=>exact absurd rfl h
 |cons g r=>simp[Zk]
theorem aqF (pre:gq) (f:tX) (r:gq): ∃l,Zk (pre++f::r)=Zk (f::r)++l:=by
 induction pre with
 |nil=>simp
 |cons g pre ih=>
  obtain⟨l,h⟩:=ih;simp_all [Zl]
def Shape (s y:gq) (at_:Int):Prop:= ∃pre f r m',s=pre++f::r/\(y=(m',f.2)::r\/ ∃mm,y=(mm,at_)::(m',f.2)::r)
theorem vS {m:Int} {f:Int×Int} {r:gq} (hr:m=0\/r≠[]) (fr:Bool) (b at_:Int):Shape (f::r) (jA m (f::r) fr b at_).1 at_:=by
 have keep:Shape (f::r) (f::r) at_:=⟨[],f,r,f.1,rfl,.inl rfl⟩;have push: ∀k,Shape (f::r) ((k,at_)::f::r) at_:=fun k=>⟨[],f,r,f.1,rfl,.inr ⟨k,rfl⟩⟩;have chg: ∀k,Shape (f::r) ((k,f.2)::r) at_:=fun k=>⟨[],f,r,k,rfl,.inl rfl⟩;have tl:m≠0->Shape (f::r) r at_:=fun h=>by
  cases r with
  |nil=>simp_all
  |cons g r=>exact⟨[f],g,r,g.1,rfl,.inl rfl⟩
 unfold jA OY IB;rcases qG b with rfl|rfl|rfl|rfl|rfl|rfl|rfl|rfl|rfl|rfl|rfl|⟨h1,h2,h3,h4,h5,h6,h7,h8,h9,h10,h11⟩<;>cases fr<;>simp_all<;>
  (repeat' split)<;>first|assumption|exact push _|exact chg _|(exact tl (by omega))|(simp_all;done)|exact keep|skip
theorem ahG {pre s y:gq} {at_:Int} (h:Shape s y at_):Shape (pre++s) y at_:=by
 obtain⟨p,f,r,m',hs,hy⟩:=h;exact⟨pre++p,f,r,m',by simp_all,hy⟩
theorem O9 {a:Int} {f:Int×Int} {r y:gq} {at_:Int} (h:Shape ((a,f.2)::r) y at_):Shape (f::r) y at_:=by
 obtain⟨p,g,r',m',hs,hy⟩:=h;cases p with
 |nil=>
  obtain⟨h1,h2⟩:=List.cons.inj hs;subst h1 h2;exact⟨[],f,r,m',rfl,hy⟩
 |cons q p=>
  obtain⟨h1,h2⟩:=List.cons.inj hs;exact⟨f::p,g,r',m',by rw[h2];rfl,hy⟩
theorem abY {s:gq} (hg:iQ s) (fr:Bool) (b at_:Int):Shape s (gm s fr b at_).1 at_:=by
 cases s with
 |nil=>cases hg
 |cons f r=>
 have hs: ∀k,Shape (f::r) ((k,f.2)::r) at_:=fun k=>⟨[],f,r,k,rfl,.inl rfl⟩;have ht: ∀g r',r=g::r'->Shape (f::r) r at_:=fun g r' h=>by rw[h];exact⟨[f],g,r',g.1,rfl,.inl rfl⟩
 simp only[gm];split
 ·rename_i e
  have hr:r≠[]:=lV hg (by omega);cases r with
  |nil=>exact absurd rfl hr
  |cons g r=>
  split
  ·exact hs 3
  ·split
   ·split<;>exact hs _
   ·split
    ·exact ht g r rfl
    ·have hgr:=CQ hg hr;refine ahG (pre:=[f]) (vS ?_ fr b at_)
     grind [lV]
 ·split
  ·grind [lV,O9,vS]
  ·split
   ·rename_i e
    have hr:r≠[]:=lV hg (by omega);split
    ·cases r with
     |nil=>exact absurd rfl hr
     |cons g r=>exact ht g r rfl
    grind [O9,vS]
   grind [vS,lV]
theorem al9 {s:gq} (hg:iQ s) (fr:Bool) (b at_:Int): ∃c,c<=(Zk s).length/\(Zk (gm s fr b at_).1=(Zk s).take c\/Zk (gm s fr b at_).1=(Zk s).take c++[at_]):=by
 obtain⟨pre,f,r,m',hs,hy⟩:=abY hg fr b at_;obtain⟨l,hl⟩:=aqF pre f r;rw[<-hs]at hl;have hpf:Zk ((m',f.2)::r)=Zk (f::r):=by
  cases r with
  |nil=>rfl
  |cons g r=>rfl
 refine⟨(Zk (f::r)).length,by rw[hl];simp, ?_⟩;rw[hl,List.take_left']
 ·rcases hy with h|⟨mm,h⟩
  ·simp_all
  ·rw[h,Zl _ (by simp),hpf];exact .inr rfl
 ·rfl
end
section
open List renaming length_append → ai, length_map → aI
open Nat renaming le_refl → ae, lt_or_ge → aG
open Go.RowKit
theorem adS {α:Type} {l:List α} {d:α} {i:Nat} (h:l.length<=i):bY l d i=d:=by
 simp_all [bY]
theorem rW {α:Type} {l:List α} {d:α} {i:Nat} (h:i<l.length):bY l d i=l[i]:=by
 simp_all [bY]
theorem getD_take {α:Type} {l:List α} {d:α} {i n:Nat} (h:i<n):(l.take n).getD i d=l.getD i d:=by
 simp_all
theorem EI {α:Type} {l:List α} {d x:α} {i j:Nat} (h:i≠j):bY (gp l i x) d j=bY l d j:=by
 simp_all [bY,gp]
def Pi (a:Int) (p:kF):kF:=(p.1,p.2.1,a,p.2.2.2.1,false,())
theorem Dl (L:List kF) (j:Nat) (a:Int) (k:Nat) (hj:j<L.length):bY (KL L j a) dP k=if j=k then Pi a (bY L dP k)else bY L dP k:=by
 unfold KL;by_cases h:j=k
 ·subst h;rw[if_pos rfl,Dh hj];rfl
 ·rw[if_neg h,EI h]
theorem IR (L:List kF) (j:Nat) (m:Int) (k:Nat) (hj:j<L.length):bY (Ru L j m) dP k=if j=k then(m,(bY L dP k).2)else bY L dP k:=by
 unfold Ru;by_cases h:j=k
 ·subst h;rw[if_pos rfl,Dh hj]
 ·rw[if_neg h,EI h]
theorem Ph (F:List Ef) (a:Int) (H:List Int) (c:Nat) (hH: ∀n,n<H.length->0<=H.getD n 0): ∀(n:Nat) (L:List kF),c<=n->n<=H.length->
  (∀m,m<n->(H.getD m 0).toNat<L.length)->
  (∀m,m<c->m<F.length/\(F.getD m dF).2.1=(bY L dP (H.getD m 0).toNat).2.1)->
  (∀m,c<=m->m<n-> ¬(m+1<=F.length/\(F.getD m dF).2.1=(bY L dP (H.getD m 0).toNat).2.1))->
  (mG F a n L (H.take n)).2=H.take c/\
  (∀j,(∃m,c<=m/\m<n/\(H.getD m 0).toNat=j)->bY (mG F a n L (H.take n)).1 dP j=Pi (a+1) (bY L dP j))/\
  (∀j,(∀m,c<=m->m<n->(H.getD m 0).toNat≠j)->bY (mG F a n L (H.take n)).1 dP j=bY L dP j)
 |0,L,hc,hn,hl,h1,h2=>by
  have:c=0:=by omega
  subst this;exact⟨rfl,fun j ⟨m,_,h,_⟩=>by omega,fun j _=>rfl⟩
 |n+1,L,hc,hn,hl,h1,h2=>by
  rw[mG,getD_take (by omega)];by_cases e:c=n+1
  ·grind
  ·have hng:=h2 n (by omega) (by omega);have hjl:=hl n (by omega);have hfr: ∀k,(bY (KL L (H.getD n 0).toNat (a+1)) dP k).2.1=(bY L dP k).2.1:=fun k=>by
    rw[Dl _ _ _ _ hjl];split<;>rfl
   rw[if_neg hng,List.take_take,show min n (n+1)=n by omega];obtain⟨i1,i2,i3⟩:=Ph F a H c hH n (KL L (H.getD n 0).toNat (a+1)) (by omega) (by omega) (fun m hm=>by grind [Dk])
    (fun m hm=>by grind) (fun m hm hm2=>by grind)
   refine⟨i1,fun j hj=> ?_,fun j hj=> ?_⟩
   ·by_cases hq: ∃m,c<=m/\m<n/\(H.getD m 0).toNat=j
    ·rw[i2 j hq,Dl _ _ _ _ hjl];split<;>rfl
    ·obtain⟨m,hm1,hm2,hm3⟩:=hj;have:m=n:=by
      grind
     simp_all [Dl]
   ·rw[i3 j (fun k hk hk2=>hj k hk (by omega)),Dl _ _ _ _ hjl,if_neg (hj n (by omega) (by omega))]
theorem OA (F:List Ef) (H:List Int) (hinj: ∀m n,m<H.length->n<H.length->(H.getD m 0).toNat=(H.getD n 0).toNat->m=n): ∀(k i:Nat) (L:List kF),i+k<=H.length->
  (∀m,m<H.length->(H.getD m 0).toNat<L.length)->
  (∀m,i<=m->m<i+k->bY (xY F H k i L) dP (H.getD m 0).toNat=(counts (F.getD m dF).1,(bY L dP (H.getD m 0).toNat).2))/\
  (∀j,(∀m,i<=m->m<i+k->(H.getD m 0).toNat≠j)->bY (xY F H k i L) dP j=bY L dP j)
 |0,i,L,h,hl=>⟨fun m h1 h2=>by omega,fun j _=>rfl⟩
 |k+1,i,L,h,hl=>by
  have hil:=hl i (by omega);obtain⟨i1,i2⟩:=OA F H hinj k (i+1) (Ru L (H.getD i 0).toNat (counts (F.getD i dF).1)) (by omega) (fun m hm=>by grind [Dc]);rw[xY];refine⟨fun m h1 h2=> ?_,fun j hj=> ?_⟩
  ·by_cases e:m=i
   ·subst e;rw[i2 _ (fun k hk hk2 hk3=>by grind),IR _ _ _ _ hil,if_pos rfl]
   ·rw[i1 m (by omega) (by omega),IR _ _ _ _ hil,if_neg (fun he=>e (hinj i m (by omega) (by omega) he).symm)]
  ·rw[i2 j (fun m hm hm2=>hj m (by omega) (by omega)),IR _ _ _ _ hil,if_neg (hj i (by omega) (by omega))]
def JJ (F:List Ef) (v:Int):Option Int:=(F.find? fun f=>f.2.1==v).map (·.1)
theorem XN {F:List Ef} (hd: ∀m n,m<F.length->n<F.length->(F.getD m dF).2.1=(F.getD n dF).2.1->m=n) {m:Nat} (hm:m<F.length):JJ F (F.getD m dF).2.1=some (F.getD m dF).1:=by
 have hex: ∃f,F.find? (fun f=>f.2.1==(F.getD m dF).2.1)=some f:=by
  cases h:F.find? (fun f=>f.2.1==(F.getD m dF).2.1)with
  |some f=>exact⟨f,rfl⟩
  |none=>
   grind
 grind [List.getElem_of_mem,JJ]
theorem NM {F:List Ef} {v:Int} (h: ∀m,m<F.length->(F.getD m dF).2.1≠v):JJ F v=none:=by
 grind [JJ,List.getElem_of_mem]
def oC (F:List Ef) (a:Int) (p:kF):kF:=
 if p.2.2.2.2.1=true then(match JJ F p.2.1 with
  |some m=>(counts m,p.2)
  |none=>Pi (a+1) p)else p
def abu (F:List Ef) (a:Int):Bool:=match F.getLast? with
 |some f=>decide (f.2.1=a)
 |none=>false
def aoY (L:List Int) (v:Int):Int:=((L.findIdx fun p=>p==v:Nat):Int)
def EH (F:List Ef) (a:Int) (fr:List Int):kF:=(counts (F.getLastD dF).1,a,0,(if F.length=1 then-1 else aoY fr (F.getD (F.length-2) dF).2.1),true,())
def JQ (F:List Ef) (a:Int) (L:List kF):List kF:=L.map (oC F a)++if abu F a=true then [EH F a (L.map (·.2.1))]else []
structure Inv (L:List kF) (H:List Int) (F:List Ef) (k:Int):Prop where
 len:H.length=F.length
 nn: ∀n,n<H.length->0<=H.getD n 0/\(H.getD n 0).toNat<L.length
 frm: ∀n,n<H.length->(bY L dP (H.getD n 0).toNat).2.1=(F.getD n dF).2.1/\(bY L dP (H.getD n 0).toNat).2.2.2.2.1=true
 opn: ∀j,(bY L dP j).2.2.2.2.1=true-> ∃n,n<H.length/\(H.getD n 0).toNat=j
 lt: ∀j,j<L.length->(bY L dP j).2.1<k
 inj: ∀i j,i<L.length->j<L.length->(bY L dP i).2.1=(bY L dP j).2.1->i=j
 fd: ∀m n,m<F.length->n<F.length->(F.getD m dF).2.1=(F.getD n dF).2.1->m=n
theorem Inv.hd {L:List kF} {H:List Int} {F:List Ef} {k:Int} (h:Inv L H F k): ∀m n,m<H.length->n<H.length->(H.getD m 0).toNat=(H.getD n 0).toNat->m=n:=fun m n hm hn e=>by
 have h1:=(h.frm m hm).1;have h2:=(h.frm n hn).1;rw[e,h2]at h1;exact(h.fd n m (by rw[<-h.len];exact hn) (by rw[<-h.len];exact hm) h1).symm
theorem Iy {F:List Ef} {n:Nat} (h:n<F.length):(F.getD n dF).2.1=(F.map (·.2.1)).getD n 0:=by
 simp_all
theorem aoE {α:Type} {d:α} {l l':List α} (h:l.length=l'.length) (h2: ∀j,j<l.length->bY l d j=bY l' d j):l=l':=by
 grind [List.ext_getElem,rW]
theorem akH {L:List kF} (hinj: ∀i j,i<L.length->j<L.length->(bY L dP i).2.1=(bY L dP j).2.1->i=j) {j:Nat} (hj:j<L.length):aoY (L.map (·.2.1)) (bY L dP j).2.1=(j:Int):=by
 have hm: ∀i,i<L.length->(L.map (·.2.1))[i]? =some (bY L dP i).2.1:=fun i hi=>by
  simp_all [rW]
 unfold aoY
 grind
theorem amy {L:List kF} {H:List Int} {F F':List Ef} {k:Int} (h:Inv L H F k) {c:Nat} (hc:c<=F.length)
  (hF:F'.map (·.2.1)=(F.map (·.2.1)).take c\/F'.map (·.2.1)=(F.map (·.2.1)).take c++[k]):
  (mG F' k H.length L H).2.length<=F'.length/\F'.length<=(mG F' k H.length L H).2.length+1/\
  (Wq L H F' k).1=JQ F' k L/\Inv (Wq L H F' k).1 (Wq L H F' k).2 F' (k+1):=by
 have hlF':F'.length=c\/F'.length=c+1:=by
  have h1:F'.length=(F'.map (·.2.1)).length:=(aI ..).symm;rcases hF with e|e<;>rw[h1,e]<;>simp<;>omega
 have hcH:c<=H.length:=by rw[h.len];exact hc
 have hst: ∀m,m<c->m<F'.length/\(F'.getD m dF).2.1=(F.getD m dF).2.1:=fun m hm=>by
  refine⟨by omega, ?_⟩;rw[Iy (by omega),Iy (F:=F) (by omega)];rcases hF with e|e
  ·rw[e,getD_take hm]
  ·rw[e,List.getD_eq_getElem?_getD,List.getElem?_append_left (by simp;omega),<-List.getD_eq_getElem?_getD,getD_take hm]
 have hnew:c<F'.length->(F'.getD c dF).2.1=k:=fun hm=>by
  rcases hF with e|e
  ·have:F'.length=(F'.map (·.2.1)).length:=(aI ..).symm;rw[e]at this;simp at this;omega
  ·rw[Iy hm,e,List.getD_eq_getElem?_getD,List.getElem?_append_right (by simp;omega)];simp[Nat.min_eq_left hc]
 have hfk: ∀m,m<F.length->(F.getD m dF).2.1<k:=fun m hm=>by
  rw[<-(h.frm m (by rw[h.len];exact hm)).1];exact h.lt _ (h.nn m (by rw[h.len];exact hm)).2
 obtain⟨s1,s2,s3⟩:=Ph F' k H c (fun n hn=>(h.nn n hn).1) H.length L hcH (ae _) (fun m hm=>(h.nn m hm).2)
  (fun m hm=>⟨(hst m hm).1,(hst m hm).2.trans (h.frm m (by omega)).1.symm⟩)
  (fun m hm1 hm2 ⟨hl,he⟩=>by
   have hm:m=c:=by omega
   subst hm;rw[hnew (by omega),(h.frm m hm2).1]at he;have:=hfk m (by rw[<-h.len];exact hm2);omega)
 rw[List.take_length]at s1 s2 s3;have hsl:=(Jm F' k H.length L H).1;have htl:(H.take c).length=c:=by rw[List.length_take];omega
 have hgt: ∀m,m<c->(H.take c).getD m 0=H.getD m 0:=fun m hm=>getD_take hm;obtain⟨m1,m2⟩:=OA F' (H.take c) (fun m n hm hn e=>by
   rw[htl]at hm hn;rw[hgt m hm,hgt n hn]at e;exact h.hd m n (by omega) (by omega) e) c 0 (mG F' k H.length L H).1 (by omega) (fun m hm=>by
   rw[htl]at hm;rw[hgt m hm,hsl];exact(h.nn m (by omega)).2)
 have hml:=IQ F' (H.take c) c 0 (mG F' k H.length L H).1;have hpt: ∀j,j<L.length->bY (xY F' (H.take c) c 0 (mG F' k H.length L H).1) dP j=oC F' k (bY L dP j):=fun j hj=>by
  unfold oC;have hfd': ∀m n,m<F'.length->n<F'.length->(F'.getD m dF).2.1=(F'.getD n dF).2.1->m=n:=fun m n hm hn e=>by
   rcases aG m c with h1|h1<;>rcases aG n c with h2|h2
   ·rw[(hst m h1).2,(hst n h2).2]at e;exact h.fd m n (by omega) (by omega) e
   ·have:n=c:=by omega
    subst this;rw[(hst m h1).2,hnew hn]at e;have:=hfk m (by omega);omega
   ·have:m=c:=by omega
    subst this;rw[(hst n h2).2,hnew hm]at e;have:=hfk n (by omega);omega
   ·omega
  by_cases ho:(bY L dP j).2.2.2.2.1=true
  ·rw[if_pos ho];obtain⟨n,hn,hnj⟩:=h.opn j ho;have hfrj:=(h.frm n hn).1;rw[hnj]at hfrj;rcases aG n c with hnc|hnc
   ·have e:=m1 n (by omega) (by omega);rw[hgt n hnc,hnj]at e;rw[e,s3 j (fun m hm hm2 hm3=>by have:=h.hd m n hm2 hn (hm3.trans hnj.symm);omega),hfrj,<-(hst n hnc).2,XN hfd' (hst n hnc).1]
   ·rw[m2 j (fun m _ hm hm3=>by rw[hgt m (by omega)]at hm3;have:=h.hd m n (by omega) hn (hm3.trans hnj.symm);omega),s2 j ⟨n,hnc,hn,hnj⟩,NM];intro m hm e;rw[hfrj]at e;rcases aG m c with h1|h1
    ·rw[(hst m h1).2]at e;have:=h.fd m n (by omega) (by rw[<-h.len];exact hn) e;omega
    ·have:m=c:=by omega
     subst this;rw[hnew hm]at e;have:=hfk n (by rw[<-h.len];exact hn);omega
  ·rw[if_neg ho];have hno: ∀m,m<H.length->(H.getD m 0).toNat≠j:=fun m hm e=>ho (by rw[<-e];exact(h.frm m hm).2);rw[m2 j (fun m _ hm hm3=>hno m (by omega) (by rw[<-hgt m (by omega)];exact hm3)),s3 j (fun m _ hm=>hno m hm)]
 have hl2:xY F' (H.take c) c 0 (mG F' k H.length L H).1=L.map (oC F' k):=aoE (d:=dP) (by rw[hml,hsl,aI]) fun j hj=>by
  rw[hml,hsl]at hj;rw[hpt j hj,rW (l:=L.map _) (by rw[aI];exact hj),List.getElem_map,rW hj]
 have hupf: ∀p,(oC F' k p).2.1=p.2.1:=fun p=>by
  unfold oC;split
  ·split<;>rfl
  ·rfl
 have hsee:(Wq L H F' k)=if F'.length=c then(L.map (oC F' k),H.take c)else
   (L.map (oC F' k)++[(counts (F'.getD c dF).1,((F'.getD c dF).2.1,(0,((if c=0 then-1 else(H.take c).getD (c-1) 0),(true,())))))],H.take c++[(L.length:Int)]):=by
  unfold Wq;simp only[s1,htl,hl2,aI]
 have hupo: ∀p,(oC F' k p).2.2.2.2.1=true->p.2.2.2.2.1=true/\ ∃m,JJ F' p.2.1=some m:=fun p hp=>by
  unfold oC at hp;split at hp
  ·rename_i ho
   split at hp
   ·rename_i m hm;exact⟨ho,m,hm⟩
   ·cases hp
  ·rename_i ho;exact absurd hp ho
 have hfd': ∀m n,m<F'.length->n<F'.length->(F'.getD m dF).2.1=(F'.getD n dF).2.1->m=n:=fun m n hm hn e=>by
  rcases aG m c with h1|h1<;>rcases aG n c with h2|h2
  ·rw[(hst m h1).2,(hst n h2).2]at e;exact h.fd m n (by omega) (by omega) e
  ·have:n=c:=by omega
   subst this;rw[(hst m h1).2,hnew hn]at e;have:=hfk m (by omega);omega
  ·have:m=c:=by omega
   subst this;rw[(hst n h2).2,hnew hm]at e;have:=hfk n (by omega);omega
  ·omega
 have hmapn: ∀j,j<L.length->bY (L.map (oC F' k)) dP j=oC F' k (bY L dP j):=fun j hj=>by
  rw[rW (l:=L.map _) (by rw[aI];exact hj),List.getElem_map,rW hj]
 have hgrow:JQ F' k L=L.map (oC F' k)++if abu F' k=true then [EH F' k (L.map (·.2.1))]else []:=rfl
 have hkeep: ∀n,n<c->(oC F' k (bY L dP (H.getD n 0).toNat)).2.1=(F'.getD n dF).2.1/\(oC F' k (bY L dP (H.getD n 0).toNat)).2.2.2.2.1=true:=fun n hn=>by
  have hfr:=h.frm n (by omega);refine⟨by rw[hupf,hfr.1,(hst n hn).2], ?_⟩;unfold oC;rw[if_pos hfr.2,hfr.1,<-(hst n hn).2,XN hfd' (hst n hn).1];exact hfr.2
 have hopn: ∀j,j<L.length->(oC F' k (bY L dP j)).2.2.2.2.1=true-> ∃n,n<c/\(H.getD n 0).toNat=j:=fun j hj ho=>by
  obtain⟨h1,m,hm⟩:=hupo _ ho;obtain⟨n,hn,hnj⟩:=h.opn j h1;have hfr:=(h.frm n hn).1;rw[hnj]at hfr;rcases aG n c with hnc|hnc
  ·exact⟨n,hnc,hnj⟩
  ·rw[hfr,NM]at hm
   ·cases hm
   ·intro m hm2 e;rcases aG m c with h1|h1
    ·rw[(hst m h1).2]at e;have:=h.fd m n (by omega) (by rw[<-h.len];exact hn) e;omega
    ·have:m=c:=by omega
     subst this;rw[hnew hm2]at e;have:=hfk n (by rw[<-h.len];exact hn);omega
 have hdP: ∀{l:List kF} {j:Nat},(bY l dP j).2.2.2.2.1=true->j<l.length:=fun {l j} hj=>by
  rcases aG j l.length with h1|h1
  ·exact h1
  ·rw[adS h1]at hj;cases hj
 refine⟨by rw[s1,htl];omega,by rw[s1,htl];omega, ?_⟩;by_cases e:F'.length=c
 ·have hnf:abu F' k=false:=by
   unfold abu;cases hl:F'.getLast? with
   |none=>rfl
   |some f=>
    have hne:F'≠[]:=by rintro rfl;cases hl
    have hp:0<F'.length:=List.length_pos_iff.2 hne;have:F'.getD (c-1) dF=f:=by
     rw[List.getLast?_eq_getElem?,e]at hl;rw[List.getD_eq_getElem?_getD,hl];rfl
    have h2:=(hst (c-1) (by omega)).2;rw[this]at h2;have:=hfk (c-1) (by omega);exact decide_eq_false (by omega)
  rw[hsee,if_pos e,hgrow,hnf];refine⟨by simp, ?_⟩;exact {
   len:=by rw[htl,e]
   nn:=fun n hn=>by rw[htl]at hn;rw[hgt n hn,aI];exact h.nn n (by omega)
   frm:=fun n hn=>by
    rw[htl]at hn;rw[hgt n hn,hmapn _ (h.nn n (by omega)).2];exact hkeep n hn
   opn:=fun j hj=>by
    have hl:=hdP hj;rw[aI]at hl;rw[hmapn j hl]at hj;obtain⟨n,hn,he⟩:=hopn j hl hj;exact⟨n,by rw[htl];exact hn,by rw[hgt n hn];exact he⟩
   lt:=fun j hj=>by
    rw[aI]at hj;rw[hmapn j hj,hupf];have:=h.lt j hj;omega
   inj:=fun i j hi hj he=>by
    rw[aI]at hi hj;rw[hmapn i hi,hmapn j hj,hupf,hupf]at he;exact h.inj i j hi hj he
   fd:=hfd'}
 ·have hc1:F'.length=c+1:=by omega
  have hgl:F'.getLast?=some (F'.getD c dF):=by
   rw[List.getLast?_eq_getElem?,hc1,List.getD_eq_getElem?_getD,show c+1-1=c by omega,List.getElem?_eq_getElem (by omega)];rfl
  have hgD:F'.getLastD dF=F'.getD c dF:=by rw[List.getLastD_eq_getLast?,hgl];rfl
  have hnk:=hnew (by omega);have hnf:abu F' k=true:=by unfold abu;rw[hgl];exact decide_eq_true hnk
  have hup:(if c=0 then-1 else(H.take c).getD (c-1) 0)=(if F'.length=1 then-1 else aoY (L.map (·.2.1)) (F'.getD (F'.length-2) dF).2.1):=by
   by_cases c0:c=0
   ·rw[if_pos c0,if_pos (by omega)]
   ·have hn:=h.nn (c-1) (by omega);rw[if_neg c0,if_neg (by omega),hgt _ (by omega),show F'.length-2=c-1 by omega,(hst (c-1) (by omega)).2,<-(h.frm (c-1) (by omega)).1,akH h.inj hn.2];omega
  have hnp:(counts (F'.getD c dF).1,((F'.getD c dF).2.1,((0:Int),((if c=0 then-1 else(H.take c).getD (c-1) 0),(true,())))))=EH F' k (L.map (·.2.1)):=by
   unfold EH;rw[hup,hgD,hnk]
  rw[hsee,if_neg e,hgrow,hnf,hnp];refine⟨by simp, ?_⟩;have hll:(L.map (oC F' k)++[EH F' k (L.map (·.2.1))]).length=L.length+1:=by simp
  have hn1: ∀j,j<L.length->bY (L.map (oC F' k)++[EH F' k (L.map (·.2.1))]) dP j=oC F' k (bY L dP j):=fun j hj=>by
   rw[<-hmapn j hj];unfold bY;rw[List.getD_eq_getElem?_getD,List.getD_eq_getElem?_getD,List.getElem?_append_left (by rw[aI];exact hj)]
  have hn2:bY (L.map (oC F' k)++[EH F' k (L.map (·.2.1))]) dP L.length=EH F' k (L.map (·.2.1)):=by
   unfold bY;rw[List.getD_eq_getElem?_getD,List.getElem?_append_right (by simp)];simp
  have hh1: ∀n,n<c->(H.take c++[(L.length:Int)]).getD n 0=H.getD n 0:=fun n hn=>by
   rw[<-hgt n hn,List.getD_eq_getElem?_getD,List.getD_eq_getElem?_getD,List.getElem?_append_left (by rw[htl];exact hn)]
  have hh2:(H.take c++[(L.length:Int)]).getD c 0=L.length:=by
   rw[List.getD_eq_getElem?_getD,List.getElem?_append_right (by rw[htl];omega)];simp[htl]
  have hhl:(H.take c++[(L.length:Int)]).length=c+1:=by rw[ai,htl];rfl
  have hcase: ∀n,n<c+1->n<c\/n=c:=fun n hn=>by omega
  have hnpf:(EH F' k (L.map (·.2.1))).2.1=k:=rfl;exact {
   len:=by rw[hhl,hc1]
   nn:=fun n hn=>by
    rw[hhl]at hn;rw[hll];rcases hcase n hn with h1|rfl
    ·rw[hh1 n h1];have:=h.nn n (by omega);omega
    ·rw[hh2];omega
   frm:=fun n hn=>by
    rw[hhl]at hn;rcases hcase n hn with h1|rfl
    ·rw[hh1 n h1,hn1 _ (h.nn n (by omega)).2];exact hkeep n h1
    ·rw[hh2,Int.toNat_natCast,hn2];exact⟨hnk.symm,rfl⟩
   opn:=fun j hj=>by
    have hl:=hdP hj;rw[hll]at hl;rcases aG j L.length with h1|h1
    ·rw[hn1 j h1]at hj;obtain⟨n,hn,he⟩:=hopn j h1 hj;exact⟨n,by rw[hhl];omega,by rw[hh1 n hn];exact he⟩
    ·exact⟨c,by rw[hhl];omega,by rw[hh2];omega⟩
   lt:=fun j hj=>by
    rw[hll]at hj;rcases aG j L.length with h1|h1
    ·rw[hn1 j h1,hupf];have:=h.lt j h1;omega
    ·rw[show j=L.length by omega,hn2,hnpf];omega
   inj:=fun i j hi hj he=>by
    rw[hll]at hi hj;rcases aG i L.length with h1|h1<;>rcases aG j L.length with h2|h2
    ·rw[hn1 i h1,hn1 j h2,hupf,hupf]at he;exact h.inj i j h1 h2 he
    ·rw[hn1 i h1,hupf,show j=L.length by omega,hn2,hnpf]at he;have:=h.lt i h1;omega
    ·rw[hn1 j h2,hupf,show i=L.length by omega,hn2,hnpf]at he;have:=h.lt j h2;omega
    ·omega
   fd:=hfd'}
end
section
open Bool renaming and_true → ay
open List renaming drop_eq_getElem_cons → aF, length_map → aI, eq_nil_of_length_eq_zero → aW
open Go.RowKit
def pM:bH->Int->gq×Bool->List kF->List kF
 |[],_,_,L=>L
 |b::l,a,x,L=>pM l (a+1) (gm x.1 x.2 (jC b) a) (JQ (NY (gm x.1 x.2 (jC b) a).1) a L)
def FV (s:bH) (p:kF):kF:=if p.1=12 then(p.1,p.2.1,p.2.1+1+((prl (s.drop (p.2.1+1).toNat):Nat):Int),p.2.2.2.1,false,())else if p.2.2.2.2.1=true then(p.1,p.2.1,(s.length:Int),p.2.2.2.1,true,())else p
def dn (s:bH):List kF:=(pM s 0 fK []).map (FV s)
theorem agW (F:List Ef) (a:Int) (L:List kF):(JQ F a L).length<=L.length+1:=by
 grind [JQ]
theorem ade (s:gq):(NY s).length<=s.length:=by simp[NY]
theorem aoq {l:List Ef} (h:l.length<1000000):lS l=some (l,()):=by
 grind [lS,pq,dY,mF]
theorem an5 (s:bH) (hs:s.length<=100000): ∀(N:Nat) (i:Int) (x:gq×Bool) (L:List kF) (H:List Int),(s.length:Int)-i<N->0<=i->i<=s.length->iQ x.1->(x.1.length:Int)<=i+1->Inv L H (NY x.1) i->(L.length:Int)<=i->
  ∃H' F',GG N s (bi s) i x.2 i (lo x.1) H L=some (.inl ((s,()),(H',pM (s.drop i.toNat) i x L,(),())))/\Inv (pM (s.drop i.toNat) i x L) H' F' s.length/\(pM (s.drop i.toNat) i x L).length<=s.length
 |0,i,x,L,H,h,_,_,_,_,_,_=>by omega
 |N+1,i,x,L,H,h,h0,hi,hg,hl,hinv,hLl=>by
  rw[GG,LU];by_cases e:i<s.length
  ·obtain⟨b,hd,hb⟩:=drop_at h0 e;have hst:=good_step hg x.2 (bK s i) i;have hlen:(lo (gm x.1 x.2 (bK s i) i).1).length≠0:=by
    rw[mO];intro e;rw[aW e]at hst;exact hst.1
   obtain⟨c,hc,hpl⟩:=al9 hg x.2 (bK s i) i;rw[<-V9,<-V9]at hpl;rw[<-V9,aI]at hc;obtain⟨q1,q2,q3,q4⟩:=amy hinv hc hpl;obtain⟨t,ht⟩:=auu hst.1;have hfl:=ade (gm x.1 x.2 (bK s i) i).1;have hfl0:=ade x.1;have hHn:=hinv.len;have hsee:=axq (t:=t) (L:=L) (H:=H) (F:=NY (gm x.1 x.2 (bK s i) i).1) (a:=i) h0 (by omega) (by have:=hst.2;omega) (by omega) (by omega)
    (fun j hj=>by
     obtain⟨n,hn,he⟩:=List.getElem_of_mem hj;have:=hinv.nn n hn
     grind) q1 q2
   have hgl:=agW (NY (gm x.1 x.2 (bK s i) i).1) i L;obtain⟨H',F',r1,r2,r3⟩:=an5 s hs N (i+1) (gm x.1 x.2 (bK s i) i) (JQ (NY (gm x.1 x.2 (bK s i) i).1) i L) (Wq L H (NY (gm x.1 x.2 (bK s i) i).1) i).2 (by omega) (by omega) (by omega) hst.1 (by have:=hst.2;omega) (by simp_all) (by omega);rw[bI (eX (b:=bi s) e),bI (dU h0 e),aaL hg (by omega) x.2 (pJ s i) h0 (by omega),aY];simp only[pst];rw[dB (dQ (by rw[bz];omega)),aoq (by grind),aY]
   grind [aY,bM,pM]
  ·have hi':i=s.length:=by omega
   rw[dB (mr (b:=bi s) (by rw[bz];omega)),XD (by omega),pM]
   grind
theorem arh (s:bH) (hs:s.length<=100000) (H:List Int): ∀(N i:Nat) (L:List kF),L.length-i<N->i<=L.length->L.length<1000000->(∀j,j<L.length->0<=(bY L dP j).2.1/\(bY L dP j).2.1<s.length)->
  xR N s (bi L) (i:Int) H L=some (.inl ((),(H,L.take i++(L.drop i).map (FV s),(),())))
 |0,i,L,h,_,_,_=>by omega
 |N+1,i,L,h,hi,hl,hf=>by
  (rewrite [xR,Ht];delta dM iJ dI)
  by_cases e:i<L.length
  ·have hlt:nH (bU (i:Int)) L=true:=qQ (by assumption);have hin:fU L (i:Int)=true:=dU (by omega) (by omega);have hni:bU (i:Int)=i:=by simp[bU]
   have iM: ∀x,bY (gp L i x) (0,(0,(0,(0,(false,()))))) i=x:=fun x=>Dh e;have hlt2:nH i L=true:=by assumption
   have hfi:=hf i e;have hpar:Q4 s (bT .i64 (bY L (0,(0,(0,(0,(false,()))))) i).2.1 1)=some (((prl (s.drop ((bY L dP i).2.1+1).toNat):Nat):Int),()):=by
    grind [bM,dP,aod]
   have hadd:bT .i64 (bT .i64 (bY L (0,(0,(0,(0,(false,()))))) i).2.1 1) ((prl (s.drop ((bY L dP i).2.1+1).toNat):Nat):Int)=(bY L dP i).2.1+1+((prl (s.drop ((bY L dP i).2.1+1).toNat):Nat):Int):=by
    grind [amb,dP,bM]
   have hai:bT .i64 (i:Int) 1=((i+1:Nat):Int):=by grind [bM]
   have go: ∀x,x=FV s (bY L dP i)->xR N s (bi L) ((i+1:Nat):Int) H (gp L i x)=some (.inl ((),(H,L.take i++(L.drop i).map (FV s),(),()))):=fun x hx=>by
    have hfr:(FV s (bY L dP i)).2.1=(bY L dP i).2.1:=by
     grind [FV]
    have ih:=arh s hs H N (i+1) (gp L i x) (by rw[sU];omega) (by rw[sU];omega) (by rw[sU];exact hl) (fun j hj=>by
     grind [gp,Dh,EI])
    have e1:bi (gp L i x)=bi L:=by rw[bz,bz,sU]
    rw[e1]at ih;rw[ih];congr 4;have h1:(gp L i x).take (i+1)=L.take i++[x]:=by
     simp_all [gp,List.take_add_one,List.take_set_of_le]
    grind [gp,List.drop_set_of_lt,aF,rW]
   rw[bI (eX (by rw[bz];omega))];simp only[hni,hin,hlt2,adM,iM,ZB,cond_true,XG,ay,hai];by_cases ho:(bY L dP i).2.2.2.2.1=true
   ·have ho':(bY L (0,(0,(0,(0,(false,()))))) i).2.2.2.2.1=true:=ho;rw[ho',cond_true];by_cases hm:(bY L dP i).1=12
    ·have hm':(bY L (0,(0,(0,(0,(false,()))))) i).1=12:=hm;rw[hm',bI (fQ rfl),hpar,aY];simp only[hadd];refine go _ ?_;unfold FV;rw[if_pos hm,hm];rfl
    ·have hm': ¬(bY L (0,(0,(0,(0,(false,()))))) i).1=12:=hm;rw[dB (dQ hm')];refine go _ ?_;unfold FV;rw[if_neg hm,if_pos ho];rfl
   ·have ho':(bY L (0,(0,(0,(0,(false,()))))) i).2.2.2.2.1=false:=Bool.eq_false_iff.2 ho;rw[ho',cond_false];by_cases hm:(bY L dP i).1=12
    ·have hm':(bY L (0,(0,(0,(0,(false,()))))) i).1=12:=hm;rw[hm',bI (fQ rfl),hpar,aY];simp only[hadd];refine go _ ?_;unfold FV;rw[if_pos hm,hm];rfl
    ·have hm': ¬(bY L (0,(0,(0,(0,(false,()))))) i).1=12:=hm;rw[dB (dQ hm')];simp_all [gp,rW,FV]
  ·have hi':i=L.length:=by omega
   simp_all [gB,bz]
theorem agX:Inv [] [] (NY fK.1) 0:={
 len:=rfl
 nn:=fun n hn=>by cases hn
 frm:=fun n hn=>by cases hn
 opn:=fun j hj=>by rw[adS (by simp)]at hj;cases hj
 lt:=fun j hj=>by cases hj
 inj:=fun i j hi=>by cases hi
 fd:=fun m n hm=>by cases hm}
theorem RJ: ∀(l:bH) (a:Int) (x:gq×Bool) (L:List kF),0<=a->(∀p∈L,0<=p.2.1)-> ∀p∈pM l a x L,0<=p.2.1
 |[],a,x,L,ha,h,p,hp=>h p hp
 |b::l,a,x,L,ha,h,p,hp=>by
  rw[pM]at hp;refine RJ l (a+1) _ _ (by omega) (fun p hp=> ?_) p hp;unfold JQ at hp;rcases List.mem_append.1 hp with h1|h1
  ·obtain⟨q,hq,rfl⟩:=List.mem_map.1 h1;have:(oC (NY (gm x.1 x.2 (jC b) a).1) a q).2.1=q.2.1:=by
    unfold oC;split
    ·split<;>rfl
    ·rfl
   grind
  ·split at h1
   ·rw[List.mem_singleton.1 h1];exact ha
   ·cases h1
theorem aye (s:bH) (hs:s.length<=100000):ac1 s=some (dn s,()):=by
 obtain⟨H',F',h1,h2,h3⟩:=an5 s hs bC 0 fK [] [] (by have:=acl (n:=s.length) (by omega);omega) (by omega) (by omega) nO (by simp[fK]) agX (by simp);unfold ac1;rw[show([(0,(0,()))]:List mg)=lo fK.1 from rfl,show(true:Bool)=fK.2 from rfl,h1,aY];simp only[dA,Int.toNat_zero,List.drop_zero]at h2 h3 ⊢;have hnn:=RJ s 0 fK [] (by omega) (fun p hp=>by cases hp);have h4:=arh s hs H' bC 0 (pM s 0 fK []) (acl (by omega)) (by omega) (by omega) (fun j hj=>by
  refine⟨?_,h2.lt j hj⟩
  grind [rW])
 grind [aY,dn]
end
section
open List renaming append_assoc → ah, map_cons → ak, nil_append → aQ
open Go.RowKit
def NE:bH->Int->gq×Bool->kF->kF
 |[],_,_,p=>p
 |b::l,a,x,p=>NE l (a+1) (gm x.1 x.2 (jC b) a) (oC (NY (gm x.1 x.2 (jC b) a).1) a p)
def xy:bH->Int->gq×Bool->List Int->List kF
 |[],_,_,_=>[]
 |b::l,a,x,fr=>
  if abu (NY (gm x.1 x.2 (jC b) a).1) a=true then NE l (a+1) (gm x.1 x.2 (jC b) a) (EH (NY (gm x.1 x.2 (jC b) a).1) a fr)::xy l (a+1) (gm x.1 x.2 (jC b) a) (fr++[a])
  else xy l (a+1) (gm x.1 x.2 (jC b) a) fr
theorem Td (F:List Ef) (a:Int) (p:kF):(oC F a p).2.1=p.2.1:=by
 unfold oC;split
 ·split<;>rfl
 ·rfl
theorem Ip: ∀(l:bH) (a:Int) (x:gq×Bool) (p:kF),(NE l a x p).2.1=p.2.1
 |[],_,_,_=>rfl
 |b::l,a,x,p=>by rw[NE,Ip l,Td]
theorem agM (s:bH) (p:kF):(FV s p).2.1=p.2.1:=by
 grind [FV]
theorem OU: ∀(l:bH) (a:Int) (x:gq×Bool) (L:List kF),pM l a x L=L.map (NE l a x)++xy l a x (L.map (·.2.1))
 |[],a,x,L=>by
  have:(NE [] a x)=id:=rfl;rw[pM,xy,this];simp
 |b::l,a,x,L=>by
  rw[pM,OU l,xy];have hm:L.map (NE (b::l) a x)=(L.map (oC (NY (gm x.1 x.2 (jC b) a).1) a)).map (NE l (a+1) (gm x.1 x.2 (jC b) a)):=by
   rw[List.map_map];rfl
  have hf:(L.map (oC (NY (gm x.1 x.2 (jC b) a).1) a)).map (·.2.1)=L.map (·.2.1):=by
   simp_all [Td]
  unfold JQ;rw[hm];split
  ·rw[List.map_append,List.map_append,hf];simp only[ak,List.map_nil,ah,List.cons_append,aQ];rfl
  grind
theorem BB (s:bH):dn s=(xy s 0 fK []).map (FV s):=by
 unfold dn;rw[OU];rfl
structure PL (x:gq) (i:Int):Prop where
 up:(Zk x).Pairwise (· < ·)
 lt: ∀v∈Zk x,v<i
theorem N8: ∀{s:gq},iQ s-> ∀f∈s,0<=f.1/\f.1<=14
 |[],h=>by cases h
 |[f],h=>by
  intro g hg;rw[List.mem_singleton.1 hg];have:f.1=0:=h;omega
 |f::g::r,h=>by
  intro q hq;rcases List.mem_cons.1 hq with rfl|h1
  ·have:=h.1;have:=h.2.1;omega
  ·exact N8 h.2.2.2 q h1
end
section
open Go.RowKit
end
section
open List renaming mem_cons_of_mem → au, length_drop → aU
open Nat renaming le_refl → ae
open Go.RowKit
theorem abq {g f:Int×Int} {r:gq} (hg:iQ (f::g::r)):g.1≠13:=by
 have:=hg.2.2.1
 grind [UL]
theorem CE {m:Int} {f:Int×Int} {r:gq} (hf:f.1=m\/m≠13/\f.1≠13) (hr: ∀g r',r=g::r'->g.1≠13) (hr0:r=[]->m≠13) (fr:Bool) (b i:Int):
  ∀g r',(jA m (f::r) fr b i).1=g::r'->g.1=13->g.2=i:=by
 intro g r' h h13;have hh: ∀{x:Int×Int} {y:gq},x::y=g::r'->x=g:=fun h=>(List.cons.inj h).1;have keep:m≠13->f::r=g::r'->False:=fun hm h=>by
  simp_all
 have tl:r=g::r'->False:=fun h=>hr g r' h h13;have psh: ∀k,(k,i)::f::r=g::r'->g.2=i:=fun k h=>by rw[<-hh h]
 unfold jA at h;split at h
 ·rename_i hm
  have hm13:m≠13:=by omega
  unfold OY at h
  grind
 ·split at h
  ·exact(tl h).elim
  grind [IB]
theorem ajY {s:gq} (hg:iQ s) (fr:Bool) (b i:Int): ∀g∈(gm s fr b i).1,g.1=13->g.2=i:=by
 have key: ∀g r',(gm s fr b i).1=g::r'->g.1=13->g.2=i:=by
  cases s with
  |nil=>cases hg
  |cons f r=>
  intro g r' h h13;have hh: ∀{x:Int×Int} {y:gq},x::y=g::r'->x=g:=fun h=>(List.cons.inj h).1;have hr: ∀g r',r=g::r'->g.1≠13:=fun g r' e=>by subst e;exact abq hg
  have hr2: ∀g g' r',r=g::g'::r'->g'.1≠13:=fun g g' r' e=>by subst e;exact abq hg.2.2.2
  have ch: ∀k:Int,k≠13->(k,f.2)::r=g::r'->False:=fun k hk h=>by
   grind
  simp only[gm]at h;split at h
  ·split at h
   ·simp_all
   ·split at h
    ·grind
    ·split at h
     ·grind
     ·cases r with
      |nil=>rename_i e12 _ _ _;have:f.1=0:=hg;omega
      |cons q r=>
       exact CE (.inl rfl) (fun g r' e=>hr2 q g r' (by rw[e])) (fun _=>by simp_all) fr b i g r' h h13
  ·split at h
   ·split at h
    ·simp_all
    ·exact CE (f:=(1,f.2)) (.inl rfl) hr (fun _=>by omega) fr b i g r' h h13
   ·split at h
    ·split at h
     ·grind
     ·exact CE (f:=(9,f.2)) (.inl rfl) hr (fun _=>by omega) fr b i g r' h h13
    ·refine CE (.inl rfl) hr (fun e=> ?_) fr b i g r' h h13;subst e;have:f.1=0:=hg;omega
 have hgs:=(good_step hg fr b i).1;revert key hgs;generalize (gm s fr b i).1=y;intro key hgs g hm h13;cases y with
 |nil=>cases hm
 |cons f r=>
  rcases List.mem_cons.1 hm with e|hm
  ·simp_all
  ·exfalso;clear key
   induction r generalizing f with
   |nil=>cases hm
   |cons q r ih=>
    rcases List.mem_cons.1 hm with e|hm2
    ·grind [abq]
    ·exact ih q hgs.2.2.2 (au _ hm2) hm2
def PI (p:kF) (a:Int):Prop:=0<=p.2.1/\p.2.1<a/\(p.2.2.2.2.1=true/\(p.1=13->p.2.1+1=a)\/p.2.2.2.2.1=false/\p.2.1+2<=p.2.2.1/\p.2.2.1<=a/\(p.1=13->p.2.2.1=p.2.1+2))
theorem ae8 {m:Int} (h:counts m=13):m=13:=by
 grind [counts]
theorem aoS {s:gq} {f:Ef} (h:f∈NY s):(f.1,f.2.1)∈s:=by
 unfold NY at h;rw[List.mem_reverse,List.mem_map]at h;obtain⟨g,hg,rfl⟩:=h
 grind [List.dropLast_sublist]
theorem agN {F:List Ef} {v m:Int} (h:JJ F v=some m): ∃f∈F,f.2.1=v/\f.1=m:=by
 unfold JJ at h;obtain⟨f,hf,rfl⟩:=Option.map_eq_some_iff.1 h
 grind
theorem avC {s:gq} (hg:iQ s) (fr:Bool) (b a:Int) {p:kF} (h:PI p a):PI (oC (NY (gm s fr b a).1) a p) (a+1):=by
 obtain⟨h0,h1,h2⟩:=h;unfold oC;rcases h2 with ⟨ho,h3⟩|⟨ho,h3,h4,h5⟩
 ·rw[if_pos ho];split
  ·rename_i m hm
   refine⟨h0,by simp only;omega,.inl ⟨ho,fun h=> ?_⟩⟩;have hm13:m=13:=ae8 h;obtain⟨f,hf,hv,e⟩:=agN hm;have:=ajY hg fr b a _ (aoS hf) (by simp only;omega);omega
  ·refine⟨h0,by simp only[Pi];omega,.inr ⟨rfl,by simp only[Pi];omega,by simp[Pi],fun h=> ?_⟩⟩
   grind [Pi]
 ·rw[if_neg (by rw[ho];simp)];exact⟨h0,by omega,.inr ⟨ho,h3,by omega,h5⟩⟩
theorem avA {s:gq} (hg:iQ s) (fr:Bool) (b:Int) {a:Int} (h0:0<=a) (l:List Int):PI (EH (NY (gm s fr b a).1) a l) (a+1):=
 ⟨h0,by simp only[EH];omega,.inl ⟨rfl,fun h=>by simp only[EH]⟩⟩
theorem ad4: ∀(l:bH) (a:Int) (x:gq×Bool) (p:kF),iQ x.1->PI p a->PI (NE l a x p) (a+l.length)
 |[],a,x,p,_,h=>by simpa [NE] using h
 |b::l,a,x,p,hg,h=>by
  rw[NE];have:=ad4 l (a+1) (gm x.1 x.2 (jC b) a) _ (good_step hg _ _ _).1 (avC hg x.2 (jC b) a h)
  grind
theorem V8: ∀(l:bH) (a:Int) (x:gq×Bool) (fr:List Int),0<=a->iQ x.1-> ∀p∈xy l a x fr,PI p (a+l.length)/\a<=p.2.1
 |[],a,x,fr,_,_,p,h=>by cases h
 |b::l,a,x,fr,h0,hg,p,h=>by
  have hgs:=(good_step hg x.2 (jC b) a).1;have ih: ∀fr',p∈xy l (a+1) (gm x.1 x.2 (jC b) a) fr'->PI p (a+((b::l).length:Int))/\a<=p.2.1:=fun fr' hp=>by
   have:=V8 l (a+1) _ fr' (by omega) hgs p hp
   grind
  rw[xy]at h;split at h
  ·rcases List.mem_cons.1 h with rfl|h
   ·grind [ad4,avA,Ip,EH]
   ·exact ih _ h
  ·exact ih _ h
theorem TB: ∀(l:bH) (a:Int) (x:gq×Bool) (fr:List Int),0<=a->iQ x.1->(xy l a x fr).Pairwise (fun p q=>p.2.1<q.2.1)
 |[],a,x,fr,_,_=>List.Pairwise.nil
 |b::l,a,x,fr,h0,hg=>by
  have hgs:=(good_step hg x.2 (jC b) a).1;rw[xy];split
  ·refine List.Pairwise.cons (fun p hp=> ?_) (TB l (a+1) _ _ (by omega) hgs);have:=(V8 l (a+1) _ _ (by omega) hgs p hp).2
   grind [Ip,EH]
  ·exact TB l (a+1) _ _ (by omega) hgs
structure PF (s:bH) (p:kF):Prop where
 f0:0<=p.2.1
 f1:p.2.1<s.length
 t0:p.2.1<p.2.2.1
 t1:p.2.2.1<=s.length
 op:p.2.2.2.2.1=true->p.2.2.1=s.length/\p.1≠12
 sh:p.2.2.2.2.1=false->p.1≠12->p.2.1+2<=p.2.2.1
 es:p.1=13->p.2.2.1<=p.2.1+2
 dl:p.1=12->p.2.2.1=p.2.1+1+((prl (s.drop (p.2.1+1).toNat):Nat):Int)
theorem ahB (s:bH): ∀p∈dn s,PF s p:=by
 intro p hp;rw[BB]at hp;obtain⟨q,hq,rfl⟩:=List.mem_map.1 hp;obtain⟨⟨h0,h1,h2⟩,_⟩:=V8 s 0 fK [] (by omega) nO q hq;rw[Int.zero_add]at h1 h2;have hl:=amb (s.drop (q.2.1+1).toNat);rw[aU]at hl;unfold FV;split
 ·rename_i h12
  exact⟨h0,h1,by simp only;omega,by simp only;omega,fun h=>(by cases h),fun _ h=>absurd h12 h,fun h=>(by omega),fun _=>rfl⟩
 ·rename_i h12
  split
  ·rename_i ho
   refine⟨h0,h1,h1,Int.le_refl _,fun _=>⟨rfl,h12⟩,fun h=>(by cases h),fun h=> ?_,fun h=>absurd h h12⟩
   grind
  ·rename_i ho
   rcases h2 with ⟨h3,_⟩|⟨h3,h4,h5,h6⟩
   ·exact absurd h3 ho
   ·exact⟨h0,h1,by omega,h5,fun h=>absurd h ho,fun _ _=>h4,fun h=>by have:=h6 h;omega,fun h=>absurd h h12⟩
theorem RI (s:bH):(dn s).Pairwise (fun p q=>p.2.1<q.2.1):=by
 grind [BB,TB,nO,agM]
theorem OT (s:bH):(dn s).length<=s.length:=by
 have h: ∀(l:bH) (a:Int) (x:gq×Bool) (fr:List Int),(xy l a x fr).length<=l.length:=by
  intro l
  induction l with
  |nil=>intro a x fr;exact ae 0
  |cons b l ih=>
   grind [xy]
 simp_all [BB,fK]
end
section
open Nat renaming le_trans → aA
open Go.RowKit
def Am (L:List kF) (v:Int):Option kF:=L.find? fun p=>p.2.1==v
theorem NK {L:List kF} {v:Int} {p:kF} (h:Am L v=some p):p∈L/\p.2.1=v:=
 ⟨List.mem_of_find?_eq_some h,by simpa using List.find?_some h⟩
theorem Ap {s:List UInt8} {v:Int} {p:kF} (h:Am (dn s) v=some p):PF s p/\p.2.1=v:=
 ⟨ahB s p (NK h).1,(NK h).2⟩
def lone (p:kF):Bool:=decide (p.1=12)&&decide (p.2.2.1=p.2.1+1)
def yF (s:bH) (p:kF):bH:=sub s p.2.1 p.2.2.1
def Es (p:kF):Int:=if p.2.2.2.2.1=true then p.2.2.1 else p.2.2.1-1
def agG (s:bH) (p:kF):bH:=if p.2.2.1=p.2.1+2/\bK s (p.2.1+1)≠10 then sub s (p.2.1+1) p.2.2.1 else []
def agF (s:bH) (p:kF):bH:=if p.2.2.1=p.2.1+2 then(if bK s (p.2.1+1)=36\/bK s (p.2.1+1)=96\/bK s (p.2.1+1)=34\/bK s (p.2.1+1)=92 then sub s (p.2.1+1) p.2.2.1 else if bK s (p.2.1+1)=10 then []else yF s p)else []
def kC (s:bH) (L:List kF) (at_:Int):Int×List UInt8×Bool:=
 match Am L at_ with
 |none=>(at_+1,sub s at_ (at_+1),false)
 |some p=>if lone p=true then(at_+1,sub s at_ (at_+1),false)
  else if p.1=13 then(p.2.2.1,agF s p,false)
  else(p.2.2.1,yF s p,true)
def zT (s:bH) (L:List kF) (to_:Int):Nat->Int->bH
 |0,_=>[]
 |n+1,at_=>if at_<to_ then(kC s L at_).2.1++zT s L to_ n (kC s L at_).1 else []
def stepT (s:bH) (L:List kF) (at_:Int):Int×List UInt8:=
 match Am L at_ with
 |none=>(at_+1,sub s at_ (at_+1))
 |some p=>if lone p=true\/p.1=14 then(p.2.2.1,yF s p)
  else if p.1=13 then(p.2.2.1,agG s p)
  else if p.1=4 then(p.2.2.1,sub s (p.2.1+1) (Es p))
  else if p.1=5 then(p.2.2.1,zT s L (Es p) s.length (p.2.1+1))
  else(p.2.2.1,yF s p)
def oG (s:bH) (L:List kF):Nat->Int->bH
 |0,_=>[]
 |n+1,at_=>if at_<s.length then(stepT s L at_).2++oG s L n (stepT s L at_).1 else []
def Xm (s:bH):bH:=oG s (dn s) s.length 0
theorem ZJ {s:List UInt8} {at_:Int}:at_<(kC s (dn s) at_).1:=by
 unfold kC;split
 ·simp only;omega
 ·rename_i p hp
  obtain⟨h,e⟩:=Ap hp;have:=h.t0
  grind
theorem ZK {s:List UInt8} {at_:Int}:at_<(stepT s (dn s) at_).1:=by
 unfold stepT;split
 ·simp only;omega
 ·rename_i p hp
  obtain⟨h,e⟩:=Ap hp;have:=h.t0
  grind
theorem amR {s:List UInt8} {at_:Int} (h0:at_<s.length):(stepT s (dn s) at_).1<=s.length:=by
 unfold stepT;split
 ·simp only;omega
 ·rename_i p hp
  obtain⟨h,e⟩:=Ap hp;have:=h.t1
  grind
theorem QQ (s:bH) (to_:Int): ∀(n m:Nat) (at_:Int),to_-at_<=n->to_-at_<=m->zT s (dn s) to_ n at_=zT s (dn s) to_ m at_
 |0,0,_,_,_=>rfl
 |0,m+1,at_,h,_=>by rw[zT,zT,if_neg (by omega)]
 |n+1,0,at_,_,h=>by rw[zT,zT,if_neg (by omega)]
 |n+1,m+1,at_,h1,h2=>by
  rw[zT,zT];split
  ·have:= @ZJ s at_;rw[QQ s to_ n m _ (by omega) (by omega)]
  ·rfl
theorem MP (s:bH): ∀(n m:Nat) (at_:Int),(s.length:Int)-at_<=n->(s.length:Int)-at_<=m->oG s (dn s) n at_=oG s (dn s) m at_
 |0,0,_,_,_=>rfl
 |0,m+1,at_,h,_=>by rw[oG,oG,if_neg (by omega)]
 |n+1,0,at_,_,h=>by rw[oG,oG,if_neg (by omega)]
 |n+1,m+1,at_,h1,h2=>by
  rw[oG,oG];split
  ·have:= @ZK s at_;rw[MP s n m _ (by omega) (by omega)]
  ·rfl
theorem Jo {α:Type} (l:List α) (a b:Int):(sub l a b).length<=l.length:=by
 grind [sub]
theorem SB (s:bH) (L:List kF) (at_:Int):(kC s L at_).2.1.length<=s.length:=by
 unfold kC;split
 ·exact Jo s _ _
 ·split
  ·exact Jo s _ _
  ·split
   ·simp only;unfold agF yF
    repeat' split
    all_goals simp_all [Jo]
   ·exact Jo s _ _
theorem XC (s:bH) (L:List kF) (to_:Int): ∀(n:Nat) (at_:Int),(zT s L to_ n at_).length<=n*s.length
 |0,_=>by simp[zT]
 |n+1,at_=>by
  rw[zT];split
  ·have:=SB s L at_;have:=XC s L to_ n (kC s L at_).1
   grind
  simp
theorem SC (s:bH) (L:List kF) (at_:Int):(stepT s L at_).2.length<=s.length*s.length+s.length:=by
 have h: ∀a b,(sub s a b).length<=s.length*s.length+s.length:=fun a b=>aA (Jo s a b) (Nat.le_add_left _ _);unfold stepT;split
 ·exact h _ _
 ·split
  ·exact h _ _
  ·split
   ·simp only;unfold agG
    grind
   ·split
    ·exact h _ _
    ·split
     ·exact aA (XC _ _ _ _ _) (Nat.le_add_right _ _)
     ·exact h _ _
theorem QK (s:bH) (L:List kF): ∀(n:Nat) (at_:Int),(oG s L n at_).length<=n*(s.length*s.length+s.length)
 |0,_=>by simp[oG]
 |n+1,at_=>by
  rw[oG];split
  ·have:=SC s L at_;have:=QK s L n (stepT s L at_).1
   grind
  simp
end
section
open Bool renaming false_eq_true → ag, not_true → ax
open List renaming length_append → ai, drop_eq_getElem_cons → aF, length_map → aI, getElem_mem → aJ, drop_of_length_le → aK, length_drop → aU
open Nat renaming le_refl → ae, lt_or_ge → aG
open Go.RowKit
def wE (b:Int):Bool:=decide (b=32)||decide (b=9)
def DW (b:Int):Bool:=decide (b=124)||decide (b=38)||decide (b=59)||decide (b=60)||decide (b=62)||decide (b=40)||decide (b=41)
theorem au7: ∀n:Fin 256,(match DL ((n.val:Nat):Int)with|some (k,_)=>(bD k 1==wE ((n.val:Nat):Int))&&(bD k 3==DW ((n.val:Nat):Int))|none=>false)=true:=by decide+kernel
theorem au6 {b:Int} (h:isByte b): ∃k,DL b=some (k,())/\bD k 1=wE b/\bD k 3=DW b:=by
 obtain⟨n,rfl⟩:=Xp h;have:=au7 n
 grind
def RG:List bH:=[[38,38],[124,124],[59,59],[60,60],[60,60,45],[62,62],[60,38],[62,38],[60,62],[62,124],[60],[62],[38],[59],[124],[40],[41]]
def ofF (u:bH):Nat:=match RG.findIdx? (· ==u)with
 |some j=>j+1
 |none=>0
theorem an1: ∀n:Fin 18,n.val≠0->acV ((n.val:Nat):Int)=some (RG.getD (n.val-1) [],()):=by decide+kernel
theorem Ud {α:Type} (p:α->Bool) (l:List α) {k:Nat} (h:k<l.length):(l.drop k).findIdx? p=if p l[k]=true then some 0 else((l.drop (k+1)).findIdx? p).map (· +1):=by
 grind [aF]
theorem RD (u:bH): ∀(d N k:Nat),k+d=17->d<N->
  yT N u ((k+1:Nat):Int)=some (match(RG.drop k).findIdx? (· ==u)with
   |some j=>.inr ((((k+j+1:Nat):Int),()),())
   |none=>.inl ((),()))
 |d,0,k,_,h=>by omega
 |0,N+1,k,h,_=>by
  have hk:k=17:=by omega
  subst hk;rfl
 |d+1,N+1,k,h,hN=>by
  have hk:k<RG.length:=by show k<17;omega
  have ht:=an1 ⟨k+1,by omega⟩ (by simp);simp only[Nat.add_sub_cancel]at ht;rw[yT,Hr,bI (vF (by omega)),ht,aY,Ud _ _ hk];have hg:RG.getD k []=RG[k]:=by simp_all
  simp only[hg,gQ];by_cases e:(RG[k]==u)=true
  ·rw[e];simp
  ·rw[Bool.not_eq_true]at e;rw[e,bM (by omega) (by omega),show((k+1:Nat):Int)+1=((k+1+1:Nat):Int) by omega];simp only[cond_false];rw[RD u d N (k+1) (by omega) (by omega)]
   grind
theorem au5 (u:bH) (h:ofF u≠0):u∈RG:=by
 unfold ofF at h
 grind
theorem alQ (u:bH):JK u=some (((ofF u:Nat):Int),()):=by
 rw[JK];by_cases e:u=[]
 ·subst e;rfl
 ·rw[dB (by grind [gQ])];have h:=RD u 17 bC 0 rfl (dC (by omega))
  grind [aY,ofF,dA]
def QJ (t:bH):Nat->Nat×Nat
 |0=>(0,0)
 |n+1=>if ofF (t.take (n+1))≠0 then(ofF (t.take (n+1)),n+1)else QJ t n
theorem Dv (s:bH) (a n:Nat):sub s (a:Int) ((a+n:Nat):Int)=(s.drop a).take n:=by
 grind [sub,List.drop_take]
theorem Xk (s:bH) (hs:s.length<1000000) (a:Nat): ∀(n N:Nat),n<N->a+n<=s.length->
  Gs N s (a:Int) 0 (n:Int)=some (.inl (((((QJ (s.drop a) n).1:Nat):Int),(((QJ (s.drop a) n).2:Nat):Int),()),()))
 |n,0,h,_=>by omega
 |0,N+1,_,_=>by
  rfl
 |n+1,N+1,h,hn=>by
  rw[Gs,LJ,bI (eX (by omega)),bM (by omega) (by omega),show(a:Int)+((n+1:Nat):Int)=((a+(n+1):Nat):Int) by omega,
   bI (iP (by omega) (by omega) (by rw[bz];omega)),Dv,alQ,aY,QJ]
  by_cases e:ofF ((s.drop a).take (n+1))=0
  ·rw[e];simp only[show(!bD ((0:Nat):Int) 0)=false from rfl,cond_false,ne_eq,not_true_eq_false,if_false];rw[gI (by omega) (by omega),show((n+1:Nat):Int)-1=(n:Int) by omega];exact Xk s hs a n N (by omega) (by omega)
  simp_all [dQ]
def P9 (t:bH):Nat×Nat:=QJ t (min 3 t.length)
theorem aqp {c:UInt8} {t:List UInt8} (h:c::t∈RG):DW (c.toNat:Int)=true:=by
 have: ∀u∈RG,(match u with|c::_=>DW (c.toNat:Int)|[]=>true)=true:=by decide
 exact this _ h
theorem acj {c:UInt8} {t:List UInt8} (h:DW (c.toNat:Int)=false): ∀n,QJ (c::t) n=(0,0)
 |0=>rfl
 |n+1=>by
  rw[QJ,if_neg,acj h n]
  grind [aqp,au5]
theorem ayb {s:List UInt8} (hs:s.length<1000000) {a:Nat} (ha:a<s.length):acJ s a=some ((((P9 (s.drop a)).1:Nat):Int),((((P9 (s.drop a)).2:Nat):Int),())):=by
 rw[acJ,dB (mr (by omega)),dB (YG (by rw[bz];omega)),bI (dU (by omega) (by omega))];obtain⟨k,h1,_,h3⟩:=au6 (pJ s a);rw[h1,aY];simp only[h3];have hd:=aF ha;rw[byte_at ha];cases hm:DW (s[a].toNat:Int)with
 |false=>
  grind [P9,acj]
 |true=>
  simp only[ax,cond_false];have hmin:EF 3 (eY .i64 (bi s) (a:Int))=((min 3 (s.drop a).length:Nat):Int):=by
   grind [bz,gI,EF]
  rw[hmin,Xk s hs a _ bC (dC (by omega)) (by grind),aY];rfl
theorem adT (t:bH):(P9 t).2<=t.length/\((P9 t).2=0↔(P9 t).1=0)/\(P9 t).1<=17:=by
 have h: ∀n,(QJ t n).2<=n/\((QJ t n).2=0↔(QJ t n).1=0)/\(QJ t n).1<=17:=by
  intro n
  induction n with
  |zero=>exact⟨ae _,Iff.rfl,by simp[QJ]⟩
  |succ n ih=>
   rw[QJ];split
   ·rename_i e
    refine⟨ae _,⟨fun h=>absurd h (by simp),fun h=>absurd h e⟩, ?_⟩;unfold ofF;split
    ·rename_i j hj
     have:=(List.findIdx?_eq_some_iff_getElem.1 hj).1
     assumption
    omega
   omega
 grind [P9]
theorem akG (c:UInt8): ∀l:bH,Lib.indexByte l c=if(l.takeWhile (· !=c)).length<l.length then(((l.takeWhile (· !=c)).length:Nat):Int)else-1
 |[]=>rfl
 |b::l=>by
  unfold Lib.indexByte;rw[akG c l];by_cases e:b=c
  ·subst e;simp
  ·have e1:(b==c)=false:=by simpa using e
   have e2:(b !=c)=true:=by simpa using e
   have e3:(b::l).takeWhile (fun x=>x !=c)=b::l.takeWhile (fun x=>x !=c):=by simp_all
   grind
def jh (s:bH) (a:Nat):Nat:=a+((s.drop a).takeWhile (· !=10)).length
theorem Gi (s:bH) (a:Nat):a<=jh s a:=Nat.le_add_right _ _
theorem Gj {s:List UInt8} {a:Nat} (h:a<=s.length):jh s a<=s.length:=by
 grind [H8,jh]
theorem aln {s:List UInt8} (hs:s.length<1000000) {a:Nat} (ha:a<=s.length):XT s a=some (((jh s a:Nat):Int),(decide (jh s a<s.length),())):=by
 have hle:=Gj ha;have hge:=Gi s a;rw[XT,bI (iP (by omega) (by rw[bz];omega) (by omega)),XW,acW,aY,aY];have h1:sub s (a:Int) (bi s)=s.drop a:=by simp[sub,bz]
 have h2:ibW (sub s (a:Int) (bi s)) 10=if jh s a<s.length then((jh s a-a:Nat):Int)else-1:=by
  rw[h1];unfold ibW;rw[show(10:Int).toNat.toUInt8=10 from rfl,akG,aU];unfold jh at*;omega
 rw[h2];by_cases h:jh s a<s.length
 ·rw[if_pos h,bI (vF (by omega)),bM (by omega) (by omega),decide_eq_true h];congr 2;omega
 ·rw[if_neg h,dB (YG (by omega)),decide_eq_false h,bz];congr 2;omega
def zS:bH->Nat
 |[]=>0
 |[c]=>if wE (c.toNat:Int)=true then 1 else 0
 |c::d::t=>if wE (c.toNat:Int)=true then zS (d::t)+1 else if c=92/\d=10 then zS t+2 else 0
theorem TA: ∀t:bH,zS t<=t.length
 |[]=>ae _
 |[c]=>by grind [zS]
 |c::d::t=>by
  have h1:=TA (d::t);have h2:=TA t
  grind [zS]
def JF (t:bH):Bool:=match t with
 |c::d::_=>decide (c=92)&&decide (d=10)
 |_=>false
theorem aua (t:bH):acQ t [92,10]=some (JF t,()):=by
 rw[acQ,aks];cases t with
 |nil=>rfl
 |cons c t=>
  cases t with
  |nil=>rfl
  |cons d t=>
   have h1:leI (bi [(92:UInt8),10]) (bi (c::d::t))=true:=vF (by grind [bz]);have h2:gW (bi (c::d::t)) 0 (bi [(92:UInt8),10])=true:=iP (by omega) (by rw[bz];simp) (by grind [bz]);simp_all [sub,bz,aY,JF,gQ,Bool.beq_eq_decide_eq]
theorem ajc {s:List UInt8} {a:Nat} (ha:a<=s.length):XQ s a=some (JF (s.drop a),()):=by
 rw[XQ,bI (iP (by omega) (by rw[bz];omega) (by omega)),show sub s (a:Int) (bi s)=s.drop a by simp[sub,bz],aua,aY]
theorem MV {c:UInt8} {t:List UInt8}:zS (c::t)=if wE (c.toNat:Int)=true then zS t+1 else if JF (c::t)=true then zS (t.drop 1)+2 else 0:=by
 cases t with
 |nil=>rfl
 |cons d t=>rw[zS];simp[JF]
theorem En {s:List UInt8} (hs:s.length<1000000): ∀(N a:Nat),s.length-a<N->a<=s.length->
  ∃o,Gt N s (a:Int)=some o/\dA o (fun a1=>some (a1.1.1,())) (fun b1=>some (b1.1.1,()))=some ((((a+zS (s.drop a):Nat):Int)),())
 |0,a,h,_=>by omega
 |N+1,a,h,ha=>by
  rw[Gt,LK];by_cases e:a<s.length
  ·obtain⟨k,h1,h2,_⟩:=au6 (pJ s a);have hd:=aF e;rw[bI (eX (by rw[bz];omega)),bI (dU (by omega) (by omega)),h1,aY];simp only[h2];rw[byte_at e,hd,MV];by_cases hb:wE (s[a].toNat:Int)=true
   ·rw[hb,cond_true,if_pos rfl,bM (by omega) (by omega),show(a:Int)+1=((a+1:Nat):Int) by omega];obtain⟨o,o1,o2⟩:=En hs N (a+1) (by omega) (by omega)
    grind
   ·rw[Bool.not_eq_true]at hb;rw[hb,cond_false,if_neg (by simp),ajc (by omega),aY,hd];cases hc:JF (s[a]::s.drop (a+1))with
    |true=>
     have hlen:a+2<=s.length:=by
      rw[<-hd]at hc;rcases aG s.length (a+2)with hl|hl
      ·have:(s.drop a).length=1:=by grind
       obtain⟨x,hx⟩:=List.length_eq_one_iff.1 this;rw[hx]at hc;cases hc
      ·exact hl
     simp only[cond_true,if_true];rw[bM (by omega) (by omega),show(a:Int)+2=((a+2:Nat):Int) by omega,List.drop_drop,show a+1+1=a+2 from rfl];obtain⟨o,o1,o2⟩:=En hs N (a+2) (by omega) (by omega)
     grind
    |false=>
     simp only[cond_false,ag,if_false,Nat.add_zero];exact⟨_,rfl,rfl⟩
  ·rw[dB (gB (by rw[bz];omega)),aK (by omega)];exact⟨_,rfl,rfl⟩
theorem aon {s:List UInt8} (hs:s.length<1000000) {a:Nat} (ha:a<=s.length):XR s a=some ((((a+zS (s.drop a):Nat):Int)),()):=by
 rw[XR];obtain⟨o,o1,o2⟩:=En hs bC a (dC (by omega)) ha
 grind [aY]
def UY (t:bH):Nat:=if oz t≠0/\(t.drop (oz t)).head?=some 60\/oz t≠0/\(t.drop (oz t)).head?=some 62 then oz t else 0
theorem aeb (t:bH):oz t<=t.length:=H8 _ _
theorem alP {s:List UInt8} (hs:s.length<1000000) {a:Nat} (ha:a<=s.length):XU s a=some ((((a+UY (s.drop a):Nat):Int)),()):=by
 have hle:=aeb (s.drop a);rw[aU]at hle;rw[XU,L9 (s:=s) (by omega) ha,aY];simp only;rw[bM (by omega) (by omega),show(a:Int)+((oz (s.drop a):Nat):Int)=((a+oz (s.drop a):Nat):Int) by omega];unfold UY;by_cases h0:oz (s.drop a)=0
 ·simp_all [mr]
 ·rw[bI (eX (by omega))];by_cases h1:a+oz (s.drop a)<s.length
  ·have hd:((s.drop a).drop (oz (s.drop a))).head?=some s[a+oz (s.drop a)]:=by
    simp
   rw[bI (eX (by rw[bz];omega)),bI (dU (by omega) (by omega)),byte_at h1,hd];by_cases e1:s[a+oz (s.drop a)]=60
   ·rw[e1,if_pos (.inl ⟨h0,rfl⟩)];rfl
   ·have e1':((s[a+oz (s.drop a)].toNat:Nat):Int)≠60:=fun h=>e1 (UInt8.toNat_inj.1 (by grind));rw[dB (dQ e1'),bI (dU (by omega) (by omega))];by_cases e2:s[a+oz (s.drop a)]=62
    ·rw[e2,if_pos (.inr ⟨h0,rfl⟩)];rfl
    ·have e2':((s[a+oz (s.drop a)].toNat:Nat):Int)≠62:=fun h=>e2 (UInt8.toNat_inj.1 (by grind));simp_all [dQ]
  ·have hd:((s.drop a).drop (oz (s.drop a))).head?=none:=by
    simp_all
   rw[dB (mr (by rw[bz];omega)),hd,if_neg (by simp)];simp
theorem aap: ∀n:Fin 15,(match acT ((n.val:Nat):Int)with|some (t,_)=>(t==([]:bH))==(decide (n.val=0)||decide (n.val=12))&&decide (t.length<=2)|none=>false)=true:=by decide+kernel
theorem aja {m:Int} (h0:0<=m) (h1:m<=14): ∃t,acT m=some (t,())/\(t=[]↔m=0\/m=12)/\t.length<=2:=by
 have:=aap ⟨m.toNat,by omega⟩
 grind
def ZE (s:gq):Bool:=s.all fun f=>decide (f.1=0)||decide (f.1=12)
theorem Fh (F:List Ef) (hF:F.length<1000000) (hm: ∀f∈F,0<=f.1/\f.1<=14): ∀(N k:Nat) (a b:bH) (t:List Int),k<N->k<=F.length->t.length<=2*(F.length-k)->
  ∃t',nV N ((k:Int)-1) a b F t=some (.inl ((),((a,()),(),(),()),((b,()),(F,()),(),t',())))/\(t'=[]↔t=[]/\ ∀f∈F.take k,f.1=0\/f.1=12)
 |0,k,a,b,t,h,_,_=>by omega
 |N+1,0,a,b,t,h,_,_=>by
  rw[nV,qW];refine⟨t,rfl, ?_⟩;simp
 |N+1,k+1,a,b,t,h,hk,ht=>by
  rw[nV,qW];have hk':k<F.length:=by omega
  have hg:eu F (0,(0,())) (k:Int)=F[k]:=by
   simp_all [eu]
  have hb:=hm F[k] (aJ hk');obtain⟨c,c1,c2,c3⟩:=aja hb.1 hb.2;have hfit:dY (bF t (bJ c)) 1=true:=by
   simp only[dY,bF,bJ,ai,aI,decide_eq_true_eq,mF];omega
  rw[show((k+1:Nat):Int)-1=(k:Int) by omega,bI (vF (by omega)),bI (dU (by omega) (by omega)),hg,c1,aY];simp only[hfit,dZ,cond_true];rw[gI (by omega) (by omega)];obtain⟨t',h1,h2⟩:=Fh F hF hm N k a b (bF t (bJ c)) (by omega) (by omega) (by grind [bF,bJ]);refine⟨t',h1, ?_⟩;rw[h2,List.take_add_one,List.getElem?_eq_getElem hk'];have:bF t (bJ c)=[]↔t=[]/\(F[k].1=0\/F[k].1=12):=by
   simp_all [bF,bJ]
  rw[this];simp only[Option.toList_some,List.mem_append,List.mem_singleton]
  grind
theorem aeY (w:bH) (hw:w.length<=100000): ∃t,acL w=some (t,())/\(!gQ t [])= !ZE (uH w 0 fK).1:=by
 have hg:=N9 w 0 fK nO;have hl:fK.1.length=1:=rfl;have hm:=N8 hg.1;rw[acL,av8 w hw,aY];obtain⟨t',h1,h2⟩:=Fh (lo (uH w 0 fK).1) (by rw[mO];omega) (fun f hf=>by
  unfold lo at hf
  grind) bC (lo (uH w 0 fK).1).length [] [] [] (dC (by rw[mO];omega)) (ae _) (by simp)
 simp only;rw[bz,gI (by rw[mO];omega) (by rw[mO];omega),h1,aY];refine⟨_,rfl, ?_⟩;congr 1;simp only;rw[List.take_length]at h2;have h3:(∀f∈lo (uH w 0 fK).1,f.1=0\/f.1=12)↔ZE (uH w 0 fK).1=true:=by
  unfold ZE lo;simp only[List.mem_reverse,List.mem_map,List.all_eq_true,Bool.or_eq_true,decide_eq_true_eq];exact⟨fun h f hf=>h _ ⟨f,hf,rfl⟩,fun h f ⟨g,hg,e⟩=>by grind⟩
 rw[h3]at h2;unfold gQ;cases hs:ZE (uH w 0 fK).1 with
 |true=>rw[h2.2 ⟨rfl,hs⟩];rfl
 |false=>
  have:t'≠[]:=fun e=>by simp_all
  cases t' with
  |nil=>simp_all
  |cons x y=>rfl
def Gl (s:bH) (tabs:Bool) (a:Nat):bH:=if tabs=true then((s.take (jh s a)).drop a).dropWhile (· ==9)else(s.take (jh s a)).drop a
def oN (s:bH) (a:Nat):Nat:=if jh s a<s.length then jh s a+1 else jh s a
def rG (s w:bH) (tabs:Bool):Nat->Nat->Nat×Bool
 |0,a=>(a,false)
 |n+1,a=>if a<s.length then(if Gl s tabs a=w then(oN s a,true)else rG s w tabs n (oN s a))else(a,false)
theorem YZ {s:List UInt8} {a:Nat} (h:a<s.length):a<oN s a/\oN s a<=s.length:=by
 grind [Gi,Gj,oN]
theorem PW: ∀(l:bH) (N:Nat),l.length<N->Gz N l 9=some (.inl ((l.dropWhile (· ==9),()),()))
 |l,0,h=>by omega
 |[],N+1,_=>by rfl
 |c::l,N+1,h=>by
  rw[Gz,LQ,bI (eX (by simp_all [bz])),bI (dU (by omega) (by simp)),show bK (c::l) 0=(c.toNat:Int) from rfl];by_cases e:c=9
  ·subst e;rw[show bD (((9:UInt8).toNat:Nat):Int) 9=true from rfl,cond_true,bI (iP (by omega) (by grind [bz]) (by omega))];rw[show sub ((9:UInt8)::l) 1 (bi ((9:UInt8)::l))=l by simp[sub,bz],PW l N (by simp at h;omega)];simp
  ·rw[dB (dQ (fun h=>e (UInt8.toNat_inj.1 (by grind)))),List.dropWhile_cons_of_neg (by simpa using e)]
theorem aqY (l:bH) (hl:l.length<1000000):acZ l 9=some (l.dropWhile (· ==9),()):=by
 rw[acZ,PW l bC (dC (by omega)),aY];rfl
theorem Q9 {s w:List UInt8} (hs:s.length<1000000) (tabs:Bool): ∀(N a:Nat),s.length-a<N->a<=s.length->
  yS N s (a:Int) w tabs=some (if(rG s w tabs N a).2=true then .inr (((((rG s w tabs N a).1:Nat):Int),true,()),())else .inl (((((rG s w tabs N a).1:Nat):Int),()),()))
 |0,a,h,_=>by omega
 |N+1,a,h,ha=>by
  (rewrite [yS,LH];delta yf;rw[rG])
  by_cases e:a<s.length
  ·have h1:=Gi s a;have h2:=Gj (s:=s) (a:=a) (by omega);have hn:=YZ e;have ih:=Q9 (w:=w) hs tabs N (oN s a) (by omega) (by omega);have hsub:sub s (a:Int) ((jh s a:Nat):Int)=(s.take (jh s a)).drop a:=by simp[sub]
   have hfin: ∀(x:bH),x=Gl s tabs a->
     (bif decide (jh s a<s.length)then
      bif gQ x w then(some (.inr ((bT .i64 ((jh s a:Nat):Int) 1,true,()),())):Option (Lr.den⊕Ls.den))
      else yS N s (bT .i64 ((jh s a:Nat):Int) 1) w tabs
     else bif gQ x w then some (.inr ((((jh s a:Nat):Int),true,()),()))
      else yS N s ((jh s a:Nat):Int) w tabs)=
     some (if(if Gl s tabs a=w then(oN s a,true)else rG s w tabs N (oN s a)).2=true
      then .inr (((((if Gl s tabs a=w then(oN s a,true)else rG s w tabs N (oN s a)).1:Nat):Int),true,()),())
      else .inl (((((if Gl s tabs a=w then(oN s a,true)else rG s w tabs N (oN s a)).1:Nat):Int),()),())):=by
    intro x hx;subst hx;have hw:gQ (Gl s tabs a) w=decide (Gl s tabs a=w):=by
     grind [gQ]
    rw[hw];by_cases hl:jh s a<s.length
    ·have hnx:oN s a=jh s a+1:=by simp_all [oN]
     rw[decide_eq_true hl,cond_true,bM (by omega) (by omega),show((jh s a:Nat):Int)+1=((oN s a:Nat):Int) by omega]
     grind
    ·have hnx:oN s a=jh s a:=by simp_all [oN]
     grind
   rw[bI (eX (by rw[bz];omega)),aln hs (by omega),aY,if_pos e];simp only;rw[bI (iP (by omega) (by omega) (by rw[bz];omega)),hsub];cases tabs with
   |false=>simp_all [Gl]
   |true=>
    simp only[cond_true];by_cases e0:(s.take (jh s a)).drop a=[]
    ·rw[e0,show gQ ([]:bH) []=true from rfl,cond_true];exact hfin _ (by rw[Gl,if_pos rfl,e0];rfl)
    ·rw[dB (by simp_all [gQ])];refine(dB (by rfl)).trans ?_;refine(bI (by rfl)).trans ?_;refine(bI (by rfl)).trans ?_;refine(bI (by rfl)).trans ?_;refine(bI (by rfl)).trans ?_;rw[show bK [9] 0=9 from rfl];rw[aqY _ (by grind),aY];exact hfin _ (by rfl)
  simp_all [gB,bz,if_neg]
def JR (s w:bH) (tabs:Bool) (a:Nat):Nat×Bool:=rG s w tabs bC a
theorem aub {s:List UInt8} (hs:s.length<1000000) (d:bH×Bool×Unit) {a:Nat} (ha:a<=s.length):acI s a d=some ((((JR s d.1 d.2.1 a).1:Nat):Int),((JR s d.1 d.2.1 a).2,())):=by
 rw[acI,Q9 hs d.2.1 bC a (dC (by omega)) ha,aY];unfold JR;cases h:(rG s d.1 d.2.1 bC a).2 with
 |true=>simp[dA]
 |false=>simp[dA]
end
section
open Nat renaming lt_or_ge → aG
open Go.RowKit
theorem alm {s:List UInt8} {f:Nat} (h3:jh s f<s.length):s[jh s f]=10:=by
 have:=zH (· !=10) (s.drop f) (by grind [jh]);simp_all [jh]
theorem Q8 (s w:bH) (tabs:Bool): ∀(N a:Nat),s.length-a<N->a<=s.length->(rG s w tabs N a).1<=s.length/\((rG s w tabs N a).2=false->(rG s w tabs N a).1=s.length)/\(a<s.length->a<(rG s w tabs N a).1)
 |0,a,h,_=>by omega
 |N+1,a,h,ha=>by
  rw[rG];by_cases e:a<s.length
  ·have hn:=YZ e;rw[if_pos e];split
   ·simp_all
   ·have ih:=Q8 s w tabs N (oN s a) (by omega) hn.2;refine⟨ih.1,ih.2.1,fun _=> ?_⟩;rcases aG (oN s a) s.length with h'|h'
    ·omega
    ·cases N with
     |zero=>omega
     |succ N=>simp_all [rG,if_neg]
  grind
end
section
open Bool renaming not_true → ax, not_false → aB
open Nat renaming le_trans → aA
open Go.RowKit
theorem aoB {a b:List UInt8}:gQ a b=true↔a=b:=by simp[gQ]
theorem FB {a b:List UInt8} (h:a≠b):gQ a b=false:=by simp[gQ];exact h
theorem QU {a b:List UInt8} (h:a=b):gQ a b=true:=aoB.2 h
def O4:List bH:=[[33],[123],[125],[99,97,115,101],[100,111],[100,111,110,101],[101,108,105,102],[101,108,115,101],[101,115,97,99],[102,105],[102,111,114],[105,102],[105,110],[116,104,101,110],[117,110,116,105,108],[119,104,105,108,101]]
def YH:bH:=[32,33,32,123,32,125,32,99,97,115,101,32,100,111,32,100,111,110,101,32,101,108,105,102,32,101,108,115,101,32,101,115,97,99,32,102,105,32,102,111,114,32,105,102,32,105,110,32,116,104,101,110,32,117,110,116,105,108,32,119,104,105,108,101,32]
theorem abd: ∀i:Fin 66,∀n:Fin 66,(sub YH (i.val:Int) ((i.val:Int)+((n.val:Int)+2))).getD 0 0=32->
  (sub YH (i.val:Int) ((i.val:Int)+((n.val:Int)+2))).getD (n.val+1) 0=32->
  (((sub YH (i.val:Int) ((i.val:Int)+((n.val:Int)+2))).drop 1).take n.val).contains 32=false->n.val≠0->i.val+n.val+2<=65->
  O4.contains (((sub YH (i.val:Int) ((i.val:Int)+((n.val:Int)+2))).drop 1).take n.val)=true:=by decide+kernel
theorem adi (x:bH) (hx:x.length<=3000000): ∀(n k:Nat),k<=x.length->x.length-k<n->
  AV n 32 x (k:Int)=some (.inl ((),()))/\(∀j,k<=j->j<x.length->bK x (j:Int)≠32)\/AV n 32 x (k:Int)=some (.inr ((true,()),()))
 |0,k,h1,h2=>by omega
 |n+1,k,h1,h2=>by
  rw[AV];unfold abX;by_cases hk:k<x.length
  ·rw[bI (eX (by rw[bz];omega)),bI (dU (by omega) (by omega))];by_cases hb:bK x (k:Int)=32
   ·simp_all [fQ]
   ·rw[dB (dQ hb),bM (by omega) (by omega)];rcases adi x hx n (k+1) (by omega) (by omega)with ⟨h,h'⟩|h
    all_goals grind
  ·rw[dB (gB (by rw[bz];omega))]
   grind
theorem alO {x:List UInt8} (h: ∀j,0<=j->j<x.length->bK x ((j:Nat):Int)≠32):x.contains 32=false:=by
 rw[Bool.eq_false_iff];intro hc;rw[List.contains_iff_mem]at hc;obtain⟨j,hj,he⟩:=List.mem_iff_getElem.1 hc;refine h j (by omega) hj ?_;simp_all [bK]
theorem Zq (x:bH) (hx:x.length<=3000000) (h0:x.length≠0) (hb:x.contains 32=false) (hw:O4.contains x=false): ∀(n i:Nat),i<=66->66-i<n->
  UO n (bF (bF [32] x) [32]) (i:Int)=some (.inl ((),()))
 |0,i,h1,h2=>by omega
 |n+1,i,h1,h2=>by
  have hl:(bF (bF [32] x) [32]).length=x.length+2:=by simp[bF]
  rw[UO];unfold amO;by_cases hi:i+x.length+2<=65
  ·rw[bI (vF (by grind [bz,bM]))];rw[bI (iP (by omega) (by grind [bz,bM]) (by rw[bz,bz,hl,bM (by omega) (by omega)];show _<=(65:Int);omega))];rw[dB (FB ?_)]
   ·rw[bM (by omega) (by omega)];exact Zq x hx h0 hb hw n (i+1) (by omega) (by omega)
   ·intro he;rw[bz,hl,bM (by omega) (by omega)]at he;change sub YH _ _=_ at he;have:=abd ⟨i,by omega⟩ ⟨x.length,by omega⟩;simp_all [bF]
  ·rw[dB (DV (by grind [bz,bM]))]
theorem aqK (x:bH) (hx:x.length<=3000000) (hw:O4.contains x=false):atZ x=some (false,()):=by
 unfold atZ;by_cases h0:x.length=0
 ·simp_all [fQ,bz]
 rw[dB (dQ (by rw[bz];omega))];unfold F5;rcases adi x hx bC 0 (by omega) (dC (by omega))with ⟨h,h'⟩|h
 ·rw[show(0:Int)=((0:Nat):Int) from rfl,h];simp only[aY,alW,cond_false];rw[bI (show kT [32] x=true by unfold kT mF;grind)];rw[bI (show kT (bF [32] x) [32]=true by unfold kT mF bF;grind)];rw[Zq x hx h0 (alO h') hw bC 0 (by omega) (dC (by omega))];rfl
 ·rw[show(0:Int)=((0:Nat):Int) from rfl,h];rfl
theorem Zd: ∀k:Fin 17,acV ((k.val:Int)+1)=some (RG.getD k.val [],())/\awH ((k.val:Int)+1)=some (RG.getD k.val [],()):=by
 intro k
 match k with
 |⟨0,_⟩=>exact⟨by kernel_rfl,by kernel_rfl⟩
 |⟨1,_⟩=>exact⟨by kernel_rfl,by kernel_rfl⟩
 |⟨2,_⟩=>exact⟨by kernel_rfl,by kernel_rfl⟩
 |⟨3,_⟩=>exact⟨by kernel_rfl,by kernel_rfl⟩
 |⟨4,_⟩=>exact⟨by kernel_rfl,by kernel_rfl⟩
 |⟨5,_⟩=>exact⟨by kernel_rfl,by kernel_rfl⟩
 |⟨6,_⟩=>exact⟨by kernel_rfl,by kernel_rfl⟩
 |⟨7,_⟩=>exact⟨by kernel_rfl,by kernel_rfl⟩
 |⟨8,_⟩=>exact⟨by kernel_rfl,by kernel_rfl⟩
 |⟨9,_⟩=>exact⟨by kernel_rfl,by kernel_rfl⟩
 |⟨10,_⟩=>exact⟨by kernel_rfl,by kernel_rfl⟩
 |⟨11,_⟩=>exact⟨by kernel_rfl,by kernel_rfl⟩
 |⟨12,_⟩=>exact⟨by kernel_rfl,by kernel_rfl⟩
 |⟨13,_⟩=>exact⟨by kernel_rfl,by kernel_rfl⟩
 |⟨14,_⟩=>exact⟨by kernel_rfl,by kernel_rfl⟩
 |⟨15,_⟩=>exact⟨by kernel_rfl,by kernel_rfl⟩
 |⟨16,_⟩=>exact⟨by kernel_rfl,by kernel_rfl⟩
 |⟨n+17,h⟩=>omega
theorem ary {x:List UInt8} (hw:RG.contains x=false) {k:Nat} (hk:k<17):RG.getD k []≠x:=by
 rintro rfl;rw[Bool.eq_false_iff]at hw;apply hw;rw[List.contains_iff_mem,List.getD_eq_getElem?_getD,List.getElem?_eq_getElem (show k<RG.length from hk)];simp
theorem SA (x:bH) (hw:RG.contains x=false): ∀(n k:Nat),k<=17->17-k<n->yT n x ((k:Int)+1)=some (.inl ((),()))
 |0,k,h1,h2=>by omega
 |n+1,k,h1,h2=>by
  rw[yT];unfold Hr;by_cases hk:k<17
  ·rw[bI (vF (by omega)),(Zd ⟨k,hk⟩).1,aY,dB (FB (ary hw hk)),bM (by omega) (by omega)];exact SA x hw n (k+1) (by omega) (by omega)
  ·rw[dB (DV (by omega))]
theorem aex (x:bH) (hw:RG.contains x=false) (a b c:Int): ∀(n k:Nat),k<=17->17-k<n->UN n ((k:Int)+1) a x b c=some (.inl ((),()))
 |0,k,h1,h2=>by omega
 |n+1,k,h1,h2=>by
  rw[UN];unfold amN;by_cases hk:k<17
  ·rw[bI (vF (by omega)),(Zd ⟨k,hk⟩).2,aY,dB (FB (ary hw hk)),bM (by omega) (by omega)];exact aex x hw a b c n (k+1) (by omega) (by omega)
  ·rw[dB (DV (by omega))]
theorem adO {x:List UInt8} (h:O4.contains x=true):x=[33]\/x=[123]\/x=[125]\/x=[99,97,115,101]\/x=[100,111]\/x=[100,111,110,101]\/x=[101,108,105,102]\/x=[101,108,115,101]\/x=[101,115,97,99]\/x=[102,105]\/x=[102,111,114]\/x=[105,102]\/x=[105,110]\/x=[116,104,101,110]\/x=[117,110,116,105,108]\/x=[119,104,105,108,101]:=by
 simp_all [O4]
theorem auZ {x:List UInt8} (h:RG.contains x=true):x=[38,38]\/x=[124,124]\/x=[59,59]\/x=[60,60]\/x=[60,60,45]\/x=[62,62]\/x=[60,38]\/x=[62,38]\/x=[60,62]\/x=[62,124]\/x=[60]\/x=[62]\/x=[38]\/x=[59]\/x=[124]\/x=[40]\/x=[41]:=by
 simp_all [RG]
theorem aiz (x:bH) (hx:x.length<=10000) (a b:Int): ∃c:UInt8,acY x=some ((c.toNat:Int),())/\Qd (6,(x,(a,(b,()))))=some ([c],()):=by
 cases hw:O4.contains x with
 |true=>
  rcases adO hw with h|h|h|h|h|h|h|h|h|h|h|h|h|h|h|h
  ·subst h;exact⟨33,by kernel_rfl,by kernel_rfl⟩
  ·subst h;exact⟨123,by kernel_rfl,by kernel_rfl⟩
  ·subst h;exact⟨125,by kernel_rfl,by kernel_rfl⟩
  ·subst h;exact⟨99,by kernel_rfl,by kernel_rfl⟩
  ·subst h;exact⟨100,by kernel_rfl,by kernel_rfl⟩
  ·subst h;exact⟨103,by kernel_rfl,by kernel_rfl⟩
  ·subst h;exact⟨101,by kernel_rfl,by kernel_rfl⟩
  ·subst h;exact⟨108,by kernel_rfl,by kernel_rfl⟩
  ·subst h;exact⟨122,by kernel_rfl,by kernel_rfl⟩
  ·subst h;exact⟨102,by kernel_rfl,by kernel_rfl⟩
  ·subst h;exact⟨114,by kernel_rfl,by kernel_rfl⟩
  ·subst h;exact⟨105,by kernel_rfl,by kernel_rfl⟩
  ·subst h;exact⟨107,by kernel_rfl,by kernel_rfl⟩
  ·subst h;exact⟨116,by kernel_rfl,by kernel_rfl⟩
  ·subst h;exact⟨119,by kernel_rfl,by kernel_rfl⟩
  ·subst h;exact⟨119,by kernel_rfl,by kernel_rfl⟩
 |false=>
  refine⟨120, ?_, ?_⟩
  ·have e: ∀l,O4.contains l=true->gQ x l=false:=fun l hl=>FB fun he=>by simp_all
   (unfold acY;delta KZ Uf)
   simp only[e [33] rfl,e [123] rfl,e [125] rfl,e [99,97,115,101] rfl,e [100,111] rfl,e [100,111,110,101] rfl,e [101,108,105,102] rfl,e [101,108,115,101] rfl,e [101,115,97,99] rfl,e [102,105] rfl,e [102,111,114] rfl,e [105,102] rfl,e [105,110] rfl,e [116,104,101,110] rfl,e [117,110,116,105,108] rfl,e [119,104,105,108,101] rfl,cond_false];rfl
  ·unfold Qd;simp only[show bD 6 2=false from rfl,show bD 6 5=false from rfl,show bD 6 4=false from rfl,show bD 6 6=true from rfl,ax,cond_false,aqK x (aA hx (by omega)) hw,aY,aB,cond_true]
theorem ahx (x:bH) (hx:x.length<=10000) (a b:Int): ∃c:UInt8,acX x=some ((c.toNat:Int),())/\Qd (4,(x,(a,(b,()))))=some ([c],())/\c≠120:=by
 cases hw:RG.contains x with
 |true=>
  rcases auZ hw with h|h|h|h|h|h|h|h|h|h|h|h|h|h|h|h|h
  ·subst h;exact⟨97,by kernel_rfl,by kernel_rfl,by decide⟩
  ·subst h;exact⟨111,by kernel_rfl,by kernel_rfl,by decide⟩
  ·subst h;exact⟨121,by kernel_rfl,by kernel_rfl,by decide⟩
  ·subst h;exact⟨60,by kernel_rfl,by kernel_rfl,by decide⟩
  ·subst h;exact⟨60,by kernel_rfl,by kernel_rfl,by decide⟩
  ·subst h;exact⟨60,by kernel_rfl,by kernel_rfl,by decide⟩
  ·subst h;exact⟨60,by kernel_rfl,by kernel_rfl,by decide⟩
  ·subst h;exact⟨60,by kernel_rfl,by kernel_rfl,by decide⟩
  ·subst h;exact⟨60,by kernel_rfl,by kernel_rfl,by decide⟩
  ·subst h;exact⟨60,by kernel_rfl,by kernel_rfl,by decide⟩
  ·subst h;exact⟨60,by kernel_rfl,by kernel_rfl,by decide⟩
  ·subst h;exact⟨60,by kernel_rfl,by kernel_rfl,by decide⟩
  ·subst h;exact⟨38,by kernel_rfl,by kernel_rfl,by decide⟩
  ·subst h;exact⟨59,by kernel_rfl,by kernel_rfl,by decide⟩
  ·subst h;exact⟨124,by kernel_rfl,by kernel_rfl,by decide⟩
  ·subst h;exact⟨40,by kernel_rfl,by kernel_rfl,by decide⟩
  ·subst h;exact⟨41,by kernel_rfl,by kernel_rfl,by decide⟩
 |false=>
  refine⟨63, ?_, ?_,by decide⟩
  ·unfold acX;have:JK x=some (0,()):=by
    unfold JK;by_cases h0:x=[]
    ·rw[bI (QU h0)]
    ·rw[dB (FB h0),show(1:Int)=((0:Nat):Int)+1 from rfl,SA x hw bC 0 (by omega) (dC (by omega))];rfl
   rw[this];rfl
  ·unfold Qd;simp only[show bD 4 2=false from rfl,show bD 4 5=false from rfl,show bD 4 4=true from rfl,cond_false,cond_true];rw[show(1:Int)=((0:Nat):Int)+1 from rfl,aex x hw 4 a b bC 0 (by omega) (dC (by omega))];rfl
theorem arE (k:Int) (x:bH) (hx:x.length<=10000) (a b:Int): ∃c:UInt8,NP (k,(x,(a,(b,()))))=some ((c.toNat:Int),())/\Qd (k,(x,(a,(b,()))))=some ([c],())/\(c=120->k=6):=by
 by_cases h2:k=2
 ·subst h2;exact⟨110,rfl,rfl,fun h=>absurd h (by decide)⟩
 by_cases h5:k=5
 ·subst h5;exact⟨35,rfl,rfl,fun h=>absurd h (by decide)⟩
 by_cases h4:k=4
 ·subst h4;obtain⟨c,h,h',h''⟩:=ahx x hx a b;refine⟨c, ?_,h',fun e=>absurd e h''⟩;unfold NP;simp only[show bD 4 2=false from rfl,show bD 4 4=true from rfl,cond_false,cond_true,h,aY]
 by_cases h6:k=6
 ·subst h6;obtain⟨c,h,h'⟩:=aiz x hx a b;refine⟨c, ?_,h',fun _=>rfl⟩;unfold NP;simp only[show bD 6 2=false from rfl,show bD 6 4=false from rfl,show bD 6 5=false from rfl,show bD 6 6=true from rfl,cond_false,cond_true,h,aY]
 refine⟨63, ?_, ?_,fun h=>absurd h (by decide)⟩
 ·unfold NP;simp only[dQ h2,dQ h4,dQ h5,dQ h6,cond_false];rfl
 ·unfold Qd;simp only[dQ h2,dQ h4,dQ h5,dQ h6,cond_false,aB,cond_true]
abbrev Lf:=Int×List UInt8×Int×Int×Unit
def dLf:Lf:=(0,([],(0,(0,()))))
def sgn (f:Lf):UInt8:=match Qd f with
 |some ([c],_)=>c
 |_=>0
theorem amH {f:Lf} (h:f.2.1.length<=10000):NP f=some (((sgn f).toNat:Int),())/\Qd f=some ([sgn f],()):=by
 obtain⟨k,x,a,b,u⟩:=f;obtain⟨c,h1,h2,_⟩:=arE k x h a b;simp_all [sgn]
theorem arD {f:Lf} (h:f.2.1.length<=10000) (hx:sgn f=120):f.1=6:=by
 obtain⟨k,x,a,b,u⟩:=f;obtain⟨c,h1,h2,h3⟩:=arE k x h a b;simp_all [sgn]
end
section
open Go.RowKit
theorem EO {a b:List UInt8} (h:a.length+b.length<=140737488355328):kT a b=true:=by
 grind [kT,mF]
theorem DK {α:Type} {l:List α} {k:Nat} (h:l.length*k<=140737488355328):dY l k=true:=by
 grind [dY,mF]
end
section
open List renaming drop_eq_getElem_cons → aF, length_drop → aU
open Go.RowKit
abbrev Tok:=Int×Int×Int×Bool×Unit
abbrev Dlm:=List UInt8×Bool×Unit
abbrev Xd:=Int×List Dlm×Bool×Unit
def dDl:Dlm:=([],(false,()))
def zN (s:bH) (a:Nat):Nat:=a+Ij (s.drop a) a fK
def XA (s:bH) (a b:Nat):bH:=(s.take b).drop a
def axs (w:bH):Bool:=ZE (uH w 0 fK).1
theorem Z4 {s:List UInt8} {a:Nat} (h:a<=s.length):a<=zN s a/\zN s a<=s.length:=by
 grind [acu,zN]
def pR (s:bH) (a:Nat):Tok:=if zS (s.drop a)≠0 then(1,a,((a+zS (s.drop a):Nat):Int),false,())else if bK s a=10 then(2,a,((a+1:Nat):Int),false,())else if bK s a=35 then(3,a,(jh s a:Nat),false,())else if(P9 (s.drop a)).2≠0 then(4,a,((a+(P9 (s.drop a)).2:Nat):Int),false,())else if UY (s.drop a)≠0 then(5,a,((a+UY (s.drop a):Nat):Int),false,())else(6,a,(zN s a:Nat), !axs (XA s a (zN s a)),())
def Cj (s:bH) (a:Nat) (x:Xd):Xd:=if zS (s.drop a)≠0 then(x.1,x.2.1,false,())else if bK s a=10 then(0,x.2.1,decide (0<x.2.1.length),())else if bK s a=35 then(0,x.2.1,false,())else if(P9 (s.drop a)).2≠0 then((if(P9 (s.drop a)).1=4\/(P9 (s.drop a)).1=5 then(((P9 (s.drop a)).1:Nat):Int)else 0),x.2.1,false,())else if UY (s.drop a)≠0 then(0,x.2.1,false,())else(0,(if x.1=0 then x.2.1 else x.2.1++[(Xm (XA s a (zN s a)),decide (x.1=5),())]),false,())
def lF (s:bH) (a:Nat) (x:Xd):Tok×Xd:=if x.2.2.1=true then(if(JR s (x.2.1.headD dDl).1 (x.2.1.headD dDl).2.1 a).2=true then((7,a,((JR s (x.2.1.headD dDl).1 (x.2.1.headD dDl).2.1 a).1:Nat),false,()),(x.1,x.2.1.tail,decide (1<x.2.1.length),()))else((7,a,((JR s (x.2.1.headD dDl).1 (x.2.1.headD dDl).2.1 a).1:Nat),true,()),x))else(pR s a,Cj s a x)
theorem alV {c:UInt8} {t:List UInt8} (h:DW (c.toNat:Int)=true):(P9 (c::t)).2≠0:=by
 have h1:ofF [c]≠0:=by
  have: ∀n:Fin 256,DW ((n.val:Nat):Int)=true->ofF [UInt8.ofNat n.val]≠0:=by decide+kernel
  have:=this ⟨c.toNat,c.toNat_lt⟩ h;simpa using this
 have h2: ∀n,(QJ (c::t) (n+1)).2≠0:=by
  intro n
  induction n with
  |zero=>simp_all [QJ]
  |succ n ih=>
   grind [QJ]
 grind [P9]
theorem Hy {s:List UInt8} (hs:s.length<=10000) {a:Nat} (ha:a<s.length) (x:Xd):(a:Int)<(lF s a x).1.2.2.1/\(lF s a x).1.2.2.1<=s.length/\(lF s a x).1.2.1=a:=by
 unfold lF;split
 ·have h:=Q8 s (x.2.1.headD dDl).1 (x.2.1.headD dDl).2.1 bC a (dC (by omega)) (by omega);have h2:=h.2.2 ha;have h1:=h.1;unfold JR
  grind
 ·unfold pR;have hd:=aF ha;split
  ·have:=TA (s.drop a)
   grind
  ·split
   ·grind
   ·split
    ·rename_i h35
     have h1:=Gi s a;have h2:=Gj (s:=s) (a:=a) (by omega);have h3:jh s a≠a:=by
      intro e;have:=alm (s:=s) (f:=a) (by omega);simp_all [byte_at]
     grind
    ·split
     ·have:=(adT (s.drop a)).1
      grind
     ·split
      ·rename_i hn
       have h1:=aeb (s.drop a);rw[aU]at h1;have:UY (s.drop a)<=oz (s.drop a):=by grind [UY]
       grind
      ·rename_i hb h10 _ ho _
       have hw:=Z4 (s:=s) (a:=a) (by omega);have:Ij (s.drop a) a fK≠0:=by
        rw[hd,Ij];have he:zJ fK.1 (jC s[a])=false:=by
         unfold zJ;have:JI (jC s[a])=false:=by
          have hbl:wE (s[a].toNat:Int)=false:=by
           grind [MV]
          have hme:DW (s[a].toNat:Int)=false:=by
           grind [alV]
          simp_all [byte_at,wE,DW,JI,jC]
         rw[this];rfl
        rw[he];simp
       unfold zN at hw ⊢
       grind
end
section
open Go.RowKit
theorem aeD {s:List UInt8} {a b:Nat}:sub s (a:Int) (b:Int)=XA s a b:=by simp[sub,XA]
theorem XB {s:List UInt8} {a b:Nat}:(XA s a b).length<=s.length:=by
 grind [XA]
end
section
open Go.RowKit
def ul (s:bH):Nat->Nat->List Tok->Xd->List Tok×Xd
 |0,_,l,x=>(l,x)
 |n+1,a,l,x=>if a<s.length then ul s n (lF s a x).1.2.2.1.toNat (l++[(lF s a x).1]) (lF s a x).2 else(l,x)
def eU (s:bH):List Tok×Xd:=ul s (s.length+1) 0 [] (0,[],false,())
def OkX (x:Xd):Prop:=x.2.2.1=true->x.2.1≠[]
theorem ZL (s:bH) (a:Nat) {x:Xd} (h:OkX x):OkX (lF s a x).2/\(lF s a x).2.2.1.length<=x.2.1.length+1:=by
 obtain⟨aw,pd,bd,u⟩:=x;unfold OkX at*;unfold lF;simp only at h ⊢;split
 ·grind
 ·unfold Cj
  grind
theorem Ri {s:List UInt8} (hs:s.length<=10000): ∀(n m a:Nat) (l:List Tok) (x:Xd),s.length<n+a->s.length<m+a->ul s n a l x=ul s m a l x
 |0,0,a,l,x,_,_=>rfl
 |0,m+1,a,l,x,h,_=>by rw[ul,ul,if_neg (by omega)]
 |n+1,0,a,l,x,_,h=>by rw[ul,ul,if_neg (by omega)]
 |n+1,m+1,a,l,x,h1,h2=>by
  rw[ul,ul];split
  ·rename_i ha
   have:=Hy hs ha x;exact Ri hs n m _ _ _ (by omega) (by omega)
  ·rfl
structure OkT (s:bH) (t:Tok):Prop where
 f0:0<=t.2.1
 ft:t.2.1<t.2.2.1
 t1:t.2.2.1<=s.length
theorem adr {s:List UInt8} (hs:s.length<=10000): ∀(n a:Nat) (l:List Tok) (x:Xd),OkX x->l.length<=a->a<=s.length->(∀t∈l,OkT s t)->(∀t∈(ul s n a l x).1,OkT s t)/\OkX (ul s n a l x).2/\(ul s n a l x).1.length<=s.length
 |0,a,l,x,hx,hl,ha,h=>⟨h,hx,by grind [ul]⟩
 |n+1,a,l,x,hx,hl,ha,h=>by
  rw[ul];split
  ·rename_i e
   have hto:=Hy hs e x;exact adr hs n _ _ _ (ZL s a hx).1 (by grind) (by omega) (fun t ht=>by
    rcases List.mem_append.1 ht with h1|h1
    ·exact h t h1
    ·rw[List.mem_singleton.1 h1];exact⟨by omega,by omega,by omega⟩)
  grind
theorem yR {s:List UInt8} (hs:s.length<=10000):(∀t∈(eU s).1,OkT s t)/\OkX (eU s).2/\(eU s).1.length<=s.length:=
 adr hs _ _ _ _ (fun h=>by cases h) (by simp) (by omega) (fun t ht=>by cases ht)
def akK (t:Tok):Bool:=decide (t.1=2)||decide (t.1=4)||decide (t.1=5)||decide (t.1=6)
def alj (s:bH) (t:Tok):Int×List UInt8×Int×Int×Unit:=(t.1,sub s t.2.1 t.2.2.1,t.2.1,t.2.2.1,())
def dX (s:bH) (l:List Tok):List (Int×List UInt8×Int×Int×Unit):=(l.filter akK).map (alj s)
end
section
open Bool renaming not_false → aB
open List renaming append_assoc → ah, length_append → ai, drop_eq_getElem_cons → aF, drop_of_length_le → aK, nil_append → aQ
open Go.RowKit
theorem aeV (t:bH):(bJ t).length=t.length:=by simp[bJ]
theorem Bd (t:bH):ofBytes (bJ t)=t:=by simp[ofBytes,bJ,Function.comp_def]
theorem o5 (a b:bH):bF (bJ a) (bJ b)=bJ (a++b):=by simp[bF,bJ]
theorem Xa {s:List UInt8} {i:Int} (h0:0<=i) (h:i<s.length):[bK s i]=bJ (sub s i (i+1)):=by
 obtain⟨n,rfl⟩:=Int.eq_ofNat_of_zero_le h0;have hn:n<s.length:=by omega
 rw[show(n:Int)+1=((n+1:Nat):Int) by omega,Dv,aF hn,List.take_succ_cons,List.take_zero,byte_at hn];rfl
theorem aeX (M:List tX) (a b c:Int):og (rH M a b) c=if c=a then b else og M c:=by
 unfold og
 induction M with
 |nil=>
  unfold rH A8;by_cases h:c=a
  ·simp_all [fQ]
  ·rw[dB (dQ h),if_neg h];rfl
 |cons e M ih=>
  obtain⟨k,v⟩:=e;unfold rH;by_cases h1:a=k
  ·rw[bI (fQ h1)];subst h1;unfold A8;by_cases h:c=a
   ·simp_all [fQ]
   simp_all [dQ]
  ·rw[dB (dQ h1)];unfold A8;by_cases h:c=k
   ·grind
   simp_all [dQ]
def Ku (M:List tX):Nat->List kF->List tX
 |_,[]=>M
 |k,p::l=>Ku (rH M p.2.1 ((k+1:Nat):Int)) (k+1) l
theorem EL (c:Int): ∀(l:List kF) (M:List tX) (k:Nat),l.Pairwise (fun p q=>p.2.1<q.2.1)->
  (Am l c=none/\og (Ku M k l) c=og M c)\/(∃p,Am l c=some p/\ ∃j,l[j]? =some p/\og (Ku M k l) c=((k+j+1:Nat):Int))
 |[],M,k,_=>.inl ⟨rfl,rfl⟩
 |p::l,M,k,h=>by
  obtain⟨h1,h2⟩:=List.pairwise_cons.1 h;have ih:=EL c l (rH M p.2.1 ((k+1:Nat):Int)) (k+1) h2;rw[Ku];unfold Am at*;rw[List.find?_cons];by_cases e:p.2.1=c
  ·rw[show(p.2.1==c)=true by simpa using e];refine .inr ⟨p,rfl,0,rfl, ?_⟩;rcases ih with ⟨i1,i2⟩|⟨q,i1,j,i2,i3⟩
   ·simp_all [aeX]
   grind
  ·rw[show(p.2.1==c)=false by simpa using e];rcases ih with ⟨i1,i2⟩|⟨q,i1,j,i2,i3⟩
   ·exact .inl ⟨i1,by rw[i2,aeX,if_neg (fun h=>e h.symm)]⟩
   ·exact .inr ⟨q,i1,j+1,i2,by omega⟩
def Ld (s:bH):List tX:=Ku [] 0 (dn s)
theorem YW {s:List UInt8} {c:Int} (h:Am (dn s) c=none):og (Ld s) c=0:=by
 rcases EL c (dn s) [] 0 (RI s)with ⟨_,h2⟩|⟨p,h1,_⟩
 ·exact h2
 simp_all
theorem YX {s:List UInt8} (hs:s.length<=10000) {c:Int} {p:kF} (h:Am (dn s) c=some p):
  bD (og (Ld s) c) 0=false/\fU (dn s) (eY .i64 (og (Ld s) c) 1)=true/\eu (dn s) (0,(0,(0,(0,(false,()))))) (eY .i64 (og (Ld s) c) 1)=p:=by
 rcases EL c (dn s) [] 0 (RI s)with ⟨h1,_⟩|⟨q,h1,j,h2,h3⟩
 ·simp_all
 ·rw[h]at h1;cases h1;obtain⟨hj,hv⟩:=List.getElem?_eq_some_iff.1 h2
  grind [OT,Ld,gI,dQ,dU,eu]
theorem RY (L:List kF) (hl:L.length<1000000) (a b c d:bH) (e:List kF) (f:List Int): ∀(N k:Nat) (M:List tX),L.length-k<N->k<=L.length->
  nX N L (bi L) (k:Int) a b c d e M f=some (.inl ((),((a,b,c,()),(),()),((d,e,()),Ku M k (L.drop k),(),f,())))
 |0,k,M,h,_=>by omega
 |N+1,k,M,h,hk=>by
  rw[nX,vT];by_cases e1:k<L.length
  ·have hg:eu L (0,(0,(0,(0,(false,()))))) (k:Int)=L[k]:=by
    simp_all [eu]
   rw[bI (eX (by rw[bz];omega)),bI (dU (by omega) (by omega)),hg,bM (by omega) (by omega),show(k:Int)+1=((k+1:Nat):Int) by omega,
    RY L hl a b c d e f N (k+1) _ (by omega) (by omega),aF e1,Ku]
  ·rw[dB (gB (by rw[bz];omega)),aK (by omega)];rfl
theorem alv {p:kF} (h0:0<=p.2.1) (h1:p.2.1<1000000):X0 (p.1,(p.2.1,(p.2.2.1,(p.2.2.2.1,(p.2.2.2.2.1,())))))=some (lone p,()):=by
 rw[X0,lone];simp only;rw[bM (by omega) (by omega)];by_cases h:p.1=12
 ·rw[bI (fQ h)]
  grind [fQ,dQ]
 simp_all [dQ]
theorem Yg {s:List UInt8} (hs:s.length<=10000) {p:kF} (pf:PF s p) (h:p.1=4\/p.1=5):
  ac7 (p.1,(p.2.1,(p.2.2.1,(p.2.2.2.1,(p.2.2.2.2.1,())))))=some (p.2.1+1,(Es p,())):=by
 have h0:=pf.f0;have h1:=pf.f1;have h2:=pf.t0;have h3:=pf.t1;have h4:=pf.sh;obtain⟨m,f,t,u,o,⟨⟩⟩:=p;have hb:ac7 (m,(f,(t,(u,(o,())))))=bif o then some (bT .i64 f 1,(yY (eY .i64 t 0) (bT .i64 f 1),()))else some (bT .i64 f 1,(yY (eY .i64 t 1) (bT .i64 f 1),())):=by
  rcases h with h|h
  ·simp only at h;subst h;rfl
  ·simp only at h;subst h;rfl
 simp only at h0 h1 h2 h3 h4 h ⊢;rw[hb];unfold Es yY;cases o with
 |true=>rw[cond_true,bM (by omega) (by omega),gI (by omega) (by omega),Int.sub_zero,if_neg (by omega)];rfl
 |false=>
  have:=h4 rfl (by omega);rw[cond_false,bM (by omega) (by omega),gI (by omega) (by omega),if_neg (by omega)];rfl
theorem Aq {a:List UInt8} (h:a.length<=140737488355328):dY (bJ a) 1=true:=DK (by rw[aeV];omega)
theorem Rz (h:bH):(h=[]/\bi (bJ h)=0)\/(h≠[]/\0<bi (bJ h)):=by
 rw[bz,aeV];cases h with
 |nil=>simp
 |cons a l=>simp
theorem Ih (s:bH) (hs:s.length<=10000) {to_:Int} (hto:to_<=s.length) (B:Int) (hB:B<=10000000000000) (w3:Int) (w4 w5:Bool) (w6:kF) (w7:bH) (w9 w10 w11 w12:Int) (w13:Bool) (w14:List Int) (w18:bH):
  ∀(N:Nat) (at_:Int) (ex:Bool) (h o:bH),0<N->to_-at_<N->0<=at_->at_<=s.length->(o.length:Int)+h.length<=B+10000*at_->
  ∃ex' h' o',jK N to_ ex at_ w3 w4 w5 w6 w7 (bJ h) w9 w10 w11 w12 w13 w14 s (dn s) (Ld s) w18 (bJ o)=
   some (.inl ((ex',()),((w3,w4,w5,w6,()),(w7,()),(),(),()),(bJ h',(w9,w10,w11,w12,w13,()),w14,(),(),(s,dn s,()),Ld s,(),(w18,()),bJ o',(),())))/\
   o'++h'=o++h++zT s (dn s) to_ N at_/\(o'.length:Int)+h'.length<=B+10000*s.length
 |0,at_,ex,h,o,hN,_,_,_,_=>by omega
 |N+1,at_,ex,h,o,hN,hlt,h0,h1,hh=>by
  (rewrite [jK,vV];delta kY kX jm gV dL;rw[zT])
  by_cases e:at_<to_
  ·have hup:= @ZJ s at_;have hsl:=SB s (dn s) at_;have keep: ∀(c:bH) (nx:Int),c=(kC s (dn s) at_).2.1->nx=(kC s (dn s) at_).1->nx<=s.length->
     ∃ex' h' o',(bif dY (bJ (h++c)) 1 then jK N to_ ex nx w3 w4 w5 w6 w7 (bJ (h++c)) w9 w10 w11 w12 w13 w14 s (dn s) (Ld s) w18 (bJ o)else none)=
      some (.inl ((ex',()),((w3,w4,w5,w6,()),(w7,()),(),(),()),(bJ h',(w9,w10,w11,w12,w13,()),w14,(),(),(s,dn s,()),Ld s,(),(w18,()),bJ o',(),())))/\
      o'++h'=o++h++((kC s (dn s) at_).2.1++zT s (dn s) to_ N (kC s (dn s) at_).1)/\(o'.length:Int)+h'.length<=B+10000*s.length:=by
    intro c nx hc hnx hle;subst hc hnx;rw[bI (Aq (by grind))];obtain⟨ex',h',o',r1,r2,r3⟩:=Ih s hs hto B hB w3 w4 w5 w6 w7 w9 w10 w11 w12 w13 w14 w18 N (kC s (dn s) at_).1 ex (h++(kC s (dn s) at_).2.1) o (by omega) (by omega) (by omega) hle (by grind)
    grind
   have push: ∀(l:bH) (nx:Int),l=o++h++(kC s (dn s) at_).2.1->nx=(kC s (dn s) at_).1->nx<=s.length->
     ∃ex' h' o',(bif dY (bJ l) 1 then jK N to_ true nx w3 w4 w5 w6 w7 [] w9 w10 w11 w12 w13 w14 s (dn s) (Ld s) w18 (bJ l)else none)=
      some (.inl ((ex',()),((w3,w4,w5,w6,()),(w7,()),(),(),()),(bJ h',(w9,w10,w11,w12,w13,()),w14,(),(),(s,dn s,()),Ld s,(),(w18,()),bJ o',(),())))/\
      o'++h'=o++h++((kC s (dn s) at_).2.1++zT s (dn s) to_ N (kC s (dn s) at_).1)/\(o'.length:Int)+h'.length<=B+10000*s.length:=by
    intro l nx hl hnx hle;subst hl hnx;rw[bI (Aq (by grind))];obtain⟨ex',h',o',r1,r2,r3⟩:=Ih s hs hto B hB w3 w4 w5 w6 w7 w9 w10 w11 w12 w13 w14 w18 N (kC s (dn s) at_).1 true [] (o++h++(kC s (dn s) at_).2.1) (by omega) (by omega) (by omega) hle (by grind);refine⟨ex',h',o',r1, ?_,r3⟩;simp_all
   have ha1:bT .i64 at_ 1=at_+1:=bM (by omega) (by omega);rw[bI (eX e),if_pos e];cases hf:Am (dn s) at_ with
   |none=>
    have hst:kC s (dn s) at_=(at_+1,sub s at_ (at_+1),false):=by unfold kC;rw[hf]
    rw[YW hf,show bD 0 0=true from rfl,cond_true,bI (dU h0 (by omega)),Xa h0 (by omega),o5,ha1]
    grind
   |some p=>
    obtain⟨pf,hpe⟩:=Ap hf;have t0:=pf.t0;have t1:=pf.t1;obtain⟨m1,m2,m3⟩:=YX hs hf;rw[m1,cond_false,m2,cond_true];simp only[m3];rw[alv pf.f0 (by omega),aY];by_cases hlone:lone p=true
    ·have hst:kC s (dn s) at_=(at_+1,sub s at_ (at_+1),false):=by simp_all [kC]
     rw[hlone,cond_true,bI (dU h0 (by omega)),Xa h0 (by omega),o5,ha1]
     grind
    ·rw[show lone p=false by simpa using hlone,cond_false];have hs2:eY .i64 p.2.2.1 p.2.1=p.2.2.1-p.2.1:=gI (by omega) (by omega);have ha2:bT .i64 p.2.1 1=p.2.1+1:=bM (by omega) (by omega);simp only[hs2,ha2,o5];by_cases h13:p.1=13
     ·have hes:=pf.es h13;have hst:kC s (dn s) at_=(p.2.2.1,agF s p,false):=by simp_all [kC]
      rw[bI (fQ h13)];by_cases hto2:p.2.2.1=p.2.1+2
      ·rw[dB (mr (by omega)),bI (dU (by omega) (by omega))];have hesc:agF s p=(if bK s (p.2.1+1)=36\/bK s (p.2.1+1)=96\/bK s (p.2.1+1)=34\/bK s (p.2.1+1)=92 then sub s (p.2.1+1) p.2.2.1
         else if bK s (p.2.1+1)=10 then []else yF s p):=by
        simp_all [agF]
       have hone:ofBytes [bK s (p.2.1+1)]=sub s (p.2.1+1) p.2.2.1:=by
        grind [Xa,Bd]
       simp only[hone];by_cases b1:bK s (p.2.1+1)=36
       ·simp_all [fQ]
       ·rw[dB (dQ b1)];by_cases b2:bK s (p.2.1+1)=96
        ·simp_all [fQ]
        ·rw[dB (dQ b2)];by_cases b3:bK s (p.2.1+1)=34
         ·simp_all [fQ]
         ·rw[dB (dQ b3)];by_cases b4:bK s (p.2.1+1)=92
          ·simp_all [fQ]
          ·rw[dB (dQ b4)];have hno: ¬(bK s (p.2.1+1)=36\/bK s (p.2.1+1)=96\/bK s (p.2.1+1)=34\/bK s (p.2.1+1)=92):=by omega
           by_cases b5:bK s (p.2.1+1)=10
           ·rw[bI (fQ b5)]
            grind
           ·rw[dB (dQ b5),bI (iP pf.f0 (by omega) (by rw[bz];omega))];exact keep _ _ (by rw[hst,hesc,if_neg hno,if_neg b5];rfl) (by rw[hst]) (by omega)
      ·rw[bI (eX (by omega))];exact keep _ _ (by simp_all [agF]) (by rw[hst]) (by omega)
     ·have hst:kC s (dn s) at_=(p.2.2.1,yF s p,true):=by simp_all [kC]
      rw[dB (dQ h13)];have hpt:gW (bi s) p.2.1 p.2.2.1=true:=iP pf.f0 (by omega) (by rw[bz];omega);simp only[Bd,o5,hpt,cond_true];rcases Rz h with ⟨he,hl⟩|⟨he,hl⟩
      ·subst he;rw[dB (mr (by omega))];exact push _ _ (by rw[hst,List.append_nil];rfl) (by rw[hst]) (by omega)
      ·rw[bI (eX hl),bI (Aq (by grind))];exact push _ _ (by rw[hst];rfl) (by rw[hst]) (by omega)
  ·rw[dB (gB e),if_neg e]
   grind
theorem Nv (s:bH) (hs:s.length<=10000) (w1 w6:bH): ∀(N:Nat) (at_:Int) (h o:bH),(s.length:Int)-at_<N->0<=at_->at_<=s.length->(o.length:Int)+h.length<=200000000*at_->
  ∃h' o',iL N at_ w1 (bJ h) s (dn s) (Ld s) w6 (bJ o)=
   some (.inl ((),((w1,()),(),(),()),(bJ h',(),(),(s,dn s,()),Ld s,(),(w6,()),bJ o',(),())))/\
   o'++h'=o++h++oG s (dn s) N at_/\(o'.length:Int)+h'.length<=200000000*s.length
 |0,at_,h,o,hN,_,_,_=>by omega
 |N+1,at_,h,o,hN,h0,h1,hh=>by
  (rewrite [iL,vU];delta qw qp qo qm ql gG jl jk mX bG;rw[oG])
  by_cases e:at_<s.length
  ·have hup:= @ZK s at_;have hle:=amR (s:=s) e;have hsl:(stepT s (dn s) at_).2.length<=100010000:=by
    have h1:=SC s (dn s) at_;have h2:s.length*s.length<=10000*10000:=Nat.mul_le_mul hs hs;omega
   have go: ∀(g l:bH) (nx:Int),l++g=o++h++(stepT s (dn s) at_).2->nx=(stepT s (dn s) at_).1->
     ∃h' o',iL N nx w1 (bJ g) s (dn s) (Ld s) w6 (bJ l)=
      some (.inl ((),((w1,()),(),(),()),(bJ h',(),(),(s,dn s,()),Ld s,(),(w6,()),bJ o',(),())))/\
      o'++h'=o++h++((stepT s (dn s) at_).2++oG s (dn s) N (stepT s (dn s) at_).1)/\(o'.length:Int)+h'.length<=200000000*s.length:=by
    intro g l nx hl hnx;subst hnx;have hlen:=congrArg List.length hl;simp only[ai]at hlen;obtain⟨h',o',r1,r2,r3⟩:=Nv s hs w1 w6 N (stepT s (dn s) at_).1 g l (by omega) (by omega) hle (by omega)
    grind
   have hb1: ∀x:bH,x.length<=200000000->dY (bJ (h++x)) 1=true:=fun x hx=>Aq (by grind);have hb2: ∀x:bH,x.length<=200000000->dY (bJ (o++x)) 1=true:=fun x hx=>Aq (by grind);have hb4:dY (bJ (o++h)) 1=true:=Aq (by grind);have hb3: ∀x:bH,x.length<=200000000->dY (bJ (o++h++x)) 1=true:=fun x hx=>Aq (by grind);have ha1:bT .i64 at_ 1=at_+1:=bM (by omega) (by omega);have hsub: ∀a b,(sub s a b).length<=200000000:=fun a b=>by grind [Jo]
   rw[bI (eX (b:=bi s) e),if_pos e];cases hf:Am (dn s) at_ with
   |none=>
    have hst:stepT s (dn s) at_=(at_+1,sub s at_ (at_+1)):=by unfold stepT;rw[hf]
    rw[YW hf,show bD 0 0=true from rfl,cond_true];simp_all [Xa,o5,dU,FC,dZ]
   |some p=>
    obtain⟨pf,hpe⟩:=Ap hf;have t0:=pf.t0;have t1:=pf.t1;obtain⟨m1,m2,m3⟩:=YX hs hf;have hpt:gW (bi s) p.2.1 p.2.2.1=true:=iP pf.f0 (by omega) (by rw[bz];omega);have hpt1:gW (bi s) (p.2.1+1) p.2.2.1=true:=iP (by omega) (by omega) (by rw[bz];omega);have ha2:bT .i64 p.2.1 1=p.2.1+1:=bM (by omega) (by omega);rw[m1,cond_false,m2,cond_true];simp only[m3];rw[alv pf.f0 (by omega),aY];simp only[ha2,hpt,hpt1,Bd,o5,cond_true,hb1 _ (hsub _ _),hb2 _ (hsub _ _),hb3 _ (hsub _ _),hb4];have flush: ∀(x:bH),x.length<=200000000->x=(stepT s (dn s) at_).2->p.2.2.1=(stepT s (dn s) at_).1->
     ∃h' o',(bif gQ h []then iL N p.2.2.1 w1 [] s (dn s) (Ld s) w6 (bJ (o++x))
      else iL N p.2.2.1 w1 [] s (dn s) (Ld s) w6 (bJ (o++h++x)))=
      some (.inl ((),((w1,()),(),(),()),(bJ h',(),(),(s,dn s,()),Ld s,(),(w6,()),bJ o',(),())))/\
      o'++h'=o++h++((stepT s (dn s) at_).2++oG s (dn s) N (stepT s (dn s) at_).1)/\(o'.length:Int)+h'.length<=200000000*s.length:=by
     intro x hx hxe hnx;by_cases he:h=[]
     ·subst he;rw[bI (by rfl)];exact go [] _ _ (by rw[<-hxe];simp) hnx
     ·rw[dB (by simpa [gQ] using he)];exact go [] _ _ (by rw[<-hxe];simp) hnx
    by_cases hpl':lone p=true\/p.1=14
    ·have hst:stepT s (dn s) at_=(p.2.2.1,yF s p):=by simp_all [stepT]
     have:=go (h++sub s p.2.1 p.2.2.1) o p.2.2.1 (by rw[hst,ah];rfl) (by rw[hst]);by_cases hlone:lone p=true
     ·simp_all
     ·have h14:p.1=14:=hpl'.resolve_left hlone;simp only[show lone p=false by simpa using hlone,h14,show bD 14 14=true from rfl,cond_true,cond_false];exact this
    ·have hlone:lone p=false:=by
      simp_all
     have h14:p.1≠14:=fun h=>hpl' (.inr h);simp only[hlone,dQ h14,cond_false];by_cases h13:p.1=13
     ·have hes:=pf.es h13;have hst:stepT s (dn s) at_=(p.2.2.1,agG s p):=by simp_all [stepT]
      simp only[fQ h13,dQ (show p.1≠4 by omega),cond_true,cond_false];by_cases hto2:p.2.2.1=p.2.1+2
      ·have hone:sub s (p.2.1+1) p.2.2.1=[s.getD (p.2.1+1).toNat 0]:=by
        obtain⟨n,hn⟩:=Int.eq_ofNat_of_zero_le (show 0<=p.2.1+1 by omega);have hn2:n<s.length:=by omega
        rw[hn,show p.2.2.1=((n+1:Nat):Int) by omega,Dv,aF hn2,List.take_succ_cons,List.take_zero,Int.toNat_natCast,List.getD_eq_getElem?_getD,List.getElem?_eq_getElem hn2];rfl
       have hne:gQ (sub s (p.2.1+1) p.2.2.1) []=false:=by rw[hone];simp[gQ]
       rw[hne,aB,cond_true];by_cases b5:bK s (p.2.1+1)=10
       ·have:gQ (sub s (p.2.1+1) p.2.2.1) [10]=true:=by
         rw[hone];unfold bK at b5;have h10:s.getD (p.2.1+1).toNat 0=10:=UInt8.toNat_inj.1 (by show _=10;omega);rw[h10];rfl
        simp_all [agG]
       ·have:gQ (sub s (p.2.1+1) p.2.2.1) [10]=false:=by
         rw[hone];have hq:s.getD (p.2.1+1).toNat 0≠10:=fun h=>b5 (by unfold bK;rw[h];rfl);simpa [gQ] using hq
        rw[this,aB,cond_true];exact flush _ (hsub _ _) (by simp_all [agG]) (by rw[hst])
      ·have hnil:sub s (p.2.1+1) p.2.2.1=[]:=by
        grind [sub]
       rw[hnil,show(!gQ ([]:bH) [])=false from rfl,cond_false];simp_all [agG]
     ·simp only[dQ h13,cond_false];by_cases h4:p.1=4
      ·have hst:stepT s (dn s) at_=(p.2.2.1,sub s (p.2.1+1) (Es p)):=by simp_all [stepT]
       have hen:p.2.1+1<=Es p/\Es p<=p.2.2.1:=by
        unfold Es;by_cases ho:p.2.2.2.2.1=true
        ·grind
        ·rw[if_neg ho];have:=pf.sh (by simpa using ho) (by omega);omega
       simp only[fQ h4,cond_true];rw[Yg hs pf (.inl h4),aY];simp only[iP (n:=bi s) (lo:=p.2.1+1) (hi:=Es p) (by omega) hen.1 (by rw[bz];omega),cond_true,hb2 _ (hsub _ _),hb3 _ (hsub _ _)];exact flush _ (hsub _ _) (by rw[hst]) (by rw[hst])
      ·simp only[dQ h4,cond_false];by_cases h5:p.1=5
       ·have hst:stepT s (dn s) at_=(p.2.2.1,zT s (dn s) (Es p) s.length (p.2.1+1)):=by simp_all [stepT]
        have hen:p.2.1+1<=Es p/\Es p<=p.2.2.1:=by
         unfold Es;by_cases ho:p.2.2.2.2.1=true
         ·grind
         ·rw[if_neg ho];have:=pf.sh (by simpa using ho) (by omega);omega
        simp only[fQ h5,cond_true,Yg hs pf (.inr h5),aY];have dbl: ∀(q:bH),q=o++h-> ∃ex' h' o',jK bC (Es p) false (p.2.1+1) p.2.2.1 true true (p.1,(p.2.1,(p.2.2.1,(p.2.2.2.1,(p.2.2.2.2.1,()))))) w1 [] p.1 p.2.1 p.2.2.1 p.2.2.2.1 p.2.2.2.2.1 (bJ h) s (dn s) (Ld s) w6 (bJ q)=
          some (.inl ((ex',()),((p.2.2.1,true,true,(p.1,(p.2.1,(p.2.2.1,(p.2.2.2.1,(p.2.2.2.2.1,()))))),()),(w1,()),(),(),()),(bJ h',(p.1,p.2.1,p.2.2.1,p.2.2.2.1,p.2.2.2.2.1,()),bJ h,(),(),(s,dn s,()),Ld s,(),(w6,()),bJ o',(),())))/\
          o'++h'=o++h++(stepT s (dn s) at_).2:=by
         intro q hq;obtain⟨ex',h',o',r1,r2,r3⟩:=Ih s hs (to_:=Es p) (by omega) 10000000000000 (by omega) p.2.2.1 true true (p.1,(p.2.1,(p.2.2.1,(p.2.2.2.1,(p.2.2.2.2.1,()))))) w1 p.1 p.2.1 p.2.2.1 p.2.2.2.1 p.2.2.2.2.1 (bJ h) w6 bC (p.2.1+1) false [] q (by unfold bC;omega) (by have:=dC (n:=s.length) (by omega);omega) (by omega) (by omega) (by grind);refine⟨ex',h',o',r1, ?_⟩
         grind [QQ,bC]
        have tail: ∀(ex':Bool) (h' o':bH),o'++h'=o++h++(stepT s (dn s) at_).2->
          ∃h'' o'',(bif bD (bi (bJ h')) 0 then
            bif ex' then iL N p.2.2.1 w1 [] s (dn s) (Ld s) w6 (bJ o')
            else bif dY (bJ (o'++h')) 1 then iL N p.2.2.1 w1 [] s (dn s) (Ld s) w6 (bJ (o'++h'))else none
           else bif dY (bJ (o'++h')) 1 then iL N p.2.2.1 w1 [] s (dn s) (Ld s) w6 (bJ (o'++h'))else none)=
           some (.inl ((),((w1,()),(),(),()),(bJ h'',(),(),(s,dn s,()),Ld s,(),(w6,()),bJ o'',(),())))/\
           o''++h''=o++h++((stepT s (dn s) at_).2++oG s (dn s) N (stepT s (dn s) at_).1)/\(o''.length:Int)+h''.length<=200000000*s.length:=by
         intro ex' h' o' ho;have hlen:=congrArg List.length ho;simp only[ai]at hlen;have hfit:dY (bJ (o'++h')) 1=true:=Aq (by grind);have g1:=go [] (o'++h') p.2.2.1 (by simp_all) (by rw[hst]);rw[hfit,cond_true];rcases Rz h' with ⟨he,hl⟩|⟨he,hl⟩
         ·rw[bI (fQ hl)];rw[he,List.append_nil]at g1 ⊢;cases ex'<;>exact g1
         ·rw[dB (dQ (by omega))];exact g1
        by_cases he:h=[]
        ·rw[bI (by rw[he];rfl)];obtain⟨ex',h',o',r1,r2⟩:=dbl o (by simp_all);rw[r1,aY];simp only[dA,cond_true,Bd,o5];exact tail ex' h' o' r2
        ·rw[dB (by simpa [gQ] using he)];obtain⟨ex',h',o',r1,r2⟩:=dbl (o++h) rfl;rw[r1,aY];simp only[dA,cond_true,Bd,o5];exact tail ex' h' o' r2
       ·have hst:stepT s (dn s) at_=(p.2.2.1,yF s p):=by simp_all [stepT]
        simp only[dQ h5,cond_false];exact flush _ (hsub _ _) (by rw[hst];rfl) (by rw[hst])
  ·rw[dB (gB (by rw[bz];omega)),if_neg e]
   grind
theorem asa (s:bH) (hs:s.length<=10000):acM s=some (Xm s,()):=by
 have hl:=OT s;rw[acM,aye s (by omega),aY];simp only;have h1:=RY (dn s) (by omega) s [] s s (dn s) [] bC 0 [] (dC (by omega)) (by omega);rw[show nX bC (dn s) (bi (dn s)) 0 s [] s s (dn s) [] []=_ from h1,aY];simp only[dA,List.drop_zero];obtain⟨h',o',r1,r2,r3⟩:=Nv s hs [] [] bC 0 [] [] (by have:=dC (n:=s.length) (by omega);omega) (by omega) (by omega) (by simp);rw[show iL bC 0 [] [] s (dn s) (Ku [] 0 (dn s)) [] []=_ from r1,aY];have hm:oG s (dn s) bC 0=Xm s:=MP s _ _ _ (by have:=dC (n:=s.length) (by omega);omega) (by omega);rw[hm,aQ,aQ]at r2;simp only[dA,Bd,o5,dZ,cond_true];rw[bI (Aq (by grind)),r2];by_cases he:h'=[]
 ·simp_all
 simp_all [dB,gQ]
end
section
open Bool renaming false_eq_true → ag, not_true → ax, and_true → ay, not_false → aB
open List renaming length_cons → az, drop_eq_getElem_cons → aF, length_drop → aU
open Go.RowKit
theorem acs {l:List Dlm} (h:l.length<=1000000):pz l=some (l,()):=by
 grind [pz,sW,DK]
theorem aiy {s:List UInt8} (hs:s.length<=10000) {a:Nat} (ha:a<s.length):XV s (a:Int)=some (((zN s a:Nat):Int),()):=by
 grind [av6,zN]
theorem aiP {s:List UInt8} {a:Nat} (ha:a<s.length):zS (s.drop a)≠0↔wE (bK s a)=true\/JF (s.drop a)=true:=by
 grind [byte_at,aF,MV]
theorem aiJ (t:bH): ∀n,(QJ t n).2≠0->ofF (t.take (QJ t n).2)=(QJ t n).1
 |0,h=>absurd rfl h
 |n+1,h=>by
  rw[QJ]at h ⊢;split
  ·rfl
  ·rename_i h1
   rw[if_neg h1]at h;exact aiJ t n h
theorem an2 {s:List UInt8} (hs:s.length<=10000) {a:Nat} (ha:a<s.length):acC s (a:Int)=some (pR s a,()):=by
 have hin:fU s (a:Int)=true:=dU (by omega) (by omega);obtain⟨k,h1,h2,h3⟩:=au6 (pJ s a);have hz:=aiP ha
 (rewrite [acC];delta Ue;rw[ayb (by omega) ha,aY,bI hin,h1,aY])
 simp only[h2,hin,cond_true,ajc (show a<=s.length by omega),aY,aon (show s.length<1000000 by omega) (show a<=s.length by omega)];by_cases hb:zS (s.drop a)≠0
 ·have hpl:pR s a=(1,(a:Int),((a+zS (s.drop a):Nat):Int),false,()):=by simp_all [pR]
  grind
 ·have h4:wE (bK s (a:Int))=false:=by
   simp_all
  have h5:JF (s.drop a)=false:=by
   simp_all
  rw[h4,h5,cond_false,cond_false];unfold pR;rw[if_neg hb];by_cases h10:bK s (a:Int)=10
  ·rw[bI (fQ h10),if_pos h10,bM (by omega) (by omega)];rfl
  ·rw[dB (dQ h10),if_neg h10];by_cases h35:bK s (a:Int)=35
   ·rw[bI (fQ h35),if_pos h35,aln (by omega) (by omega),aY]
   ·rw[dB (dQ h35),if_neg h35];have ho:=(adT (s.drop a)).1;rw[aU]at ho;by_cases hop:(P9 (s.drop a)).2≠0
    ·rw[bI (eX (by omega)),if_pos hop]
     grind [bM]
    ·rw[dB (mr (by omega)),if_neg hop,alP (by omega) (by omega),aY];by_cases hn:UY (s.drop a)≠0
     ·rw[bI (eX (by omega)),if_pos hn,aY]
     ·rw[dB (mr (by omega)),if_neg hn,aiy hs ha,aY];have hw:=Z4 (s:=s) (a:=a) (by omega);have hc:=XB (s:=s) (a:=a) (b:=zN s a);obtain⟨t,t1,t2⟩:=aeY (XA s a (zN s a)) (by omega);simp only;rw[bI (iP (by omega) (by omega) (by rw[bz];omega)),aeD,t1,aY];simp only;rw[t2];rfl
theorem aiN {s:List UInt8} (hs:s.length<=10000) {a:Nat} (ha:a<s.length) {x:Xd} (hl:x.2.1.length<=100000):
  acD (sub s (pR s a).2.1 (pR s a).2.2.1) (pR s a).1 (x.1,(x.2.1,(x.2.2.1,())))=some (Cj s a x,()):=by
 rw[acD];simp only[acs (show x.2.1.length<=1000000 by omega),aY];unfold pR Cj;by_cases hb:zS (s.drop a)≠0
 ·rw[if_pos hb,if_pos hb];rfl
 ·rw[if_neg hb,if_neg hb];by_cases h10:bK s (a:Int)=10
  ·have hlt:iq 0 (bi x.2.1)=decide (0<x.2.1.length):=by
    simp_all [iq,bi]
   rw[if_pos h10,if_pos h10,<-hlt];rfl
  ·rw[if_neg h10,if_neg h10];by_cases h35:bK s (a:Int)=35
   ·rw[if_pos h35,if_pos h35];rfl
   ·rw[if_neg h35,if_neg h35];by_cases hop:(P9 (s.drop a)).2≠0
    ·rw[if_pos hop,if_pos hop];simp only;rw[show bD 4 1=false from rfl,cond_false,show bD 4 2=false from rfl,cond_false,show bD 4 4=true from rfl,cond_true,Dv,alQ,aY];have:ofF ((s.drop a).take (P9 (s.drop a)).2)=(P9 (s.drop a)).1:=aiJ _ _ hop;rw[this];simp only;by_cases h4:(P9 (s.drop a)).1=4
     ·simp_all [fQ]
     ·rw[dB (dQ (by omega))];by_cases h5:(P9 (s.drop a)).1=5
      ·simp_all [fQ]
      ·rw[dB (dQ (by omega)),if_neg (by omega)]
    ·rw[if_neg hop,if_neg hop];by_cases hn:UY (s.drop a)≠0
     ·rw[if_pos hn,if_pos hn];rfl
     ·rw[if_neg hn,if_neg hn];have hc:=XB (s:=s) (a:=a) (b:=zN s a);simp only;rw[show bD 6 1=false from rfl,cond_false,show bD 6 2=false from rfl,cond_false,show bD 6 4=false from rfl,cond_false,show bD 6 6=true from rfl,cond_true,aeD];by_cases h0:x.1=0
      ·simp_all [fQ]
      ·have h5:bD x.1 5=decide (x.1=5):=rfl;have hfit: ∀y,dY (bF x.2.1 [y]) 24=true:=fun y=>DK (by grind [bF]);rw[dQ h0,aB,cond_true,if_neg h0,asa _ (by omega),aY];simp only[FC,dZ,qK,hfit,cond_true,ay];rfl
theorem ase {s:List UInt8} (hs:s.length<=10000) {a:Nat} (ha:a<s.length) (x:Xd) (hp:x.2.2.1=true->x.2.1≠[]) (hl:x.2.1.length<=100000):
  aoN s (a:Int) x=some ((lF s a x).1,((lF s a x).2,())):=by
 obtain⟨aw,pd,bd,u⟩:=x;cases u;simp only at hp hl
 (rewrite [aoN];delta aaO aaN;rw[dB (mr (by omega)),dB (YG (by rw[bz];omega))])
 unfold lF;cases bd with
 |true=>
  obtain⟨d,r,rfl⟩: ∃d r,pd=d::r:=by
   cases pd with
   |nil=>simp_all
   |cons d r=>simp
  simp only[cond_true,if_true];rw[bI (eX (by simp_all [bz])),ako];simp only;rw[bI (dU (by omega) (by simp)),show eu (d::r) ([],(false,())) 0=d from rfl,aub (by omega) d (by omega),aY];simp only[List.headD_cons];by_cases hh:(JR s d.1 d.2.1 a).2=true
  rotate_left
  ·rw[Bool.not_eq_true]at hh;simp only[hh,ag,if_false,aB,cond_true,dZ,lU,qK,ay,aY]
  ·have hsb:sub (d::r) 1 (bi (d::r))=r:=by simp[sub,bz]
   have hlt:iq 0 (bi r)=decide (1<(d::r).length):=by
    simp_all [iq,bi]
   have hpt:gW (bi (d::r)) 1 (bi (d::r))=true:=iP (by omega) (by grind [bz]) (by omega);rw[az]at hl;simp only[hh,if_true,ax,cond_false,hpt,hsb,cond_true,acs (show r.length<=1000000 by omega),aY,dZ,qK,ay,hlt];rfl
 |false=>
  simp only[cond_false,ag,if_false];have ht:=Hy hs ha (aw,(pd,(false,())));have hs1:lF s a (aw,(pd,(false,())))=(pR s a,Cj s a (aw,(pd,(false,())))):=by rfl
  rw[hs1]at ht;simp only at ht;rw[an2 hs ha,aY];simp only;have hpt:gW (bi s) (pR s a).2.1 (pR s a).2.2.1=true:=iP (by omega) (by omega) (by rw[bz];omega);rw[hpt,cond_true,aiN hs ha (x:=(aw,(pd,(false,())))) hl,aY];simp only[FC,dZ,qK,lU,cond_true,ay]
theorem Rj {s:List UInt8} (hs:s.length<=10000) (v13:Int) (v14:Bool): ∀(N a:Nat) (l:List Tok) (x:Xd) (t:Tok),s.length-a<N->a<=s.length->OkX x->x.2.1.length<=a->l.length<=a->
  tC N (a:Int) t.1 t.2.1 t.2.2.1 t.2.2.2.1 x.1 x.2.1 x.2.2.1 s l x.1 x.2.1 x.2.2.1 v13 v14=
   some (.inl ((),((),(),(),()),((s,()),(),(ul s N a l x).1,((ul s N a l x).2.1,(ul s N a l x).2.2.1,(ul s N a l x).2.2.2.1,()),(),(v13,v14,()),())))
 |0,a,l,x,t,h,_,_,_,_=>by omega
 |N+1,a,l,x,t,h,ha,hx,hp,hl=>by
  rw[tC,Dq,ul];by_cases e:a<s.length
  ·have hto:=Hy hs e x;have hok:=ZL s a hx;have hx':(x.1,(x.2.1,(x.2.2.1,())))=x:=rfl;rw[bI (eX (by rw[bz];omega)),hx',ase hs e x hx (by omega),aY,if_pos e];have hfit: ∀y,dY (bF l [y]) 32=true:=fun y=>DK (by grind [bF]);simp only[hfit,dZ,qK,lU,cond_true,ay];obtain⟨b,hb⟩: ∃b:Nat,(lF s a x).1.2.2.1=(b:Int):=⟨(lF s a x).1.2.2.1.toNat,by omega⟩;have ih:=Rj hs v13 v14 N b (l++[(lF s a x).1]) (lF s a x).2 (lF s a x).1 (by omega) (by omega) hok.1 (by omega) (by grind);rw[hb]at ih ⊢;rw[Int.toNat_natCast,<-ih];rw[<-hb];rfl
  simp_all [gB,bz,if_neg]
theorem aq4 {s:List UInt8} (hs:s.length<=10000):akt s=some ((eU s).1,((eU s).2,())):=by
 have h:=Rj hs 0 false bC 0 [] (0,[],false,()) (0,0,0,false,()) (dC (by omega)) (by omega) (fun h=>by cases h) (by simp) (by simp);have hm:ul s bC 0 [] (0,[],false,())=eU s:=Ri hs _ _ _ _ _ (by have:=dC (n:=s.length) (by omega);omega) (by omega);rw[akt,show tC bC 0 0 0 0 false 0 [] false s [] 0 [] false 0 false=_ from h,aY,hm];rfl
end
section
open Bool renaming and_true → ay
open List renaming length_append → ai, length_map → aI, getElem_mem → aJ, length_singleton → aO
open Go.RowKit
theorem Gh {s:List UInt8} (hs:s.length<=10000) (l:List Tok) (hl:l.length<=10000) (hok: ∀t∈l,OkT s t): ∀(N k:Nat),l.length-k<N->k<=l.length->
  AU N s l (bi l) (k:Int) (dX s (l.take k))=some (.inl ((),(dX s l,())))
 |0,k,h,_=>by omega
 |N+1,k,h,hk=>by
  (rewrite [AU,WE];delta yh qY dD)
  by_cases e:k<l.length
  ·have hg:eu l (0,(0,(0,(false,())))) (k:Int)=l[k]:=by
    unfold eu;rw[Int.toNat_natCast,List.getD_eq_getElem?_getD,List.getElem?_eq_getElem e];rfl
   have hin:fU l (k:Int)=true:=dU (by omega) (by omega);obtain⟨o1,o2,o3⟩:=hok _ (aJ e);have hpt:gW (bi s) l[k].2.1 l[k].2.2.1=true:=iP o1 (by omega) (by rw[bz];omega);have hlen:(dX s (l.take k)).length<=10000:=by
    unfold dX;rw[aI];have:=List.length_filter_le akK (l.take k);rw[List.length_take]at this;omega
   have hfit: ∀y,dY (bF (dX s (l.take k)) [y]) 40=true:=fun y=>DK (by unfold bF;simp only[ai,aO];omega);have ih:=Gh hs l hl hok N (k+1) (by omega) (by omega);have hts:l.take (k+1)=l.take k++[l[k]]:=by rw[List.take_add_one,List.getElem?_eq_getElem e];rfl
   have hadd:bT .i64 (k:Int) 1=((k+1:Nat):Int):=by rw[bM (by omega) (by omega)];omega
   have t1:iq l[k].2.1 0=false:=mr (by omega);have t2:iq l[k].2.2.1 l[k].2.1=false:=mr (by omega);have t3:iq (bi s) l[k].2.2.1=false:=mr (by rw[bz];omega);have htx:aoJ s (l[k].1,(l[k].2.1,(l[k].2.2.1,(l[k].2.2.2.1,()))))=some (sub s l[k].2.1 l[k].2.2.1,()):=by
    rw[aoJ];simp only[t1,t2,t3,hpt,cond_true,cond_false]
   have yes:akK l[k]=true->AU N s l (bi l) ((k+1:Nat):Int) (bF (dX s (l.take k)) [(l[k].1,(sub s l[k].2.1 l[k].2.2.1,(l[k].2.1,(l[k].2.2.1,()))))])=some (.inl ((),(dX s l,()))):=fun hy=>by
    rw[<-ih];congr 1;unfold dX;rw[hts,List.filter_append,List.map_append,List.filter_cons_of_pos hy];rfl
   have no:akK l[k]=false->AU N s l (bi l) ((k+1:Nat):Int) (dX s (l.take k))=some (.inl ((),(dX s l,()))):=fun hy=>by
    rw[<-ih];congr 1;unfold dX;rw[hts,List.filter_append,List.filter_cons_of_neg (by rw[hy];simp)];simp
   rw[bI (eX (by rw[bz];omega)),hin,cond_true];simp only[hg,t1,t2,t3,cond_false,hadd,htx,aY,dZ,FC,qK,ay,cond_true,hfit];unfold akK at yes no;by_cases h4:l[k].1=4
   ·simp only[fQ h4,cond_true];exact yes (by simp[h4])
   ·by_cases h5:l[k].1=5
    ·simp only[dQ h4,fQ h5,cond_true,cond_false];exact yes (by simp[h5])
    ·by_cases h6:l[k].1=6
     ·simp only[dQ h4,dQ h5,fQ h6,cond_true,cond_false];exact yes (by simp[h6])
     ·by_cases h2:l[k].1=2
      ·simp only[dQ h4,dQ h5,dQ h6,fQ h2,cond_true,cond_false];exact yes (by simp[h2])
      ·simp only[dQ h4,dQ h5,dQ h6,dQ h2,cond_true,cond_false];exact no (by simp[h2,h4,h5,h6])
  ·rw[dB (gB (by rw[bz];omega)),List.take_of_length_le (by omega)]
theorem Xh {s:List UInt8} (hs:s.length<=10000):aku s (eU s).1=some (dX s (eU s).1,()):=by
 obtain⟨h1,h2,h3⟩:=yR hs;have h:=Gh hs (eU s).1 (by omega) h1 bC 0 (dC (by omega)) (by omega);rw[aku,show AU bC s (eU s).1 (bi (eU s).1) 0 []=_ from h,aY];rfl
end
section
open Bool renaming and_eq_true → af, not_true → ax, not_false → aB, true_and → aH
open List renaming append_assoc → ah, length_cons → az, drop_of_length_le → aK, all_cons → aS
open Nat renaming le_refl → ae
open Go.RowKit
def Zy (c:UInt8):Bool:=match at1 (c.toNat:Int)with
 |some (b,_)=>b
 |none=>false
def avO:Bool:=(List.range 256).all fun b=>match acE (b:Int),at1 (b:Int),F5 (b:Int) [36,96,34,92]with
 |some (x,_),some (y,_),some (z,_)=>(x==y)&&(z==(bD b 36||(bD b 96||(bD b 34||bD b 92))))
 |_,_,_=>false
theorem aqP:avO=true:=by kernel_rfl
theorem aqO (c:UInt8):acE (c.toNat:Int)=some (Zy c,())/\at1 (c.toNat:Int)=some (Zy c,())/\F5 (c.toNat:Int) [36,96,34,92]=some ((bD (c.toNat:Int) 36||(bD (c.toNat:Int) 96||(bD (c.toNat:Int) 34||bD (c.toNat:Int) 92))),()):=by
 have h:=List.all_eq_true.1 aqP c.toNat (List.mem_range.2 (by have:=c.toNat_lt;omega));split at h
 ·rename_i x u y v k w h1 h2 h3
  simp only[af,beq_iff_eq]at h;unfold Zy;simp_all
 ·cases h
theorem arx {c n:UInt8} (h:c=n):bD (c.toNat:Int) (n.toNat:Int)=true:=fQ (by rw[h])
theorem arw {c n:UInt8} (h:c≠n):bD (c.toNat:Int) (n.toNat:Int)=false:=dQ fun e=>h (UInt8.toNat_inj.1 (by omega))
def aml (s:bH):Bool:=O4.contains s
theorem aad (s:bH):acN s=some (aml s,()):=by
 by_cases h:O4.contains s=true
 ·unfold aml;rw[h];rcases adO h with rfl|rfl|rfl|rfl|rfl|rfl|rfl|rfl|rfl|rfl|rfl|rfl|rfl|rfl|rfl|rfl<;>kernel_rfl
 ·have h':O4.contains s=false:=by simpa using h
  have hne: ∀w∈O4,gQ s w=false:=fun w hw=>FB fun e=>by simp_all
  unfold aml;(rewrite [h',acN];delta jF);simp only[hne [33] (by decide),hne [123] (by decide),hne [125] (by decide),hne [99,97,115,101] (by decide),hne [100,111] (by decide),hne [100,111,110,101] (by decide),hne [101,108,105,102] (by decide),hne [101,108,115,101] (by decide),hne [101,115,97,99] (by decide),hne [102,105] (by decide),hne [102,111,114] (by decide),hne [105,102] (by decide),hne [105,110] (by decide),hne [116,104,101,110] (by decide),hne [117,110,116,105,108] (by decide),hne [119,104,105,108,101] (by decide),cond_false];rfl
theorem aec: ∀s:bH,bD ((oz s:Nat):Int) (bi s)=s.all isD
 |[]=>rfl
 |c::s=>by
  have ih:=aec s;unfold oz at ih ⊢;rw[List.takeWhile_cons,aS];cases isD c with
  |true=>
   rw[aH,<-ih];simp only[if_true,az,bz]
   grind [fQ,dQ]
  |false=>rfl
def O5 (s:bH):Bool:=aml s||(!s.isEmpty&&s.all isD)
theorem aqM {s:List UInt8} (hs:s.length<4000000):acF s=some (O5 s,()):=by
 rw[acF,aad,aY];unfold O5;cases aml s with
 |true=>rfl
 |false=>
  cases s with
  |nil=>rfl
  |cons c r=>
   simp only[cond_false,Bool.false_or,List.isEmpty_cons,aB,aH];rw[bI (by rfl),show xK (c::r) 0=_ from L9 hs (Nat.zero_le _),aY,List.drop_zero]
   grind [aec]
def pl1 (risk:Bool) (c:UInt8):bH:=if c=10 then [39,10,39]else if Zy c=false\/risk=true then [92,c]else [c]
def QN (s:bH):bH:=s.flatMap (pl1 false)
def uu (s:bH):bH:=match s with
 |[]=>[39,39]
 |c::r=>pl1 (O5 s) c++QN r
theorem Lu (b:Bool) (c:UInt8):(pl1 b c).length<=3:=by grind [pl1]
theorem MW (c:UInt8) (r:bH):QN (c::r)=pl1 false c++QN r:=rfl
theorem QO: ∀s:bH,(QN s).length<=3*s.length
 |[]=>ae _
 |c::r=>by have:=QO r;grind [Lu,MW]
theorem Kt {s:List UInt8} (hs:s.length<=2000000) (N k:Nat) (out:bH) (e:k<s.length) (ho:out.length<=3*k):
  yX (N+1) s (bi s) (k:Int) (bJ out)=yX N s (bi s) ((k+1:Nat):Int) (bJ (out++pl1 (decide (k=0)&&O5 s) s[k])):=by
 (rewrite [yX,Pq];delta yj BN)
 have hin:fU s (k:Int)=true:=dU (by omega) (by omega);have hk:bT .i64 (k:Int) 1=((k+1:Nat):Int):=by grind [bM]
 have hc:[((s[k].toNat:Nat):Int)]=bJ [s[k]]:=rfl;have h92:[(92:Int)]=bJ [92]:=rfl;have f1: ∀x:bH,x.length<=3->dY (bJ (out++x)) 1=true:=fun x hx=>Aq (by grind);rw[bI (eX (by rw[bz];omega))];simp only[hin,cond_true,byte_at e,hk,(aqO s[k]).1,aY,hc,h92,o5,ah,f1 _ (show([39,10,39]:bH).length<=3 by decide),f1 _ (show([92]:bH).length<=3 by decide),f1 _ (show([s[k]]:bH).length<=3 by simp),f1 _ (show(([92]:bH)++[s[k]]).length<=3 by simp)];unfold pl1;by_cases h:s[k]=10
 ·rw[show(10:Int)=(((10:UInt8).toNat:Nat):Int) from rfl,arx h,if_pos h];rfl
 ·rw[show(10:Int)=(((10:UInt8).toNat:Nat):Int) from rfl,arw h,if_neg h,cond_false];cases hsf:Zy s[k]with
  |false=>rfl
  |true=>
   simp only[ax,cond_false];by_cases h0:k=0
   ·subst h0;rw[bI (b:=bD ((0:Nat):Int) 0) (fQ rfl),aqM (by omega),aY,decide_eq_true rfl,aH]
    grind
   simp_all [dQ]
theorem Kr {s:List UInt8} (hs:s.length<=2000000): ∀(N k:Nat) (out:bH),s.length-k<N->1<=k->k<=s.length->out.length<=3*k->
  yX N s (bi s) (k:Int) (bJ out)=some (.inl ((),((),bJ (out++QN (s.drop k)),())))
 |0,k,out,h,_,_,_=>by omega
 |N+1,k,out,h,h1,hk,ho=>by
  by_cases e:k<s.length
  ·have hp:=Lu (decide (k=0)&&O5 s) s[k];rw[Kt hs N k out e ho,Kr hs N (k+1) _ (by omega) (by omega) (by omega) (by grind),CB e,MW,ah,decide_eq_false (by omega),Bool.false_and]
  simp_all [yX,Pq,gB,bz,aK,QN,BN,yj]
theorem al8 {s:List UInt8} (hs:s.length<=2000000):aoO s=some (uu s,()):=by
 rw[aoO];cases s with
 |nil=>rfl
 |cons c r=>
  have h1:=Kt (s:=c::r) hs (bC-1) 0 [] (by simp) (by simp);rw[show bC-1+1=bC by unfold bC;omega]at h1;have hp:=Lu (O5 (c::r)) c;rw[az]at hs;have h2:=Kr (s:=c::r) (by assumption) (bC-1) 1 (pl1 (O5 (c::r)) c) (by grind [bC]) (ae _) (by simp) (by omega);rw[dB (FB (by simp)),show yX bC (c::r) (bi (c::r)) 0 []=_ from h1.trans h2,aY];simp only[dA,dZ,cond_true,Bd];rfl
end
section
open Bool renaming false_eq_true → ag
open List renaming append_assoc → ah, length_cons → az, drop_of_length_le → aK, length_singleton → aO, nil_append → aQ
open Nat renaming le_refl → ae
open Go.RowKit
def axr (c:UInt8):bH:=if c=39 then [39,92,39,39]else [c]
def ahI (s:bH):bH:=s.flatMap axr
def db1 (c:UInt8):bH:=if(bD (c.toNat:Int) 36||(bD (c.toNat:Int) 96||(bD (c.toNat:Int) 34||bD (c.toNat:Int) 92)))=true then [92,c]else [c]
def TQ (s:bH):bH:=s.flatMap db1
theorem ami (new:bH) (b:UInt8) (hb:b≠39) (l:bH): ∀k,Lib.replaceK [39] new k (b::l)=b::Lib.replaceK [39] new k l
 |0=>rfl
 |k+1=>by
  have hp:List.isPrefixOf [39] (b::l)=false:=by grind
  have hi:Lib.index (b::l) [39]=if Lib.index l [39]== -1 then-1 else Lib.index l [39]+1:=by rw[Lib.index,hp];rfl
  rw[Lib.replaceK,Lib.replaceK,hi];have hge:=Lib.index_ge l [39];by_cases h:Lib.index l [39]= -1
  ·simp[h]
  ·have e1:(Lib.index l [39]== -1)=false:=by simpa using h
   have e2:(Lib.index l [39]+1== -1)=false:=by simp;omega
   have e3:(Lib.index l [39]+1).toNat=(Lib.index l [39]).toNat+1:=by omega
   simp_all
theorem ajb (b:UInt8) (hb:b≠39) (l:bH): ∀f,Lib.countFrom [39] f (b::l)=Lib.countFrom [39] f l
 |0=>rfl
 |f+1=>by
  have hp:List.isPrefixOf [39] (b::l)=false:=by grind
  have hi:Lib.index (b::l) [39]=if Lib.index l [39]== -1 then-1 else Lib.index l [39]+1:=by rw[Lib.index,hp];rfl
  rw[Lib.countFrom,Lib.countFrom,hi];have hge:=Lib.index_ge l [39];by_cases h:Lib.index l [39]= -1
  ·simp[h]
  ·have e1:(Lib.index l [39]== -1)=false:=by simpa using h
   have e2:(Lib.index l [39]+1== -1)=false:=by simp;omega
   have e3:(Lib.index l [39]+1).toNat=(Lib.index l [39]).toNat+1:=by omega
   simp_all
theorem abT (new:bH): ∀(s:bH) (f:Nat),s.length<f->Lib.replaceK [39] new (Lib.countFrom [39] f s) s=s.flatMap fun c=>if c=39 then new else [c]
 |[],f,h=>by
  obtain⟨f,rfl⟩: ∃g,f=g+1:=⟨f-1,by simp at h;omega⟩;rfl
 |c::s,f,h=>by
  rw[az]at h;by_cases hc:c=39
  ·subst hc;obtain⟨f,rfl⟩: ∃g,f=g+1:=⟨f-1,by omega⟩;have hi:Lib.index (39::s) [39]=0:=by rfl
   rw[Lib.countFrom,hi];simp only[show((0:Int)== -1)=false from rfl,ag,if_false,Int.toNat_zero,Nat.zero_add,aO,List.drop_succ_cons,List.drop_zero];rw[Nat.add_comm 1,Lib.replaceK,hi];simp only[show((0:Int)== -1)=false from rfl,ag,if_false,Int.toNat_zero,Nat.zero_add,aO,List.drop_succ_cons,List.drop_zero,List.take_zero,aQ];rw[abT new s f (by omega),List.flatMap_cons,if_pos rfl]
  ·rw[ajb c hc,ami new c hc,abT new s f (by omega),List.flatMap_cons,if_neg hc];rfl
theorem Ho: ∀s:bH,(ahI s).length<=4*s.length
 |[]=>ae _
 |c::r=>by have:=Ho r;grind [axr,ahI]
theorem Nu: ∀s:bH,(TQ s).length<=2*s.length
 |[]=>ae _
 |c::r=>by have:=Nu r;grind [db1,TQ]
theorem amJ {s:List UInt8} (hs:s.length<=2000000):aoP s=some ([39]++ahI s,()):=by
 have h1:=Ho s;have h2:Lib.replaceAll s [39] [39,92,39,39]=ahI s:=abT [39,92,39,39] s (s.length+1) (by omega);have h3:Si s [39] [39,92,39,39]=some (ahI s,()):=by
  grind [Si]
 rw[aoP,h3,aY,bI (EO (by simp;omega))];rfl
theorem JG {s:List UInt8} (hs:s.length<=2000000): ∀(N k:Nat) (out:bH),s.length-k<N->k<=s.length->out.length<=2*k+1->
  EE N s (bi s) (k:Int) (bJ out)=some (.inl ((),((),bJ (out++TQ (s.drop k)),())))
 |0,k,out,h,_,_=>by omega
 |N+1,k,out,h,hk,ho=>by
  (rewrite [EE,WI];delta yu yl)
  by_cases e:k<s.length
  ·have hin:fU s (k:Int)=true:=dU (by omega) (by omega);have hadd:bT .i64 (k:Int) 1=((k+1:Nat):Int):=by grind [bM]
   have hc:[((s[k].toNat:Nat):Int)]=bJ [s[k]]:=rfl;have h92:[(92:Int)]=bJ [92]:=rfl;have f1: ∀x:bH,x.length<=2->dY (bJ (out++x)) 1=true:=fun x hx=>Aq (by grind);have ih: ∀x:bH,x.length<=2->EE N s (bi s) ((k+1:Nat):Int) (bJ (out++x))=some (.inl ((),((),bJ (out++x++TQ (s.drop (k+1))),()))):=fun x hx=>JG hs N (k+1) _ (by omega) (by omega) (by grind);have hd:TQ (s.drop k)=db1 s[k]++TQ (s.drop (k+1)):=by rw[CB e];rfl
   rw[bI (eX (by rw[bz];omega)),hd];simp only[hin,cond_true,byte_at e,hadd,hc,h92,o5,ah out [92],f1 _ (show([92]:bH).length<=2 by decide),f1 _ (show([s[k]]:bH).length<=2 by simp),f1 _ (show(([92]:bH)++[s[k]]).length<=2 by simp),ih _ (show([s[k]]:bH).length<=2 by simp),ih _ (show(([92]:bH)++[s[k]]).length<=2 by simp)]
   grind [db1]
  simp_all [gB,bz,aK,TQ]
theorem aje {s:List UInt8} (hs:s.length<=2000000):aoQ s=some ([34]++TQ s,()):=by
 rw[aoQ];refine(bI (show dY (bF ([]:List Int) [34]) 1=true by kernel_rfl)).trans ?_;rw[show EE bC s (bi s) 0 (bF [] [34])=_ from JG hs bC 0 [34] (dC (by omega)) (by omega) (by simp),aY];simp_all [dA,dZ,Bd]
def uk (s:bH) (k:Nat):bH:=if k=4 then [39]++ahI s++[39]else if k=5 then [34]++TQ s++[34]else uu s
theorem CO {s:List UInt8} (hs:s.length<=2000000) (k:Nat):(uk s k).length<=8000002:=by
 have h1:=Ho s;have h2:=Nu s;unfold uk;split
 ·simp;omega
 ·split
  ·simp;omega
  ·unfold uu;grind [QO,Lu]
theorem Fa {s:List UInt8} (hs:s.length<=2000000) (k:Nat):aoK s (k:Int) true=some (uk s k,()):=by
 have h1:=Ho s;have h2:=Nu s;have h3:=CO hs k;rw[aoK,al8 hs,aY];unfold uk at h3 ⊢;by_cases h4:k=4
 ·rw[bI (fQ (by omega)),amJ hs,aY,cond_true,bI (EO (by simp;omega)),if_pos h4];rfl
 ·rw[dB (dQ (by omega)),if_neg h4];rw[if_neg h4]at h3;by_cases h5:k=5
  ·rw[bI (fQ (by omega)),aje hs,aY,cond_true,bI (EO (by simp;omega)),if_pos h5];rfl
  ·rw[if_neg h5]at h3;rw[dB (dQ (by omega)),if_neg h5,cond_true,bI (EO (by simp;omega))];simp[bF]
def Jl (s:bH):bH:=
 let a:=if(uk s 4).length<(uu s).length then uk s 4 else uu s
 if(uk s 5).length<a.length then uk s 5 else a
theorem RU (s:bH):uu s≠[]:=by
 cases s with
 |nil=>simp[uu]
 |cons c r=>grind [uu,pl1]
theorem akx (s:bH) (k:Nat):uk s k≠[]:=by
 grind [uk,RU]
theorem Mc {s:List UInt8} (hs:s.length<=2000000):agQ s=some (Jl s,()):=by
 have e0:=Fa hs 0;have e4:=Fa hs 4;have e5:=Fa hs 5;have hp:uk s 0=uu s:=rfl;have st: ∀(N:Nat) (b:bH) (i k:Nat) (h:i<3),([0,4,5]:List Int)[i]'(by simpa using h)=(k:Int)->b≠[]->ry (N+1) s b 3 (i:Int) [0,4,5]=ry N s (if(uk s k).length<b.length then uk s k else b) 3 ((i+1:Nat):Int) [0,4,5]:=fun N b i k h hk hb=>by
  rw[ry,Po,bI (eX (by omega)),bI (dU (by omega) (by grind)),bI (qQ (by simp[bU];omega))];have hn:bY ([0,4,5]:List Int) 0 (bU (i:Int))=(k:Int):=by simp_all [bY,bU]
  rw[hn,Fa hs k,aY,bI (by rw[FB hb];rfl),bM (by omega) (by omega),show(i:Int)+1=((i+1:Nat):Int) by omega];simp only[bz];by_cases hl:(uk s k).length<b.length
  ·simp_all [YG]
  simp_all [vF,if_neg]
 have h0:ry (bC-4+1+1+1+1) s [] 3 0 [0,4,5]=ry (bC-4+1+1+1) s (uu s) 3 ((1:Nat):Int) [0,4,5]:=by
  rw[ry,Po,bI (show iq 0 3=true from rfl),bI (show fU ([0,4,5]:List Int) 0=true from rfl),bI (show nH (bU 0) ([0,4,5]:List Int)=true from rfl),show bY ([0,4,5]:List Int) 0 (bU 0)=((0:Nat):Int) from rfl,e0,aY,dB (by rw[QU rfl];rfl)];rfl
 have hend: ∀b:bH,ry (bC-4+1) s b 3 ((3:Nat):Int) [0,4,5]=some (.inl ((b,()),())):=fun b=>by
  rfl
 have hf:bC=bC-4+1+1+1+1:=by unfold bC;omega
 have hall:ry bC s [] 3 0 [0,4,5]=some (.inl ((Jl s,()),())):=by
  rw[hf,h0,st _ _ 1 4 (by omega) rfl (RU s),st _ _ 2 5 (by omega) rfl (by grind [akx]),hend];rfl
 rw[agQ,show ry bC s [] (bi [0,4,5]) 0 [0,4,5]=_ from hall,aY];rfl
end
section
open Go.RowKit
end
section
open List renaming getElem_mem → aJ
open Nat renaming le_refl → ae
open Go.RowKit
def xq (u:bH):Nat->List Int
 |0=>[]
 |k+1=>if u.getD k 0=10 then xq u k++[(k:Int)]else xq u k
def ZY (u:bH):Nat->Int×Int
 |0=>(0,0)
 |k+1=>if u.getD k 0=10 then((ZY u k).1+1,0)else((ZY u k).1,(ZY u k).2+1)
theorem abv (u:bH): ∀(k:Nat),∀x∈xq u k,0<=x/\x<k
 |0,x,h=>by cases h
 |k+1,x,h=>by
  have ih:=abv u k x
  grind [xq]
theorem GY (u:bH): ∀(k:Nat),(xq u k).length<=k
 |0=>ae _
 |k+1=>by
  have ih:=GY u k
  grind [xq]
theorem adQ (u:bH) (a:Nat): ∀(n:Nat),a<=n-> ∃B,xq u n=xq u a++B/\ ∀x∈B,(a:Int)<=x
 |n,h=>by
  by_cases e:a=n
  ·simp_all
  ·obtain⟨n,rfl⟩: ∃m,n=m+1:=⟨n-1,by omega⟩;obtain⟨B,h1,h2⟩:=adQ u a n (by omega);rw[xq,h1]
   grind
theorem ace (u:bH): ∀(k:Nat),(ZY u k).1=(xq u k).length/\(ZY u k).2=(k:Int)-(if xq u k=[]then 0 else(xq u k).getLastD 0+1)/\0<=(ZY u k).2/\(ZY u k).2<=k
 |0=>⟨rfl,rfl,Int.le_refl _,Int.le_refl _⟩
 |k+1=>by
  obtain⟨h1,h2,h3,h4⟩:=ace u k;rw[ZY,xq]
  grind
theorem aus (a b:Int):acG a b=some (iq a b,()):=by
 rw[acG,acO,dZ];rfl
theorem au0 {i j:Nat} (h:i+j<1000000):IntKind.i64.wrap (QC .u64 (IntKind.u64.wrap (bT .i64 (i:Int) (j:Int))) 1)=((i+j)/2:Nat):=by
 rw[bM (by omega) (by omega),IntKind.wrap_u64];unfold QC;rw[show(2:Int)^(min (Int.toNat 1) IntKind.u64.bits)=2 from rfl,IntKind.wrap_i64]
 grind
theorem MR {L:List Int} {t:Int} {c:Nat} (hc:c<=L.length) (hL:L.length<=10000) (h1: ∀(m:Nat) (h:m<L.length),m<c->L[m]<t) (h2: ∀(m:Nat) (h:m<L.length),c<=m->t<=L[m]) (n:Int): ∀(N i j:Nat),j-i<N->i<=c->c<=j->j<=L.length->
  IL N L t n (i:Int) (j:Int)=some (.inl ((L,t,n,(c:Int),()),()))
 |0,i,j,h,_,_,_=>by omega
 |N+1,i,j,h,hi,hj,hl=>by
  rw[IL,WJ];by_cases e:i<j
  ·have hm:(i+j)/2<L.length:=by omega
   rw[bI (eX (by omega)),bI (show leI 0 1=true from rfl)];simp only[Ia,au0 (i:=i) (j:=j) (by omega)];have hg:eu L 0 (((i+j)/2:Nat):Int)=L[(i+j)/2]:=by
    grind [eu]
   rw[bI (dU (by omega) (by omega)),hg,aus,aY,bM (by omega) (by omega),show(((i+j)/2:Nat):Int)+1=(((i+j)/2+1:Nat):Int) by omega];by_cases hlt:(i+j)/2<c
   ·rw[eX (h1 _ hm hlt),cond_true];exact MR hc hL h1 h2 n N _ j (by omega) (by omega) hj hl
   ·rw[mr (h2 _ hm (by omega)),cond_false];exact MR hc hL h1 h2 n N i _ (by omega) hi (by omega) (by omega)
  ·rw[dB (gB (by omega)),show i=c by omega]
theorem awf {L:List Int} {t:Int} {c:Nat} (hc:c<=L.length) (hL:L.length<=10000) (h1: ∀(m:Nat) (h:m<L.length),m<c->L[m]<t) (h2: ∀(m:Nat) (h:m<L.length),c<=m->t<=L[m]): ∃b,aoR L t=some ((c:Int),(b,())):=by
 have h:=MR hc hL h1 h2 (L.length:Int) bC 0 L.length (dC (by omega)) (by omega) hc (ae _);rw[aoR,show IL bC L t (bi L) 0 (bi L)=_ from h,aY];simp only[dA];by_cases e:c<L.length
 ·rw[bI (eX (by omega)),bI (dU (by omega) (by omega)),bI (dU (by omega) (by omega)),acH,dZ];cases bD (eu L 0 (c:Int)) t with
  |true=>simp
  |false=>exact⟨false,rfl⟩
 ·rw[dB (gB (by omega))];simp
theorem aoh {u:List UInt8} (hu:u.length<=10000) {a:Nat} (ha:a<=u.length):
  X6 (u.length:Int) (xq u u.length) (a:Int)=some (((u.length:Int),(xq u u.length,())),((ZY u a).1,((ZY u a).2,(0,())))):=by
 obtain⟨B,hB,hB2⟩:=adQ u a u.length ha;have hlen:=GY u u.length;have hla:=GY u a;obtain⟨w1,w2,w3,w4⟩:=ace u a;have hcl:(xq u a).length<=(xq u u.length).length:=by simp_all
 obtain⟨b,hb⟩:=awf (L:=xq u u.length) (t:=(a:Int)) (c:=(xq u a).length) hcl (by omega)
  (fun m h hm=>by
   have:(xq u u.length)[m]=(xq u a)[m]:=by simp_all
   rw[this];exact(abv u a _ (aJ hm)).2)
  (fun m h hm=>by
   simp_all)
 rw[X6,dB (mr (by omega)),dB (mr (by omega)),atX,hb,aY,aY];simp only;rw[atY];by_cases h0:xq u a=[]
 ·have hz:((xq u a).length:Int)=0:=by rw[h0];rfl
  rw[bI (fQ hz),aY];simp only;rw[gI (by omega) (by omega),w1,w2,if_pos h0]
 ·have hpos:0<(xq u a).length:=List.length_pos_iff.2 h0;have hlast:bY (xq u u.length) 0 (bU (eY .i64 ((xq u a).length:Int) 1))=(xq u a).getLastD 0:=by
   rw[gI (by omega) (by omega)];unfold bY bU;rw[show(((xq u a).length:Int)-1).toNat=(xq u a).length-1 by omega,hB,List.getD_eq_getElem?_getD,List.getElem?_append_left (by omega),List.getLastD_eq_getLast?,List.getLast?_eq_getElem?]
  have hx:=abv u a ((xq u a).getLastD 0) (by
   grind)
  rw[dB (dQ (by omega)),bI (dU (by grind [gI]) (by grind [gI])),bI (qQ (by grind [gI,bU])),hlast,aY];simp only;rw[bM (by omega) (by omega),gI (by omega) (by omega),w1,w2,if_neg h0]
end
section
open Bool renaming not_true → ax, and_true → ay, true_and → aH
open List renaming getElem_mem → aJ
open Nat renaming le_refl → ae
open Go.RowKit
abbrev Nd:=Int×Int×Int×Int×Unit
def Ns:Nd:=(0,(0,(0,(0,()))))
structure Tm (F:List Lf):Prop where
 len:F.length<=10000
 txt: ∀f∈F,f.2.1.length<=10000
def zW (F:List Lf) (a:Nat):UInt8:=if h:a<F.length then sgn F[a]else 0
def dW (F:List Lf) (a:Nat) (o:bH):Bool:=decide (a<F.length)&&o.contains (zW F a)
theorem Ws {F:List Lf} {a:Nat} (h:a<F.length):zW F a=sgn F[a]:=by simp_all [zW]
theorem Hm {F:List Lf} {a:Nat} (h:F.length<=a):zW F a=0:=by simp_all [zW,dif_neg]
theorem fJ {F:List Lf} {a:Nat} {o:List UInt8} (h:dW F a o=true):a<F.length:=by
 simp_all [dW]
theorem xQ {F:List Lf} {a:Nat} (h:a<F.length):eu F (0,([],(0,(0,())))) (a:Int)=F[a]:=by
 simp_all [eu]
theorem ari {α:Type} {l:List α} {k:Nat} (h:l.length*k<=140737488355328):dY l k=true:=by
 grind [dY,mF]
variable {F:List Lf} (hF:Tm F)
include hF
theorem amI (a k:Nat) (l:List Nd) (u d:Int) (ha:a+k<1000000000):uU F (a:Int) l u d (k:Int)=some ((F,((a:Int),(l,(u,(d,()))))),(((zW F (a+k)).toNat:Int),())):=by
 have:=hF.len;rw[uU,bM (by omega) (by omega),show(a:Int)+(k:Int)=((a+k:Nat):Int) by omega];by_cases h:a+k<F.length
 ·rw[dB (DV (by rw[bz];omega)),bI (dU (by omega) (by omega)),xQ h,(amH (hF.txt _ (aJ h))).1,aY,Ws h]
 ·rw[bI (vF (by rw[bz];omega)),Hm (by omega)];rfl
theorem mf (a:Nat) (l:List Nd) (u d:Int) (ha:a<100000000):uU F (a:Int) l u d 0=some ((F,((a:Int),(l,(u,(d,()))))),(((zW F a).toNat:Int),())):=amI hF a 0 l u d (by omega)
theorem aey (a:Nat) (l:List Nd) (u d:Int) (ha:a<100000000):uU F (a:Int) l u d 1=some ((F,((a:Int),(l,(u,(d,()))))),(((zW F (a+1)).toNat:Int),())):=amI hF a 1 l u d (by omega)
omit hF in
theorem aoX (S:bH) (c:UInt8):leI 0 (ibW S (c.toNat:Int))=S.contains c:=by
 have:ibW S (c.toNat:Int)=Lib.indexByte S c:=by unfold ibW;congr 1;simp
 rw[this,akG];by_cases h:(S.takeWhile (· !=c)).length<S.length
 ·rw[if_pos h,vF (by omega)];have:=zH (· !=c) S h
  grind
 ·rw[if_neg h,DV (by omega)];have hall: ∀x∈S,x≠c:=fun x hx=>by
   obtain⟨i,hi,rfl⟩:=List.getElem_of_mem hx
   grind [H7]
  grind
theorem TM (a:Nat) (l:List Nd) (u d:Int) (ha:a<100000000) (o:bH) (h0:o.contains 0=false):QX F (a:Int) l u d o=some ((F,((a:Int),(l,(u,(d,()))))),(dW F a o,())):=by
 rw[QX,mf hF a l u d ha,aY];simp only;unfold dW;by_cases h:zW F a=0
 ·rw[h,show(!bD (((0:UInt8).toNat:Nat):Int) 0)=false from rfl,cond_false,h0,Bool.and_false]
 ·have hlt:a<F.length:=by
   grind [Hm]
  rw[dQ fun e=>h (UInt8.toNat_inj.1 (by simp_all))];simp_all [XW,acW,aY,aoX]
def tk (F:List Lf) (a:Nat) (o:bH):Nat:=if dW F a o=true then a+1 else a
theorem kS (a:Nat) (l:List Nd) (u d:Int) (ha:a<100000000) (o:bH) (h0:o.contains 0=false):o8 F (a:Int) l u d o=some ((F,(((tk F a o:Nat):Int),(l,(u,(d,()))))),(dW F a o,())):=by
 rw[o8,TM hF a l u d ha o h0,aY];simp only;unfold tk;cases h:dW F a o with
 |false=>rfl
 |true=>
  simp only[ax,cond_false,if_true]
  grind [bM]
def YI (F:List Lf):Nat->Nat->Nat
 |0,a=>a
 |n+1,a=>if dW F a [110]=true then YI F n (a+1)else a
def ln (F:List Lf) (a:Nat):Nat:=YI F (F.length+1) a
omit hF in
theorem YJ: ∀(n m a:Nat),F.length<n+a->F.length<m+a->YI F n a=YI F m a
 |0,0,a,_,_=>rfl
 |0,m+1,a,h,_=>by
  rw[YI,YI,if_neg];intro h';have:=fJ h';omega
 |n+1,0,a,_,h=>by
  rw[YI,YI,if_neg];intro h';have:=fJ h';omega
 |n+1,m+1,a,h1,h2=>by
  rw[YI,YI];split
  ·exact YJ n m (a+1) (by omega) (by omega)
  ·rfl
omit hF in
theorem Gn (a:Nat):ln F a=if dW F a [110]=true then ln F (a+1)else a:=by
 grind [ln,YI,YJ]
omit hF in
theorem abe: ∀(n a:Nat),a<=YI F n a
 |0,a=>ae _
 |n+1,a=>by
  rw[YI];split
  ·have:=abe n (a+1);omega
  omega
omit hF in
theorem um (a:Nat):a<=ln F a:=abe _ _
omit hF in
theorem alo: ∀(n a:Nat),a<=F.length->YI F n a<=F.length
 |0,a,h=>h
 |n+1,a,h=>by
  rw[YI];split
  ·rename_i h'
   exact alo n (a+1) (fJ h')
  ·exact h
omit hF in
theorem vG {a:Nat} (h:a<=F.length):ln F a<=F.length:=alo _ _ h
theorem Ou (l:List Nd) (u d:Int) (v:Bool): ∀(N a:Nat),F.length+1-a<N->a<=F.length->
  Gq N v F (a:Int) u d l=some (.inl ((v,()),((),()),((F,((ln F a:Nat):Int),u,d,()),l,())))
 |0,a,h,_=>by omega
 |N+1,a,h,ha=>by
  have:=hF.len;rw[Gq,LG,kS hF a l u d (by omega) [110] rfl,aY,Gn];simp only;unfold tk;cases h':dW F a [110]with
  |false=>rfl
  |true=>
   simp only[cond_true,if_true];exact Ou l u d v N (a+1) (by omega) (fJ h')
theorem lC (a:Nat) (l:List Nd) (u d:Int) (ha:a<=F.length):mQ F (a:Int) l u d=some ((F,(((ln F a:Nat):Int),(l,(u,(d,()))))),(dW F a [110],())):=by
 have:=hF.len;rw[mQ,kS hF a l u d (by omega) [110] rfl,aY];simp only;have hl:tk F a [110]<=F.length:=by
  unfold tk;split
  ·rename_i h;exact fJ h
  ·exact ha
 rw[Ou hF l u d _ bC (tk F a [110]) (dC (by omega)) hl,aY];simp only[dA];have:ln F (tk F a [110])=ln F a:=by
  unfold tk;split
  ·rename_i h;rw[Gn a,if_pos h]
  ·rfl
 rw[this]
omit hF in
theorem Y0 (l:List Nd) (k a u t:Int):gp (bF l [(k,(a,(0,(u,()))))]) (bU (bi l)) ((bY (bF l [(k,(a,(0,(u,()))))]) (0,(0,(0,(0,())))) (bU (bi l))).1,((bY (bF l [(k,(a,(0,(u,()))))]) (0,(0,(0,(0,())))) (bU (bi l))).2.1,(t,((bY (bF l [(k,(a,(0,(u,()))))]) (0,(0,(0,(0,())))) (bU (bi l))).2.2.2.1,()))))=l++[(k,a,t,u,())]:=by
 simp_all [bU,bz,gp,bF,bY]
omit hF in
theorem jL (l:List Nd) (x:Nd) (hl:l.length<1000000000):dY (bF l [x]) 32=true/\fU (bF l [x]) (bi l)=true/\nH (bU (bi l)) (bF l [x])=true:=
 ⟨ari (by grind [bF]),dU (by rw[bz];omega) (by grind [bz,bF]),qQ (by unfold bF;simp[bU,bz])⟩
omit hF in
theorem ED (a:Nat) (l:List Nd) (u d k:Int) (ha:a<100000000) (hl:l.length<1000000000):NV F (a:Int) l u d k=some ((F,(((a+1:Nat):Int),(l++[(k,(a:Int),((a+1:Nat):Int),u,())],(u,(d,()))))),()):=by
 obtain⟨h1,h2,h3⟩:=jL l (k,((a:Int),(0,(u,())))) hl;rw[NV];simp only[dZ,ay,cond_true,h1,h2,h3,Y0]
 grind [bM]
omit hF in
theorem kW (a:Nat) (l:List Nd) (u d:Int) (hl:l.length<1000000000):uX F (a:Int) l u d=some ((F,((a:Int),(l++[(18,(a:Int),(a:Int),u,())],(u,(d,()))))),()):=by
 simp_all [jL,uX,dZ,Y0]
def nJ (F:List Lf) (a:Nat) (o:bH):Nat:=tk F a o
def wnL (F:List Lf) (a:Nat) (o:bH) (l:List Nd) (u:Int):List Nd:=if dW F a o=true then l else l++[(18,(a:Int),(a:Int),u,())]
theorem xm (a:Nat) (l:List Nd) (u d:Int) (ha:a<100000000) (hl:l.length<1000000000) (o:bH) (h0:o.contains 0=false):pg F (a:Int) l u d o=some ((F,(((nJ F a o:Nat):Int),(wnL F a o l u,(u,(d,()))))),()):=by
 rw[pg,kS hF a l u d ha o h0,aY];unfold nJ wnL tk;cases h:dW F a o with
 |true=>rfl
 |false=>
  simp_all [kW,aY]
def zU (F:List Lf) (a:Nat):Bool:=if h:a<F.length then decide (F[a].1=6)else false
omit hF in
theorem Uw {a:Nat} (h:zU F a=true):a<F.length:=by
 grind [zU]
omit hF in
theorem xO (a:Nat) (l:List Nd) (u d:Int):JP F (a:Int) l u d=some ((F,((a:Int),(l,(u,(d,()))))),(zU F a,())):=by
 rw[JP];unfold zU;by_cases h:a<F.length
 ·simp_all [eX,bz,dU,xQ,iF]
 simp_all [gB,bz,dif_neg]
def zX (F:List Lf) (a:Nat):Nat:=if zU F a=true then a+1 else a
def wdL (F:List Lf) (a:Nat) (l:List Nd) (u:Int):List Nd:=if zU F a=true then l++[(7,(a:Int),((a+1:Nat):Int),u,())]else l++[(18,(a:Int),(a:Int),u,())]
omit hF in
theorem PZ (a:Nat) (l:List Nd) (u d:Int) (ha:a<100000000) (hl:l.length<1000000000):JO F (a:Int) l u d=some ((F,(((zX F a:Nat):Int),(wdL F a l u,(u,(d,()))))),()):=by
 rw[JO,xO a l u d,aY];unfold zX wdL;cases h:zU F a with
 |true=>
  simp_all [ED,aY]
 |false=>
  simp_all [kW,aY]
def zV (F:List Lf) (a:Nat):Bool:=dW F a [60]||dW F a [35]&&decide (zW F (a+1)=60)
def Ep (F:List Lf) (a:Nat) (d:Int):Bool:=decide (d<200)&&dW F a [123,40,105,119,114,99]
def Fj (F:List Lf) (a:Nat) (d:Int):Bool:=dW F a [120]||(zV F a||Ep F a d)
def nS (F:List Lf) (a:Nat) (d:Int):Bool:=dW F a [33]||Fj F a d
omit hF in
theorem Sz (a:Nat) (c:UInt8) (hc:c≠0):bD ((zW F a).toNat:Int) (c.toNat:Int)=dW F a [c]:=by
 unfold dW;rw[iF];by_cases h:a<F.length
 ·rw[decide_eq_true h,aH,Bool.eq_iff_iff,decide_eq_true_eq];simp only[List.contains_cons,List.contains_nil,Bool.or_false,beq_iff_eq]
  grind [UInt8.toNat_inj]
 ·rw[decide_eq_false h,Bool.false_and,Hm (by omega)];refine decide_eq_false fun e=>hc (UInt8.toNat_inj.1 ?_);omega
theorem BL (a:Nat) (l:List Nd) (u d:Int) (ha:a<10000000):XX F (a:Int) l u d=some ((F,((a:Int),(l,(u,(d,()))))),(zV F a,())):=by
 rw[XX,mf hF a l u d (by omega),aY];simp only;rw[show bD ((zW F a).toNat:Int) 60=dW F a [60] from Sz a 60 (by decide),show bD ((zW F a).toNat:Int) 35=dW F a [35] from Sz a 35 (by decide)];unfold zV;cases dW F a [60]with
 |true=>rfl
 |false=>
  cases dW F a [35]with
  |false=>rfl
  |true=>
   simp only[cond_true,cond_false,Bool.false_or,aH];rw[aey hF a l u d (by omega),aY];simp only[iF];congr 3;rw[decide_eq_decide];constructor
   ·intro e;exact UInt8.toNat_inj.1 (by grind)
   simp_all
theorem Ad (a:Nat) (l:List Nd) (u d:Int) (ha:a<10000000):QY F (a:Int) l u d=some ((F,((a:Int),(l,(u,(d,()))))),(Ep F a d,())):=by
 rw[QY];unfold Ep;by_cases h:d<200
 ·rw[bI (eX h),TM hF a l u d (by omega) _ rfl,aY,decide_eq_true h,aH]
 simp_all [gB,decide_eq_false]
theorem Nq (a:Nat) (l:List Nd) (u d:Int) (ha:a<10000000):XP F (a:Int) l u d=some ((F,((a:Int),(l,(u,(d,()))))),(Fj F a d,())):=by
 rw[XP,mf hF a l u d (by omega),aY];simp only;rw[show bD ((zW F a).toNat:Int) 120=dW F a [120] from Sz a 120 (by decide)];unfold Fj;cases dW F a [120]with
 |true=>rfl
 |false=>
  simp only[cond_false,Bool.false_or];rw[BL hF a l u d ha,aY];simp only;cases zV F a with
  |true=>rfl
  |false=>
   simp_all [Ad,aY]
theorem zo (a:Nat) (l:List Nd) (u d:Int) (ha:a<10000000):Um F (a:Int) l u d=some ((F,((a:Int),(l,(u,(d,()))))),(nS F a d,())):=by
 rw[Um,mf hF a l u d (by omega),aY];simp only;rw[show bD ((zW F a).toNat:Int) 33=dW F a [33] from Sz a 33 (by decide)];unfold nS;cases dW F a [33]with
 |true=>rfl
 |false=>
  simp_all [Nq,aY]
end
section
open Bool renaming false_eq_true → ag, and_true → ay, true_and → aH
open List renaming drop_eq_getElem_cons → aF, drop_of_length_le → aK
open Go.RowKit
theorem Yf (c:UInt8) (o:bH) (ho:o.length<1000000): ∀(N k:Nat),o.length-k<N->k<=o.length->
  AV N (c.toNat:Int) o (k:Int)=some (if(o.drop k).contains c=true then .inr ((true,()),())else .inl ((),()))
 |0,k,h,_=>by omega
 |N+1,k,h,hk=>by
  rw[AV,abX];by_cases e:k<o.length
  ·rw[bI (eX (by rw[bz];omega)),bI (dU (by omega) (by omega)),byte_at e,aF e];by_cases h1:o[k]=c
   ·simp_all [fQ]
   ·rw[dB (dQ fun h=>h1 (UInt8.toNat_inj.1 (by omega))),bM (by omega) (by omega),show(k:Int)+1=((k+1:Nat):Int) by omega,Yf c o ho N (k+1) (by omega) (by omega)]
    grind
  simp_all [gB,bz,aK]
theorem ayc (c:UInt8) (o:bH) (ho:o.length<1000000):F5 (c.toNat:Int) o=some (o.contains c,()):=by
 have h:=Yf c o ho bC 0 (dC (by omega)) (by omega);rw[F5,show AV bC (c.toNat:Int) o 0=_ from h,aY,List.drop_zero];cases o.contains c with
 |true=>rfl
 |false=>rfl
abbrev gY (F:List Lf):bH:=F.map sgn
variable {F:List Lf} (hF:Tm F)
include hF
omit hF in
theorem xh {a:Nat} (h:a<F.length):bK (gY F) (a:Int)=((zW F a).toNat:Int):=by
 simp_all [byte_at,Ws]
omit hF in
theorem iH (a:Nat) (l:List Nd) (u d:Int) (o:bH) (ho:o.length<1000000):lI F (gY F) l (a:Int) u d o=some ((F,(gY F,(l,((a:Int),(u,(d,())))))),(dW F a o,())):=by
 rw[lI];unfold dW;by_cases h:a<F.length
 ·rw[bI (eX (by simp_all [bz])),bI (dU (by omega) (by simp_all)),xh h,ayc _ o ho,aY,decide_eq_true h,aH]
 simp_all [gB,bz,decide_eq_false]
theorem Gm (l:List Nd) (u d:Int): ∀(N a:Nat) (v:Int),F.length+1-a<N->a<=F.length->0<=v->v<=a->
  ∃v':Int,UR N v F (gY F) (a:Int) u d l=some (.inl ((v',()),((),()),((F,gY F,((ln F a:Nat):Int),u,d,()),l,())))/\v'=v+((ln F a:Nat):Int)-a
 |0,a,v,h,_,_,_=>by omega
 |N+1,a,v,h,ha,hv,hva=>by
  have:=hF.len;rw[UR,amQ,iH a l u d [110] (by simp),aY,Gn];simp only;cases h':dW F a [110]with
  |false=>simp
  |true=>
   simp only[cond_true,if_true];rw[bM (by omega) (by omega),bM (by omega) (by omega),show(a:Int)+1=((a+1:Nat):Int) by omega];obtain⟨v',h1,h2⟩:=Gm l u d N (a+1) (v+1) (by omega) (fJ h') (by omega) (by omega)
   grind
omit hF in
theorem aw1 (a:Nat):dW F a [110]=decide (a<ln F a):=by
 rw[Gn];cases h:dW F a [110]with
 |false=>simp
 |true=>
  have:=um (F:=F) (a+1)
  grind
theorem kM (a:Nat) (l:List Nd) (u d:Int) (ha:a<=F.length):qN F (gY F) l (a:Int) u d=some ((F,(gY F,(l,(((ln F a:Nat):Int),(u,(d,())))))),(((ln F a:Nat):Int)-a,())):=by
 have:=hF.len;rw[qN];obtain⟨v',h1,h2⟩:=Gm hF l u d bC a 0 (dC (by omega)) ha (by omega) (by omega);simp_all [aY,dA]
def iY (k:Int):Bool:=decide (9<=k)&&decide (k<=14)||decide (k=16)
omit hF in
theorem adP {k:Int} (h1:1<=k) (h2:k<=18):aoL k=some (iY k,()):=by
 have: ∀n:Fin 19,n.val≠0->aoL ((n.val:Nat):Int)=some (iY ((n.val:Nat):Int),()):=by decide+kernel
 have:=this ⟨k.toNat,by omega⟩ (by simp only;omega)
 grind
omit hF in
theorem jV (a:Nat) (l:List Nd) (u d:Int) {k:Int} (h1:1<=k) (h2:k<=18) (hl:l.length<1000000000) (hd:0<=d) (hd2:d<1000000000):
  Aw F (gY F) l (a:Int) u d k=some ((F,(gY F,(l++[(k,(a:Int),0,u,())],((a:Int),(((l.length:Nat):Int),((if iY k=true then d+1 else d),())))))),(u,())):=by
 have hfit:dY (bF l [(k,((a:Int),(0,(u,()))))]) 32=true:=ari (by grind [bF]);have hsub:eY .i64 (bi (bF l [(k,((a:Int),(0,(u,()))))])) 1=((l.length:Nat):Int):=by
  grind [bF,bz,gI]
 rw[Aw];simp only[dZ,ay,cond_true,hfit,adP h1 h2,aY,hsub];cases iY k with
 |true=>
  simp only[cond_true,if_true];rw[bM (by omega) (by omega)];rfl
 |false=>rfl
def XE (l:List Nd) (i:Nat) (t:Int):List Nd:=gp l i ((bY l Ns i).1,(bY l Ns i).2.1,t,(bY l Ns i).2.2.2.1,())
omit hF in
theorem ajf (l:List Nd) (i:Nat) (t:Int):(XE l i t).length=l.length:=sU
omit hF in
theorem rD (a:Nat) (l:List Nd) (u d:Int) (i:Nat) (hi:i<l.length) {k:Int} (hk:(bY l Ns i).1=k) (h1:1<=k) (h2:k<=18) (hd:0<=d) (hd2:d<1000000000):
  nN F (gY F) l (a:Int) ((i:Nat):Int) d u=some ((F,(gY F,(XE l i (a:Int),((a:Int),(u,((if iY k=true then d-1 else d),())))))),()):=by
 have hn:bU ((i:Nat):Int)=i:=by simp[bU]
 have hin: ∀x,fU (gp l i x) ((i:Nat):Int)=true:=fun x=>dU (by omega) (by rw[sU];omega);have hlt: ∀x,nH i (gp l i x)=true:=fun x=>qQ (by rw[sU];exact hi);have iM: ∀x,bY (gp l i x) (0,(0,(0,(0,())))) i=x:=fun x=>Dh hi
 (rewrite [nN];delta Iu;rw[bI (dU (by omega) (by omega)),hn,bI (qQ hi)])
 simp only[hin,hlt,iM,cond_true];have hk':(bY l (0,(0,(0,(0,())))) i).1=k:=hk;rw[hk',adP h1 h2,aY];simp only;unfold XE;rw[show Ns=(0,(0,(0,(0,())))) from rfl,hk'];cases iY k with
 |true=>
  simp only[cond_true,if_true]
  grind [gI]
 |false=>rfl
omit hF in
theorem OG (l:List Nd) (x:Nd):bY (l++[x]) Ns l.length=x:=by
 simp_all [bY]
omit hF in
theorem QT (l:List Nd) (k a u t:Int):XE (l++[(k,a,0,u,())]) l.length t=l++[(k,a,t,u,())]:=by
 grind [XE,OG,gp]
omit hF in
theorem ut (a:Nat) (l:List Nd) (u d:Int) (hl:l.length<1000000000) (hd:0<=d) (hd2:d<1000000000):
  rE F (gY F) l (a:Int) u d=some ((F,(gY F,(l++[(18,(a:Int),(a:Int),u,())],((a:Int),(u,(d,())))))),()):=by
 rw[rE,jV a l u d (by omega) (by omega) hl hd hd2,aY];simp only;rw[show iY 18=false from rfl,if_neg (by simp),rD a _ u d l.length (by simp) (by rw[OG]) (by omega) (by omega) hd hd2,aY];simp only[QT,show iY 18=false from rfl,ag,if_false]
omit hF in
theorem Ko (a:Nat) (l:List Nd) (u d:Int) {k:Int} (h1:1<=k) (h2:k<=18) (hn:iY k=false) (ha:a<100000000) (hl:l.length<1000000000) (hd:0<=d) (hd2:d<1000000000):
  KP F (gY F) l (a:Int) u d k=some ((F,(gY F,(l++[(k,(a:Int),((a+1:Nat):Int),u,())],(((a+1:Nat):Int),(u,(d,())))))),()):=by
 rw[KP,jV a l u d h1 h2 hl hd hd2,aY];simp only;rw[hn,if_neg (by simp),bM (by omega) (by omega),show(a:Int)+1=((a+1:Nat):Int) by omega,rD (a+1) _ u d l.length (by simp) (by rw[OG]) h1 h2 hd hd2,aY];simp_all [QT]
omit hF in
theorem xn (a:Nat) (l:List Nd) (u d:Int) (ha:a<100000000) (hl:l.length<1000000000) (hd:0<=d) (hd2:d<1000000000) (o:bH) (ho:o.length<1000000):
  lw F (gY F) l (a:Int) u d o=some ((F,(gY F,(wnL F a o l u,(((nJ F a o:Nat):Int),(u,(d,())))))),()):=by
 rw[lw,iH a l u d o ho,aY];unfold nJ wnL tk;cases h:dW F a o with
 |true=>
  simp only[cond_true,if_true]
  grind [bM]
 |false=>
  simp_all [ut,aY]
omit hF in
theorem Xc (a:Nat) (l:List Nd) (u d:Int) (ha:a<100000000) (hl:l.length<1000000000) (hd:0<=d) (hd2:d<1000000000):
  uY F (gY F) l (a:Int) u d=some ((F,(gY F,(wdL F a l u,(((zX F a:Nat):Int),(u,(d,())))))),()):=by
 rw[uY];unfold wdL zX zU;by_cases h:a<F.length
 ·rw[bI (eX (by rw[bz];omega)),bI (dU (by omega) (by omega)),xQ h];simp only[dif_pos h,decide_eq_true_eq];by_cases h6:F[a].1=6
  ·rw[bI (fQ h6),Ko a l u d (by omega) (by omega) rfl ha hl hd hd2,aY,if_pos h6,if_pos h6]
  simp_all [dQ,ut,aY]
 simp_all [gB,bz,ut,aY,dif_neg]
omit hF in
theorem wB (a:Nat) (l:List Nd) (u d:Int) (ha:a<10000000):XO F (gY F) l (a:Int) u d=some ((F,(gY F,(l,((a:Int),(u,(d,())))))),(zV F a,())):=by
 rw[XO,iH a l u d [60] (by simp),aY];unfold zV;simp only;cases dW F a [60]with
 |true=>rfl
 |false=>
  simp only[cond_false,Bool.false_or];rw[iH a l u d [35] (by simp),aY];simp only;cases dW F a [35]with
  |false=>rfl
  |true=>
   simp only[cond_true,aH];rw[bM (by omega) (by omega),show(a:Int)+1=((a+1:Nat):Int) by omega];by_cases h:a+1<F.length
   ·rw[bI (eX (by grind [bz])),bI (dU (by omega) (by grind)),xh h];simp only[iF];congr 3;rw[decide_eq_decide];constructor
    ·intro e;exact UInt8.toNat_inj.1 (by grind)
    simp_all
   ·rw[dB (gB (by grind [bz])),Hm (by omega)];rfl
omit hF in
theorem tY (a:Nat) (l:List Nd) (u d:Int):QW F (gY F) l (a:Int) u d=some ((F,(gY F,(l,((a:Int),(u,(d,())))))),(Ep F a d,())):=by
 rw[QW,iH a l u d _ (by simp),aY]
 grind [Ep,iq]
omit hF in
theorem QF (a:Nat) (l:List Nd) (u d:Int) (ha:a<10000000):aoM F (gY F) l (a:Int) u d=some ((F,(gY F,(l,((a:Int),(u,(d,())))))),(Fj F a d,())):=by
 rw[aoM,iH a l u d [120] (by simp),aY];unfold Fj;simp only;cases dW F a [120]with
 |true=>rfl
 |false=>
  simp only[cond_false,Bool.false_or];rw[wB a l u d ha,aY];simp only;cases zV F a with
  |true=>rfl
  |false=>
   simp_all [tY,aY]
omit hF in
theorem Eh (a:Nat) (l:List Nd) (u d:Int) (ha:a<10000000):NS F (gY F) l (a:Int) u d=some ((F,(gY F,(l,((a:Int),(u,(d,())))))),(nS F a d,())):=by
 rw[NS,iH a l u d [33] (by simp),aY];unfold nS;simp only;cases dW F a [33]with
 |true=>rfl
 |false=>
  simp_all [QF,aY]
end
section
open List renaming append_assoc → ah, length_append → ai, length_singleton → aO
open Nat renaming le_refl → ae
open Go.RowKit
abbrev opn (k:Int) (a:Nat) (u:Int):Nd:=(k,((a:Int),(0,(u,()))))
abbrev PR (F:List Lf) (a:Nat) (l:List Nd) (u d:Int):List Lf×Int×List Nd×Int×Int×Unit:=(F,((a:Int),(l,(u,(d,())))))
abbrev RR (F:List Lf) (a:Nat) (l:List Nd) (u d:Int):List Lf×List UInt8×List Nd×Int×Int×Int×Unit:=(F,(gY F,(l,((a:Int),(u,(d,()))))))
theorem jW (l m:List Nd) (k a u t:Int):gp (bF l [(k,(a,(0,(u,()))))]++m) (bU (bi l)) ((bY (bF l [(k,(a,(0,(u,()))))]++m) (0,(0,(0,(0,())))) (bU (bi l))).1,((bY (bF l [(k,(a,(0,(u,()))))]++m) (0,(0,(0,(0,())))) (bU (bi l))).2.1,(t,((bY (bF l [(k,(a,(0,(u,()))))]++m) (0,(0,(0,(0,())))) (bU (bi l))).2.2.2.1,()))))=l++(k,a,t,u,())::m:=by
 have hn:bU (bi l)=l.length:=by simp[bU,bz]
 simp_all [bY,bF,gp]
theorem nR (l m:List Nd) (x:Nd):fU (bF l [x]++m) (bi l)=true/\nH (bU (bi l)) (bF l [x]++m)=true:=
 ⟨dU (by rw[bz];omega) (by grind [bz,bF]),qQ (by unfold bF;simp[bU,bz])⟩
theorem lT (l m:List Nd) (k a u t:Int):XE ((l++[(k,a,0,u,())])++m) l.length t=l++(k,a,t,u,())::m:=by
 unfold XE;simp_all [bY,gp]
theorem lX (l m:List Nd) (k a u:Int):(bY ((l++[(k,a,0,u,())])++m) Ns l.length).1=k:=by
 simp_all [bY]
inductive Tr:Nat->Nat->Int->Nat->List Nd->Prop
 |nil {a b:Nat} {u:Int} {k:Nat} (h:a<=b):Tr a b u k []
 |leaf {a b f t:Nat} {u:Int} {k:Nat} {kd:Int} {m:List Nd} (h1:a<=f) (hk:kd=18/\t=f\/(kd=6\/kd=7\/kd=17)/\t=f+1) (h2:Tr t b u (k+1) m):Tr a b u k ((kd,(f:Int),(t:Int),u,())::m)
 |node {a b f t:Nat} {u:Int} {k:Nat} {kd:Int} {m n:List Nd} (h1:a<=f) (hk:2<=kd/\kd<=16/\kd≠6/\kd≠7) (h:Tr f t (k:Int) (k+1) m) (h2:Tr t b u (k+1+m.length) n):Tr a b u k ((kd,(f:Int),(t:Int),u,())::(m++n))
theorem Tr.le {a b:Nat} {u:Int} {k:Nat} {m:List Nd} (h:Tr a b u k m):a<=b:=by
 induction h with
 |nil h=>exact h
 |leaf h1 hk _ ih=>omega
 |node h1 _ _ _ ih1 ih2=>omega
theorem Tr.wide {a b:Nat} {u:Int} {k:Nat} {m:List Nd} (h:Tr a b u k m): ∀{a' b':Nat},a'<=a->b<=b'->Tr a' b' u k m:=by
 induction h with
 |nil h=>exact fun h1 h2=>.nil (by omega)
 |leaf h1 hk _ ih=>exact fun h3 h4=>.leaf (by omega) hk (ih (ae _) h4)
 |node h1 hk h _ _ ih2=>exact fun h3 h4=>.node (by omega) hk h (ih2 (ae _) h4)
theorem Tr.app {a b:Nat} {u:Int} {k:Nat} {m:List Nd} (h:Tr a b u k m): ∀{c e j:Nat} {n:List Nd},Tr c e u j n->b<=c->j=k+m.length->Tr a e u k (m++n):=by
 induction h with
 |nil h=>exact fun h1 h2 h3=>by subst h3;exact h1.wide (by omega) (ae _)
 |leaf h1 hk _ ih=>exact fun h3 h4 h5=>.leaf h1 hk (ih h3 h4 (by grind))
 | @node a b f t u k kd m n' h1 hk h _ _ ih2=>
  intro c e j n h3 h4 h5;rw[List.cons_append,ah];exact .node h1 hk h (ih2 h3 h4 (by grind))
theorem Tr.ap {a b c e:Nat} {u:Int} {k j:Nat} {m n:List Nd} (h:Tr a b u k m) (h2:Tr c e u j n) (h3:b<=c:=by omega) (h4:j=k+m.length:=by first|omega|grind):Tr a e u k (m++n):=h.app h2 h3 h4
theorem Tr.apA {a b c e:Nat} {u:Int} {k:Nat} {m n:List Nd} (h:Tr a b u k m) (h2: ∀j,Tr c e u j n) (h3:b<=c:=by omega):Tr a e u k (m++n):=h.app (h2 _) h3 rfl
theorem Tr.one {a b f t:Nat} {u:Int} {k j:Nat} {kd:Int} {m:List Nd} (h:Tr f t (j:Int) (j+1) m) (h1:a<=f) (h2:t<=b) (hk:2<=kd/\kd<=16/\kd≠6/\kd≠7) (hj:j=k):Tr a b u k ((kd,(f:Int),(t:Int),u,())::m):=by
 subst hj;have:=Tr.node (n:=[]) (u:=u) h1 hk h (.nil h2);simp_all
theorem Tr.mis {a b f:Nat} {u:Int} {k:Nat} (h1:a<=f) (h2:f<=b):Tr a b u k [(18,(f:Int),(f:Int),u,())]:=.leaf h1 (.inl ⟨rfl,rfl⟩) (.nil h2)
theorem Tr.lf {a b f:Nat} {u:Int} {k:Nat} {kd:Int} (h1:a<=f) (h2:f+1<=b) (hk:kd=6\/kd=7\/kd=17):Tr a b u k [(kd,(f:Int),((f+1:Nat):Int),u,())]:=.leaf h1 (.inr ⟨hk,rfl⟩) (.nil h2)
structure E8 (F:List Lf) (a:Nat) (l:List Nd) (d:Int) (K:Nat):Prop where
 len:a<=F.length
 nod:l.length<=16*a+K
 d0:0<=d
 d1:d<=200
structure All (F:List Lf) (n:Nat):Prop where
 list: ∀(a:Nat) (l:List Nd) (u d:Int) (r r':Nat),16*(F.length-a)+12<n->n<=r->n<=r'->E8 F a l d 110->nS F a d=true->
  ∃(a':Nat) (m:List Nd),(fD r).q89 F (a:Int) (bF l [opn 2 a u]) (bi l) d=some (PR F a' (bF l [opn 2 a u]++m) (bi l) d,())/\
   (fO r').q48 F (gY F) l (a:Int) u d=some (RR F a' (l++(2,(a:Int),(a':Int),u,())::m) u d,())/\a<a'/\a'<=F.length/\m.length+1<=16*(a'-a)/\Tr a a' (bi l) (l.length+1) m
 andor: ∀(a:Nat) (l:List Nd) (u d:Int) (r r':Nat),16*(F.length-a)+11<n->n<=r->n<=r'->E8 F a l d 111->nS F a d=true->
  ∃(a':Nat) (m:List Nd),(fD r).q114 F (a:Int) (bF l [opn 3 a u]) (bi l) d=some (PR F a' (bF l [opn 3 a u]++m) (bi l) d,())/\
   (fO r').q79 F (gY F) l (a:Int) u d=some (RR F a' (l++(3,(a:Int),(a':Int),u,())::m) u d,())/\a<a'/\a'<=F.length/\m.length+2<=16*(a'-a)/\Tr a a' (bi l) (l.length+1) m
 pipe: ∀(a:Nat) (l:List Nd) (u d:Int) (r r':Nat),16*(F.length-a)+10<n->n<=r->n<=r'->E8 F a l d 112->nS F a d=true->
  ∃(a':Nat) (m:List Nd),(fD r).q152 F (a:Int) l u d=some (PR F a' (l++m) u d,())/\
   (fO r').q102 F (gY F) l (a:Int) u d=some (RR F a' (l++m) u d,())/\a<a'/\a'<=F.length/\m.length+2<=16*(a'-a)/\Tr a a' u l.length m
 nopipe: ∀(a:Nat) (l:List Nd) (u d:Int) (r:Nat),10<n->n<=r->E8 F a l d 130->nS F a d=false->
  (fD r).q152 F (a:Int) l u d=some (PR F a (l++[(18,(a:Int),(a:Int),u,())]) u d,())
 command: ∀(a:Nat) (l:List Nd) (u d:Int) (r r':Nat),16*(F.length-a)+9<n->n<=r->n<=r'->E8 F a l d 113->
  ∃(a':Nat) (m:List Nd),(fD r).q186 F (a:Int) l u d=some (PR F a' (l++m) u d,())/\
   (fO r').q130 F (gY F) l (a:Int) u d=some (RR F a' (l++m) u d,())/\a<=a'/\a'<=F.length/\(m.length<=16*(a'-a)+1/\Tr a a' u l.length m)/\(Fj F a d=true->a<a'/\m.length+3<=16*(a'-a))
 compound: ∀(a:Nat) (l:List Nd) (u d:Int) (r r':Nat),16*(F.length-a)+8<n->n<=r->n<=r'->E8 F a l d 113->Ep F a d=true->
  ∃(a':Nat) (m:List Nd),(fD r).q223 F (a:Int) l u d=some (PR F a' (l++m) u d,())/\
   (fO r').q163 F (gY F) l (a:Int) u d=some (RR F a' (l++m) u d,())/\a<a'/\a'<=F.length/\m.length+3<=16*(a'-a)/\Tr a a' u l.length m
 body: ∀(a:Nat) (l:List Nd) (u d:Int) (r r':Nat),16*(F.length-a)+13<n->n<=r->n<=r'->E8 F a l d 110->
  ∃(a':Nat) (m:List Nd),(fD r).q266 F (a:Int) l u d=some (PR F a' (l++m) u d,())/\
   (fO r').q194 F (gY F) l (a:Int) u d=some (RR F a' (l++m) u d,())/\a<=a'/\a'<=F.length/\m.length<=16*(a'-a)+1/\Tr a a' u l.length m
variable {F:List Lf} (hF:Tm F)
include hF
theorem ae6 {n:Nat} (h:All F n) (a:Nat) (l:List Nd) (u d:Int) (r r':Nat) (hm:16*(F.length-a)+13<n+1) (hr:n+1<=r) (hr':n+1<=r') (hp:E8 F a l d 110):
  ∃(a':Nat) (m:List Nd),(fD r).q266 F (a:Int) l u d=some (PR F a' (l++m) u d,())/\
   (fO r').q194 F (gY F) l (a:Int) u d=some (RR F a' (l++m) u d,())/\a<=a'/\a'<=F.length/\m.length<=16*(a'-a)+1/\Tr a a' u l.length m:=by
 obtain⟨p1,p2,p3,p4⟩:=hp;have hFl:=hF.len;obtain⟨q,rfl⟩: ∃q,r=q+1:=⟨r-1,by omega⟩;obtain⟨q',rfl⟩: ∃q',r'=q'+1:=⟨r'-1,by omega⟩;have hge:=um (F:=F) a;have hle:=vG (F:=F) p1;show ∃(a':Nat) (m:List Nd),akl (fD q) F (a:Int) l u d=_/\akb (fO q') F (gY F) l (a:Int) u d=_/\_;rw[akl,akb,lC hF a l u d p1,kM hF a l u d p1,aY,aY];simp only;rw[zo hF (ln F a) l u d (by omega),Eh (ln F a) l u d (by omega),aY,aY];simp only;cases hb:nS F (ln F a) d with
 |true=>
  obtain⟨n1,n2,n3⟩:=jL l (opn 2 (ln F a) u) (by omega);obtain⟨a',m,e1,e2,e3,e4,e5⟩:=h.list (ln F a) l u d q q' (by omega) (by omega) (by omega) ⟨hle,by omega,p3,p4⟩ hb;obtain⟨c1,c2⟩:=nR l m (opn 2 (ln F a) u);refine⟨a',(2,((ln F a:Nat):Int),(a':Int),u,())::m, ?_, ?_,by omega,e4,by grind,e5.2.one hge (ae _) (by omega) rfl⟩
  ·simp_all [dZ,aY,jW]
  simp_all [aY]
 |false=>
  refine⟨ln F a,[(18,((ln F a:Nat):Int),((ln F a:Nat):Int),u,())], ?_, ?_,hge,hle,by simp,.mis hge (ae _)⟩
  ·simp only[cond_false]
   grind [kW,aY]
  ·simp only[cond_false]
   grind [ut,aY]
end
section
open Bool renaming false_eq_true → ag
open List renaming append_assoc → ah, length_append → ai, length_singleton → aO
open Nat renaming le_refl → ae
open Go.RowKit
variable {F:List Lf} (hF:Tm F)
include hF
omit hF in
theorem lm {a:Nat} {o:List UInt8} (h:dW F a o=true):tk F a o=a+1:=by unfold tk;rw[if_pos h]
omit hF in
theorem uD {a:Nat} {o:List UInt8} (h:dW F a o=false):tk F a o=a:=by unfold tk;rw[if_neg (by rw[h];simp)]
theorem Ej {n:Nat} (h:All F n) {q q':Nat} (hq:n<=q) (hq':n<=q') (u d v:Int) (hd:0<=d/\d<=200): ∀(N a:Nat) (L:List Nd),F.length-a<N->a<=F.length->16*(F.length-a)+10<n->L.length<=16*a+112->
  ∃(a':Nat) (m:List Nd),Gp (fD q) N F (a:Int) u d L=some (.inl ((),((),()),((F,(a':Int),u,d,()),L++m,())))/\
   UQ (fO q') N v F (gY F) (a:Int) u d L=some (.inl ((v,()),((),()),((F,gY F,(a':Int),u,d,()),L++m,())))/\a<=a'/\a'<=F.length/\m.length<=16*(a'-a)/\Tr a a' u L.length m
 |0,a,L,hN,_,_,_=>by omega
 |N+1,a,L,hN,ha,hn,hL=>by
  have hFl:=hF.len;rw[Gp,LD,UQ,amP,kS hF a L u d (by omega) [97,111] rfl,iH a L u d [97,111] (by simp),aY,aY];simp only;cases hb:dW F a [97,111]with
  |false=>
   rw[uD hb];exact⟨a,[],by simp,by simp,ae _,ha,by simp,.nil (ae _)⟩
  |true=>
   have hlt:=fJ hb;have hge:=um (F:=F) (a+1);have hle:=vG (F:=F) (a:=a+1) (by omega);rw[lm hb];simp only[cond_true];rw[bM (by omega) (by omega),show(a:Int)+1=((a+1:Nat):Int) by omega,lC hF (a+1) L u d (by omega),kM hF (a+1) L u d (by omega),aY,aY];simp only;rw[Eh (ln F (a+1)) L u d (by omega),aY];simp only;cases hp:nS F (ln F (a+1)) d with
   |true=>
    obtain⟨a1,m1,e1,e2,e3,e4,e5⟩:=h.pipe (ln F (a+1)) L u d q q' (by omega) hq hq' ⟨hle,by omega,hd.1,hd.2⟩ hp;rw[e1,aY];simp only[cond_true];rw[e2,aY];simp only;obtain⟨a',m,f1,f2,f3,f4,f5⟩:=Ej h hq hq' u d v hd N a1 (L++m1) (by omega) e4 (by omega) (by rw[ai];omega);exact⟨a',m1++m,by rw[f1,ah],by rw[f2,ah],by omega,f4,by rw[ai];omega,(e5.2.wide (by omega) (ae _)).app f5.2 (ae _) (ai ..)⟩
   |false=>
    rw[h.nopipe (ln F (a+1)) L u d q (by omega) hq ⟨hle,by omega,hd.1,hd.2⟩ hp,aY];simp only[cond_false];rw[ut (ln F (a+1)) L u d (by omega) hd.1 (by omega),aY];simp only;obtain⟨a',m,f1,f2,f3,f4,f5⟩:=Ej h hq hq' u d v hd N (ln F (a+1)) (L++[(18,((ln F (a+1):Nat):Int),((ln F (a+1):Nat):Int),u,())]) (by omega) hle (by omega) (by rw[ai,aO];omega);exact⟨a',[(18,((ln F (a+1):Nat):Int),((ln F (a+1):Nat):Int),u,())]++m,by rw[f1,ah],by rw[f2,ah],by omega,f4,by rw[ai,aO];omega,(Tr.mis (by omega) (ae _)).app f5.2 (ae _) (ai ..)⟩
theorem aaf {n:Nat} (h:All F n) (a:Nat) (l:List Nd) (u d:Int) (r r':Nat) (hm:16*(F.length-a)+11<n+1) (hr:n+1<=r) (hr':n+1<=r') (hp:E8 F a l d 111) (hb:nS F a d=true):
  ∃(a':Nat) (m:List Nd),(fD r).q114 F (a:Int) (bF l [opn 3 a u]) (bi l) d=some (PR F a' (bF l [opn 3 a u]++m) (bi l) d,())/\
   (fO r').q79 F (gY F) l (a:Int) u d=some (RR F a' (l++(3,(a:Int),(a':Int),u,())::m) u d,())/\a<a'/\a'<=F.length/\m.length+2<=16*(a'-a)/\Tr a a' (bi l) (l.length+1) m:=by
 obtain⟨p1,p2,p3,p4⟩:=hp;have hFl:=hF.len;obtain⟨q,rfl⟩: ∃q,r=q+1:=⟨r-1,by omega⟩;obtain⟨q',rfl⟩: ∃q',r'=q'+1:=⟨r'-1,by omega⟩;show ∃(a':Nat) (m:List Nd),aj8 (fD q) F (a:Int) _ _ d=_/\atU (fO q') F (gY F) l (a:Int) u d=_/\_;have hcl:(bF l [opn 3 a u]).length=l.length+1:=by unfold bF;simp
 obtain⟨a1,m1,e1,e2,e3,e4,e5⟩:=h.pipe a (bF l [opn 3 a u]) (bi l) d q q' (by omega) (by omega) (by omega) ⟨p1,by rw[hcl];omega,p3,p4⟩ hb;obtain⟨a',m,f1,f2,f3,f4,f5⟩:=Ej hF h (q:=q) (q':=q') (by omega) (by omega) (bi l) d u ⟨p3,p4⟩ bC a1 (bF l [opn 3 a u]++m1) (dC (by omega)) e4 (by omega) (by rw[ai,hcl];omega);have hcat:bF l [opn 3 a u]=l++[(3,(a:Int),0,u,())]:=rfl;refine⟨a',m1++m, ?_, ?_,by omega,f4,by rw[ai];omega,(hcl▸e5.2).app f5.2 (ae _) (by rw[ai,hcl])⟩
 ·rw[aj8,e1,aY];simp only;rw[f1,aY];simp only[dA,ah]
 ·rw[atU,jV a l u d (by omega) (by omega) (by omega) p3 (by omega),aY];simp only[show iY 3=false from rfl,ag,if_false];rw[hcat]at e2 f2;rw[show((l.length:Nat):Int)=bi l from rfl,e2,aY];simp only;rw[f2,aY];simp only[dA];rw[ah (l++_),show bi l=((l.length:Nat):Int) from rfl,rD a' _ u d l.length (by simp only[ai,aO];omega) (lX l _ 3 _ _) (by omega) (by omega) p3 (by omega),aY];simp only[lT,show iY 3=false from rfl,ag,if_false]
end
end Go.Proofs.YtldbkoijjlaaeaaGreatDoor
