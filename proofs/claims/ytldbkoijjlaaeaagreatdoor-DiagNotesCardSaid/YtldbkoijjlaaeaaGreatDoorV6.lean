/- Parts of the proof, joined and shortened by a program: the plain machine, the functions as it prints them, and the mathematics over them. -/
import Derived.Test.YtldbkoijjlaaeaaGreatDoorV5
set_option linter.unusedVariables false
set_option linter.unusedSimpArgs false
set_option maxRecDepth 100000
set_option maxHeartbeats 4000000
namespace Go.Proofs.YtldbkoijjlaaeaaGreatDoor
section
open Bool renaming and_eq_true → af, false_eq_true → ag, and_true → ax, not_true → ay, not_false → aB
open List renaming getElem_mem → aH
open Nat renaming le_refl → ae
open Go.RowKit
variable {F:List Lf} (hF:WU F)
include hF
theorem ape {q':iQ} (a:Nat) (l:List Nd) (u d:Int) (hp:Jo F a l d 113) (hc:IC F a d=false) (hb:JA F a d=true):
  ∃(a':Nat) (m:List Nd),aj2 F (a:Int) (bG l [opn 5 a u]) (bC l) d=some (PR F a' (bG l [opn 5 a u]++m) (bC l) d,())/\
   l9 q' F (iK F) (a:Int) u d l=some (.inl ((),((),()),((F,iK F,(a':Int),u,d,()),l++(5,(a:Int),(a':Int),u,())::m,())))/\a<a'/\a'<=F.length/\m.length+4<=16*(a'-a)/\Tr a a' (bC l) (l.length+1) m:=by
 obtain⟨p1,p2,p3,p4⟩:=hp;have hFl:=hF.len;have hcl:(bG l [opn 5 a u]).length=l.length+1:=by unfold bG;simp
 have hcat:bG l [opn 5 a u]=l++[(5,(a:Int),0,u,())]:=rfl;have hgo:(DN F a||DL F a)=true:=by
  unfold JA at hb;rw[hc,Bool.or_false]at hb;cases hr:DN F a with
  |true=>rfl
  |false=>
   rw[hr,Bool.or_false]at hb;have hlt:=gW hb;have h1:=UD hb;rw[acn hlt]at h1;rw[Bool.false_or];unfold DL;rw[dif_pos hlt];exact decide_eq_true (aCG (hF.txt _ (aH hlt)) h1)
 obtain⟨a',m,f1,f2,f3,f4,f5,f6⟩:=Fa hF (q':=q') (bC l) d u ⟨p3,by omega⟩ bH a (bG l [opn 5 a u]) false 0 (dB (by omega)) p1 (by rw[hcl];omega) (by omega) (by omega) ⟨fun h=>(by cases h),fun h=>absurd rfl h⟩;have hlt:=f6 hgo;refine⟨a',m, ?_, ?_,hlt,f4,by omega,hcl▸f5.2⟩
 ·rw[aj2,f1,bu];rfl
 ·rw[l9,wC,lH a l u d (by omega) (by omega) (by omega) p3 (by omega),bu];simp only[show jB 5=false from rfl,ag,if_false];rw[hcat]at f2;rw[show((l.length:Nat):Int)=bC l from rfl,f2,bu];simp only[dE];rw[show bC l=((l.length:Nat):Int) from rfl,uX a' _ u d l.length (by simp) (oD l _ 5 _ _) (by omega) (by omega) p3 (by omega),bu];simp only[oq,show jB 5=false from rfl,ag,if_false]
theorem Y2 {n:Nat} (h:All F n) (h1:All F (n-1)) (a:Nat) (l:List Nd) (u d:Int) (r r':Nat) (hm:16*(F.length-a)+9<n+1) (hr:n+1<=r) (hr':n+1<=r') (hp:Jo F a l d 113):
  ∃(a':Nat) (m:List Nd),(gB r).q186 F (a:Int) l u d=some (PR F a' (l++m) u d,())/\
   (gK r').q130 F (iK F) l (a:Int) u d=some (RR F a' (l++m) u d,())/\a<=a'/\a'<=F.length/\(m.length<=16*(a'-a)+1/\Tr a a' u l.length m)/\(JA F a d=true->a<a'/\m.length+3<=16*(a'-a)):=by
 have hp0:=hp;obtain⟨p1,p2,p3,p4⟩:=hp;have hFl:=hF.len;obtain⟨q,rfl⟩: ∃q,r=q+1:=⟨r-1,by omega⟩;obtain⟨q',rfl⟩: ∃q',r'=q'+1:=⟨r'-1,by omega⟩;show ∃(a':Nat) (m:List Nd),asQ (gB q) F (a:Int) l u d=_/\asP (gK q') F (iK F) l (a:Int) u d=_/\_
 (rewrite [asQ,asP];delta FT;rw[D5 hF a l u d (by omega),WS a l u d (by omega),bu,bu])
 simp only;cases hc:IC F a d with
 |true=>
  have hcd:JA F a d=true:=by grind [JA]
  obtain⟨a',m,e1,e2,e3,e4,e5⟩:=h.compound a l u d q q' (by omega) (by omega) (by omega) hp0 hc;refine⟨a',m, ?_, ?_,by omega,e4,⟨by omega,e5.2⟩,fun _=>⟨e3,e5.1⟩⟩
  ·simp_all [bu]
  simp_all [wV,bu]
 |false=>
  simp only[cond_false];rw[aha hF a l u d p1,bu];simp only;cases hf:fnB F a d with
  |true=>
   have hcd:JA F a d=true:=by
    simp_all [fnB,JA]
   obtain⟨a',m,e1,e2,e3,e4,e5⟩:=ant hF h h1 a l u d q q' hm (by omega) (by omega) hp0 hf;obtain⟨n1,_,_⟩:=kX l (opn 16 a u) (by omega);obtain⟨c1,c2⟩:=qm l m (opn 16 a u);refine⟨a',(16,(a:Int),(a':Int),u,())::m, ?_, ?_,by omega,e4,⟨by grind,e5.2.one (ae _) (ae _) (by omega) rfl⟩,fun _=>⟨e3,by simp_all⟩⟩
   ·simp only[dU,ax,cond_true,n1];rw[bZ (by omega) (by omega),e1,bu];simp only[c1,c2,cond_true,lI]
    grind [gQ]
   ·unfold fnB at hf;simp only[af,decide_eq_true_eq]at hf;obtain⟨g1,g2,g3,g4⟩:=hf;have hlt:=gW g1;have hlt2:=gW (Vg (F:=F) (a:=a+1) (c:=40) (by decide) g2);rw[dif_pos hlt]at g4;rw[hcd];simp only[ay,cond_false];rw[wV a l u d,bu,hc];simp only[cond_false];rw[jd a l u d [120] (by simp),bu,g1];simp only[cond_true];rw[bZ (by omega) (by omega),show(a:Int)+1=((a+1:Nat):Int) by omega,bI (dZ (by grind [bF])),bI (dN (by omega) (by grind)),zT hlt2,
     show bJ ((DR F (a+1)).toNat:Int) 40=decide (DR F (a+1)=40) from aiL (a+1) 40,decide_eq_true g2,cond_true,bI (dZ g3),bI (dN (by omega) (by omega)),AC hlt,xu (by have:=hF.txt _ (aH hlt);omega),bu,g4]
    assumption
  |false=>
   simp only[cond_false];rw[SH hF a l u d (by omega),bu];simp only;cases hcd:JA F a d with
   |false=>
    simp only[aB,cond_true,cond_false];rw[mO a l u d (by omega),xC a l u d (by omega) p3 (by omega),bu,bu];exact⟨a,[(18,(a:Int),(a:Int),u,())],rfl,rfl,ae _,p1,⟨by simp,.mis (ae _) (ae _)⟩,fun h=>by cases h⟩
   |true=>
    obtain⟨a',m,e1,e2,e3,e4,e5⟩:=ape hF (q':=gK q') a l u d hp0 hc hcd;obtain⟨n1,_,_⟩:=kX l (opn 5 a u) (by omega);obtain⟨c1,c2⟩:=qm l m (opn 5 a u);refine⟨a',(5,(a:Int),(a':Int),u,())::m, ?_, ?_,by omega,e4,⟨by grind,e5.2.one (ae _) (ae _) (by omega) rfl⟩,fun _=>⟨e3,by simp_all⟩⟩
    ·simp_all [dU,bu,lI]
    ·simp only[ay,cond_false];rw[wV a l u d,bu,hc];simp only[cond_false];rw[jd a l u d [120] (by simp),bu];simp only;have hsim:bz (l9 (gK q') F (iK F) (a:Int) u d l) (fun y3=>dE y3 (fun a4=>
       some ((a4.2.2.1.1,(a4.2.2.1.2.1,(a4.2.2.2.1,(a4.2.2.1.2.2.1,(a4.2.2.1.2.2.2.1,(a4.2.2.1.2.2.2.2.1,())))))),())) (fun b4=>none))=some (RR F a' (l++(5,(a:Int),(a':Int),u,())::m) u d,()):=by
      rw[e2,bu];rfl
     cases hx:fF F a [120]with
     |false=>assumption
     |true=>
      have hlt:=gW hx;simp only[cond_true];rw[bZ (by omega) (by omega),show(a:Int)+1=((a+1:Nat):Int) by omega];by_cases hl2:a+1<F.length
      ·rw[bI (dZ (by grind [bF])),bI (dN (by omega) (by grind)),zT hl2,show bJ ((DR F (a+1)).toNat:Int) 40=decide (DR F (a+1)=40) from aiL (a+1) 40];by_cases h40:DR F (a+1)=40
       ·rw[decide_eq_true h40,cond_true];by_cases hd2:d<200
        ·rw[bI (dZ hd2),bI (dN (by omega) (by omega)),AC hlt,xu (by have:=hF.txt _ (aH hlt);omega),bu];have hnm:decide (nl F[a].2.1≠0/\nl F[a].2.1=F[a].2.1.length)=false:=by
          simp_all [fnB]
         grind
        simp_all [fV]
       simp_all
      ·rw[dC (fV (by grind [bF]))];exact hsim
end
section
open List renaming append_assoc → ah
open Nat renaming le_refl → ae
open Go.RowKit
variable {F:List Lf} (hF:WU F)
include hF
theorem Jc {q':iQ} (u d w:Int) (hd:0<=d/\d<=201) (P:Nat->Nat->List Nd->Option (Nat×List Nd)->Prop)
  (hno: ∀N a L,DN F a=false->P (N+1) a L (some (a,L)))
  (hyes: ∀N a L a1 m1 x,DN F a=true->a1<=F.length->Ar F (a:Int) L u d=some (PR F a1 (L++m1) u d,(true,()))->P N a1 (L++m1) x->P (N+1) a L x):
  ∀(N a:Nat) (L:List Nd),F.length-a<N->a<=F.length->L.length<=16*a+1000->
  ∃(a':Nat) (m:List Nd),P N a L (some (a',L++m))/\jc q' N w F (iK F) (a:Int) u d L=some (.inl ((w,()),((),()),((F,iK F,(a':Int),u,d,()),L++m,())))/\a<=a'/\a'<=F.length/\m.length<=2*(a'-a)/\Tr a a' u L.length m
 |0,a,L,hN,_,_=>by omega
 |N+1,a,L,hN,ha,hL=>by
  have hFl:=hF.len;rw[jc,LG,zh a L u d (by omega),bu];simp only;cases hr:DN F a with
  |false=>exact⟨a,[],by simp_all,by simp,ae _,ha,by simp,.nil (ae _)⟩
  |true=>
   obtain⟨a1,m1,e1,e2,e3,e4,e5⟩:=PG hF a L u d ha (by omega) hd.1 (by omega) hr;simp only[cond_true];rw[e2,bu];simp only;obtain⟨a',m,f1,f2,f3,f4,f5⟩:=Jc u d w hd P hno hyes N a1 (L++m1) (by omega) e4 (by grind);exact⟨a',m1++m,by grind,by rw[f2,ah],by omega,f4,by grind,e5.2.ap f5.2⟩
theorem aKo {q:iq} {q':iQ} (u d w v0 v1 v2 v3 v4 v5:Int) (hd:0<=d/\d<=201) (a:Nat) (L:List Nd) (ha:a<=F.length) (hL:L.length<=16*a+1000):
  ∃(a':Nat) (m:List Nd),nT q bH v0 v1 v2 v3 v4 v5 L F (a:Int) u d=some (.inl ((),((v0,v1,()),(v2,v3,()),(v4,v5,()),(),()),((),(),L++m,(F,(a':Int),u,d,()),())))/\
   jc q' bH w F (iK F) (a:Int) u d L=some (.inl ((w,()),((),()),((F,iK F,(a':Int),u,d,()),L++m,())))/\a<=a'/\a'<=F.length/\m.length<=2*(a'-a)/\Tr a a' u L.length m:=by
 have hFl:=hF.len;obtain⟨a',m,f1,f2,f3,f4,f5⟩:=Jc hF (q':=q') u d w hd (fun N a L x=>a<=F.length-> ∀y,x=some y->nT q N v0 v1 v2 v3 v4 v5 L F (a:Int) u d=some (.inl ((),((v0,v1,()),(v2,v3,()),(v4,v5,()),(),()),((),(),y.2,(F,(y.1:Int),u,d,()),()))))
  (fun N a L hr ha y hy=>by
   grind [nT,uJ,nX,bu])
  (fun N a L a1 m1 x hr h1 e1 ih ha y hy=>by
   simp_all [nT,uJ,bu]) bH a L (dB (by omega)) ha hL
 grind
theorem aGC {q:iq} {q':iQ} (u d w v0 v1 v2 v3 v4 v5:Int) (hd:0<=d/\d<=201) (a:Nat) (L:List Nd) (ha:a<=F.length) (hL:L.length<=16*a+1000):
  ∃(a':Nat) (m:List Nd),kY q bH v0 v1 v2 v3 v4 v5 L F (a:Int) u d=some (.inl ((),((v0,v1,()),(v2,v3,()),(v4,v5,()),(),()),((),(),L++m,(F,(a':Int),u,d,()),())))/\
   jc q' bH w F (iK F) (a:Int) u d L=some (.inl ((w,()),((),()),((F,iK F,(a':Int),u,d,()),L++m,())))/\a<=a'/\a'<=F.length/\m.length<=2*(a'-a)/\Tr a a' u L.length m:=by
 have hFl:=hF.len;obtain⟨a',m,f1,f2,f3,f4,f5⟩:=Jc hF (q':=q') u d w hd (fun N a L x=>a<=F.length-> ∀y,x=some y->kY q N v0 v1 v2 v3 v4 v5 L F (a:Int) u d=some (.inl ((),((v0,v1,()),(v2,v3,()),(v4,v5,()),(),()),((),(),y.2,(F,(y.1:Int),u,d,()),()))))
  (fun N a L hr ha y hy=>by
   grind [kY,pG,nX,bu])
  (fun N a L a1 m1 x hr h1 e1 ih ha y hy=>by
   simp_all [kY,pG,bu]) bH a L (dB (by omega)) ha hL
 grind
theorem aGD {q:iq} {q':iQ} (u d w v0 v1 v2 v3 v4 v5:Int) (hd:0<=d/\d<=201) (a:Nat) (L:List Nd) (ha:a<=F.length) (hL:L.length<=16*a+1000):
  ∃(a':Nat) (m:List Nd),kZ q bH v0 v1 v2 v3 v4 v5 L F (a:Int) u d=some (.inl ((),((v0,v1,()),(v2,v3,()),(v4,v5,()),(),()),((),(),L++m,(F,(a':Int),u,d,()),())))/\
   jc q' bH w F (iK F) (a:Int) u d L=some (.inl ((w,()),((),()),((F,iK F,(a':Int),u,d,()),L++m,())))/\a<=a'/\a'<=F.length/\m.length<=2*(a'-a)/\Tr a a' u L.length m:=by
 have hFl:=hF.len;obtain⟨a',m,f1,f2,f3,f4,f5⟩:=Jc hF (q':=q') u d w hd (fun N a L x=>a<=F.length-> ∀y,x=some y->kZ q N v0 v1 v2 v3 v4 v5 L F (a:Int) u d=some (.inl ((),((v0,v1,()),(v2,v3,()),(v4,v5,()),(),()),((),(),y.2,(F,(y.1:Int),u,d,()),()))))
  (fun N a L hr ha y hy=>by
   grind [kZ,pI,nX,bu])
  (fun N a L a1 m1 x hr h1 e1 ih ha y hy=>by
   simp_all [kZ,pI,bu]) bH a L (dB (by omega)) ha hL
 grind
theorem aGE {q:iq} {q':iQ} (u d w v0 v1 v2 v3 v4 v5:Int) (hd:0<=d/\d<=201) (a:Nat) (L:List Nd) (ha:a<=F.length) (hL:L.length<=16*a+1000):
  ∃(a':Nat) (m:List Nd),lg q bH v0 v1 v2 v3 v4 v5 L F (a:Int) u d=some (.inl ((),((v0,v1,()),(v2,v3,()),(v4,v5,()),(),()),((),(),L++m,(F,(a':Int),u,d,()),())))/\
   jc q' bH w F (iK F) (a:Int) u d L=some (.inl ((w,()),((),()),((F,iK F,(a':Int),u,d,()),L++m,())))/\a<=a'/\a'<=F.length/\m.length<=2*(a'-a)/\Tr a a' u L.length m:=by
 have hFl:=hF.len;obtain⟨a',m,f1,f2,f3,f4,f5⟩:=Jc hF (q':=q') u d w hd (fun N a L x=>a<=F.length-> ∀y,x=some y->lg q N v0 v1 v2 v3 v4 v5 L F (a:Int) u d=some (.inl ((),((v0,v1,()),(v2,v3,()),(v4,v5,()),(),()),((),(),y.2,(F,(y.1:Int),u,d,()),()))))
  (fun N a L hr ha y hy=>by
   grind [lg,pJ,nX,bu])
  (fun N a L a1 m1 x hr h1 e1 ih ha y hy=>by
   simp_all [lg,pJ,bu]) bH a L (dB (by omega)) ha hL
 grind
theorem aGF {q:iq} {q':iQ} (u d w v0 v1 v2 v3 v4 v5:Int) (hd:0<=d/\d<=201) (a:Nat) (L:List Nd) (ha:a<=F.length) (hL:L.length<=16*a+1000):
  ∃(a':Nat) (m:List Nd),lm q bH v0 v1 v2 v3 v4 v5 L F (a:Int) u d=some (.inl ((),((v0,v1,()),(v2,v3,()),(v4,v5,()),(),()),((),(),L++m,(F,(a':Int),u,d,()),())))/\
   jc q' bH w F (iK F) (a:Int) u d L=some (.inl ((w,()),((),()),((F,iK F,(a':Int),u,d,()),L++m,())))/\a<=a'/\a'<=F.length/\m.length<=2*(a'-a)/\Tr a a' u L.length m:=by
 have hFl:=hF.len;obtain⟨a',m,f1,f2,f3,f4,f5⟩:=Jc hF (q':=q') u d w hd (fun N a L x=>a<=F.length-> ∀y,x=some y->lm q N v0 v1 v2 v3 v4 v5 L F (a:Int) u d=some (.inl ((),((v0,v1,()),(v2,v3,()),(v4,v5,()),(),()),((),(),y.2,(F,(y.1:Int),u,d,()),()))))
  (fun N a L hr ha y hy=>by
   grind [lm,pK,nX,bu])
  (fun N a L a1 m1 x hr h1 e1 ih ha y hy=>by
   simp_all [lm,pK,bu]) bH a L (dB (by omega)) ha hL
 grind
theorem aGG {q:iq} {q':iQ} (u d w v0 v1 v2 v3 v4 v5:Int) (hd:0<=d/\d<=201) (a:Nat) (L:List Nd) (ha:a<=F.length) (hL:L.length<=16*a+1000):
  ∃(a':Nat) (m:List Nd),lq q bH v0 v1 v2 v3 v4 v5 L F (a:Int) u d=some (.inl ((),((v0,v1,()),(v2,v3,()),(v4,v5,()),(),()),((),(),L++m,(F,(a':Int),u,d,()),())))/\
   jc q' bH w F (iK F) (a:Int) u d L=some (.inl ((w,()),((),()),((F,iK F,(a':Int),u,d,()),L++m,())))/\a<=a'/\a'<=F.length/\m.length<=2*(a'-a)/\Tr a a' u L.length m:=by
 have hFl:=hF.len;obtain⟨a',m,f1,f2,f3,f4,f5⟩:=Jc hF (q':=q') u d w hd (fun N a L x=>a<=F.length-> ∀y,x=some y->lq q N v0 v1 v2 v3 v4 v5 L F (a:Int) u d=some (.inl ((),((v0,v1,()),(v2,v3,()),(v4,v5,()),(),()),((),(),y.2,(F,(y.1:Int),u,d,()),()))))
  (fun N a L hr ha y hy=>by
   grind [lq,pM,nX,bu])
  (fun N a L a1 m1 x hr h1 e1 ih ha y hy=>by
   simp_all [lq,pM,bu]) bH a L (dB (by omega)) ha hL
 grind
end
section
open List renaming append_assoc → ah, length_append → ai
open Nat renaming le_refl → ae
open Go.RowKit
variable {F:List Lf} (hF:WU F)
include hF
theorem FO {k:Nat} (h:All F k) (a:Nat) (l:List Nd) (u d:Int) (r r':Nat) (hm:16*(F.length-a)+13<k) (hr:k+1<=r) (hr':k+1<=r') (hp:Jo F a l d 105):
  ∃(a':Nat) (m:List Nd),(gB r).q267 F (a:Int) l u d=some (PR F a' (l++m) u d,())/\
   (gK r').q195 F (iK F) l (a:Int) u d=some (RR F a' (l++m) u d,())/\a<=a'/\a'<=F.length/\m.length<=16*(a'-a)+3/\Tr a a' u l.length m:=by
 obtain⟨p1,p2,p3,p4⟩:=hp;have hFl:=hF.len;obtain⟨q,rfl⟩: ∃q,r=q+1:=⟨r-1,by omega⟩;obtain⟨q',rfl⟩: ∃q',r'=q'+1:=⟨r'-1,by omega⟩;obtain⟨w1,w2⟩:=Ip (F:=F) a [100];have w3:=w2 p1;have w4:=uh (F:=F) a [100] u;obtain⟨a1,m1,e1,e2,e3,e4,e5⟩:=h.body (qg F a [100]) (l++uO F a [100] u) u d q q' (by omega) (by omega) (by omega) ⟨w3,by rw[ai];omega,p3,p4⟩;obtain⟨x1,x2⟩:=Ip (F:=F) a1 [103];have x3:=x2 e4;have x4:=uh (F:=F) a1 [103] u;refine⟨qg F a1 [103],uO F a [100] u++m1++uO F a1 [103] u, ?_, ?_,by omega,x3,by simp only[ai];omega,((xP (ae a) (ae a)).ap e5.2).apA fun _=>xP (ae a1) (by omega)⟩
 ·show as5 (gB q) F (a:Int) l u d=_;rw[as5,zW hF a l u d (by omega) (by omega) [100] rfl,bu];simp only[lS];rw[e1,bu];simp only;rw[zW hF a1 _ u d (by omega) (by simp only[ai];omega) [103] rfl,bu];simp only[lS,ah]
 ·show asU (gK q') F (iK F) l (a:Int) u d=_;rw[asU,zX a l u d (by omega) (by omega) p3 (by omega) [100] (by simp),bu];simp only[lS];rw[e2,bu];simp only;rw[zX a1 _ u d (by omega) (by simp only[ai];omega) p3 (by omega) [103] (by simp),bu];simp only[lS,ah]
theorem acp {k:Nat} (h:All F k) (a:Nat) (l:List Nd) (u d:Int) (q q':Nat) (o:bM) (h0:o.contains 0=false) (ho:o.length<1000000) (hm:16*(F.length-a)+13<k) (hr:k<=q) (hr':k<=q') (hp:Jo F a l d 105):
  ∃(a':Nat) (m:List Nd),(bz ((gB q).q266 F (a:Int) l u d) fun y0=>bz (rM y0.1.1 y0.1.2.1 y0.1.2.2.1 y0.1.2.2.2.1 y0.1.2.2.2.2.1 o) fun y1=>
    some ((y1.1.1,(y1.1.2.1,(y1.1.2.2.1,(y1.1.2.2.2.1,(y1.1.2.2.2.2.1,()))))),()))=some (PR F a' (l++m) u d,())/\
   (∀{β:Type} (K:(List Lf×List UInt8×List Nd×Int×Int×Int×Unit)×Unit->Option β),(bz ((gK q').q194 F (iK F) l (a:Int) u d) fun y3=>bz (mF y3.1.1 y3.1.2.1 y3.1.2.2.1 y3.1.2.2.2.1 y3.1.2.2.2.2.1 y3.1.2.2.2.2.2.1 o) K)=K (RR F a' (l++m) u d,()))/\a<=a'/\a'<=F.length/\m.length<=16*(a'-a)+2/\Tr a a' u l.length m:=by
 obtain⟨p1,p2,p3,p4⟩:=hp;have hFl:=hF.len;obtain⟨a1,m1,e1,e2,e3,e4,e5⟩:=h.body a l u d q q' (by omega) (by omega) (by omega) ⟨p1,by omega,p3,p4⟩;obtain⟨x1,x2⟩:=Ip (F:=F) a1 o;have x3:=x2 e4;have x4:=uh (F:=F) a1 o u;refine⟨qg F a1 o,m1++uO F a1 o u, ?_,fun K=> ?_,by omega,x3,by simp only[ai];omega,e5.2.apA fun _=>xP (ae a1) (by omega)⟩
 ·rw[e1,bu];simp only;rw[zW hF a1 _ u d (by omega) (by simp only[ai];omega) o h0,bu];simp only[lS,ah]
 ·rw[e2,bu];simp only;rw[zX a1 _ u d (by omega) (by simp only[ai];omega) p3 (by omega) o ho,bu];simp only[lS,ah]
end
section
open Nat renaming le_refl → ae
open Go.RowKit
variable {F:List Lf} (hF:WU F)
include hF
theorem Xe {k:Nat} (h:All F k) {q q':Nat} (hq:k<=q) (hq':k<=q') (u d v:Int) (hd:0<=d/\d<=200): ∀(N a:Nat) (L:List Nd),F.length-a<N->a<=F.length->16*(F.length-a)+2<k->L.length<=16*a+110->
  ∃(a':Nat) (m:List Nd),Kw (gB q) N F (a:Int) u d L=some (.inl ((),((),()),((F,(a':Int),u,d,()),L++m,())))/\
   AQ (gK q') N v F (iK F) (a:Int) u d L=some (.inl ((v,()),((),()),((F,iK F,(a':Int),u,d,()),L++m,())))/\a<=a'/\a'<=F.length/\m.length<=16*(a'-a)/\Tr a a' u L.length m
 |0,a,L,hN,_,_,_=>by omega
 |N+1,a,L,hN,ha,hn,hL=>by
  have hFl:=hF.len;rw[Kw,Rf,AQ,LD,mr hF a L u d (by omega) [101] rfl,jd a L u d [101] (by simp),bu,bu];simp only;cases hb:fF F a [101]with
  |false=>
   rw[xN hb];exact⟨a,[],by simp,by simp,ae _,ha,by simp,.nil (ae _)⟩
  |true=>
   have hlt:=gW hb;rw[mY hb];simp only[cond_true];rw[bZ (by omega) (by omega),show(a:Int)+1=((a+1:Nat):Int) by omega];obtain⟨a1,m1,e1,e2,e3,e4,e5⟩:=h.body (a+1) L u d q q' (by omega) hq hq' ⟨by omega,by omega,hd.1,hd.2⟩;obtain⟨w1,w2⟩:=Ip (F:=F) a1 [116];have w3:=w2 e4;have w4:=uh (F:=F) a1 [116] u;obtain⟨a2,m2,f1,f2,f3,f4,f5⟩:=h.body (qg F a1 [116]) (L++m1++uO F a1 [116] u) u d q q' (by omega) hq hq' ⟨w3,by grind,hd.1,hd.2⟩;obtain⟨a',m,g1,g2,g3,g4,g5⟩:=Xe h hq hq' u d v hd N a2 (L++m1++uO F a1 [116] u++m2) (by omega) f4 (by omega) (by grind);refine⟨a',m1++uO F a1 [116] u++m2++m, ?_, ?_,by omega,g4,by grind,(((e5.2.wide (by omega) (ae _)).apA fun _=>xP (ae a1) (ae a1)).ap f5.2).ap g5.2⟩
   ·rw[e1,bu];simp only;rw[zW hF a1 _ u d (by omega) (by grind) [116] rfl,bu];simp_all [lS,bu]
   grind [bu,zX,lS]
theorem aIc {k:Nat} (h:All F k) (a:Nat) (l:List Nd) (u d v:Int) (r q':Nat) (hm:16*(F.length-a)+13<k) (hr:k+1<=r) (hr':k<=q') (hp:Jo F a l d 105):
  ∃(a':Nat) (m:List Nd),(gB r).q247 F (a:Int) l u d=some (PR F a' (l++m) u d,())/\
   (∀{β:Type} (K:Int->(List Lf×List UInt8×List Nd×Int×Int×Int×Unit)×Unit->Option β),
    (bz ((gK q').q194 F (iK F) l (a:Int) u d) fun y3=>
       bz (mF y3.1.1 y3.1.2.1 y3.1.2.2.1 y3.1.2.2.2.1 y3.1.2.2.2.2.1 y3.1.2.2.2.2.2.1 [116]) fun y4=>
        bz ((gK q').q194 y4.1.1 y4.1.2.1 y4.1.2.2.1 y4.1.2.2.2.1 y4.1.2.2.2.2.1 y4.1.2.2.2.2.2.1) fun y5=>
         bz (AQ (gK q') bH v y5.1.1 y5.1.2.1 y5.1.2.2.2.1 y5.1.2.2.2.2.1 y5.1.2.2.2.2.2.1 y5.1.2.2.1) fun y6=>
          dE y6 (fun a7=>
           bz (nI a7.2.2.1.1 a7.2.2.1.2.1 a7.2.2.2.1 a7.2.2.1.2.2.1 a7.2.2.1.2.2.2.1 a7.2.2.1.2.2.2.2.1 [108]) fun y8=>
            bif y8.2.1 then
             bz ((gK q').q194 y8.1.1 y8.1.2.1 y8.1.2.2.1 (bU .i64 y8.1.2.2.2.1 1) y8.1.2.2.2.2.1 y8.1.2.2.2.2.2.1) fun y9=>
              bz (mF y9.1.1 y9.1.2.1 y9.1.2.2.1 y9.1.2.2.2.1 y9.1.2.2.2.2.1 y9.1.2.2.2.2.2.1 [102]) (K a7.1.1)
            else
            bz (mF y8.1.1 y8.1.2.1 y8.1.2.2.1 y8.1.2.2.2.1 y8.1.2.2.2.2.1 y8.1.2.2.2.2.2.1 [102]) (K a7.1.1)) (fun b7=>none))=K v (RR F a' (l++m) u d,()))/\a<=a'/\a'<=F.length/\m.length<=16*(a'-a)+5/\Tr a a' u l.length m:=by
 obtain⟨p1,p2,p3,p4⟩:=hp;have hFl:=hF.len;obtain⟨q,rfl⟩: ∃q,r=q+1:=⟨r-1,by omega⟩;obtain⟨a1,m1,e1,e2,e3,e4,e5⟩:=h.body a l u d q q' (by omega) (by omega) hr' ⟨p1,by omega,p3,p4⟩;obtain⟨w1,w2⟩:=Ip (F:=F) a1 [116];have w3:=w2 e4;have w4:=uh (F:=F) a1 [116] u;obtain⟨a2,m2,f1,f2,f3,f4,f5⟩:=h.body (qg F a1 [116]) (l++m1++uO F a1 [116] u) u d q q' (by omega) (by omega) hr' ⟨w3,by grind,p3,p4⟩;obtain⟨a3,m3,g1,g2,g3,g4,g5⟩:=Xe hF h (q:=q) (q':=q') (by omega) hr' u d v ⟨p3,p4⟩ bH a2 (l++m1++uO F a1 [116] u++m2) (dB (by omega)) f4 (by omega) (by grind);have hlast: ∃(a':Nat) (m:List Nd),(bz (rG F (a3:Int) (l++m1++uO F a1 [116] u++m2++m3) u d [108]) fun y5=>
       bif y5.2.1 then
        bz ((gB q).q266 y5.1.1 y5.1.2.1 y5.1.2.2.1 y5.1.2.2.2.1 y5.1.2.2.2.2.1) fun y6=>
         bz (rM y6.1.1 y6.1.2.1 y6.1.2.2.1 y6.1.2.2.2.1 y6.1.2.2.2.2.1 [102]) fun y7=>
          some ((y7.1.1,(y7.1.2.1,(y7.1.2.2.1,(y7.1.2.2.2.1,(y7.1.2.2.2.2.1,()))))),())
       else
       bz (rM y5.1.1 y5.1.2.1 y5.1.2.2.1 y5.1.2.2.2.1 y5.1.2.2.2.2.1 [102]) fun y6=>
        some ((y6.1.1,(y6.1.2.1,(y6.1.2.2.1,(y6.1.2.2.2.1,(y6.1.2.2.2.2.1,()))))),()))=some (PR F a' (l++m1++uO F a1 [116] u++m2++m3++m) u d,())/\
   (∀{β:Type} (K:(List Lf×List UInt8×List Nd×Int×Int×Int×Unit)×Unit->Option β),(bz (nI F (iK F) (l++m1++uO F a1 [116] u++m2++m3) (a3:Int) u d [108]) fun y8=>
            bif y8.2.1 then
             bz ((gK q').q194 y8.1.1 y8.1.2.1 y8.1.2.2.1 (bU .i64 y8.1.2.2.2.1 1) y8.1.2.2.2.2.1 y8.1.2.2.2.2.2.1) fun y9=>
              bz (mF y9.1.1 y9.1.2.1 y9.1.2.2.1 y9.1.2.2.2.1 y9.1.2.2.2.2.1 y9.1.2.2.2.2.2.1 [102]) K
            else
            bz (mF y8.1.1 y8.1.2.1 y8.1.2.2.1 y8.1.2.2.2.1 y8.1.2.2.2.2.1 y8.1.2.2.2.2.2.1 [102]) K)=K (RR F a' (l++m1++uO F a1 [116] u++m2++m3++m) u d,()))/\a3<=a'/\a'<=F.length/\m.length<=16*(a'-a3)+2/\Tr a3 a' u (l++m1++uO F a1 [116] u++m2++m3).length m:=by
  have hL:(l++m1++uO F a1 [116] u++m2++m3).length<=16*a3+108:=by grind
  generalize l++m1++uO F a1 [116] u++m2++m3=L at hL;rw[mr hF a3 L u d (by omega) [108] rfl,bu];cases hb:fF F a3 [108]with
  |true=>
   have hlt:=gW hb;obtain⟨b1,n1,s1,s2,s3,s4,s5⟩:=acp hF h (a3+1) L u d q q' [102] rfl (by simp) (by omega) (by omega) hr' ⟨by omega,by omega,p3,p4⟩;refine⟨b1,n1, ?_,fun K=> ?_,by omega,s4,by omega,s5.2.wide (by omega) (ae _)⟩
   ·simp_all [mY]
   ·rw[jd a3 L u d [108] (by simp),bu,hb];simp only[cond_true];rw[bZ (by omega) (by omega),show(a3:Int)+1=((a3+1:Nat):Int) by omega];exact s2 K
  |false=>
   obtain⟨x1,x2⟩:=Ip (F:=F) a3 [102];have x3:=x2 g4;have x4:=uh (F:=F) a3 [102] u;refine⟨qg F a3 [102],uO F a3 [102] u, ?_,fun K=> ?_,x1,x3,by omega,xP (ae a3) x1⟩
   ·rw[xN hb];simp only[cond_false];rw[zW hF a3 L u d (by omega) (by omega) [102] rfl,bu];simp only[lS]
   ·rw[jd a3 L u d [108] (by simp),bu,hb];simp only[cond_false]
    grind [zX,bu,lS]
 obtain⟨a',m,s1,s2,s3,s4,s5⟩:=hlast;refine⟨a',m1++uO F a1 [116] u++m2++m3++m, ?_,fun K=> ?_,by omega,s4,by grind,(((e5.2.apA fun _=>xP (ae a1) (ae a1)).ap f5.2).ap g5.2).ap s5.2⟩
 ·show as1 (gB q) F (a:Int) l u d=_;rw[as1,e1,bu];simp only;rw[zW hF a1 _ u d (by omega) (by grind) [116] rfl,bu];simp_all [lS,bu,dE]
 ·rw[e2,bu];simp only;rw[zX a1 _ u d (by omega) (by grind) p3 (by omega) [116] (by simp),bu];simp_all [lS,bu,dE]
theorem ayo {k:Nat} (h:All F k) (a:Nat) (l:List Nd) (u d:Int) (r q':Nat) (hm:16*(F.length-a)+13<k) (hr:k+2<=r) (hr':k+1<=q') (hp:Jo F a l d 104):
  ∃(a':Nat) (m:List Nd),(gB r).q248 F (a:Int) l u d=some (PR F a' (l++m) u d,())/\
   (∀{β:Type} (K:(List Lf×List UInt8×List Nd×Int×Int×Int×Unit)×Unit->Option β),
    (bz ((gK q').q194 F (iK F) l (a:Int) u d) fun y3=>
       bz ((gK q').q195 y3.1.1 y3.1.2.1 y3.1.2.2.1 y3.1.2.2.2.1 y3.1.2.2.2.2.1 y3.1.2.2.2.2.2.1) K)=K (RR F a' (l++m) u d,()))/\a<=a'/\a'<=F.length/\m.length<=16*(a'-a)+4/\Tr a a' u l.length m:=by
 obtain⟨p1,p2,p3,p4⟩:=hp;have hFl:=hF.len;obtain⟨q,rfl⟩: ∃q,r=q+1:=⟨r-1,by omega⟩;obtain⟨a1,m1,e1,e2,e3,e4,e5⟩:=h.body a l u d q q' (by omega) (by omega) (by omega) ⟨p1,by omega,p3,p4⟩;obtain⟨a',m,f1,f2,f3,f4,f5⟩:=FO hF h a1 (l++m1) u d q q' (by omega) (by omega) (by omega) ⟨e4,by grind,p3,p4⟩;refine⟨a',m1++m, ?_,fun K=> ?_,by omega,f4,by grind,e5.2.ap f5.2⟩
 ·simp_all [aBZ,gB,bu]
 simp_all [bu]
end
section
open Bool renaming not_true → ay, not_false → aB
open List renaming append_assoc → ah, getElem_mem → aH
open Nat renaming le_refl → ae
open Go.RowKit
variable {F:List Lf} (hF:WU F)
include hF
omit hF in
theorem aEF {a:Nat} (h:fF F a [110]=true):bJ (((ln F a:Nat):Int)-(a:Int)) 0=false:=by
 have:a+1<=ln F a:=by
  simp_all [ln,lnF,ahp]
 exact dL (by omega)
omit hF in
theorem aIn {a:Nat} (h:fF F a [110]=false):bJ (((ln F a:Nat):Int)-(a:Int)) 0=true:=by
 simp_all [ln,lnF,eH]
theorem VZ {q:iq} {q':iQ} (u d:Int) (hd:0<=d/\d<=200): ∀(N a:Nat) (L:List Nd),F.length-a<N->a<=F.length->L.length<=16*a+200->
  ∃(a':Nat) (m:List Nd),Gt q N F (a:Int) u d L=some (.inl ((),((),()),((F,(a':Int),u,d,()),L++m,())))/\
   Gq q' N F (iK F) (a:Int) u d L=some (.inl ((),((),()),((F,iK F,(a':Int),u,d,()),L++m,())))/\a<=a'/\a'<=F.length/\m.length<=a'-a/\Tr a a' u L.length m
 |0,a,L,hN,_,_=>by omega
 |N+1,a,L,hN,ha,hL=>by
  have hFl:=hF.len;rw[Gt,Rh,Gq,Q4,Az a L u d,bu];simp only;by_cases hlt:a<F.length
  ·rw[bI (b:=gU (a:Int) (bC F)) (dZ (by rw[bF];omega)),bI (b:=fB F (a:Int)) (dN (by omega) (by omega)),AC hlt];by_cases h6:F[a].1=6
   ·have hw:DL F a=true:=by simp_all [DL]
    rw[bI (b:=bJ F[a].1 6) (eH h6),hw];simp only[cond_true];rw[IV a L u d 7 (by omega) (by omega),Pm a L u d (by omega) (by omega) rfl (by omega) (by omega) hd.1 (by omega),bu,bu];simp only;obtain⟨a',m,g1,g2,g3,g4,g5⟩:=VZ u d hd N (a+1) (L++[(7,(a:Int),((a+1:Nat):Int),u,())]) (by omega) (by omega) (by grind);exact⟨a',[(7,(a:Int),((a+1:Nat):Int),u,())]++m,by rw[g1,ah],by rw[g2,ah],by omega,g4,by grind,(Tr.lf (ae a) (ae _) (by omega)).ap g5.2⟩
   ·have hw:DL F a=false:=by simp_all [DL]
    rw[dC (b:=bJ F[a].1 6) (dL h6),hw];exact⟨a,[],by simp,by simp,ae _,ha,by simp,.nil (ae _)⟩
  ·have hw:DL F a=false:=by unfold DL;rw[dif_neg hlt]
   rw[dC (b:=gU (a:Int) (bC F)) (fV (by rw[bF];omega)),hw];exact⟨a,[],by simp,by simp,ae _,ha,by simp,.nil (ae _)⟩
theorem ad7 {k:Nat} (h:All F k) (a:Nat) (l:List Nd) (u d:Int) (q q':Nat) (hm:16*(F.length-a)+13<k) (hr:k+1<=q) (hr':k+1<=q') (hp:Jo F a l d 102):
  ∃(a':Nat) (m:List Nd),(bz (rG F (a:Int) l u d [59]) fun y2=>
    bif y2.2.1 then
     bz (o5 y2.1.1 y2.1.2.1 y2.1.2.2.1 y2.1.2.2.2.1 y2.1.2.2.2.2.1) fun y3=>
      bz ((gB q).q267 y3.1.1 y3.1.2.1 y3.1.2.2.1 y3.1.2.2.2.1 y3.1.2.2.2.2.1) fun y4=>
       some ((y4.1.1,(y4.1.2.1,(y4.1.2.2.1,(y4.1.2.2.2.1,(y4.1.2.2.2.2.1,()))))),())
    else
    bz (o5 y2.1.1 y2.1.2.1 y2.1.2.2.1 y2.1.2.2.2.1 y2.1.2.2.2.2.1) fun y3=>
     bz (rG y3.1.1 y3.1.2.1 y3.1.2.2.1 y3.1.2.2.2.1 y3.1.2.2.2.2.1 [107]) fun y4=>
      bif y4.2.1 then
       bz (Gt (gB q) bH y4.1.1 y4.1.2.1 y4.1.2.2.2.1 y4.1.2.2.2.2.1 y4.1.2.2.1) fun y5=>
        dE y5 (fun a6=>
         bz (rG a6.2.2.1.1 a6.2.2.1.2.1 a6.2.2.2.1 a6.2.2.1.2.2.1 a6.2.2.1.2.2.2.1 [59]) fun y7=>
          bz (o5 y7.1.1 y7.1.2.1 y7.1.2.2.1 y7.1.2.2.2.1 y7.1.2.2.2.2.1) fun y8=>
           bif(!y8.2.1)then
            bif(!y7.2.1)then
             bz (yx y8.1.1 y8.1.2.1 y8.1.2.2.1 y8.1.2.2.2.1 y8.1.2.2.2.2.1) fun y9=>
              bz ((gB q).q267 y9.1.1 y9.1.2.1 y9.1.2.2.1 y9.1.2.2.2.1 y9.1.2.2.2.2.1) fun y10=>
               some ((y10.1.1,(y10.1.2.1,(y10.1.2.2.1,(y10.1.2.2.2.1,(y10.1.2.2.2.2.1,()))))),())
            else
            bz ((gB q).q267 y8.1.1 y8.1.2.1 y8.1.2.2.1 y8.1.2.2.2.1 y8.1.2.2.2.2.1) fun y9=>
             some ((y9.1.1,(y9.1.2.1,(y9.1.2.2.1,(y9.1.2.2.2.1,(y9.1.2.2.2.2.1,()))))),())
           else
           bz ((gB q).q267 y8.1.1 y8.1.2.1 y8.1.2.2.1 y8.1.2.2.2.1 y8.1.2.2.2.2.1) fun y9=>
            some ((y9.1.1,(y9.1.2.1,(y9.1.2.2.1,(y9.1.2.2.2.1,(y9.1.2.2.2.2.1,()))))),())) (fun b6=>
         none)
      else
      bz ((gB q).q267 y4.1.1 y4.1.2.1 y4.1.2.2.1 y4.1.2.2.2.1 y4.1.2.2.2.2.1) fun y5=>
       some ((y5.1.1,(y5.1.2.1,(y5.1.2.2.1,(y5.1.2.2.2.1,(y5.1.2.2.2.2.1,()))))),()))=some (PR F a' (l++m) u d,())/\
   (bz (nI F (iK F) l (a:Int) u d [59]) fun y1=>
   bif y1.2.1 then
    bz (rV y1.1.1 y1.1.2.1 y1.1.2.2.1 (bU .i64 y1.1.2.2.2.1 1) y1.1.2.2.2.2.1 y1.1.2.2.2.2.2.1) fun y2=>
     bz ((gK q').q195 y2.1.1 y2.1.2.1 y2.1.2.2.1 y2.1.2.2.2.1 y2.1.2.2.2.2.1 y2.1.2.2.2.2.2.1) fun y3=>
      some ((y3.1.1,(y3.1.2.1,(y3.1.2.2.1,(y3.1.2.2.2.1,(y3.1.2.2.2.2.1,(y3.1.2.2.2.2.2.1,())))))),())
   else
   bz (rV y1.1.1 y1.1.2.1 y1.1.2.2.1 y1.1.2.2.2.1 y1.1.2.2.2.2.1 y1.1.2.2.2.2.2.1) fun y2=>
    bz (nI y2.1.1 y2.1.2.1 y2.1.2.2.1 y2.1.2.2.2.1 y2.1.2.2.2.2.1 y2.1.2.2.2.2.2.1 [107]) fun y3=>
     bif y3.2.1 then
      bz (Gq (gK q') bH y3.1.1 y3.1.2.1 (bU .i64 y3.1.2.2.2.1 1) y3.1.2.2.2.2.1 y3.1.2.2.2.2.2.1 y3.1.2.2.1) fun y4=>
       dE y4 (fun a5=>
        bz (nI a5.2.2.1.1 a5.2.2.1.2.1 a5.2.2.2.1 a5.2.2.1.2.2.1 a5.2.2.1.2.2.2.1 a5.2.2.1.2.2.2.2.1 [59]) fun y6=>
         bif y6.2.1 then
          bz (rV y6.1.1 y6.1.2.1 y6.1.2.2.1 (bU .i64 y6.1.2.2.2.1 1) y6.1.2.2.2.2.1 y6.1.2.2.2.2.2.1) fun y7=>
           bz ((gK q').q195 y7.1.1 y7.1.2.1 y7.1.2.2.1 y7.1.2.2.2.1 y7.1.2.2.2.2.1 y7.1.2.2.2.2.2.1) fun y8=>
            some ((y8.1.1,(y8.1.2.1,(y8.1.2.2.1,(y8.1.2.2.2.1,(y8.1.2.2.2.2.1,(y8.1.2.2.2.2.2.1,())))))),())
         else
         bz (rV y6.1.1 y6.1.2.1 y6.1.2.2.1 y6.1.2.2.2.1 y6.1.2.2.2.2.1 y6.1.2.2.2.2.2.1) fun y7=>
          bif(bJ y7.2.1 0)then
           bz (uA y7.1.1 y7.1.2.1 y7.1.2.2.1 y7.1.2.2.2.1 y7.1.2.2.2.2.1 y7.1.2.2.2.2.2.1) fun y8=>
            bz ((gK q').q195 y8.1.1 y8.1.2.1 y8.1.2.2.1 y8.1.2.2.2.1 y8.1.2.2.2.2.1 y8.1.2.2.2.2.2.1) fun y9=>
             some ((y9.1.1,(y9.1.2.1,(y9.1.2.2.1,(y9.1.2.2.2.1,(y9.1.2.2.2.2.1,(y9.1.2.2.2.2.2.1,())))))),())
          else
          bz ((gK q').q195 y7.1.1 y7.1.2.1 y7.1.2.2.1 y7.1.2.2.2.1 y7.1.2.2.2.2.1 y7.1.2.2.2.2.2.1) fun y8=>
           some ((y8.1.1,(y8.1.2.1,(y8.1.2.2.1,(y8.1.2.2.2.1,(y8.1.2.2.2.2.1,(y8.1.2.2.2.2.2.1,())))))),())) (fun b5=>
        none)
     else
     bz ((gK q').q195 y3.1.1 y3.1.2.1 y3.1.2.2.1 y3.1.2.2.2.1 y3.1.2.2.2.2.1 y3.1.2.2.2.2.2.1) fun y4=>
      some ((y4.1.1,(y4.1.2.1,(y4.1.2.2.1,(y4.1.2.2.2.1,(y4.1.2.2.2.2.1,(y4.1.2.2.2.2.2.1,())))))),()))=some (RR F a' (l++m) u d,())/\a<=a'/\a'<=F.length/\m.length<=16*(a'-a)+4/\Tr a a' u l.length m:=by
 obtain⟨p1,p2,p3,p4⟩:=hp;have hFl:=hF.len;rw[mr hF a l u d (by omega) [59] rfl,jd a l u d [59] (by simp),bu,bu];simp only;cases hb:fF F a [59]with
 |true=>
  have hlt:=gW hb;rw[mY hb];simp only[cond_true];have hge:=xA (F:=F) (a+1);have hle:=yF (F:=F) (a:=a+1) (by omega);rw[bZ (by omega) (by omega),show(a:Int)+1=((a+1:Nat):Int) by omega,nz hF (a+1) l u d (by omega),lZ hF (a+1) l u d (by omega),bu,bu];simp only;obtain⟨a',m,f1,f2,f3,f4,f5⟩:=FO hF h (ln F (a+1)) l u d q q' (by omega) (by omega) (by omega) ⟨hle,by omega,p3,p4⟩;rw[f1,f2,bu,bu];exact⟨a',m,rfl,rfl,by omega,f4,by omega,f5.2.wide (by omega) (ae _)⟩
 |false=>
  rw[xN hb];simp only[cond_false];have hge:=xA (F:=F) a;have hle:=yF (F:=F) p1;rw[nz hF a l u d p1,lZ hF a l u d p1,bu,bu];simp only;rw[mr hF (ln F a) l u d (by omega) [107] rfl,jd (ln F a) l u d [107] (by simp),bu,bu];simp only;cases hb2:fF F (ln F a) [107]with
  |false=>
   rw[xN hb2];simp only[cond_false];obtain⟨a',m,f1,f2,f3,f4,f5⟩:=FO hF h (ln F a) l u d q q' (by omega) (by omega) (by omega) ⟨hle,by omega,p3,p4⟩;rw[f1,f2,bu,bu];exact⟨a',m,rfl,rfl,by omega,f4,by omega,f5.2.wide (by omega) (ae _)⟩
  |true=>
   have hlt:=gW hb2;rw[mY hb2];simp only[cond_true];obtain⟨a1,m1,g1,g2,g3,g4,g5⟩:=VZ hF (q:=gB q) (q':=gK q') u d ⟨p3,p4⟩ bH (ln F a+1) l (dB (by omega)) (by omega) (by omega);rw[bZ (by omega) (by omega),show((ln F a:Nat):Int)+1=((ln F a+1:Nat):Int) by omega,g1,g2,bu,bu];simp only[dE];have hL:(l++m1).length<=16*a1+90:=by grind
   rw[mr hF a1 (l++m1) u d (by omega) [59] rfl,jd a1 (l++m1) u d [59] (by simp),bu,bu];simp only;cases hb3:fF F a1 [59]with
   |true=>
    have hlt3:=gW hb3;rw[mY hb3];simp only[cond_true,ay,cond_false];have hge3:=xA (F:=F) (a1+1);have hle3:=yF (F:=F) (a:=a1+1) (by omega);rw[bZ (by omega) (by omega),show(a1:Int)+1=((a1+1:Nat):Int) by omega,nz hF (a1+1) (l++m1) u d (by omega),lZ hF (a1+1) (l++m1) u d (by omega),bu,bu];simp only;obtain⟨a',m,f1,f2,f3,f4,f5⟩:=FO hF h (ln F (a1+1)) (l++m1) u d q q' (by omega) (by omega) (by omega) ⟨hle3,by omega,p3,p4⟩;rw[f1,f2,bu,bu];refine⟨a',m1++m, ?_,by simp,by omega,f4,by grind,(g5.2.wide (by omega) (ae _)).ap f5.2⟩;simp
   |false=>
    rw[xN hb3];simp only[aB,cond_true,cond_false];have hge3:=xA (F:=F) a1;have hle3:=yF (F:=F) g4;rw[nz hF a1 (l++m1) u d g4,lZ hF a1 (l++m1) u d g4,bu,bu];simp only;cases hb4:fF F a1 [110]with
    |true=>
     rw[aEF hb4];simp only[ay,cond_false];obtain⟨a',m,f1,f2,f3,f4,f5⟩:=FO hF h (ln F a1) (l++m1) u d q q' (by omega) (by omega) (by omega) ⟨hle3,by omega,p3,p4⟩;rw[f1,f2,bu,bu];exact⟨a',m1++m,by simp,by simp,by omega,f4,by grind,(g5.2.wide (by omega) (ae _)).ap f5.2⟩
    |false=>
     rw[aIn hb4];simp only[aB,cond_true];rw[mO (ln F a1) (l++m1) u d (by omega),xC (ln F a1) (l++m1) u d (by omega) p3 (by omega),bu,bu];simp only;obtain⟨a',m,f1,f2,f3,f4,f5⟩:=FO hF h (ln F a1) (l++m1++[(18,((ln F a1:Nat):Int),((ln F a1:Nat):Int),u,())]) u d q q' (by omega) (by omega) (by omega) ⟨hle3,by grind,p3,p4⟩;rw[f1,f2,bu,bu];exact⟨a',m1++[(18,((ln F a1:Nat):Int),((ln F a1:Nat):Int),u,())]++m,by simp,by simp,by omega,f4,by grind,((g5.2.wide (by omega) (ae _)).apA fun _=>Tr.mis (ae (ln F a1)) (ae _)).ap f5.2⟩
theorem ayO {k:Nat} (h:All F k) (a:Nat) (l:List Nd) (u d:Int) (r r':Nat) (hm:16*(F.length-a)+13<k) (hr:k+2<=r) (hr':k+2<=r') (hp:Jo F a l d 101):
  ∃(a':Nat) (m:List Nd),(gB r).q249 F (a:Int) l u d=some (PR F a' (l++m) u d,())/\
   (gK r').q196 F (iK F) l (a:Int) u d=some (RR F a' (l++m) u d,())/\a<=a'/\a'<=F.length/\m.length<=16*(a'-a)+5/\Tr a a' u l.length m:=by
 obtain⟨p1,p2,p3,p4⟩:=hp;have hFl:=hF.len;obtain⟨q,rfl⟩: ∃q,r=q+1:=⟨r-1,by omega⟩;obtain⟨q',rfl⟩: ∃q',r'=q'+1:=⟨r'-1,by omega⟩;obtain⟨a1,m1,t1,t2,t3,t4,t5⟩:=ad7 hF h a (l++[(18,(a:Int),(a:Int),u,())]) u d q q' (by omega) (by omega) (by omega) ⟨p1,by simp_all,p3,p4⟩;show ∃(a':Nat) (m:List Nd),as2 (gB q) F (a:Int) l u d=_/\asV (gK q') F (iK F) l (a:Int) u d=_/\_
 (rewrite [as2,asV];delta Qk JQ JP;rw[Az a l u d,bu])
 simp only;by_cases hlt:a<F.length
 ·rw[bI (b:=gU (a:Int) (bC F)) (dZ (by rw[bF];omega))];simp only[show fB F (a:Int)=true from dN (by omega) (by omega),cond_true];rw[AC hlt];by_cases h6:F[a].1=6
  ·have hw:DL F a=true:=by simp_all [DL]
   rw[bI (b:=bJ F[a].1 6) (eH h6),hw];simp only[cond_true];rw[OY (by have:=hF.txt _ (aH hlt);omega),xu (by have:=hF.txt _ (aH hlt);omega),bu,bu];simp only;cases decide (nl F[a].2.1≠0/\nl F[a].2.1=F[a].2.1.length)with
   |true=>
    simp only[cond_true];rw[IV a l u d 7 (by omega) (by omega),Pm a l u d (by omega) (by omega) rfl (by omega) (by omega) p3 (by omega),bu,bu];obtain⟨a2,m2,s1,s2,s3,s4,s5⟩:=ad7 hF h (a+1) (l++[(7,(a:Int),((a+1:Nat):Int),u,())]) u d q q' (by omega) (by omega) (by omega) ⟨by omega,by grind,p3,p4⟩;exact⟨a2,[(7,(a:Int),((a+1:Nat):Int),u,())]++m2,by simp_all,by simp_all,by omega,s4,by grind,(Tr.lf (ae a) (ae _) (by omega)).ap s5.2⟩
   |false=>
    simp only[cond_false];rw[mO a l u d (by omega),xC a l u d (by omega) p3 (by omega),bu,bu];exact⟨a1,[(18,(a:Int),(a:Int),u,())]++m1,by simp_all,by simp_all,by omega,t4,by simp_all,(Tr.mis (ae a) (ae a)).ap t5.2⟩
  ·have hw:DL F a=false:=by simp_all [DL]
   rw[dC (b:=bJ F[a].1 6) (dL h6),hw];simp only[cond_false];rw[mO a l u d (by omega),xC a l u d (by omega) p3 (by omega),bu,bu];exact⟨a1,[(18,(a:Int),(a:Int),u,())]++m1,by simp_all,by simp_all,by omega,t4,by simp_all,(Tr.mis (ae a) (ae a)).ap t5.2⟩
 ·have hw:DL F a=false:=by unfold DL;rw[dif_neg hlt]
  rw[dC (b:=gU (a:Int) (bC F)) (fV (by rw[bF];omega)),hw];simp only[cond_false];rw[mO a l u d (by omega),xC a l u d (by omega) p3 (by omega),bu,bu];exact⟨a1,[(18,(a:Int),(a:Int),u,())]++m1,by simp_all,by simp_all,by omega,t4,by simp_all,(Tr.mis (ae a) (ae a)).ap t5.2⟩
end
section
open Bool renaming false_eq_true → ag
open List renaming append_assoc → ah
open Nat renaming le_refl → ae
open Go.RowKit
variable {F:List Lf} (hF:WU F)
include hF
omit hF in
theorem Ov (a:Nat):a<=DU F a/\(a<=F.length->DU F a<=F.length)/\(DL F a=true->DU F a=a+1):=by
 unfold DU;cases h:DL F a with
 |true=>have:=ZA h;grind
 |false=>simp
theorem adk {q:iq} {q':iQ} (u d v:Int) (hd:0<=d/\d<=200): ∀(N a:Nat) (L:List Nd),F.length-a<N->a<=F.length->L.length<=16*a+200->
  ∃(a':Nat) (m:List Nd),Ky q N F (a:Int) u d L=some (.inl ((),((),()),((F,(a':Int),u,d,()),L++m,())))/\
   uD q' N v F (iK F) (a:Int) u d L=some (.inl ((v,()),((),()),((F,iK F,(a':Int),u,d,()),L++m,())))/\a<=a'/\a'<=F.length/\m.length<=a'-a/\Tr a a' u L.length m
 |0,a,L,hN,_,_=>by omega
 |N+1,a,L,hN,ha,hL=>by
  have hFl:=hF.len;rw[Ky,Rj,uD,LH,mr hF a L u d (by omega) [124] rfl,jd a L u d [124] (by simp),bu,bu];simp only;cases hb:fF F a [124]with
  |false=>
   rw[xN hb];exact⟨a,[],by simp,by simp,ae _,ha,by simp,.nil (ae _)⟩
  |true=>
   have hlt:=gW hb;rw[mY hb];simp only[cond_true];rw[bZ (by omega) (by omega),show(a:Int)+1=((a+1:Nat):Int) by omega];obtain⟨w1,w2,_⟩:=Ov (F:=F) (a+1);have w3:=w2 (by omega);rw[VY (a+1) L u d (by omega) (by omega),ade (a+1) L u d (by omega) (by omega) hd.1 (by omega),bu,bu];simp only[Jk];obtain⟨a',m,g1,g2,g3,g4,g5⟩:=adk u d v hd N (DU F (a+1)) (L++[P5 F (a+1) u]) (by omega) w3 (by grind);exact⟨a',[P5 F (a+1) u]++m,by rw[g1,ah],by rw[g2,ah],by omega,g4,by grind,(VU (by omega) (ae _)).ap g5.2⟩
theorem azw {k:Nat} (h:All F k) (a:Nat) (L:List Nd) (u d:Int) (q q':Nat) (hm:16*(F.length-a)+13<k) (hr:k+1<=q) (hr':k<=q') (hp:Jo F a L d 104) (hgo:fF F a [40]=true\/DL F a=true):
  ∃(a':Nat) (m:List Nd),(gB q).q268 F (a:Int) (bG L [opn 15 a u]) (bC L) d=some (PR F a' (bG L [opn 15 a u]++m) (bC L) d,())/\
   (∀{β:Type} (K:(List Lf×List UInt8×List Nd×Int×Int×Int×Unit)×Unit->Option β) (kR:Option β),
    (bz (DK F (iK F) L (a:Int) u d 15) fun y1=>
     bz (nI y1.1.1 y1.1.2.1 y1.1.2.2.1 y1.1.2.2.2.1 y1.1.2.2.2.2.1 y1.1.2.2.2.2.2.1 [40]) fun y2=>
      bif y2.2.1 then
       bz (xm y2.1.1 y2.1.2.1 y2.1.2.2.1 (bU .i64 y2.1.2.2.2.1 1) y2.1.2.2.2.2.1 y2.1.2.2.2.2.2.1) fun y3=>
        bz (uD (gK q') bH y1.2.1 y3.1.1 y3.1.2.1 y3.1.2.2.2.1 y3.1.2.2.2.2.1 y3.1.2.2.2.2.2.1 y3.1.2.2.1) fun y4=>
         dE y4 (fun a5=>
          bz (mF a5.2.2.1.1 a5.2.2.1.2.1 a5.2.2.2.1 a5.2.2.1.2.2.1 a5.2.2.1.2.2.2.1 a5.2.2.1.2.2.2.2.1 [41]) fun y6=>
           bz (rV y6.1.1 y6.1.2.1 y6.1.2.2.1 y6.1.2.2.2.1 y6.1.2.2.2.2.1 y6.1.2.2.2.2.2.1) fun y7=>
            bz (P7 y7.1.1 y7.1.2.1 y7.1.2.2.1 y7.1.2.2.2.1 y7.1.2.2.2.2.1 y7.1.2.2.2.2.2.1) fun y8=>
             bif y8.2.1 then
              bz ((gK q').q48 y8.1.1 y8.1.2.1 y8.1.2.2.1 y8.1.2.2.2.1 y8.1.2.2.2.2.1 y8.1.2.2.2.2.2.1) fun y9=>
               bz (o8 y9.1.1 y9.1.2.1 y9.1.2.2.1 y9.1.2.2.2.1 y9.1.2.2.2.2.1 y9.1.2.2.2.2.2.1 a5.1.1) K
             else
             bz (o8 y8.1.1 y8.1.2.1 y8.1.2.2.1 y8.1.2.2.2.1 y8.1.2.2.2.2.1 y8.1.2.2.2.2.2.1 a5.1.1) K) (fun b5=>kR)
      else
      bz (xm y2.1.1 y2.1.2.1 y2.1.2.2.1 y2.1.2.2.2.1 y2.1.2.2.2.2.1 y2.1.2.2.2.2.2.1) fun y3=>
       bz (uD (gK q') bH y1.2.1 y3.1.1 y3.1.2.1 y3.1.2.2.2.1 y3.1.2.2.2.2.1 y3.1.2.2.2.2.2.1 y3.1.2.2.1) fun y4=>
        dE y4 (fun a5=>
         bz (mF a5.2.2.1.1 a5.2.2.1.2.1 a5.2.2.2.1 a5.2.2.1.2.2.1 a5.2.2.1.2.2.2.1 a5.2.2.1.2.2.2.2.1 [41]) fun y6=>
          bz (rV y6.1.1 y6.1.2.1 y6.1.2.2.1 y6.1.2.2.2.1 y6.1.2.2.2.2.1 y6.1.2.2.2.2.2.1) fun y7=>
           bz (P7 y7.1.1 y7.1.2.1 y7.1.2.2.1 y7.1.2.2.2.1 y7.1.2.2.2.2.1 y7.1.2.2.2.2.2.1) fun y8=>
            bif y8.2.1 then
             bz ((gK q').q48 y8.1.1 y8.1.2.1 y8.1.2.2.1 y8.1.2.2.2.1 y8.1.2.2.2.2.1 y8.1.2.2.2.2.2.1) fun y9=>
              bz (o8 y9.1.1 y9.1.2.1 y9.1.2.2.1 y9.1.2.2.2.1 y9.1.2.2.2.2.1 y9.1.2.2.2.2.2.1 a5.1.1) K
            else
            bz (o8 y8.1.1 y8.1.2.1 y8.1.2.2.1 y8.1.2.2.2.1 y8.1.2.2.2.2.1 y8.1.2.2.2.2.2.1 a5.1.1) K) (fun b5=>kR))=K (RR F a' (L++(15,(a:Int),(a':Int),u,())::m) u d,()))/\a<a'/\a'<=F.length/\m.length+4<=16*(a'-a)/\Tr a a' (bC L) (L.length+1) m:=by
 obtain⟨p1,p2,p3,p4⟩:=hp;have hFl:=hF.len;obtain⟨q,rfl⟩: ∃q0,q=q0+1:=⟨q-1,by omega⟩;have hcl:(bG L [opn 15 a u]).length=L.length+1:=by unfold bG;simp
 have hcat:bG L [opn 15 a u]=L++[(15,(a:Int),0,u,())]:=rfl;have h0a:a<=tk F a [40]/\tk F a [40]<=F.length:=by
  unfold tk;split
  ·rename_i hx;have:=gW hx;omega
  ·omega
 obtain⟨w1,w2,w3⟩:=Ov (F:=F) (tk F a [40]);have w4:=w2 h0a.2;have hstep:a+1<=DU F (tk F a [40]):=by
  cases hx:fF F a [40]with
  |true=>simp_all [mY]
  |false=>
   grind
 obtain⟨a2,m2,g1,g2,g3,g4,g5⟩:=adk hF (q:=gB q) (q':=gK q') (bC L) d u ⟨p3,p4⟩ bH (DU F (tk F a [40])) (bG L [opn 15 a u]++[P5 F (tk F a [40]) (bC L)]) (dB (by omega)) w4 (by grind);obtain⟨x1,x2⟩:=Ip (F:=F) a2 [41];have x3:=x2 g4;have x4:=uh (F:=F) a2 [41] (bC L);have hge:=xA (F:=F) (qg F a2 [41]);have hle:=yF (F:=F) x3;have hM:(bG L [opn 15 a u]++[P5 F (tk F a [40]) (bC L)]++m2++uO F a2 [41] (bC L)).length<=L.length+3+(a2-DU F (tk F a [40])):=by
  grind
 have hend: ∀(a':Nat) (m:List Nd) {β:Type} (K:(List Lf×List UInt8×List Nd×Int×Int×Int×Unit)×Unit->Option β),bz (o8 F (iK F) (bG L [opn 15 a u]++m) (a':Int) (bC L) d u) K=K (RR F a' (L++(15,(a:Int),(a':Int),u,())::m) u d,()):=fun a' m β K=>by
  rw[hcat,show bC L=((L.length:Nat):Int) from rfl,uX a' _ u d L.length (by simp) (oD L _ 15 _ _) (by omega) (by omega) p3 (by omega),bu];simp only[oq,show jB 15=false from rfl,ag,if_false]
 have hfin: ∃(a':Nat) (m:List Nd),∃(hp1:qo F (ln F (qg F a2 [41])) d=true->(gB q).q89 F ((ln F (qg F a2 [41]):Nat):Int) (bG (bG L [opn 15 a u]++[P5 F (tk F a [40]) (bC L)]++m2++uO F a2 [41] (bC L)) [opn 2 (ln F (qg F a2 [41])) (bC L)]) (bC (bG L [opn 15 a u]++[P5 F (tk F a [40]) (bC L)]++m2++uO F a2 [41] (bC L))) d=some (PR F a' (bG (bG L [opn 15 a u]++[P5 F (tk F a [40]) (bC L)]++m2++uO F a2 [41] (bC L)) [opn 2 (ln F (qg F a2 [41])) (bC L)]++m) (bC (bG L [opn 15 a u]++[P5 F (tk F a [40]) (bC L)]++m2++uO F a2 [41] (bC L))) d,())/\
   (gK q').q48 F (iK F) (bG L [opn 15 a u]++[P5 F (tk F a [40]) (bC L)]++m2++uO F a2 [41] (bC L)) ((ln F (qg F a2 [41]):Nat):Int) (bC L) d=some (RR F a' ((bG L [opn 15 a u]++[P5 F (tk F a [40]) (bC L)]++m2++uO F a2 [41] (bC L))++(2,((ln F (qg F a2 [41]):Nat):Int),(a':Int),(bC L),())::m) (bC L) d,())),
   ln F (qg F a2 [41])<=a'/\a'<=F.length/\(qo F (ln F (qg F a2 [41])) d=true->m.length+1<=16*(a'-ln F (qg F a2 [41])))/\(qo F (ln F (qg F a2 [41])) d=false->a'=ln F (qg F a2 [41]))/\(qo F (ln F (qg F a2 [41])) d=true->Tr (ln F (qg F a2 [41])) a' (bC (bG L [opn 15 a u]++[P5 F (tk F a [40]) (bC L)]++m2++uO F a2 [41] (bC L))) ((bG L [opn 15 a u]++[P5 F (tk F a [40]) (bC L)]++m2++uO F a2 [41] (bC L)).length+1) m):=by
  cases hb:qo F (ln F (qg F a2 [41])) d with
  |true=>
   obtain⟨a',m,e1,e2,e3,e4,e5⟩:=h.list (ln F (qg F a2 [41])) (bG L [opn 15 a u]++[P5 F (tk F a [40]) (bC L)]++m2++uO F a2 [41] (bC L)) (bC L) d q q' (by omega) (by omega) hr' ⟨hle,by omega,p3,p4⟩ hb
   grind
  |false=>simp_all
 obtain⟨a',m,f1,f2,f3,f4,f5,f6⟩:=hfin;refine⟨a',[P5 F (tk F a [40]) (bC L)]++m2++uO F a2 [41] (bC L)++(if qo F (ln F (qg F a2 [41])) d=true then(2,((ln F (qg F a2 [41]):Nat):Int),(a':Int),(bC L),())::m else []), ?_,fun K kR=> ?_,by omega,f3, ?_⟩
 ·show as6 (gB q) F (a:Int) _ _ d=_;rw[as6,mr hF a _ (bC L) d (by omega) [40] rfl,bu];simp only;rw[VY (tk F a [40]) _ _ d (by omega) (by rw[hcl];omega),bu];simp only[Jk];rw[g1,bu];simp only[dE];rw[zW hF a2 _ (bC L) d (by omega) (by grind) [41] rfl,bu];simp only[lS];rw[nz hF (qg F a2 [41]) _ (bC L) d x3,bu];simp only;rw[Df hF (ln F (qg F a2 [41])) _ (bC L) d (by omega),bu];simp only;cases hb:qo F (ln F (qg F a2 [41])) d with
  |true=>
   have n1:=(kX (bG L [opn 15 a u]++[P5 F (tk F a [40]) (bC L)]++m2++uO F a2 [41] (bC L)) (opn 2 (ln F (qg F a2 [41])) (bC L)) (by omega)).1;obtain⟨c1,c2⟩:=qm (bG L [opn 15 a u]++[P5 F (tk F a [40]) (bC L)]++m2++uO F a2 [41] (bC L)) m (opn 2 (ln F (qg F a2 [41])) (bC L));simp_all [dU,bu,lI]
  |false=>
   simp_all
 ·rw[lH a L u d (by omega) (by omega) (by omega) p3 (by omega),bu];simp only[show jB 15=false from rfl,ag,if_false];rw[show((L.length:Nat):Int)=bC L from rfl,<-hcat,jd a _ (bC L) d [40] (by simp),bu];simp only;have hrest: ∀(b:Nat),b=tk F a [40]->(bz (xm F (iK F) (bG L [opn 15 a u]) (b:Int) (bC L) d) fun y3=>
        bz (uD (gK q') bH u y3.1.1 y3.1.2.1 y3.1.2.2.2.1 y3.1.2.2.2.2.1 y3.1.2.2.2.2.2.1 y3.1.2.2.1) fun y4=>
         dE y4 (fun a5=>
          bz (mF a5.2.2.1.1 a5.2.2.1.2.1 a5.2.2.2.1 a5.2.2.1.2.2.1 a5.2.2.1.2.2.2.1 a5.2.2.1.2.2.2.2.1 [41]) fun y6=>
           bz (rV y6.1.1 y6.1.2.1 y6.1.2.2.1 y6.1.2.2.2.1 y6.1.2.2.2.2.1 y6.1.2.2.2.2.2.1) fun y7=>
            bz (P7 y7.1.1 y7.1.2.1 y7.1.2.2.1 y7.1.2.2.2.1 y7.1.2.2.2.2.1 y7.1.2.2.2.2.2.1) fun y8=>
             bif y8.2.1 then
              bz ((gK q').q48 y8.1.1 y8.1.2.1 y8.1.2.2.1 y8.1.2.2.2.1 y8.1.2.2.2.2.1 y8.1.2.2.2.2.2.1) fun y9=>
               bz (o8 y9.1.1 y9.1.2.1 y9.1.2.2.1 y9.1.2.2.2.1 y9.1.2.2.2.2.1 y9.1.2.2.2.2.2.1 a5.1.1) K
             else
             bz (o8 y8.1.1 y8.1.2.1 y8.1.2.2.1 y8.1.2.2.2.1 y8.1.2.2.2.2.1 y8.1.2.2.2.2.2.1 a5.1.1) K) (fun b5=>kR))=K (RR F a' (L++(15,(a:Int),(a':Int),u,())::([P5 F (tk F a [40]) (bC L)]++m2++uO F a2 [41] (bC L)++(if qo F (ln F (qg F a2 [41])) d=true then(2,((ln F (qg F a2 [41]):Nat):Int),(a':Int),(bC L),())::m else []))) u d,()):=by
   rintro b rfl;rw[ade (tk F a [40]) _ _ d (by omega) (by rw[hcl];omega) p3 (by omega),bu];simp only[Jk];rw[g2,bu];simp only[dE];rw[zX a2 _ (bC L) d (by omega) (by grind) p3 (by omega) [41] (by simp),bu];simp only[lS];rw[lZ hF (qg F a2 [41]) _ (bC L) d x3,bu];simp only;rw[Ir (ln F (qg F a2 [41])) _ (bC L) d (by omega),bu];simp only;cases hb:qo F (ln F (qg F a2 [41])) d with
   |true=>
    simp_all [bu]
   |false=>
    simp_all
  cases hx:fF F a [40]with
  |true=>
   simp only[cond_true]
   grind [bZ,mY]
  |false=>
   simp_all [xN]
 ·cases hb:qo F (ln F (qg F a2 [41])) d with
  |true=>
   have:=f4 hb;rw[if_pos rfl];exact⟨by grind,(((VU (by omega) (ae _)).ap g5.2).apA fun _=>xP (ae a2) (ae _)).ap (Tr.one (f6 hb) (ae _) (ae _) (by omega) rfl)⟩
  |false=>
   have:=f5 hb;rw[if_neg (by simp),List.append_nil];exact⟨by grind,((VU (by omega) (ae _)).ap g5.2).apA fun _=>xP (ae a2) (by omega)⟩
end
section
open Bool renaming not_true → ay, not_false → aB
open List renaming length_append → ai
open Nat renaming le_refl → ae
open Go.RowKit
variable {F:List Lf} (hF:WU F)
include hF
theorem SE {k:Nat} (h:All F k) {q q':Nat} (hq:k+1<=q) (hq':k<=q') (u d:Int) (hd:0<=d/\d<=200): ∀(N N' a:Nat) (L:List Nd),F.length-a<N->F.length-a+1<N'->a<=F.length->16*(F.length-a)+13<k->L.length<=16*a+104->
  ∃(a':Nat) (m:List Nd),Gu (gB q) N F (a:Int) u d L=some (.inl ((),((),()),((F,(a':Int),u,d,()),L++m,())))/\
   yH (gK q') N' true F (iK F) (a:Int) u d L=some (.inl ((),((),()),((F,iK F,(a':Int),u,d,()),L++m,())))/\a<=a'/\a'<=F.length/\m.length<=16*(a'-a)/\Tr a a' u L.length m
 |0,_,a,L,hN,_,_,_,_=>by omega
 |N+1,0,a,L,_,hN,_,_,_=>by omega
 |N+1,1,a,L,_,hN,_,_,_=>by omega
 |N+1,N'+2,a,L,hN,hN',ha,hn,hL=>by
  have hFl:=hF.len
  (rewrite [Gu,Ri,yH,LJ];delta sO;rw[Y1 hF a L u d (by omega) [40] rfl,jd a L u d [40] (by simp),bu,cond_true,bu])
  simp only;have h122:bJ ((DR F a).toNat:Int) 122=fF F a [122]:=Yh a 122 (by decide);by_cases hgo:fF F a [40]=true\/(DL F a=true/\fF F a [122]=false)
  ·obtain⟨a1,m1,e1,e2,e3,e4,e5⟩:=azw hF h a L u d q q' (by omega) hq hq' ⟨ha,hL,hd.1,hd.2⟩ (hgo.imp id And.left);obtain⟨n1,_,_⟩:=kX L (opn 15 a u) (by omega);obtain⟨c1,c2⟩:=qm L m1 (opn 15 a u);have hL1:(L++(15,(a:Int),(a1:Int),u,())::m1).length<=16*a1+104:=by grind
   have hend: ∃(a':Nat) (m:List Nd),(bz (rG F (a1:Int) (L++(15,(a:Int),(a1:Int),u,())::m1) u d [121]) fun y2=>
      bif(!y2.2.1)then
       some (.inl ((),((),()),((y2.1.1,y2.1.2.1,y2.1.2.2.2.1,y2.1.2.2.2.2.1,()),y2.1.2.2.1,())))
      else
      bz (o5 y2.1.1 y2.1.2.1 y2.1.2.2.1 y2.1.2.2.2.1 y2.1.2.2.2.2.1) fun y3=>
       Gu (gB q) N y3.1.1 y3.1.2.1 y3.1.2.2.2.1 y3.1.2.2.2.2.1 y3.1.2.2.1)=some (.inl ((),((),()),((F,(a':Int),u,d,()),L++m,())))/\
     (bz (nI F (iK F) (L++(15,(a:Int),(a1:Int),u,())::m1) (a1:Int) u d [121]) fun y10=>
      bif y10.2.1 then
       bz (rV y10.1.1 y10.1.2.1 y10.1.2.2.1 (bU .i64 y10.1.2.2.2.1 1) y10.1.2.2.2.2.1 y10.1.2.2.2.2.2.1) fun y11=>
        yH (gK q') (N'+1) y10.2.1 y11.1.1 y11.1.2.1 y11.1.2.2.2.1 y11.1.2.2.2.2.1 y11.1.2.2.2.2.2.1 y11.1.2.2.1
      else
      yH (gK q') (N'+1) y10.2.1 y10.1.1 y10.1.2.1 y10.1.2.2.2.1 y10.1.2.2.2.2.1 y10.1.2.2.2.2.2.1 y10.1.2.2.1)=some (.inl ((),((),()),((F,iK F,(a':Int),u,d,()),L++m,())))/\a<=a'/\a'<=F.length/\m.length<=16*(a'-a)/\Tr a a' u L.length m:=by
    rw[mr hF a1 _ u d (by omega) [121] rfl,jd a1 _ u d [121] (by simp),bu,bu];simp only;cases hb:fF F a1 [121]with
    |false=>
     rw[xN hb];simp only[aB,cond_true,cond_false]
     (rewrite [yH,LJ];delta sO;rw[cond_false])
     exact⟨a1,(15,(a:Int),(a1:Int),u,())::m1,rfl,rfl,by omega,e4,by grind,e5.2.one (ae _) (ae _) (by omega) rfl⟩
    |true=>
     have hlt:=gW hb;rw[mY hb];simp only[ay,cond_true,cond_false];have hge:=xA (F:=F) (a1+1);have hle:=yF (F:=F) (a:=a1+1) (by omega);rw[bZ (by omega) (by omega),show(a1:Int)+1=((a1+1:Nat):Int) by omega,nz hF (a1+1) _ u d (by omega),lZ hF (a1+1) _ u d (by omega),bu,bu];simp only;obtain⟨a',m,g1,g2,g3,g4,g5⟩:=SE h hq hq' u d hd N (N'+1) (ln F (a1+1)) (L++(15,(a:Int),(a1:Int),u,())::m1) (by omega) (by omega) hle (by omega) (by omega);exact⟨a',((15,(a:Int),(a1:Int),u,())::m1)++m,by simp_all,by simp_all,by omega,g4,by grind,(e5.2.one (ae _) (ae _) (by omega) rfl).app g5.2 (by omega) (ai ..)⟩
   obtain⟨a',m,s1,s2,s3,s4,s5⟩:=hend;refine⟨a',m, ?_, ?_,s3,s4,s5⟩
   ·cases hx:fF F a [40]with
    |true=>
     simp_all [dU,bu,lI]
    |false=>
     rcases hgo with g|⟨g1,g2⟩
     ·simp_all
     ·rw[Az a L u d,g1];simp only[cond_false,cond_true,bu];rw[oJ hF a L u d (by omega),bu];simp_all [dU,bu,lI]
   ·cases hx:fF F a [40]with
    |true=>
     simp_all
    |false=>
     rcases hgo with g|⟨g1,g2⟩
     ·simp_all
     ·have hlt:=ZA g1;have h6:F[a].1=6:=by
       simp_all [DL]
      rw[cond_false,bI (b:=gU (a:Int) (bC F)) (dZ (by rw[bF];omega)),bI (b:=fB F (a:Int)) (dN (by omega) (by omega)),AC hlt,bI (b:=bJ F[a].1 6) (eH h6),jd a L u d [122] (by simp),bu,g2];simp_all
  ·have hx:fF F a [40]=false:=by
    simp_all
   rw[hx];simp only[cond_false];refine⟨a,[], ?_, ?_,ae _,ha,by simp,.nil (ae _)⟩
   ·rw[Az a L u d,bu];simp only;cases hw:DL F a with
    |false=>simp
    |true=>
     have h2:fF F a [122]=true:=by
      simp_all
     simp only[cond_true]
     grind [oJ,bu]
   ·by_cases hlt:a<F.length
    ·rw[bI (b:=gU (a:Int) (bC F)) (dZ (by rw[bF];omega)),bI (b:=fB F (a:Int)) (dN (by omega) (by omega)),AC hlt];by_cases h6:F[a].1=6
     ·have hw:DL F a=true:=by simp_all [DL]
      simp_all [jd,bu]
     simp_all [dC,dL]
    simp_all [dC,fV,bF]
theorem arj {k:Nat} (h:All F k) (a:Nat) (l:List Nd) (u d:Int) (r r':Nat) (hm:16*(F.length-a)+13<k) (hr:k+2<=r) (hr':k+1<=r') (hp:Jo F a l d 100):
  ∃(a':Nat) (m:List Nd),(gB r).q250 F (a:Int) l u d=some (PR F a' (l++m) u d,())/\
   (gK r').q197 F (iK F) l (a:Int) u d=some (RR F a' (l++m) u d,())/\a<=a'/\a'<=F.length/\m.length<=16*(a'-a)+3/\Tr a a' u l.length m:=by
 obtain⟨p1,p2,p3,p4⟩:=hp;have hFl:=hF.len;obtain⟨q,rfl⟩: ∃q,r=q+1:=⟨r-1,by omega⟩;obtain⟨q',rfl⟩: ∃q',r'=q'+1:=⟨r'-1,by omega⟩;obtain⟨w1,w2,w3⟩:=Ov (F:=F) a;have w4:=w2 p1;have hge:=xA (F:=F) (DU F a);have hle:=yF (F:=F) w4;obtain⟨x1,x2⟩:=Ip (F:=F) (ln F (DU F a)) [107];have x3:=x2 hle;have x4:=uh (F:=F) (ln F (DU F a)) [107] u;have hge2:=xA (F:=F) (qg F (ln F (DU F a)) [107]);have hle2:=yF (F:=F) x3;obtain⟨a1,m1,g1,g2,g3,g4,g5⟩:=SE hF h (q:=q) (q':=q') (by omega) (by omega) u d ⟨p3,p4⟩ bH bH (ln F (qg F (ln F (DU F a)) [107])) (l++[P5 F a u]++uO F (ln F (DU F a)) [107] u) (dB (by omega)) (dB (by omega)) hle2 (by omega) (by grind);obtain⟨y1,y2⟩:=Ip (F:=F) a1 [122];have y3:=y2 g4;have y4:=uh (F:=F) a1 [122] u;refine⟨qg F a1 [122],[P5 F a u]++uO F (ln F (DU F a)) [107] u++m1++uO F a1 [122] u, ?_, ?_,by omega,y3,by grind,(((VU (ae a) (ae _)).apA fun _=>xP (ae (ln F (DU F a))) (ae _)).ap g5.2).apA fun _=>xP (ae a1) (by omega)⟩
 ·show as3 (gB q) F (a:Int) l u d=_;rw[as3,VY a l u d (by omega) (by omega),bu];simp only[Jk];rw[nz hF (DU F a) _ u d w4,bu];simp only;rw[zW hF (ln F (DU F a)) _ u d (by omega) (by grind) [107] rfl,bu];simp only[lS];rw[nz hF (qg F (ln F (DU F a)) [107]) _ u d x3,bu];simp only;rw[g1,bu];simp only[dE];rw[zW hF a1 _ u d (by omega) (by grind) [122] rfl,bu];simp_all [lS]
 ·show asW (gK q') F (iK F) l (a:Int) u d=_;rw[asW,ade a l u d (by omega) (by omega) p3 (by omega),bu];simp only[Jk];rw[lZ hF (DU F a) _ u d w4,bu];simp only;rw[zX (ln F (DU F a)) _ u d (by omega) (by grind) p3 (by omega) [107] (by simp),bu];simp only[lS];rw[lZ hF (qg F (ln F (DU F a)) [107]) _ u d x3,bu]
  grind [bu,dE,zX,lS]
end
section
open Bool renaming and_eq_true → af, and_true → ax
open List renaming append_assoc → ah
open Nat renaming le_refl → ae
open Go.RowKit
theorem aEx (q':iQ) (F:List Lf) (S:bM) (a u d:Int) (l:List Nd):vK q' bH 123 9 0 F S a u d l=some (.inl ((9,()),((),()),((F,S,a,u,d,()),l,()))):=by kernel_rfl
theorem azA (q':iQ) (F:List Lf) (S:bM) (a u d:Int) (l:List Nd):vK q' bH 40 9 0 F S a u d l=some (.inl ((10,()),((),()),((F,S,a,u,d,()),l,()))):=by kernel_rfl
theorem azB (q':iQ) (F:List Lf) (S:bM) (a u d:Int) (l:List Nd):vK q' bH 105 9 0 F S a u d l=some (.inl ((11,()),((),()),((F,S,a,u,d,()),l,()))):=by kernel_rfl
theorem azC (q':iQ) (F:List Lf) (S:bM) (a u d:Int) (l:List Nd):vK q' bH 119 9 0 F S a u d l=some (.inl ((12,()),((),()),((F,S,a,u,d,()),l,()))):=by kernel_rfl
theorem azD (q':iQ) (F:List Lf) (S:bM) (a u d:Int) (l:List Nd):vK q' bH 114 9 0 F S a u d l=some (.inl ((13,()),((),()),((F,S,a,u,d,()),l,()))):=by kernel_rfl
theorem azE (q':iQ) (F:List Lf) (S:bM) (a u d:Int) (l:List Nd):vK q' bH 99 9 0 F S a u d l=some (.inl ((14,()),((),()),((F,S,a,u,d,()),l,()))):=by kernel_rfl
variable {F:List Lf} (hF:WU F)
include hF
theorem aH0 {n:Nat} (h2:All F (n-2)) (a:Nat) (l:List Nd) (u d:Int) (q q':Nat) (hm:16*(F.length-a)+8<n+1) (hq:n<=q) (hq':n<=q') (hp:Jo F a l d 113) (hlt:a<F.length) (hd:d<200) (hs:DR F a=123):
  ∃(a':Nat) (m:List Nd),Am (gB q) F (a:Int) l u d=some (PR F a' (l++m) u d,())/\
   Ak (gK q') F (iK F) l (a:Int) u d=some (RR F a' (l++m) u d,())/\a<a'/\a'<=F.length/\m.length+3<=16*(a'-a)/\Tr a a' u l.length m:=by
 obtain⟨p1,p2,p3,p4⟩:=hp;have hFl:=hF.len;obtain⟨q0,rfl⟩: ∃q0,q=q0+1:=⟨q-1,by omega⟩;have hcl:(bG l [opn 9 a u]).length=l.length+1:=by unfold bG;simp
 have hcat:bG l [opn 9 a u]=l++[(9,(a:Int),0,u,())]:=rfl;obtain⟨n1,_,_⟩:=kX l (opn 9 a u) (by omega);obtain⟨a1,m1,e1,e2,e3,e4,e5⟩:=acp hF h2 (a+1) (bG l [opn 9 a u]) (bC l) (d+1) q0 q' [125] rfl (by simp) (by omega) (by omega) (by omega) ⟨by omega,by rw[hcl];omega,by omega,by omega⟩;obtain⟨a2,m2,f1,f2,f3,f4,f5⟩:=aGG hF (q:=gB (q0+1)) (q':=gK q') (bC l) (d+1) u (bC l) u 9 9 9 9 ⟨by omega,by omega⟩ a1 (bG l [opn 9 a u]++m1) e4 (by grind);obtain⟨c1,c2⟩:=qm l (m1++m2) (opn 9 a u);refine⟨a2,(9,(a:Int),(a2:Int),u,())::(m1++m2), ?_, ?_,by omega,f4,by grind,Tr.one (((hcl▸e5.2).wide (by omega) (ae _)).ap f5.2) (ae _) (ae _) (by omega) rfl⟩
 ·rw[Am];simp only[dU,gJ,ax,cond_true,bu];rw[oJ hF a l u d (by omega),bu];simp only[hs,show bJ (((123:UInt8).toNat:Nat):Int) 40=false from by kernel_rfl,show bJ (((123:UInt8).toNat:Nat):Int) 105=false from by kernel_rfl,show bJ (((123:UInt8).toNat:Nat):Int) 119=false from by kernel_rfl,show bJ (((123:UInt8).toNat:Nat):Int) 114=false from by kernel_rfl,show bJ (((123:UInt8).toNat:Nat):Int) 99=false from by kernel_rfl,cond_true,cond_false,n1];rw[bZ (by omega) (by omega),bZ (by omega) (by omega),show(a:Int)+1=((a+1:Nat):Int) by omega];show bz (asY (gB q0) F ((a+1:Nat):Int) _ _ _) _=_;rw[asY,e1,bu];simp only;rw[f1,bu];simp only[dE];rw[ah,gQ (by omega) (by omega)];simp only[c1,c2,cond_true,lI,show d+1-1=d by omega]
 ·(rewrite [Ak];delta ny;rw[bI (b:=fB (iK F) (a:Int)) (dN (by omega) (by simp_all)),zT hlt,hs,show(((123:UInt8).toNat:Nat):Int)=123 from by kernel_rfl,aEx,bu])
  simp only[dE];rw[lH a l u d (by omega) (by omega) (by omega) p3 (by omega),bu];simp only[show jB 9=true from by kernel_rfl,if_true,show bJ (9:Int) 9=true from by kernel_rfl,cond_true,cond_false];rw[show((l.length:Nat):Int)=bC l from rfl,<-hcat,bZ (by omega) (by omega),show(a:Int)+1=((a+1:Nat):Int) by omega];refine(e2 _).trans ?_;simp only;rw[f2,bu];simp only[dE];rw[ah,hcat,show bC l=((l.length:Nat):Int) from rfl,uX a2 _ u (d+1) l.length (by simp) (oD l _ 9 _ _) (by omega) (by omega) (by omega) (by omega),bu];simp only[oq,show jB 9=true from by kernel_rfl,if_true,show d+1-1=d by omega]
theorem aDV {n:Nat} (h2:All F (n-2)) (a:Nat) (l:List Nd) (u d:Int) (q q':Nat) (hm:16*(F.length-a)+8<n+1) (hq:n<=q) (hq':n<=q') (hp:Jo F a l d 113) (hlt:a<F.length) (hd:d<200) (hs:DR F a=40):
  ∃(a':Nat) (m:List Nd),Am (gB q) F (a:Int) l u d=some (PR F a' (l++m) u d,())/\
   Ak (gK q') F (iK F) l (a:Int) u d=some (RR F a' (l++m) u d,())/\a<a'/\a'<=F.length/\m.length+3<=16*(a'-a)/\Tr a a' u l.length m:=by
 obtain⟨p1,p2,p3,p4⟩:=hp;have hFl:=hF.len;obtain⟨q0,rfl⟩: ∃q0,q=q0+1:=⟨q-1,by omega⟩;have hcl:(bG l [opn 10 a u]).length=l.length+1:=by unfold bG;simp
 have hcat:bG l [opn 10 a u]=l++[(10,(a:Int),0,u,())]:=rfl;obtain⟨n1,_,_⟩:=kX l (opn 10 a u) (by omega);obtain⟨a1,m1,e1,e2,e3,e4,e5⟩:=acp hF h2 (a+1) (bG l [opn 10 a u]) (bC l) (d+1) q0 q' [41] rfl (by simp) (by omega) (by omega) (by omega) ⟨by omega,by rw[hcl];omega,by omega,by omega⟩;obtain⟨a2,m2,f1,f2,f3,f4,f5⟩:=aKo hF (q:=gB (q0+1)) (q':=gK q') (bC l) (d+1) u (bC l) u 10 10 10 10 ⟨by omega,by omega⟩ a1 (bG l [opn 10 a u]++m1) e4 (by grind);obtain⟨c1,c2⟩:=qm l (m1++m2) (opn 10 a u);refine⟨a2,(10,(a:Int),(a2:Int),u,())::(m1++m2), ?_, ?_,by omega,f4,by grind,Tr.one (((hcl▸e5.2).wide (by omega) (ae _)).ap f5.2) (ae _) (ae _) (by omega) rfl⟩
 ·rw[Am];simp only[dU,gJ,ax,cond_true,bu];rw[oJ hF a l u d (by omega),bu];simp only[hs,show bJ (((40:UInt8).toNat:Nat):Int) 40=true from by kernel_rfl,cond_true,cond_false,n1];rw[bZ (by omega) (by omega),bZ (by omega) (by omega),show(a:Int)+1=((a+1:Nat):Int) by omega];show bz (asZ (gB q0) F ((a+1:Nat):Int) _ _ _) _=_;rw[asZ,e1,bu];simp only;rw[f1,bu];simp only[dE];rw[ah,gQ (by omega) (by omega)];simp only[c1,c2,cond_true,lI,show d+1-1=d by omega]
 ·(rewrite [Ak];delta ny;rw[bI (b:=fB (iK F) (a:Int)) (dN (by omega) (by simp_all)),zT hlt,hs,show(((40:UInt8).toNat:Nat):Int)=40 from by kernel_rfl,azA,bu])
  simp only[dE];rw[lH a l u d (by omega) (by omega) (by omega) p3 (by omega),bu];simp only[show jB 10=true from by kernel_rfl,if_true,show bJ (10:Int) 9=false from by kernel_rfl,show bJ (10:Int) 10=true from by kernel_rfl,cond_true,cond_false];rw[show((l.length:Nat):Int)=bC l from rfl,<-hcat,bZ (by omega) (by omega),show(a:Int)+1=((a+1:Nat):Int) by omega];refine(e2 _).trans ?_;simp only;rw[f2,bu];simp only[dE];rw[ah,hcat,show bC l=((l.length:Nat):Int) from rfl,uX a2 _ u (d+1) l.length (by simp) (oD l _ 10 _ _) (by omega) (by omega) (by omega) (by omega),bu];simp only[oq,show jB 10=true from by kernel_rfl,if_true,show d+1-1=d by omega]
theorem aDW {n:Nat} (h2:All F (n-2)) (a:Nat) (l:List Nd) (u d:Int) (q q':Nat) (hm:16*(F.length-a)+8<n+1) (hq:n<=q) (hq':n<=q') (hp:Jo F a l d 113) (hlt:a<F.length) (hd:d<200) (hs:DR F a=105):
  ∃(a':Nat) (m:List Nd),Am (gB q) F (a:Int) l u d=some (PR F a' (l++m) u d,())/\
   Ak (gK q') F (iK F) l (a:Int) u d=some (RR F a' (l++m) u d,())/\a<a'/\a'<=F.length/\m.length+3<=16*(a'-a)/\Tr a a' u l.length m:=by
 obtain⟨p1,p2,p3,p4⟩:=hp;have hFl:=hF.len;obtain⟨q0,rfl⟩: ∃q0,q=q0+1:=⟨q-1,by omega⟩;have hcl:(bG l [opn 11 a u]).length=l.length+1:=by unfold bG;simp
 have hcat:bG l [opn 11 a u]=l++[(11,(a:Int),0,u,())]:=rfl;obtain⟨n1,_,_⟩:=kX l (opn 11 a u) (by omega);obtain⟨a1,m1,e1,e2,e3,e4,e5⟩:=aIc hF h2 (a+1) (bG l [opn 11 a u]) (bC l) (d+1) u (q0+1) q' (by omega) (by omega) (by omega) ⟨by omega,by rw[hcl];omega,by omega,by omega⟩;obtain⟨a2,m2,f1,f2,f3,f4,f5⟩:=aGC hF (q:=gB (q0+1)) (q':=gK q') (bC l) (d+1) u (bC l) u 11 11 11 11 ⟨by omega,by omega⟩ a1 (bG l [opn 11 a u]++m1) e4 (by grind);obtain⟨c1,c2⟩:=qm l (m1++m2) (opn 11 a u);refine⟨a2,(11,(a:Int),(a2:Int),u,())::(m1++m2), ?_, ?_,by omega,f4,by grind,Tr.one (((hcl▸e5.2).wide (by omega) (ae _)).ap f5.2) (ae _) (ae _) (by omega) rfl⟩
 ·rw[Am];simp only[dU,gJ,ax,cond_true,bu];rw[oJ hF a l u d (by omega),bu];simp only[hs,show bJ (((105:UInt8).toNat:Nat):Int) 40=false from by kernel_rfl,show bJ (((105:UInt8).toNat:Nat):Int) 105=true from by kernel_rfl,cond_true,cond_false,n1];rw[bZ (by omega) (by omega),bZ (by omega) (by omega),show(a:Int)+1=((a+1:Nat):Int) by omega];rw[e1,bu];simp only;rw[f1,bu];simp only[dE];rw[ah,gQ (by omega) (by omega)];simp only[c1,c2,cond_true,lI,show d+1-1=d by omega]
 ·(rewrite [Ak];delta ny;rw[bI (b:=fB (iK F) (a:Int)) (dN (by omega) (by simp_all)),zT hlt,hs,show(((105:UInt8).toNat:Nat):Int)=105 from by kernel_rfl,azB,bu])
  simp only[dE];rw[lH a l u d (by omega) (by omega) (by omega) p3 (by omega),bu];simp only[show jB 11=true from by kernel_rfl,if_true,show bJ (11:Int) 9=false from by kernel_rfl,show bJ (11:Int) 10=false from by kernel_rfl,show bJ (11:Int) 11=true from by kernel_rfl,cond_true,cond_false];rw[show((l.length:Nat):Int)=bC l from rfl,<-hcat,bZ (by omega) (by omega),show(a:Int)+1=((a+1:Nat):Int) by omega];refine(e2 (fun w y=>bz (jc (gK q') bH w y.1.1 y.1.2.1 y.1.2.2.2.1 y.1.2.2.2.2.1 y.1.2.2.2.2.2.1 y.1.2.2.1) fun y5=>
   dE y5 (fun a6=>
    bz (o8 a6.2.2.1.1 a6.2.2.1.2.1 a6.2.2.2.1 a6.2.2.1.2.2.1 a6.2.2.1.2.2.2.1 a6.2.2.1.2.2.2.2.1 a6.1.1) fun y7=>
     some ((y7.1.1,(y7.1.2.1,(y7.1.2.2.1,(y7.1.2.2.2.1,(y7.1.2.2.2.2.1,(y7.1.2.2.2.2.2.1,())))))),())) (fun b6=>none))).trans ?_
  simp only;rw[f2,bu];simp only[dE];rw[ah,hcat,show bC l=((l.length:Nat):Int) from rfl,uX a2 _ u (d+1) l.length (by simp) (oD l _ 11 _ _) (by omega) (by omega) (by omega) (by omega),bu];simp only[oq,show jB 11=true from by kernel_rfl,if_true,show d+1-1=d by omega]
theorem aDX {n:Nat} (h2:All F (n-2)) (a:Nat) (l:List Nd) (u d:Int) (q q':Nat) (hm:16*(F.length-a)+8<n+1) (hq:n<=q) (hq':n<=q') (hp:Jo F a l d 113) (hlt:a<F.length) (hd:d<200) (hs:DR F a=119):
  ∃(a':Nat) (m:List Nd),Am (gB q) F (a:Int) l u d=some (PR F a' (l++m) u d,())/\
   Ak (gK q') F (iK F) l (a:Int) u d=some (RR F a' (l++m) u d,())/\a<a'/\a'<=F.length/\m.length+3<=16*(a'-a)/\Tr a a' u l.length m:=by
 obtain⟨p1,p2,p3,p4⟩:=hp;have hFl:=hF.len;obtain⟨q0,rfl⟩: ∃q0,q=q0+1:=⟨q-1,by omega⟩;have hcl:(bG l [opn 12 a u]).length=l.length+1:=by unfold bG;simp
 have hcat:bG l [opn 12 a u]=l++[(12,(a:Int),0,u,())]:=rfl;obtain⟨n1,_,_⟩:=kX l (opn 12 a u) (by omega);obtain⟨a1,m1,e1,e2,e3,e4,e5⟩:=ayo hF h2 (a+1) (bG l [opn 12 a u]) (bC l) (d+1) (q0+1) q' (by omega) (by omega) (by omega) ⟨by omega,by rw[hcl];omega,by omega,by omega⟩;obtain⟨a2,m2,f1,f2,f3,f4,f5⟩:=aGD hF (q:=gB (q0+1)) (q':=gK q') (bC l) (d+1) u (bC l) u 12 12 12 12 ⟨by omega,by omega⟩ a1 (bG l [opn 12 a u]++m1) e4 (by grind);obtain⟨c1,c2⟩:=qm l (m1++m2) (opn 12 a u);refine⟨a2,(12,(a:Int),(a2:Int),u,())::(m1++m2), ?_, ?_,by omega,f4,by grind,Tr.one (((hcl▸e5.2).wide (by omega) (ae _)).ap f5.2) (ae _) (ae _) (by omega) rfl⟩
 ·rw[Am];simp only[dU,gJ,ax,cond_true,bu];rw[oJ hF a l u d (by omega),bu];simp only[hs,show bJ (((119:UInt8).toNat:Nat):Int) 40=false from by kernel_rfl,show bJ (((119:UInt8).toNat:Nat):Int) 105=false from by kernel_rfl,show bJ (((119:UInt8).toNat:Nat):Int) 119=true from by kernel_rfl,cond_true,cond_false,n1];rw[bZ (by omega) (by omega),bZ (by omega) (by omega),show(a:Int)+1=((a+1:Nat):Int) by omega];rw[e1,bu];simp only;rw[f1,bu];simp only[dE];rw[ah,gQ (by omega) (by omega)];simp only[c1,c2,cond_true,lI,show d+1-1=d by omega]
 ·(rewrite [Ak];delta ny;rw[bI (b:=fB (iK F) (a:Int)) (dN (by omega) (by simp_all)),zT hlt,hs,show(((119:UInt8).toNat:Nat):Int)=119 from by kernel_rfl,azC,bu])
  simp only[dE];rw[lH a l u d (by omega) (by omega) (by omega) p3 (by omega),bu];simp only[show jB 12=true from by kernel_rfl,if_true,show bJ (12:Int) 9=false from by kernel_rfl,show bJ (12:Int) 10=false from by kernel_rfl,show bJ (12:Int) 11=false from by kernel_rfl,show bJ (12:Int) 12=true from by kernel_rfl,cond_true,cond_false];rw[show((l.length:Nat):Int)=bC l from rfl,<-hcat,bZ (by omega) (by omega),show(a:Int)+1=((a+1:Nat):Int) by omega];refine(e2 _).trans ?_;simp only;rw[f2,bu];simp only[dE];rw[ah,hcat,show bC l=((l.length:Nat):Int) from rfl,uX a2 _ u (d+1) l.length (by simp) (oD l _ 12 _ _) (by omega) (by omega) (by omega) (by omega),bu];simp only[oq,show jB 12=true from by kernel_rfl,if_true,show d+1-1=d by omega]
theorem aDY {n:Nat} (h2:All F (n-2)) (a:Nat) (l:List Nd) (u d:Int) (q q':Nat) (hm:16*(F.length-a)+8<n+1) (hq:n<=q) (hq':n<=q') (hp:Jo F a l d 113) (hlt:a<F.length) (hd:d<200) (hs:DR F a=114):
  ∃(a':Nat) (m:List Nd),Am (gB q) F (a:Int) l u d=some (PR F a' (l++m) u d,())/\
   Ak (gK q') F (iK F) l (a:Int) u d=some (RR F a' (l++m) u d,())/\a<a'/\a'<=F.length/\m.length+3<=16*(a'-a)/\Tr a a' u l.length m:=by
 obtain⟨p1,p2,p3,p4⟩:=hp;have hFl:=hF.len;obtain⟨q0,rfl⟩: ∃q0,q=q0+1:=⟨q-1,by omega⟩;have hcl:(bG l [opn 13 a u]).length=l.length+1:=by unfold bG;simp
 have hcat:bG l [opn 13 a u]=l++[(13,(a:Int),0,u,())]:=rfl;obtain⟨n1,_,_⟩:=kX l (opn 13 a u) (by omega);obtain⟨a1,m1,e1,e2,e3,e4,e5⟩:=ayO hF h2 (a+1) (bG l [opn 13 a u]) (bC l) (d+1) (q0+1) q' (by omega) (by omega) (by omega) ⟨by omega,by rw[hcl];omega,by omega,by omega⟩;obtain⟨a2,m2,f1,f2,f3,f4,f5⟩:=aGE hF (q:=gB (q0+1)) (q':=gK q') (bC l) (d+1) u (bC l) u 13 13 13 13 ⟨by omega,by omega⟩ a1 (bG l [opn 13 a u]++m1) e4 (by grind);obtain⟨c1,c2⟩:=qm l (m1++m2) (opn 13 a u);refine⟨a2,(13,(a:Int),(a2:Int),u,())::(m1++m2), ?_, ?_,by omega,f4,by grind,Tr.one (((hcl▸e5.2).wide (by omega) (ae _)).ap f5.2) (ae _) (ae _) (by omega) rfl⟩
 ·rw[Am];simp only[dU,gJ,ax,cond_true,bu];rw[oJ hF a l u d (by omega),bu];simp only[hs,show bJ (((114:UInt8).toNat:Nat):Int) 40=false from by kernel_rfl,show bJ (((114:UInt8).toNat:Nat):Int) 105=false from by kernel_rfl,show bJ (((114:UInt8).toNat:Nat):Int) 119=false from by kernel_rfl,show bJ (((114:UInt8).toNat:Nat):Int) 114=true from by kernel_rfl,cond_true,cond_false,n1];rw[bZ (by omega) (by omega),bZ (by omega) (by omega),show(a:Int)+1=((a+1:Nat):Int) by omega];rw[e1,bu];simp only;rw[f1,bu];simp only[dE];rw[ah,gQ (by omega) (by omega)];simp only[c1,c2,cond_true,lI,show d+1-1=d by omega]
 ·(rewrite [Ak];delta ny;rw[bI (b:=fB (iK F) (a:Int)) (dN (by omega) (by simp_all)),zT hlt,hs,show(((114:UInt8).toNat:Nat):Int)=114 from by kernel_rfl,azD,bu])
  simp only[dE];rw[lH a l u d (by omega) (by omega) (by omega) p3 (by omega),bu];simp only[show jB 13=true from by kernel_rfl,if_true,show bJ (13:Int) 9=false from by kernel_rfl,show bJ (13:Int) 10=false from by kernel_rfl,show bJ (13:Int) 11=false from by kernel_rfl,show bJ (13:Int) 12=false from by kernel_rfl,show bJ (13:Int) 13=true from by kernel_rfl,cond_true,cond_false];rw[show((l.length:Nat):Int)=bC l from rfl,<-hcat,bZ (by omega) (by omega),show(a:Int)+1=((a+1:Nat):Int) by omega];rw[e2,bu];simp only;rw[f2,bu];simp only[dE];rw[ah,hcat,show bC l=((l.length:Nat):Int) from rfl,uX a2 _ u (d+1) l.length (by simp) (oD l _ 13 _ _) (by omega) (by omega) (by omega) (by omega),bu];simp only[oq,show jB 13=true from by kernel_rfl,if_true,show d+1-1=d by omega]
theorem aDZ {n:Nat} (h2:All F (n-2)) (a:Nat) (l:List Nd) (u d:Int) (q q':Nat) (hm:16*(F.length-a)+8<n+1) (hq:n<=q) (hq':n<=q') (hp:Jo F a l d 113) (hlt:a<F.length) (hd:d<200) (hs:DR F a=99):
  ∃(a':Nat) (m:List Nd),Am (gB q) F (a:Int) l u d=some (PR F a' (l++m) u d,())/\
   Ak (gK q') F (iK F) l (a:Int) u d=some (RR F a' (l++m) u d,())/\a<a'/\a'<=F.length/\m.length+3<=16*(a'-a)/\Tr a a' u l.length m:=by
 obtain⟨p1,p2,p3,p4⟩:=hp;have hFl:=hF.len;obtain⟨q0,rfl⟩: ∃q0,q=q0+1:=⟨q-1,by omega⟩;have hcl:(bG l [opn 14 a u]).length=l.length+1:=by unfold bG;simp
 have hcat:bG l [opn 14 a u]=l++[(14,(a:Int),0,u,())]:=rfl;obtain⟨n1,_,_⟩:=kX l (opn 14 a u) (by omega);obtain⟨a1,m1,e1,e2,e3,e4,e5⟩:=arj hF h2 (a+1) (bG l [opn 14 a u]) (bC l) (d+1) (q0+1) q' (by omega) (by omega) (by omega) ⟨by omega,by rw[hcl];omega,by omega,by omega⟩;obtain⟨a2,m2,f1,f2,f3,f4,f5⟩:=aGF hF (q:=gB (q0+1)) (q':=gK q') (bC l) (d+1) u (bC l) u 14 14 14 14 ⟨by omega,by omega⟩ a1 (bG l [opn 14 a u]++m1) e4 (by grind);obtain⟨c1,c2⟩:=qm l (m1++m2) (opn 14 a u);refine⟨a2,(14,(a:Int),(a2:Int),u,())::(m1++m2), ?_, ?_,by omega,f4,by grind,Tr.one (((hcl▸e5.2).wide (by omega) (ae _)).ap f5.2) (ae _) (ae _) (by omega) rfl⟩
 ·rw[Am];simp only[dU,gJ,ax,cond_true,bu];rw[oJ hF a l u d (by omega),bu];simp only[hs,show bJ (((99:UInt8).toNat:Nat):Int) 40=false from by kernel_rfl,show bJ (((99:UInt8).toNat:Nat):Int) 105=false from by kernel_rfl,show bJ (((99:UInt8).toNat:Nat):Int) 119=false from by kernel_rfl,show bJ (((99:UInt8).toNat:Nat):Int) 114=false from by kernel_rfl,show bJ (((99:UInt8).toNat:Nat):Int) 99=true from by kernel_rfl,cond_true,cond_false,n1];rw[bZ (by omega) (by omega),bZ (by omega) (by omega),show(a:Int)+1=((a+1:Nat):Int) by omega];rw[e1,bu];simp only;rw[f1,bu];simp only[dE];rw[ah,gQ (by omega) (by omega)];simp only[c1,c2,cond_true,lI,show d+1-1=d by omega]
 ·(rewrite [Ak];delta ny;rw[bI (b:=fB (iK F) (a:Int)) (dN (by omega) (by simp_all)),zT hlt,hs,show(((99:UInt8).toNat:Nat):Int)=99 from by kernel_rfl,azE,bu])
  simp only[dE];rw[lH a l u d (by omega) (by omega) (by omega) p3 (by omega),bu];simp only[show jB 14=true from by kernel_rfl,if_true,show bJ (14:Int) 9=false from by kernel_rfl,show bJ (14:Int) 10=false from by kernel_rfl,show bJ (14:Int) 11=false from by kernel_rfl,show bJ (14:Int) 12=false from by kernel_rfl,show bJ (14:Int) 13=false from by kernel_rfl,show bJ (14:Int) 14=true from by kernel_rfl,cond_true,cond_false];rw[show((l.length:Nat):Int)=bC l from rfl,<-hcat,bZ (by omega) (by omega),show(a:Int)+1=((a+1:Nat):Int) by omega];rw[e2,bu];simp only;rw[f2,bu];simp only[dE];rw[ah,hcat,show bC l=((l.length:Nat):Int) from rfl,uX a2 _ u (d+1) l.length (by simp) (oD l _ 14 _ _) (by omega) (by omega) (by omega) (by omega),bu];simp only[oq,show jB 14=true from by kernel_rfl,if_true,show d+1-1=d by omega]
theorem V8 {n:Nat} (h2:All F (n-2)) (a:Nat) (l:List Nd) (u d:Int) (r r':Nat) (hm:16*(F.length-a)+8<n+1) (hr:n+1<=r) (hr':n+1<=r') (hp:Jo F a l d 113) (hc:IC F a d=true):
  ∃(a':Nat) (m:List Nd),(gB r).q223 F (a:Int) l u d=some (PR F a' (l++m) u d,())/\
   (gK r').q163 F (iK F) l (a:Int) u d=some (RR F a' (l++m) u d,())/\a<a'/\a'<=F.length/\m.length+3<=16*(a'-a)/\Tr a a' u l.length m:=by
 obtain⟨q,rfl⟩: ∃q,r=q+1:=⟨r-1,by omega⟩;obtain⟨q',rfl⟩: ∃q',r'=q'+1:=⟨r'-1,by omega⟩;unfold IC at hc;simp only[af,decide_eq_true_eq]at hc;obtain⟨hd,hx⟩:=hc;have hlt:=gW hx;unfold fF at hx;simp only[af,decide_eq_true_eq,List.contains_eq_mem,List.mem_cons,List.not_mem_nil,or_false]at hx;rcases hx.2 with e|e|e|e|e|e
 ·exact aH0 hF h2 a l u d q q' hm (by omega) (by omega) hp hlt hd e
 ·exact aDV hF h2 a l u d q q' hm (by omega) (by omega) hp hlt hd e
 ·exact aDW hF h2 a l u d q q' hm (by omega) (by omega) hp hlt hd e
 ·exact aDX hF h2 a l u d q q' hm (by omega) (by omega) hp hlt hd e
 ·exact aDY hF h2 a l u d q q' hm (by omega) (by omega) hp hlt hd e
 ·exact aDZ hF h2 a l u d q q' hm (by omega) (by omega) hp hlt hd e
end
section
open Bool renaming false_eq_true → ag, and_true → ax, not_true → ay, not_false → aB
open List renaming length_append → ai, getElem_mem → aH, nil_append → aO, take_of_length_le → bg
open Nat renaming le_refl → ae
open Go.RowKit
variable {F:List Lf} (hF:WU F)
include hF
theorem aDC (n:Nat):All F n:=by
 induction n using Nat.strongRecOn with
 |_ n ih=>
  cases n with
  |zero=>exact⟨fun a l u d r r' h=>by omega,fun a l u d r r' h=>by omega,fun a l u d r r' h=>by omega,fun a l u d r h=>by omega,fun a l u d r r' h=>by omega,fun a l u d r r' h=>by omega,fun a l u d r r' h=>by omega⟩
  |succ n=>
   have h:=ih n (by omega);have h1:=ih (n-1) (by omega);have h2:=ih (n-2) (by omega);exact⟨fun a l u d r r' hm hr hr' hp hb=>aoL hF h a l u d r r' hm hr hr' hp hb,
    fun a l u d r r' hm hr hr' hp hb=>age hF h a l u d r r' hm hr hr' hp hb,
    fun a l u d r r' hm hr hr' hp hb=>ao9 hF h a l u d r r' hm hr hr' hp hb,
    fun a l u d r hm hr hp hb=>ae4 hF a l u d r hr hp hb,
    fun a l u d r r' hm hr hr' hp=>Y2 hF h h1 a l u d r r' hm hr hr' hp,
    fun a l u d r r' hm hr hr' hp hb=>V8 hF h2 a l u d r r' hm hr hr' hp hb,
    fun a l u d r r' hm hr hr' hp=>ann hF h a l u d r r' hm hr hr' hp⟩
theorem Vh: ∀(N a:Nat),F.length-a<N->a<=F.length->
  MX N F ((iK F).take a) (a:Int)=some (.inl ((F,iK F,()),()))
 |0,a,h,_=>by omega
 |N+1,a,hN,ha=>by
  have hFl:=hF.len;rw[MX,acz];by_cases h:a<F.length
  ·rw[bI (b:=gU (a:Int) (bC F)) (dZ (by rw[bF];omega)),bI (b:=fB F (a:Int)) (dN (by omega) (by omega)),AC h];have hs:TD F[a]=some ([sgn F[a]],()):=(awL (hF.txt _ (aH h))).2;rw[hs,bu];have hroom:eP ((iK F).take a) [sgn F[a]]=true:=by
    unfold eP lC
    grind
   simp only[hroom,cond_true];rw[bZ (by omega) (by omega),show(a:Int)+1=((a+1:Nat):Int) by omega];have ht:bG ((iK F).take a) [sgn F[a]]=(iK F).take (a+1):=by
    simp_all [bG,List.take_add_one]
   rw[ht];exact Vh N (a+1) (by omega) (by omega)
  simp_all [dC,fV,bF,bg]
theorem LY (w:Int): ∀(N a:Nat) (L:List Nd) (b:Bool) (v:Int),F.length-a<N->a<=F.length->L.length<=16*a+1->bJ v 2=b->
  ∃m,Na N b F (a:Int) 0 0 L=some (.inl ((),((),()),((F,((F.length:Nat):Int),0,0,()),L++m,())))/\
   IX N F w v L F (iK F) (a:Int) 0 0=some (.inl ((w,()),(L++m,(F,iK F,((F.length:Nat):Int),0,0,()),())))/\m.length<=16*(F.length-a)/\Tr a F.length 0 L.length m
 |0,a,L,b,v,hN,_,_,_=>by omega
 |N+1,a,L,b,v,hN,ha,hL,hv=>by
  have hFl:=hF.len;rw[Na,acG,IX,acA];by_cases h:a<F.length
  ·rw[bI (b:=gU (a:Int) (bC F)) (dZ (by rw[bF];omega)),bI (b:=gU (a:Int) (bC F)) (dZ (by rw[bF];omega)),mr hF a L 0 0 (by omega) [110] rfl,jd a L 0 0 [110] (by simp),bu,bu];simp only;have hone: ∃m,Na N false F ((a+1:Nat):Int) 0 0 (L++[(17,(a:Int),((a+1:Nat):Int),0,())])=some (.inl ((),((),()),((F,((F.length:Nat):Int),0,0,()),L++m,())))/\
     IX N F w 17 (L++[(17,(a:Int),((a+1:Nat):Int),0,())]) F (iK F) ((a+1:Nat):Int) 0 0=some (.inl ((w,()),(L++m,(F,iK F,((F.length:Nat):Int),0,0,()),())))/\m.length<=16*(F.length-a)/\Tr a F.length 0 L.length m:=by
    obtain⟨m,g1,g2,g3⟩:=LY w N (a+1) (L++[(17,(a:Int),((a+1:Nat):Int),0,())]) false 17 (by omega) (by omega) (by grind) rfl;exact⟨[(17,(a:Int),((a+1:Nat):Int),0,())]++m,by simp_all,by simp_all,by grind,(Tr.lf (ae a) (ae _) (by omega)).ap g3.2⟩
   cases hb:fF F a [110]with
   |true=>
    rw[mY hb,bZ (by omega) (by omega),show(a:Int)+1=((a+1:Nat):Int) by omega];simp only[cond_true];obtain⟨m,g1,g2,g3⟩:=LY w N (a+1) L b v (by omega) (by omega) (by omega) hv;exact⟨m,g1,g2,by omega,g3.2.wide (by omega) (ae _)⟩
   |false=>
    rw[xN hb,hv];simp only[cond_false];cases b with
    |true=>
     simp only[ay,cond_false];rw[IV a L 0 0 17 (by omega) (by omega),Pm a L 0 0 (by omega) (by omega) rfl (by omega) (by omega) (by omega) (by omega),bu,bu];exact hone
    |false=>
     simp only[aB,cond_true];rw[Df hF a L 0 0 (by omega),Ir a L 0 0 (by omega),bu,bu];simp only;cases hp:qo F a 0 with
     |true=>
      obtain⟨n1,_,_⟩:=kX L (opn 2 a 0) (by omega);obtain⟨a1,m1,e1,e2,e3,e4,e5⟩:=(aDC hF (16*F.length+13)).list a L 0 0 bH bH (by omega) (Nat.le_of_lt (dB (by omega))) (Nat.le_of_lt (dB (by omega))) ⟨ha,by omega,by omega,by omega⟩ hp;obtain⟨c1,c2⟩:=qm L m1 (opn 2 a 0);have e1':aEo F (a:Int) (bG L [opn 2 a 0]) (bC L) 0=some (PR F a1 (bG L [opn 2 a 0]++m1) (bC L) 0,()):=e1;have e2':aEk F (iK F) L (a:Int) 0 0=some (RR F a1 (L++(2,(a:Int),(a1:Int),0,())::m1) 0 0,()):=e2;obtain⟨m,g1,g2,g3⟩:=LY w N a1 (L++(2,(a:Int),(a1:Int),0,())::m1) true 2 (by omega) e4 (by grind) rfl;refine⟨((2,(a:Int),(a1:Int),0,())::m1)++m, ?_, ?_,by grind,(e5.2.one (ae _) (ae _) (by omega) rfl).app g3.2 (ae _) (ai ..)⟩
      ·simp_all [dU,bu,lI]
      simp_all [bu]
     |false=>
      simp only[cond_false];rw[IV a L 0 0 17 (by omega) (by omega),Pm a L 0 0 (by omega) (by omega) rfl (by omega) (by omega) (by omega) (by omega),bu,bu];exact hone
  ·have hal:a=F.length:=by omega
   rw[dC (b:=gU (a:Int) (bC F)) (fV (by rw[bF];omega)),dC (b:=gU (a:Int) (bC F)) (fV (by rw[bF];omega)),hal];exact⟨[],by simp,by simp,by simp,.nil (ae _)⟩
theorem avF: ∃l,ag1 F=some (l,())/\agZ F=some (l,())/\l.length<=16*F.length+1/\ ∃m,l=(1,0,(F.length:Int),-1,())::m/\Tr 0 F.length 0 1 m:=by
 have hFl:=hF.len;obtain⟨m,g1,g2,g3⟩:=LY hF (-1) bH 0 [(1,0,0,-1,())] false 0 (dB (by omega)) (by omega) (by simp) rfl;refine⟨adE ([(1,0,0,-1,())]++m) 0 ((F.length:Nat):Int), ?_, ?_,by simp_all [ars],m,rfl,g3.2⟩
 ·rw[ag1];have hfit:dO [((1:Int),((0:Int),((0:Int),((-1:Int),()))))] 32=true:=by kernel_rfl
  simp only[dU,ax,cond_true,hfit];rw[aEl,show((0:Int))=((0:Nat):Int) from rfl];simp only[Int.ofNat_zero]at g1 ⊢;rw[g1,bu];simp only[dE,bu];rw[bI (dN (by omega) (by simp)),bI (oM (by simp[dm]))];rfl
 ·rw[agZ,show MX bH F [] 0=some (.inl ((F,iK F,()),())) from Vh hF bH 0 (dB (by omega)) (by omega),bu];simp only[dE];rw[show DK F (iK F) [] 0 (-1) 0 1=_ from lH 0 [] (-1) 0 (by omega) (by omega) (by simp) (by omega) (by omega),bu];simp only[show jB 1=false from by kernel_rfl,ag,if_false,aO,List.length_nil];rw[show IX bH F (-1) 0 [(1,((0:Nat):Int),0,-1,())] F (iK F) ((0:Nat):Int) ((0:Nat):Int) 0=_ from g2,bu];simp only[dE];rw[show o8 F (iK F) _ ((F.length:Nat):Int) 0 0 (-1)=_ from uX F.length ([(1,0,0,-1,())]++m) (-1) 0 0 (by simp) (k:=1) rfl (by omega) (by omega) (by omega) (by omega),bu]
end
section
open List renaming length_map → aK, length_drop → aS
open Nat renaming le_trans → aG
open Go.RowKit
theorem AB {s:List UInt8} (hs:s.length<=10000):WU (eF s (fK s).1):=by
 refine⟨?_,fun f hf=> ?_⟩
 ·have h:=(Cb hs).2.2;unfold eF;rw[aK];exact aG (List.length_filter_le _ _) (aG h hs)
 ·unfold eF at hf;obtain⟨t,_,rfl⟩:=List.mem_map.1 hf;refine aG ?_ hs;unfold aur sub;simp only[List.length_take,aS];omega
theorem aGt {s:List UInt8} (hs:s.length<=10000): ∃l,ag1 (eF s (fK s).1)=some (l,())/\agZ (eF s (fK s).1)=some (l,())/\l.length<=16*(eF s (fK s).1).length+1/\ ∃m,l=(1,0,((eF s (fK s).1).length:Int),-1,())::m/\Tr 0 (eF s (fK s).1).length 0 1 m:=
 avF (AB hs)
end
section
open Bool renaming and_eq_true → af
open List renaming length_append → ai, length_cons → aF
open Go.RowKit
def ahe (kd:Int):Prop:=2<=kd/\kd<=16/\kd≠6/\kd≠7
structure NdG (a b:Nat) (u:Int) (k i:Nat) (W:List Nd) (x:Nd):Prop where
 f0:(a:Int)<=x.2.1
 ft:x.2.1<=x.2.2.1
 t1:x.2.2.1<=b
 kd:ahe x.1\/x.1=18/\x.2.2.1=x.2.1\/(x.1=6\/x.1=7\/x.1=17)/\x.2.2.1=x.2.1+1
 up:x.2.2.2.1=u\/(k:Int)<=x.2.2.2.1/\x.2.2.2.1<i/\ ∃y,W[x.2.2.2.1.toNat]? =some y/\ahe y.1
theorem Tr.nodes {a b:Nat} {u:Int} {k:Nat} {m:List Nd} (h:Tr a b u k m): ∀(W:List Nd),(∀j,j<m.length->W[k+j]? =m[j]?)-> ∀(i:Nat) (hi:i<m.length),NdG a b u k (k+i) W m[i]:=by
 induction h with
 |nil h=>exact fun W _ i hi=>absurd hi (by simp)
 | @leaf a b f t u k kd m h1 hk h2 ih=>
  intro W hW i hi;have hle:=h2.le;cases i with
  |zero=>exact⟨by show(a:Int)<=(f:Int);omega,by show(f:Int)<=(t:Int);omega,by show(t:Int)<=(b:Int);omega,by simp only[List.getElem_cons_zero];omega,.inl rfl⟩
  |succ i=>
   rw[aF]at hi;obtain⟨e1,e2,e3,e4,e5⟩:=ih W (fun j hj=>by
    have:=hW (j+1) (by rw[aF];omega);rw[List.getElem?_cons_succ]at this;rw[<-this];congr 1;omega) i (by omega)
   refine⟨by simp only[List.getElem_cons_succ];omega,e2,e3,e4, ?_⟩;simp only[List.getElem_cons_succ];exact e5.imp id fun⟨p,q,r⟩=>⟨by omega,by omega,r⟩
 | @node a b f t u k kd m n h1 hk h h2 ih1 ih2=>
  intro W hW i hi;have hle:=h.le;have hle2:=h2.le;have hx:W[k]? =some (kd,(f:Int),(t:Int),u,()):=by
   have:=hW 0 (by simp);simpa using this
  rw[aF,ai]at hi;cases i with
  |zero=>exact⟨by show(a:Int)<=(f:Int);omega,by show(f:Int)<=(t:Int);omega,by show(t:Int)<=(b:Int);omega,.inl hk,.inl rfl⟩
  |succ i=>
   by_cases e:i<m.length
   ·obtain⟨e1,e2,e3,e4,e5⟩:=ih1 W (fun j hj=>by
     have:=hW (j+1) (by rw[aF,ai];omega);rw[List.getElem?_cons_succ,List.getElem?_append_left hj]at this;rw[<-this];congr 1;omega) i e
    have hg:((kd,(f:Int),(t:Int),u,())::(m++n))[i+1]'(by rw[aF,ai];omega)=m[i]:=by
     rw[List.getElem_cons_succ,List.getElem_append_left e]
    rw[hg];refine⟨by omega,e2,by omega,e4,.inr ?_⟩;rcases e5 with e5|⟨p,q,r⟩
    ·exact⟨by omega,by omega,(kd,(f:Int),(t:Int),u,()),by rw[e5,Int.toNat_natCast];exact hx,hk⟩
    ·exact⟨by omega,by omega,r⟩
   ·obtain⟨e1,e2,e3,e4,e5⟩:=ih2 W (fun j hj=>by
     have:=hW (m.length+j+1) (by rw[aF,ai];omega);rw[List.getElem?_cons_succ,List.getElem?_append_right (by omega)]at this;rw[show m.length+j-m.length=j by omega]at this;rw[<-this];congr 1;omega) (i-m.length) (by omega)
    have hg:((kd,(f:Int),(t:Int),u,())::(m++n))[i+1]'(by rw[aF,ai];omega)=n[i-m.length]'(by omega):=by
     rw[List.getElem_cons_succ,List.getElem_append_right (by omega)]
    rw[hg];exact⟨by omega,e2,e3,e4,e5.imp id fun⟨p,q,r⟩=>⟨by omega,by omega,r⟩⟩
def aIV:List bM:=[[],[112,114,111,103,114,97,109],[108,105,115,116],[97,110,100,45,111,114],[112,105,112,101],[115,105,109,112,108,101],[97,115,115,105,103,110],[119,111,114,100],[114,101,100,105,114,101,99,116],[98,114,97,99,101],[115,117,98,115,104,101,108,108],[105,102],[108,111,111,112],[102,111,114],[99,97,115,101],[105,116,101,109],[102,117,110,99,116,105,111,110],[101,114,114,111,114],[109,105,115,115,105,110,103]]
def EC (kd:Int):bM:=aIV.getD kd.toNat []
theorem aqn {kd:Int} (h:kd=1\/ahe kd):ate kd=some (EC kd,())/\ag0 kd=some (EC kd,())/\(EC kd).length<=10:=by
 have: ∀n:Fin 17,((n.val:Int)=1\/(2<=(n.val:Int)/\(n.val:Int)≠6/\(n.val:Int)≠7))->(match ate (n.val:Int),ag0 (n.val:Int)with|some (x,_),some (y,_)=>x==EC (n.val:Int)&&(y==EC (n.val:Int)&&decide ((EC (n.val:Int)).length<=10))|_,_=>false)=true:=by decide+kernel
 unfold ahe at h;have h2:=this ⟨kd.toNat,by omega⟩ (by simp only;omega);simp only[show((kd.toNat:Nat):Int)=kd by omega]at h2;split at h2
 ·rename_i x u y v e1 e2
  simp only[af,beq_iff_eq,decide_eq_true_eq]at h2;exact⟨by rw[e1,h2.1],by rw[e2,h2.2.1],h2.2.2⟩
 ·cases h2
end
section
open List renaming length_append → ai, length_singleton → aU
open Go.RowKit
def nS (l:List Tok):Tok:=l.getLastD (0,(0,(0,(false,()))))
theorem Ub (r:List Tok) (t:Tok):nS (r++[t])=t:=by simp[nS]
theorem aeA (r:List Tok) (t:Tok) (h:r.length<1000000):gU 0 (bC (r++[t]))=true/\fB (r++[t]) (dR .i64 (bC (r++[t])) 1)=true/\dQ (r++[t]) (0,(0,(0,(false,())))) (dR .i64 (bC (r++[t])) 1)=t:=by
 have hL:dR .i64 (bC (r++[t])) 1=(r.length:Int):=by
  rw[bF,gQ (by simp only[ai,aU];omega) (by simp only[ai,aU];omega)];simp
 rw[hL];exact⟨dZ (by rw[bF];simp only[ai,aU];omega),dN (by omega) (by simp only[ai,aU];omega),Au rfl⟩
end
section
open List renaming append_assoc → ah, length_append → ai, drop_of_length_le → az, drop_eq_getElem_cons → aA
open Nat renaming le_refl → ae
open Go.RowKit
def OW (n:Nd):Bool:=decide (n.1=17)||decide (n.1=18)
def kM:Nat->List Nd->List Int
 |_,[]=>[]
 |k,n::l=>if OW n=true then(k:Int)::kM (k+1) l else kM (k+1) l
theorem OE: ∀(l:List Nd) (k:Nat),(kM k l).length<=l.length
 |[],_=>ae _
 |n::l,k=>by
  rw[kM];have:=OE l (k+1)
  grind
theorem Ea (l a b c:List Nd) (hl:l.length<1000000): ∀(N k:Nat) (acc:List Int),l.length-k<N->k<=l.length->acc.length<=k->
  AV N l (bC l) (k:Int) a b acc c=some (.inl ((),((),(),(),(a,b,()),(),()),((),acc++kM k (l.drop k),(),(c,()),())))
 |0,k,acc,h,_,_=>by omega
 |N+1,k,acc,h,hk,ha=>by
  rw[AV,GV];by_cases e:k<l.length
  ·have hg:dQ l (0,(0,(0,(0,())))) (k:Int)=l[k]:=by
    simp_all [dQ]
   have hadd:bU .i64 (k:Int) 1=((k+1:Nat):Int):=by grind [bZ]
   have hfit:dO (bG acc [(k:Int)]) 8=true:=kN (by grind [bG]);have yes:=Ea l a b c hl N (k+1) (acc++[(k:Int)]) (by omega) (by omega) (by simp_all);have no:=Ea l a b c hl N (k+1) acc (by omega) (by omega) (by omega);rw[bI (dZ (by rw[bF];omega)),bI (dN (by omega) (by omega)),hg,hfit,hadd,aA e,kM];unfold OW;simp only[cond_true];by_cases h1:l[k].1=17
   ·rw[bI (eH h1),if_pos (by simp[h1]),show bG acc [(k:Int)]=acc++[(k:Int)] from rfl,yes,ah];rfl
   ·rw[dC (dL h1)];by_cases h2:l[k].1=18
    ·rw[bI (eH h2),if_pos (by simp[h2]),show bG acc [(k:Int)]=acc++[(k:Int)] from rfl,yes,ah];rfl
    simp_all [dL]
  simp_all [fV,bF,az,kM]
theorem aql {l:List Nd} (hl:l.length<1000000):ay9 l=some (kM 0 l,()):=by
 have h:=Ea l l l l hl bH 0 [] (dB (by omega)) (by omega) (by simp)
 grind [ay9,bu,dE]
theorem alj (s:bM) (T:List Tok) (hT:T.length<1000000) (a:Int) (p:List Dlm) (b:Bool) (f:List Lf) (l:List Nd):
  atb s T a p b f l=some ((s,(T,(a,(p,(b,(f,(l,()))))))),((if(nS T).2.2.2.1=true then nS T else(0,(0,(0,(false,()))))),((nS T).2.2.2.1,()))):=by
 (rewrite [atb];delta ML)
 rcases List.eq_nil_or_concat T with h|⟨r,t,h⟩
 ·subst h;rfl
 ·rw[List.concat_eq_append]at h;subst h;rw[ai]at hT;obtain⟨h1,h2,h3⟩:=aeA r t (by omega);rw[dC (dL (by grind [bF])),h2,cond_true,Ub]
  grind
theorem aDy {u:List UInt8} (hu:u.length<=10000):ay6 u=some (nS (fK u).1,((nS (fK u).1).2.2.2.1,())):=by
 have hl:=(Cb hu).2.2;rw[ay6,aqr hu,bu];simp only;rcases List.eq_nil_or_concat (fK u).1 with e|⟨r,t,e⟩
 ·rw[e];rfl
 ·rw[List.concat_eq_append]at e;rw[e,ai]at hl;obtain⟨h1,h2,h3⟩:=aeA r t (by omega);rw[e,Ub,dC (dL (by grind [bF]))];simp_all [gJ,dU,iw]
end
section
open List renaming length_cons → aF
open Nat renaming le_trans → aG
open Go.RowKit
theorem get_at {l:List Nd} {i:Nat} (h:i<l.length):dQ l Xc (i:Int)=l[i]:=by
 simp_all [dQ]
structure vg (f:List Lf) (l:List Nd) (x:Nd):Prop where
 f0:0<=x.2.1
 f1:x.2.1<=bC f
 f2:x.1≠18->x.1=17/\x.2.1<bC f
 up:fB l x.2.2.2.1=true
 pk:(dQ l Xc x.2.2.2.1).1=1\/ahe (dQ l Xc x.2.2.2.1).1
theorem asM {f:List Lf} {m:List Nd} (h:Tr 0 f.length 0 1 m) {i:Nat} (hi:i<((1,(0:Int),(f.length:Int),(-1:Int),())::m).length) (hF:OW (((1,(0:Int),(f.length:Int),(-1:Int),())::m)[i])=true):
  vg f ((1,(0:Int),(f.length:Int),(-1:Int),())::m) (((1,(0:Int),(f.length:Int),(-1:Int),())::m)[i]):=by
 cases i with
 |zero=>simp_all [OW]
 |succ i=>
  rw[aF]at hi;obtain⟨e1,e2,e3,e4,e5⟩:=h.nodes ((1,(0:Int),(f.length:Int),(-1:Int),())::m) (fun j hj=>by grind) i (by omega);rw[List.getElem_cons_succ]at hF ⊢;unfold OW at hF;simp only[Bool.or_eq_true,decide_eq_true_eq]at hF;have hup: ∃y,((1,(0:Int),(f.length:Int),(-1:Int),())::m)[m[i].2.2.2.1.toNat]? =some y/\(y.1=1\/ahe y.1)/\0<=m[i].2.2.2.1:=by
   grind
  obtain⟨y,r,s,q⟩:=hup;obtain⟨hl,hy⟩:=List.getElem?_eq_some_iff.1 r;refine⟨by omega,by rw[bF];omega,fun h18=> ?_,dN q (by omega), ?_⟩
  ·grind [ahe,bF]
  simp_all [dQ]
def E5 (u:bM) (f:List Lf) (x:Nd):Int:=if x.2.1<bC f then(dQ f dLf x.2.1).2.2.1 else bC u
def ai1 (f:List Lf) (l:List Nd) (x:Nd):bM:=if x.1=18 then [115,111,109,101,116,104,105,110,103,32,105,115,32,109,105,115,115,105,110,103,32,105,110,32]++EC (dQ l Xc x.2.2.2.1).1 else if(dQ f dLf x.2.1).1=2 then [117,110,101,120,112,101,99,116,101,100,32,110,101,119,108,105,110,101]else [117,110,101,120,112,101,99,116,101,100,32]++xH (dQ f dLf x.2.1).2.1
theorem sN {s:List UInt8} (hs:s.length<=2000000):(xH s).length<=8000002:=by
 have h0:=FY hs 0;have h4:=FY hs 4;have h5:=FY hs 5;have hp:o9 s 0=sH s:=rfl
 grind [xH]
theorem ay3 (u:bM) (T:List Tok) (a:Int) (p:List Dlm) (b:Bool) {f:List Lf} (hf:WU f) {l:List Nd} {i:Nat} (hi:i<l.length) (h:vg f l l[i]):
  aza u T a p b f l (i:Int)=some ((u,(T,(a,(p,(b,(f,(l,()))))))),(E5 u f l[i],(ai1 f l l[i],()))):=by
 obtain⟨h0,h1,h2,h3,h4⟩:=h;obtain⟨n1,_,n3⟩:=aqn h4;have hg:=get_at hi
 (rewrite [aza];delta Ef qP;rw[show(0,(0,(0,(0,()))))=Xc from rfl,show(0,([],(0,(0,()))))=dLf from rfl])
 simp only[hg,h3,n1,bu,dN (l:=l) (i:=(i:Int)) (by omega) (by omega),cond_true];have hr:eP [115,111,109,101,116,104,105,110,103,32,105,115,32,109,105,115,115,105,110,103,32,105,110,32] (EC (dQ l Xc l[i].2.2.2.1).1)=true:=jv (by simp;omega);rw[hr];unfold E5 ai1;by_cases hx:l[i].2.1<bC f
 ·have hin:fB f l[i].2.1=true:=dN h0 (by assumption);rw[bI (dZ hx),hin,if_pos hx];by_cases h18:l[i].1=18
  ·rw[bI (eH h18),if_pos h18];rfl
  ·have hleaf:dQ f dLf l[i].2.1∈f:=by
    simp_all [dQ,bF]
   have ht:=aG (hf.txt _ hleaf) (show 10000<=2000000 by omega);have hsl:=sN ht;rw[dC (dL h18),if_neg h18,cond_true,cond_true];by_cases h2':(dQ f dLf l[i].2.1).1=2
   ·simp_all [eH]
   ·rw[dC (dL h2'),if_neg h2',cond_true,Rw ht,bu,bI (jv (by simp;omega))];rfl
 ·rw[dC (fV hx),if_neg hx];by_cases h18:l[i].1=18
  ·rw[bI (eH h18),if_pos h18];rfl
  omega
end
section
open Tryz
open Go.RowKit
noncomputable def b9:Code:=(f9.body).getD .skip
noncomputable def aHX:Code:=cA (cA (cB (cA (cB (cB (cB (cB (cB (b9)))))))))
noncomputable def aBX:Code:=cA (cA (cB (cA (cB (cB (cB (cB (cB (cB (cB (cB (cB (b9)))))))))))))
def aIf:dW:=⟨[0,4,5,6,7,8,100006],[(7,VS)],[0,4,7],[],[2],[(2,VS)]⟩
def aCt:dW:=⟨[0,4,7,13,100024],[],[7],[],[2],[(2,VS)]⟩
def aA2:SP:=⟨us [.v .str,.u,.u,.u,.ptr 1000004 0,.v nK,.v (.list lG),.slc 1800007,.v cO] 153,[.arr 1800007 VS,.box 1000004 40 [.v cO,.v V6,.v .bool]]⟩
def alT:SP:=⟨us [.v .str,.u,.u,.u,.ptr 1000004 0,.u,.u,.slc 1800007] 154,[.arr 1800007 VS,.box 1000004 40 [.v cO,.v V6,.v .bool]]⟩
def avG:SP:=⟨us [.u,.u,.v (.list VS)] 159,[]⟩
def iJ (v2:List fZ) (v3:Int):=dQ v2 (0,(0,(0,(0,())))) v3
def Rq {γ:Type} (v4:List BB) (y1:(BB×Unit)) (v2:List fZ) (v3:Int) (v1:List fU) (v0:bM) (rec:bM->(List fU)->(List fZ)->Int->(List BB)->Int->qJ->Bool->Option γ) (v5:Int) (v6:qJ) (v7:Bool):Option γ:=bif(dO (bG v4 [y1.1]) 32)then bif(fB v2 v3)then bif(bJ (iJ v2 v3).1 18)then bif(fB v2 v3)then bif(gU (iJ v2 v3).2.1 (bC v1))then bif(fB v2 v3)then bif(fB v1 (iJ v2 v3).2.1)then bif(fB v2 v3)then bif(fB v2 (iJ v2 v3).2.2.2.1)then bz (ag0 (dQ v2 (0,(0,(0,(0,())))) (iJ v2 v3).2.2.2.1).1) fun y2=>bif(eP [115,111,109,101,116,104,105,110,103,32,105,115,32,109,105,115,115,105,110,103,32,105,110,32] y2.1)then bz (Ee v0 (dQ v1 (0,([],(0,(0,())))) (iJ v2 v3).2.1).2.2.1 (bG [115,111,109,101,116,104,105,110,103,32,105,115,32,109,105,115,115,105,110,103,32,105,110,32] y2.1)) fun y3=>bif(dO (bG (bG v4 [y1.1]) [y3.1]) 32)then rec v0 v1 v2 (bU .i64 v3 1) (bG (bG v4 [y1.1]) [y3.1]) v5 v6 v7 else none else none else none else none else none else none else bif(fB v2 v3)then bif(fB v2 (iJ v2 v3).2.2.2.1)then bz (ag0 (dQ v2 (0,(0,(0,(0,())))) (iJ v2 v3).2.2.2.1).1) fun y2=>bif(eP [115,111,109,101,116,104,105,110,103,32,105,115,32,109,105,115,115,105,110,103,32,105,110,32] y2.1)then bz (Ee v0 (bC v0) (bG [115,111,109,101,116,104,105,110,103,32,105,115,32,109,105,115,115,105,110,103,32,105,110,32] y2.1)) fun y3=>bif(dO (bG (bG v4 [y1.1]) [y3.1]) 32)then rec v0 v1 v2 (bU .i64 v3 1) (bG (bG v4 [y1.1]) [y3.1]) v5 v6 v7 else none else none else none else none else none else rec v0 v1 v2 (bU .i64 v3 1) (bG v4 [y1.1]) v5 v6 v7 else none else none
def amN {γ:Type} (rec:bM->(List fU)->(List fZ)->Int->(List BB)->Int->qJ->Bool->Option γ) (kE:bM->(List BB)->Int->qJ->Bool->Option γ) (kR:(List BB)->Option γ) (v0:bM) (v1:List fU) (v2:List fZ) (v3:Int) (v4:List BB) (v5:Int) (v6:qJ) (v7:Bool):Option γ:=bif(gU v3 (bC v2))then bif(fB v2 v3)then bif(bJ (iJ v2 v3).1 17)then bif(fB v2 v3)then bif(fB v1 (iJ v2 v3).2.1)then bz (atd (dQ v1 (0,([],(0,(0,())))) (iJ v2 v3).2.1).2.1) fun y0=>bif(fB v2 v3)then bif(fB v1 (iJ v2 v3).2.1)then bif(bJ (dQ v1 (0,([],(0,(0,())))) (iJ v2 v3).2.1).1 2)then bif(fB v2 v3)then bif(fB v1 (iJ v2 v3).2.1)then bif(eP [117,110,101,120,112,101,99,116,101,100,32] [110,101,119,108,105,110,101])then bz (Ee v0 (dQ v1 (0,([],(0,(0,())))) (iJ v2 v3).2.1).2.2.1 (bG [117,110,101,120,112,101,99,116,101,100,32] [110,101,119,108,105,110,101])) fun y1=>Rq v4 y1 v2 v3 v1 v0 rec v5 v6 v7 else none else none else none else bif(fB v2 v3)then bif(fB v1 (iJ v2 v3).2.1)then bif(eP [117,110,101,120,112,101,99,116,101,100,32] y0.1)then bz (Ee v0 (dQ v1 (0,([],(0,(0,())))) (iJ v2 v3).2.1).2.2.1 (bG [117,110,101,120,112,101,99,116,101,100,32] y0.1)) fun y1=>Rq v4 y1 v2 v3 v1 v0 rec v5 v6 v7 else none else none else none else none else none else none else none else bif(fB v2 v3)then bif(bJ (iJ v2 v3).1 18)then bif(fB v2 v3)then bif(gU (iJ v2 v3).2.1 (bC v1))then bif(fB v2 v3)then bif(fB v1 (iJ v2 v3).2.1)then bif(fB v2 v3)then bif(fB v2 (iJ v2 v3).2.2.2.1)then bz (ag0 (dQ v2 (0,(0,(0,(0,())))) (iJ v2 v3).2.2.2.1).1) fun y0=>bif(eP [115,111,109,101,116,104,105,110,103,32,105,115,32,109,105,115,115,105,110,103,32,105,110,32] y0.1)then bz (Ee v0 (dQ v1 (0,([],(0,(0,())))) (iJ v2 v3).2.1).2.2.1 (bG [115,111,109,101,116,104,105,110,103,32,105,115,32,109,105,115,115,105,110,103,32,105,110,32] y0.1)) fun y1=>bif(dO (bG v4 [y1.1]) 32)then rec v0 v1 v2 (bU .i64 v3 1) (bG v4 [y1.1]) v5 v6 v7 else none else none else none else none else none else none else bif(fB v2 v3)then bif(fB v2 (iJ v2 v3).2.2.2.1)then bz (ag0 (dQ v2 (0,(0,(0,(0,())))) (iJ v2 v3).2.2.2.1).1) fun y0=>bif(eP [115,111,109,101,116,104,105,110,103,32,105,115,32,109,105,115,115,105,110,103,32,105,110,32] y0.1)then bz (Ee v0 (bC v0) (bG [115,111,109,101,116,104,105,110,103,32,105,115,32,109,105,115,115,105,110,103,32,105,110,32] y0.1)) fun y1=>bif(dO (bG v4 [y1.1]) 32)then rec v0 v1 v2 (bU .i64 v3 1) (bG v4 [y1.1]) v5 v6 v7 else none else none else none else none else none else rec v0 v1 v2 (bU .i64 v3 1) v4 v5 v6 v7 else none else none else kE v0 v4 v5 v6 v7
def Un:Nat->bM->(List fU)->(List fZ)->Int->(List BB)->Int->qJ->Bool->Option (alT.den⊕avG.den)
 |0,_,_,_,_,_,_,_,_=>none
 |n+1,v0,v1,v2,v3,v4,v5,v6,v7=>amN (Un n) (fun e0 e1 e2 e3 e4=>some (.inl ((e0,()),(e1,(e2,e3,e4,()),())))) (fun r0=>some (.inr ((r0,()),()))) v0 v1 v2 v3 v4 v5 v6 v7
def aIT (n:Nat) (v:aA2.den):=Un n v.1.1 v.1.2.1 v.1.2.2.1 v.1.2.2.2.1 v.2.1 v.2.2.1.1 v.2.2.1.2.1 v.2.2.1.2.2.1
noncomputable def aCv:di:=fD aIf aA2 alT avG (.exit 0) (aIT bH) 6
def alS:SP:=⟨us [.v .str,.u,.u,.u,.ptr 1000004 0,.u,.u,.slc 1800007,.u,.u,.u,.u,.u,.v cO] 148,[.arr 1800007 VS,.box 1000004 40 [.v cO,.v V6,.v .bool]]⟩
def aia:SP:=⟨us [.u,.u,.u,.u,.u,.u,.u,.slc 1800007] 154,[.arr 1800007 VS]⟩
def aiC:SP:=⟨us [.u,.u,.v (.list VS)] 159,[]⟩
def acW {γ:Type} (rec:bM->Int->(List BB)->Int->qJ->Bool->Option γ) (kE kR:(List BB)->Option γ) (v0:bM) (v1:Int) (v2:List BB) (v3:Int) (v4:qJ) (v5:Bool):Option γ:=bif(gU v1 (bC v4))then bif(fB v4 v1)then bz (atd (dQ v4 ([],(false,())) v1).1) fun y0=>bif(eP [110,111,32,100,111,99,117,109,101,110,116,58,32] y0.1)then bz (Ee v0 (bC v0) (bG [110,111,32,100,111,99,117,109,101,110,116,58,32] y0.1)) fun y1=>bif(dO (bG v2 [y1.1]) 32)then rec v0 (bU .i64 v1 1) (bG v2 [y1.1]) v3 v4 v5 else none else none else none else kE v2
def I4:Nat->bM->Int->(List BB)->Int->qJ->Bool->Option (aia.den⊕aiC.den)
 |0,_,_,_,_,_,_=>none
 |n+1,v0,v1,v2,v3,v4,v5=>acW (I4 n) (fun e0=>some (.inl ((),(e0,())))) (fun r0=>some (.inr ((r0,()),()))) v0 v1 v2 v3 v4 v5
def aFL (n:Nat) (v:alS.den):=I4 n v.1.1 v.1.2.1 v.2.1 v.2.2.1.1 v.2.2.1.2.1 v.2.2.1.2.2.1
noncomputable def avg:di:=fD aCt alS aia aiC (.exit 2) (aFL bH) 12
def atm (y5:(wE×Bool×Unit)) (a4:alT.den):Option ((List BB)×Unit):=bif y5.2.1 then bz (Ee a4.1.1 y5.1.2.1 [110,111,116,32,101,110,100,101,100,58,32,119,111,114,100]) fun y6=>bif(dO (bG a4.2.1 [y6.1]) 32)then bz (I4 bH a4.1.1 0 (bG a4.2.1 [y6.1]) a4.2.2.1.1 a4.2.2.1.2.1 a4.2.2.1.2.2.1) fun y7=>dE y7 (fun a8=>some (a8.2.1,())) (fun b8=>some (b8.1.1,()))else none else bz (I4 bH a4.1.1 0 a4.2.1 a4.2.2.1.1 a4.2.2.1.2.1 a4.2.2.1.2.2.1) fun y6=>dE y6 (fun a7=>some (a7.2.1,())) (fun b7=>some (b7.1.1,()))
def fn9 (x0:bM):Option ((List BB)×Unit):=bz (aop x0) fun y0=>bz (ay5 x0) fun y1=>bz (agZ y1.1) fun y2=>bz (Un bH x0 y1.1 y2.1 0 [] y0.2.1.1 y0.2.1.2.1 y0.2.1.2.2.1) fun y3=>dE y3 (fun a4=>bz (ay6 a4.1.1) fun y5=>bif y5.2.1 then bif(bJ y5.1.1 7)then bz (Ee a4.1.1 y5.1.2.1 [110,111,116,32,101,110,100,101,100,58,32,104,101,114,101,45,100,111,99,117,109,101,110,116]) fun y6=>bif(dO (bG a4.2.1 [y6.1]) 32)then some ((bG a4.2.1 [y6.1]),())else none else atm y5 a4 else atm y5 a4) (fun b4=>some (b4.1.1,()))
def aJh:Sum:=⟨[.str],[(.list VS,false)],fun x=>fn9 x.1⟩
noncomputable def ayT:Env:=iM prog tt 9 [(19,axf),(20,aCO),(21,aCP),(22,aCQ),(23,aCR),(24,aCS),(25,aCT)] [(6,aIf),(24,aCt)] [(6,aCv),(24,avg)]
def aCC {γ:Type} (a:aA2.den->Option γ) (b:alT.den->Option γ) (c:avG.den->Option γ) (v:aA2.den):Option γ:=amN (fun v0 v1 v2 v3 v4 v5 v6 v7=>a ((v0,v1,v2,v3,()),(v4,(v5,v6,v7,()),()))) (fun e0 e1 e2 e3 e4=>b ((e0,()),(e1,(e2,e3,e4,()),()))) (fun r0=>c ((r0,()),())) v.1.1 v.1.2.1 v.1.2.2.1 v.1.2.2.2.1 v.2.1 v.2.2.1.1 v.2.2.1.2.1 v.2.2.1.2.2.1
theorem aIW:dG ayT 9 aHX aCv:=uQ (aCC) (h2:=by intros;simp only[aCC,amN,bV,bW,bu,bQ,bY,iJ,Rq])
def awy {γ:Type} (a:alS.den->Option γ) (b:aia.den->Option γ) (c:aiC.den->Option γ) (v:alS.den):Option γ:=acW (fun v0 v1 v2 v3 v4 v5=>a ((v0,v1,()),(v2,(v3,v4,v5,()),()))) (fun e0=>b ((),(e0,()))) (fun r0=>c ((r0,()),())) v.1.1 v.1.2.1 v.2.1 v.2.2.1.1 v.2.2.1.2.1 v.2.2.1.2.2.1
theorem aGr:dG ayT 9 aBX avg:=uQ (awy) (h2:=by intros;simp only[awy,acW,bV,bW,bu,bQ,bY])
theorem aKk:dD ayT 9 b9:=nJ [aHX,aBX] (aD (fM (aIW)) (aD (fM (aGr)) aN))
theorem ayU:eu ayT:=eA f9 (aD VC (aD axm (aD axq (aD axt (aD axu (aD axy (aD axB aN))))))) (aKk)
theorem aBi:dH prog 9 aJh:=sA ayU
end
section
open List renaming map_cons → ak, drop_of_length_le → az, drop_eq_getElem_cons → aA
open Nat renaming le_trans → aG
open Go.RowKit
abbrev Nt:=Int×Int×List UInt8×Unit
def KN (u:bM) (p:Int) (t:bM):Nt:=((P6 u p.toNat).1+1,((P6 u p.toNat).2+1,(t,())))
theorem VV (u:bM) (k:Nat):0<=(P6 u k).1/\(P6 u k).1<=k/\0<=(P6 u k).2/\(P6 u k).2<=k:=by
 grind [adc,Gx]
theorem Z8 {u:List UInt8} (hu:u.length<=10000) {p:Int} (h0:0<=p) (h1:p<=u.length) (t:bM):Ee u p t=some (KN u p t,()):=by
 obtain⟨n,rfl⟩: ∃n:Nat,p=n:=⟨p.toNat,by omega⟩;have hw:=VV u n;rw[Ee,ayB hu (a:=n) (by omega),bu];simp only;rw[bZ (by omega) (by omega),bZ (by omega) (by omega)];rfl
def ayy (u:bM) (f:List Lf):Prop:= ∀x∈f,0<=x.2.2.1/\x.2.2.1<=u.length
theorem avJ {u:List UInt8} (hu:u.length<=10000):ayy u (eF u (fK u).1):=fun x hx=>by
 unfold eF at hx;obtain⟨t,ht,rfl⟩:=List.mem_map.1 hx;have h:=(Cb hu).1 t (List.mem_filter.1 ht).1;have h1:=h.f0;have h2:=h.ft;have h3:=h.t1
 grind [aur]
theorem U0 {u:List UInt8} {f:List Lf} (hp:ayy u f) {l:List Nd} {x:Nd} (h:vg f l x):0<=E5 u f x/\E5 u f x<=u.length:=by
 unfold E5;have h0:=h.f0;split
 ·rename_i hx
  rw[bF]at hx;refine hp _ ?_;simp_all [dQ]
 ·rw[bF];omega
def Aj (u:bM) (f:List Lf) (l:List Nd) (x:Nd):Nt:=KN u (E5 u f x) (ai1 f l x)
theorem ahF {u:List UInt8} (hu:u.length<=10000) {f:List Lf} (hf:WU f) (hp:ayy u f) {l:List Nd} (hl:l.length<1000000) (hF: ∀(i:Nat) (h:i<l.length),OW l[i]=true->vg f l l[i]) (c:Int) (d:List Dlm) (e:Bool): ∀(N k:Nat) (out:List Nt),l.length-k<N->k<=l.length->out.length<=k->
  Un N u f l (k:Int) out c d e=some (.inl ((u,()),(out++((l.drop k).filter OW).map (Aj u f l),(c,d,e,()),())))
 |0,k,out,h,_,_=>by omega
 |N+1,k,out,h,hk,ho=>by
  (rewrite [Un,amN];delta Rq iJ)
  by_cases ek:k<l.length
  ·have hg:=get_at ek;have hadd:bU .i64 (k:Int) 1=((k+1:Nat):Int):=by grind [bZ]
   have hin:fB l (k:Int)=true:=dN (by omega) (by omega);have hfit: ∀y:Nt,dO (bG out [y]) 32=true:=fun y=>kN (by grind [bG]);have ih: ∀y:Nt,Un N u f l ((k+1:Nat):Int) (bG out [y]) c d e=some (.inl ((u,()),(bG out [y]++((l.drop (k+1)).filter OW).map (Aj u f l),(c,d,e,()),()))):=fun y=>ahF hu hf hp hl hF c d e N (k+1) _ (by omega) (by omega) (by simp_all [bG]);have ih0:=ahF hu hf hp hl hF c d e N (k+1) out (by omega) (by omega) (by omega);rw[bI (dZ (by rw[bF];omega)),show(0,(0,(0,(0,()))))=Xc from rfl,show(0,([],(0,(0,()))))=dLf from rfl];rw[aA ek,List.filter_cons];simp only[hin,hg,hadd,cond_true];by_cases hisF:OW l[k]=true
   ·have hok:=hF k ek hisF;have hpl:=U0 hp hok;obtain⟨g0,g1,g2,g3,g4⟩:=hok;obtain⟨_,n2,n3⟩:=aqn g4;have hr:=Z8 hu hpl.1 hpl.2 (ai1 f l l[k]);have hn:Aj u f l l[k]=KN u (E5 u f l[k]) (ai1 f l l[k]):=rfl;rw[if_pos hisF,ak,hn];unfold E5 ai1 at hr ⊢;by_cases h17:l[k].1=17
    ·have h18:l[k].1≠18:=by omega
     have hlt:=(g2 h18).2;have hinf:fB f l[k].2.1=true:=dN g0 (by assumption);have hleaf:dQ f dLf l[k].2.1∈f:=by
      simp_all [dQ,bF]
     have ht:=aG (hf.txt _ hleaf) (show 10000<=2000000 by omega);have hsl:=sN ht;rw[if_pos hlt,if_neg h18]at hr ⊢;rw[bI (eH h17),hinf,cond_true,Rx ht,bu];simp only[hinf,cond_true,dL h18,cond_false];by_cases h2':(dQ f dLf l[k].2.1).1=2
     ·rw[if_pos h2']at hr ⊢;rw[bI (eH h2'),show eP [117,110,101,120,112,101,99,116,101,100,32] [110,101,119,108,105,110,101]=true from rfl,cond_true,show Ee u (dQ f dLf l[k].2.1).2.2.1 (bG [117,110,101,120,112,101,99,116,101,100,32] [110,101,119,108,105,110,101])=_ from hr,bu];simp_all [bG]
     ·rw[if_neg h2']at hr ⊢;rw[dC (dL h2'),bI (jv (by simp;omega)),show Ee u (dQ f dLf l[k].2.1).2.2.1 (bG [117,110,101,120,112,101,99,116,101,100,32] (xH (dQ f dLf l[k].2.1).2.1))=_ from hr,bu];simp_all [bG]
    ·have h18:l[k].1=18:=by
      omega
     have hrm:eP [115,111,109,101,116,104,105,110,103,32,105,115,32,109,105,115,115,105,110,103,32,105,110,32] (EC (dQ l Xc l[k].2.2.2.1).1)=true:=jv (by simp;omega);rw[if_pos h18]at hr ⊢;rw[dC (dL h17),bI (eH h18)];simp only[g3,n2,cond_true,bu,hrm];by_cases hx:l[k].2.1<bC f
     ·rw[if_pos hx]at hr ⊢;rw[bI (dZ hx),bI (dN g0 (by assumption)),show Ee u (dQ f dLf l[k].2.1).2.2.1 (bG [115,111,109,101,116,104,105,110,103,32,105,115,32,109,105,115,115,105,110,103,32,105,110,32] (EC (dQ l Xc l[k].2.2.2.1).1))=_ from hr,bu];simp_all [bG]
     ·rw[if_neg hx]at hr ⊢;rw[dC (fV hx),show Ee u (bC u) (bG [115,111,109,101,116,104,105,110,103,32,105,115,32,109,105,115,115,105,110,103,32,105,110,32] (EC (dQ l Xc l[k].2.2.2.1).1))=_ from hr,bu];simp_all [bG]
   simp_all [OW,dL]
  simp_all [fV,bF,az]
end
section
open Bool renaming false_eq_true → ag
open List renaming drop_of_length_le → az, drop_eq_getElem_cons → aA, getElem_mem → aH, nil_append → aO, drop_zero → aQ
open Go.RowKit
def XV (u:bM) (d:Dlm):Nt:=KN u (bC u) ([110,111,32,100,111,99,117,109,101,110,116,58,32]++xH d.1)
theorem alf {u:List UInt8} (hu:u.length<=10000) {P:List Dlm} (hP: ∀d∈P,d.1.length<=2000000) (hl:P.length<1000000) (c:Int) (e:Bool): ∀(N k:Nat) (out:List Nt),P.length-k<N->k<=P.length->out.length<=1000000+k->
  I4 N u (k:Int) out c P e=some (.inl ((),(out++(P.drop k).map (XV u),())))
 |0,k,out,h,_,_=>by omega
 |N+1,k,out,h,hk,ho=>by
  rw[I4,acW];by_cases ek:k<P.length
  ·have hg:dQ P ([],(false,())) (k:Int)=P[k]:=by
    simp_all [dQ]
   have hd:=hP _ (aH ek);have hsl:=sN hd;have hn:=Z8 hu (p:=bC u) (by rw[bF];omega) (Int.le_refl _) ([110,111,32,100,111,99,117,109,101,110,116,58,32]++xH P[k].1);have ih:=alf hu hP hl c e N (k+1) (bG out [XV u P[k]]) (by omega) (by omega) (by grind [bG]);rw[bI (dZ (by rw[bF];omega)),bI (dN (by omega) (by omega)),hg,Rx hd,bu,bI (jv (by simp;omega)),show Ee u (bC u) (bG [110,111,32,100,111,99,117,109,101,110,116,58,32] (xH P[k].1))=_ from hn,bu,bZ (by omega) (by omega),show(k:Int)+1=((k+1:Nat):Int) by omega];refine(bI (kN (by grind [bG]))).trans (ih.trans ?_)
   grind [aA,bG]
  simp_all [fV,bF,az]
def Y5 (u:bM) (t:Tok):Nt:=KN u t.2.1 (if t.1=7 then [110,111,116,32,101,110,100,101,100,58,32,104,101,114,101,45,100,111,99,117,109,101,110,116]else [110,111,116,32,101,110,100,101,100,58,32,119,111,114,100])
def su (u:bM) (l:List Nd):List Nt:=(l.filter OW).map (Aj u (eF u (fK u).1) l)++(if(nS (fK u).1).2.2.2.1=true then [Y5 u (nS (fK u).1)]else [])++(if(nS (fK u).1).2.2.2.1=true/\(nS (fK u).1).1=7 then []else(fK u).2.2.1.map (XV u))
theorem ZR {u:List UInt8} (hu:u.length<=10000) (h:(nS (fK u).1).2.2.2.1=true):0<=(nS (fK u).1).2.1/\(nS (fK u).1).2.1<=u.length:=by
 rcases List.eq_nil_or_concat (fK u).1 with e|⟨r,t,e⟩
 ·rw[e]at h;cases h
 ·rw[List.concat_eq_append]at e;have ho:=(Cb hu).1 t (by rw[e];simp);rw[e,Ub];have h1:=ho.f0;have h2:=ho.ft;have h3:=ho.t1;omega
theorem ayu {u:List UInt8} (hu:u.length<=10000) {l:List Nd} (hp:agZ (eF u (fK u).1)=some (l,())) (hl:l.length<1000000)
  (hF: ∀(i:Nat) (h:i<l.length),OW l[i]=true->vg (eF u (fK u).1) l l[i]) (hP: ∀d∈(fK u).2.2.1,d.1.length<=2000000) (hPl:(fK u).2.2.1.length<1000000):fn9 u=some (su u l,()):=by
 have h6:=ahF hu (AB hu) (avJ hu) hl hF (fK u).2.1 (fK u).2.2.1 (fK u).2.2.2.1 bH 0 [] (dB (by omega)) (by omega) (by simp);rw[aO,aQ]at h6;have hfl:((l.filter OW).map (Aj u (eF u (fK u).1) l)).length<=l.length:=by grind
 (rewrite [fn9];delta atm;rw[aqr hu,bu])
 simp only;rw[aqp hu,bu];simp only;rw[hp,bu];simp only;rw[show Un bH u (eF u (fK u).1) l 0 [] (fK u).2.1 (fK u).2.2.1 (fK u).2.2.2.1=_ from h6,bu];simp only[dE];rw[aDy hu,bu];unfold su;simp only;have h24:=fun out:List Nt=>fun ho:out.length<=1000000=>alf hu hP hPl (fK u).2.1 (fK u).2.2.2.1 bH 0 out (dB (by omega)) (by omega) (by omega);simp only[aQ]at h24;cases hop:(nS (fK u).1).2.2.2.1 with
 |false=>
  simp only[cond_false,ag,if_false,false_and,List.append_nil]
  grind [bu]
 |true=>
  obtain⟨g0,g1⟩:=ZR hu hop;simp only[cond_true,if_true,true_and];unfold Y5;by_cases h7:(nS (fK u).1).1=7
  ·rw[bI (eH h7),Z8 hu g0 g1,bu];refine(bI (kN (by grind [bG]))).trans ?_;rw[if_pos h7,if_pos h7,List.append_nil];rfl
  ·rw[dC (dL h7),Z8 hu g0 g1,bu,if_neg h7,if_neg h7];refine(bI (kN (by grind [bG]))).trans ?_;have:=h24 (bG ((l.filter OW).map (Aj u (eF u (fK u).1) l)) [KN u (nS (fK u).1).2.1 [110,111,116,32,101,110,100,101,100,58,32,119,111,114,100]]) (by grind [bG]);rw[show I4 bH u 0 _ (fK u).2.1 (fK u).2.2.1 (fK u).2.2.2.1=_ from this,bu];rfl
end
section
open Tryz
open Go.RowKit
noncomputable def b8:Code:=(f8.body).getD .skip
noncomputable def Jv:Code:=(f61.body).getD .skip
noncomputable def aqE:Code:=(f62.body).getD .skip
noncomputable def ai8:Code:=(f38.body).getD .skip
noncomputable def aji:Code:=cA (cA (cB (aqE)))
noncomputable def ajh:Code:=cA (cA (cB (cA (ai8))))
noncomputable def adu:Code:=cA (cA (cB (cB (cB (ai8)))))
def akt:dW:=⟨[0,1,2,6,7,63000001],[(400000200,.pair (.list .unit) cO)],[],[],[],[]⟩
def aks:dW:=⟨[0,1,14,15,16,39000001],[],[0,1],[],[],[]⟩
def aep:dW:=⟨[0,1,46,47,48,39000012],[],[],[],[],[]⟩
def aCu:dW:=⟨[2,3,4],[],[],[],[],[]⟩
def aIh:dW:=⟨[2,3,4,5,6],[],[],[],[],[]⟩
def aul:dW:=⟨[0,1,2,4,6,7],[],[],[],[],[]⟩
def auk:dW:=⟨[0,1,4,14,15,16],[],[],[],[],[]⟩
def aoG:dW:=⟨[0,1,5,7],[],[],[],[],[]⟩
def aoH:dW:=⟨[0,1,9,46,47,48],[],[],[],[],[]⟩
def QC:SQ:=⟨us [.yld 4700007,.ptr 3000002 0,.ptr 3000003 0,.u,.u,.u,.v cO,.v cO] 15,[us [.u,.u,.ptr 4000002 0,.u,.nils] 8,[.yld 4700007],[.fn 62 [(3000002,0),(3000003,0)],.u,.u,.fn 62 [(3000002,0),(3000003,0)],.u],[.v .str,.u,.u,.v .str,.v cO,.v .str,.fn 62 [(3000002,0),(3000003,0)],.u,.u,.u],us [.v .str,.u,.ptr 1000002 0,.ptr 1000003 0,.u,.u,.u,.u,.u,.v .str] 14,[]],[.lp 4700007 61 (us [.u,.u,.ptr 4000002 0,.u,.nils] 8) [7] 3 0 none,.arr 4500002 cO,.box 4000002 80 [.slc 4500002],.box 3000003 3 [.v cO],.box 3000002 9 [.v .str],.box 2000006 45 [.v .str,.v (.list Qi),.v cO,.v V6,.v .bool,.v nK,.v (.list lG)],.arr 1500002 VS,.box 1000003 32 [.ptr 2000006 0],.box 1000002 24 [.slc 1500002]]⟩
def UO:SQ:=⟨us [] 23,[us [.u,.u,.ptr 4000002 0,.u,.nils] 8,[.yld 4700007],[.fn 62 [(3000002,0),(3000003,0)],.u,.u,.fn 62 [(3000002,0),(3000003,0)],.u],[.v .str,.u,.u,.v .str,.v cO,.v .str,.fn 62 [(3000002,0),(3000003,0)],.u,.u,.u],us [.v .str,.u,.ptr 1000002 0,.ptr 1000003 0,.u,.u,.u,.u,.u,.v .str] 14,[]],[.lp 4700007 61 (us [.u,.u,.ptr 4000002 0,.u,.nils] 8) [7] 3 0 none,.arr 4500002 cO,.box 4000002 80 [.slc 4500002],.box 3000003 3 [.v cO],.box 3000002 9 [.v .str],.box 2000006 45 [.v .str,.v (.list Qi),.v cO,.v V6,.v .bool,.v nK,.v (.list lG)],.arr 1500002 VS,.box 1000003 32 [.ptr 2000006 0],.box 1000002 24 [.slc 1500002]]⟩
def UZ:SQ:=⟨us [] 23,[us [.u,.u,.ptr 4000002 0,.u,.nils] 8,[.yld 4700007],[.fn 62 [(3000002,0),(3000003,0)],.u,.u,.fn 62 [(3000002,0),(3000003,0)],.u],[.v .str,.u,.u,.v .str,.v cO,.v .str,.fn 62 [(3000002,0),(3000003,0)],.u,.u,.u],us [.v .str,.u,.ptr 1000002 0,.ptr 1000003 0,.u,.u,.u,.u,.u,.v .str] 14,[]],[]⟩
def LP {γ:Type} (rec:Int->Int->bM->bM->Int->bM->bM->bM->iC->Int->bM->bM->(List wE)->Int->qJ->Bool->(List fU)->(List fZ)->(List BB)->Option γ) (kE:bM->bM->Int->bM->bM->bM->iC->Int->bM->bM->(List wE)->Int->qJ->Bool->(List fU)->(List fZ)->(List BB)->Option γ) (kR:bM->bM->Int->bM->bM->bM->Option γ) (v0 v1:Int) (v2 v3:bM) (v4:Int) (v5 v6 v7:bM) (v8:iC) (v9:Int) (v10 v11:bM) (v12:List wE) (v13:Int) (v14:qJ) (v15:Bool) (v16:List fU) (v17:List fZ) (v18:List BB):Option γ:=bif(gU v1 v0)then bif(fB v10 v1)then bif(bJ (bT v10 v1) 10)then bif(dO (bG v8 [(bU .i64 v9 v1)]) 8)then rec v0 (bU .i64 v1 1) v2 v3 v4 v5 v6 v7 (bG v8 [(bU .i64 v9 v1)]) v9 v10 v11 v12 v13 v14 v15 v16 v17 v18 else none else rec v0 (bU .i64 v1 1) v2 v3 v4 v5 v6 v7 v8 v9 v10 v11 v12 v13 v14 v15 v16 v17 v18 else none else kE v2 v3 v4 v5 v6 v7 v8 v9 v10 v11 v12 v13 v14 v15 v16 v17 v18
def AY:Nat->Int->Int->bM->bM->Int->bM->bM->bM->iC->Int->bM->bM->(List wE)->Int->qJ->Bool->(List fU)->(List fZ)->(List BB)->Option (UO.den⊕UZ.den)
 |0,_,_,_,_,_,_,_,_,_,_,_,_,_,_,_,_,_,_,_=>none
 |n+1,v0,v1,v2,v3,v4,v5,v6,v7,v8,v9,v10,v11,v12,v13,v14,v15,v16,v17,v18=>LP (AY n) (fun e0 e1 e2 e3 e4 e5 e6 e7 e8 e9 e10 e11 e12 e13 e14 e15 e16=>some (.inl ((),((),(),(),(e0,e1,e2,e3,()),(e4,e5,()),(),()),((),e6,(),(e7,()),(e8,()),(e9,e10,e11,e12,e13,e14,e15,()),e16,(),(),())))) (fun r0 r1 r2 r3 r4 r5=>some (.inr ((),((),(),(),(r0,r1,r2,r3,()),(r4,r5,()),(),()),()))) v0 v1 v2 v3 v4 v5 v6 v7 v8 v9 v10 v11 v12 v13 v14 v15 v16 v17 v18
def auK (n:Nat) (v:QC.den):=AY n v.1.1 v.1.2.1 v.2.1.2.2.2.1.1 v.2.1.2.2.2.1.2.1 v.2.1.2.2.2.1.2.2.1 v.2.1.2.2.2.1.2.2.2.1 v.2.1.2.2.2.2.1.1 v.2.1.2.2.2.2.1.2.1 v.2.2.2.1 v.2.2.2.2.2.1.1 v.2.2.2.2.2.2.1.1 v.2.2.2.2.2.2.2.1.1 v.2.2.2.2.2.2.2.1.2.1 v.2.2.2.2.2.2.2.1.2.2.1 v.2.2.2.2.2.2.2.1.2.2.2.1 v.2.2.2.2.2.2.2.1.2.2.2.2.1 v.2.2.2.2.2.2.2.1.2.2.2.2.2.1 v.2.2.2.2.2.2.2.1.2.2.2.2.2.2.1 v.2.2.2.2.2.2.2.2.1
noncomputable def aeX:di:=eX akt QC UO UZ (.exit 0) (auK bH) 6
def QB:SQ:=⟨us [.yld 1700013,.ptr 2000001 0,.u,.u,.u,.u,.u,.u,.u,.u,.u,.u,.u,.u,.v (.list cO),.v cO,.v cO] 48,[us [.u,.u,.ptr 1000002 0,.ptr 1000003 0,.ptr 1000004 0] 19,[.yld 1700013],[]],[.lp 1700013 8 (us [.u,.u,.ptr 1000002 0,.ptr 1000003 0,.ptr 1000004 0] 19) [13,14] 6 0 none,.box 2000001 32 [.ptr 2000006 0],.box 1000004 47 [.ptr 2000009 0],.box 2000009 88 [.v cO,.slc 4500002],.arr 4500002 cO,.box 2000006 45 [.v .str,.v (.list Qi),.v cO,.v V6,.v .bool,.v nK,.v (.list lG)],.arr 1500002 VS,.box 1000003 32 [.ptr 2000006 0],.box 1000002 24 [.slc 1500002]]⟩
def UN:SQ:=⟨us [.yld 1700013,.ptr 2000001 0] 63,[us [.u,.u,.ptr 1000002 0,.ptr 1000003 0,.ptr 1000004 0] 19,[.yld 1700013],[]],[.lp 1700013 8 (us [.u,.u,.ptr 1000002 0,.ptr 1000003 0,.ptr 1000004 0] 19) [13,14] 6 0 none,.box 2000001 32 [.ptr 2000006 0],.box 1000004 47 [.ptr 2000009 0],.box 2000009 88 [.v cO,.slc 4500002],.arr 4500002 cO,.box 2000006 45 [.v .str,.v (.list Qi),.v cO,.v V6,.v .bool,.v nK,.v (.list lG)],.arr 1500002 VS,.box 1000003 32 [.ptr 2000006 0],.box 1000002 24 [.slc 1500002]]⟩
def UY:SQ:=⟨us [] 65,[us [.u,.u,.ptr 1000002 0,.ptr 1000003 0,.ptr 1000004 0] 19,[.yld 1700013],[]],[]⟩
def LM {γ:Type} (rec:iC->Int->Int->Int->iC->bM->(List wE)->Int->qJ->Bool->(List fU)->(List fZ)->(List BB)->Option γ) (kE:Int->iC->bM->(List wE)->Int->qJ->Bool->(List fU)->(List fZ)->(List BB)->Option γ) (kR:Option γ) (v0:iC) (v1 v2 v3:Int) (v4:iC) (v5:bM) (v6:List wE) (v7:Int) (v8:qJ) (v9:Bool) (v10:List fU) (v11:List fZ) (v12:List BB):Option γ:=bif(gU v2 v1)then bif(fB v0 v2)then bz (aza v5 v6 v7 v8 v9 v10 v11 (dQ v0 0 v2)) fun y0=>bz (ad5 v3 v4 y0.2.1) fun y1=>bif(bJ y0.2.1 y0.2.1)then bif(fG y0.2.2.1 y0.2.2.1)then bif(dO (bG v12 [((bU .i64 y1.2.1 1),((bU .i64 y1.2.2.1 1),(y0.2.2.1,())))]) 32)then bif(bJ y0.2.1 y0.2.1)then bif(fG y0.2.2.1 y0.2.2.1)then rec v0 v1 (bU .i64 v2 1) y1.1.1 y1.1.2.1 y0.1.1 y0.1.2.1 y0.1.2.2.1 y0.1.2.2.2.1 y0.1.2.2.2.2.1 y0.1.2.2.2.2.2.1 y0.1.2.2.2.2.2.2.1 (bG v12 [((bU .i64 y1.2.1 1),((bU .i64 y1.2.2.1 1),(y0.2.2.1,())))])else none else none else none else none else none else none else kE v3 v4 v5 v6 v7 v8 v9 v10 v11 v12
def AX:Nat->iC->Int->Int->Int->iC->bM->(List wE)->Int->qJ->Bool->(List fU)->(List fZ)->(List BB)->Option (UN.den⊕UY.den)
 |0,_,_,_,_,_,_,_,_,_,_,_,_,_=>none
 |n+1,v0,v1,v2,v3,v4,v5,v6,v7,v8,v9,v10,v11,v12=>LM (AX n) (fun e0 e1 e2 e3 e4 e5 e6 e7 e8 e9=>some (.inl ((),((),(),(),()),((),(),(),(e0,()),e1,(e2,e3,e4,e5,e6,e7,e8,()),e9,(),(),())))) (some (.inr ((),((),(),(),()),()))) v0 v1 v2 v3 v4 v5 v6 v7 v8 v9 v10 v11 v12
def auJ (n:Nat) (v:QB.den):=AX n v.1.1 v.1.2.1 v.1.2.2.1 v.2.2.2.2.2.1.1 v.2.2.2.2.2.2.1 v.2.2.2.2.2.2.2.1.1 v.2.2.2.2.2.2.2.1.2.1 v.2.2.2.2.2.2.2.1.2.2.1 v.2.2.2.2.2.2.2.1.2.2.2.1 v.2.2.2.2.2.2.2.1.2.2.2.2.1 v.2.2.2.2.2.2.2.1.2.2.2.2.2.1 v.2.2.2.2.2.2.2.1.2.2.2.2.2.2.1 v.2.2.2.2.2.2.2.2.1
noncomputable def aeW:di:=eX aks QB UN UY (.exit 0) (auJ bH) 12
def KT:SQ:=⟨us [.yld 1700013,.ptr 2000001 0,.u,.u,.u,.u,.u,.u,.u,.u,.u,.u,.u,.u,.u,.u,.u,.u,.u,.u,.u,.u,.u,.u,.u,.u,.u,.u,.u,.u,.u,.u,.u,.u,.u,.u,.u,.u,.u,.u,.u,.u,.u,.u,.u,.u,.v V6,.v cO,.v cO] 16,[us [.u,.u,.ptr 1000002 0,.ptr 1000003 0,.ptr 1000004 0] 19,[.yld 1700013],[]],[.lp 1700013 8 (us [.u,.u,.ptr 1000002 0,.ptr 1000003 0,.ptr 1000004 0] 19) [13,14] 6 0 none,.box 2000001 32 [.ptr 2000006 0],.box 1000004 47 [.ptr 2000009 0],.box 2000009 88 [.v cO,.slc 4500002],.arr 4500002 cO,.box 2000006 45 [.v .str,.v (.list Qi),.v cO,.v V6,.v .bool,.v nK,.v (.list lG)],.arr 1500002 VS,.box 1000003 32 [.ptr 2000006 0],.box 1000002 24 [.slc 1500002]]⟩
def NI:SQ:=⟨us [] 65,[us [.u,.u,.ptr 1000002 0,.ptr 1000003 0,.ptr 1000004 0] 19,[.yld 1700013],[]],[.lp 1700013 8 (us [.u,.u,.ptr 1000002 0,.ptr 1000003 0,.ptr 1000004 0] 19) [13,14] 6 0 none,.box 2000001 32 [.ptr 2000006 0],.box 1000004 47 [.ptr 2000009 0],.box 2000009 88 [.v cO,.slc 4500002],.arr 4500002 cO,.box 2000006 45 [.v .str,.v (.list Qi),.v cO,.v V6,.v .bool,.v nK,.v (.list lG)],.arr 1500002 VS,.box 1000003 32 [.ptr 2000006 0],.box 1000002 24 [.slc 1500002]]⟩
def NP:SQ:=⟨us [] 65,[us [.u,.u,.ptr 1000002 0,.ptr 1000003 0,.ptr 1000004 0] 19,[.yld 1700013],[]],[]⟩
def GX {γ:Type} (rec:qJ->Int->Int->Int->iC->bM->(List wE)->Int->qJ->Bool->(List fU)->(List fZ)->(List BB)->Option γ) (kE:Int->iC->bM->(List wE)->Int->qJ->Bool->(List fU)->(List fZ)->(List BB)->Option γ) (kR:Option γ) (v0:qJ) (v1 v2 v3:Int) (v4:iC) (v5:bM) (v6:List wE) (v7:Int) (v8:qJ) (v9:Bool) (v10:List fU) (v11:List fZ) (v12:List BB):Option γ:=bif(gU v2 v1)then bif(fB v0 v2)then bz (aor (dQ v0 ([],(false,())) v2).1) fun y0=>bif(eP [110,111,32,100,111,99,117,109,101,110,116,58,32] y0.1)then bz (ad5 v3 v4 (bC v5)) fun y1=>bif(bJ (bC v5) (bC v5))then bif(fG (bG [110,111,32,100,111,99,117,109,101,110,116,58,32] y0.1) (bG [110,111,32,100,111,99,117,109,101,110,116,58,32] y0.1))then bif(dO (bG v12 [((bU .i64 y1.2.1 1),((bU .i64 y1.2.2.1 1),((bG [110,111,32,100,111,99,117,109,101,110,116,58,32] y0.1),())))]) 32)then bif(bJ (bC v5) (bC v5))then bif(fG (bG [110,111,32,100,111,99,117,109,101,110,116,58,32] y0.1) (bG [110,111,32,100,111,99,117,109,101,110,116,58,32] y0.1))then bif(fG v5 v5)then bif(fG (dQ v0 ([],(false,())) v2).1 (dQ v0 ([],(false,())) v2).1)then rec v0 v1 (bU .i64 v2 1) y1.1.1 y1.1.2.1 v5 v6 v7 v8 v9 v10 v11 (bG v12 [((bU .i64 y1.2.1 1),((bU .i64 y1.2.2.1 1),((bG [110,111,32,100,111,99,117,109,101,110,116,58,32] y0.1),())))])else none else none else none else none else none else none else none else none else none else kE v3 v4 v5 v6 v7 v8 v9 v10 v11 v12
def qF:Nat->qJ->Int->Int->Int->iC->bM->(List wE)->Int->qJ->Bool->(List fU)->(List fZ)->(List BB)->Option (NI.den⊕NP.den)
 |0,_,_,_,_,_,_,_,_,_,_,_,_,_=>none
 |n+1,v0,v1,v2,v3,v4,v5,v6,v7,v8,v9,v10,v11,v12=>GX (qF n) (fun e0 e1 e2 e3 e4 e5 e6 e7 e8 e9=>some (.inl ((),((),(),(),()),((),(),(),(e0,()),e1,(e2,e3,e4,e5,e6,e7,e8,()),e9,(),(),())))) (some (.inr ((),((),(),(),()),()))) v0 v1 v2 v3 v4 v5 v6 v7 v8 v9 v10 v11 v12
def aoT (n:Nat) (v:KT.den):=qF n v.1.1 v.1.2.1 v.1.2.2.1 v.2.2.2.2.2.1.1 v.2.2.2.2.2.2.1 v.2.2.2.2.2.2.2.1.1 v.2.2.2.2.2.2.2.1.2.1 v.2.2.2.2.2.2.2.1.2.2.1 v.2.2.2.2.2.2.2.1.2.2.2.1 v.2.2.2.2.2.2.2.1.2.2.2.2.1 v.2.2.2.2.2.2.2.1.2.2.2.2.2.1 v.2.2.2.2.2.2.2.1.2.2.2.2.2.2.1 v.2.2.2.2.2.2.2.2.1
noncomputable def XJ:di:=eX aep KT NI NP (.exit 2) (aoT bH) 18
def TE:List UInt8:=bG [110,111,116,32,101,110,100,101,100,58,32] [104,101,114,101,45,100,111,99,117,109,101,110,116]
def TF:List UInt8:=bG [110,111,116,32,101,110,100,101,100,58,32] [119,111,114,100]
def fn8 (x0:bM):Option ((List BB)×Unit):=bz (ay7 x0) fun y0=>bz (ay8 x0 y0.1) fun y1=>bz (ag1 y1.1) fun y2=>bz (AY bH (bC x0) 0 x0 x0 (bC x0) x0 x0 x0 [] 0 x0 x0 y0.1 y0.2.1.1 y0.2.1.2.1 y0.2.1.2.2.1 y1.1 y2.1 []) fun y3=>dE y3 (fun a4=>bz (ay9 a4.2.2.2.2.2.2.2.1.2.2.2.2.2.2.1) fun y5=>bz (AX bH y5.1 (bC y5.1) 0 a4.2.1.2.2.2.1.2.2.1 a4.2.2.2.1 a4.2.2.2.2.2.2.2.1.1 a4.2.2.2.2.2.2.2.1.2.1 a4.2.2.2.2.2.2.2.1.2.2.1 a4.2.2.2.2.2.2.2.1.2.2.2.1 a4.2.2.2.2.2.2.2.1.2.2.2.2.1 a4.2.2.2.2.2.2.2.1.2.2.2.2.2.1 a4.2.2.2.2.2.2.2.1.2.2.2.2.2.2.1 a4.2.2.2.2.2.2.2.2.1) fun y6=>dE y6 (fun a7=>bz (atb a7.2.2.2.2.2.2.2.1.1 a7.2.2.2.2.2.2.2.1.2.1 a7.2.2.2.2.2.2.2.1.2.2.1 a7.2.2.2.2.2.2.2.1.2.2.2.1 a7.2.2.2.2.2.2.2.1.2.2.2.2.1 a7.2.2.2.2.2.2.2.1.2.2.2.2.2.1 a7.2.2.2.2.2.2.2.1.2.2.2.2.2.2.1) fun y8=>bif y8.2.2.1 then bif(bJ y8.2.1.1 7)then bif(eP [110,111,116,32,101,110,100,101,100,58,32] [104,101,114,101,45,100,111,99,117,109,101,110,116])then bz (ad5 a7.2.2.2.2.2.1.1 a7.2.2.2.2.2.2.1 y8.2.1.2.1) fun y9=>bif(bJ y8.2.1.2.1 y8.2.1.2.1)then bif(fG (TE) (TE))then bif(dO (bG a7.2.2.2.2.2.2.2.2.1 [((bU .i64 y9.2.1 1),((bU .i64 y9.2.2.1 1),((TE),())))]) 32)then bif(bJ y8.2.1.2.1 y8.2.1.2.1)then bif(fG (TE) (TE))then bz (aoq y8.1.1 y8.1.2.1 y8.1.2.2.1 y8.1.2.2.2.1 y8.1.2.2.2.2.1 y8.1.2.2.2.2.2.1 y8.1.2.2.2.2.2.2.1) fun y10=>bz (qF bH y10.2.1 (bC y10.2.1) 0 y9.1.1 y9.1.2.1 y10.1.1 y10.1.2.1 y10.1.2.2.1 y10.1.2.2.2.1 y10.1.2.2.2.2.1 y10.1.2.2.2.2.2.1 y10.1.2.2.2.2.2.2.1 (bG a7.2.2.2.2.2.2.2.2.1 [((bU .i64 y9.2.1 1),((bU .i64 y9.2.2.1 1),((TE),())))])) fun y11=>dE y11 (fun a12=>some (a12.2.2.2.2.2.2.2.2.1,())) (fun b12=>none)else none else none else none else none else none else none else bif(eP [110,111,116,32,101,110,100,101,100,58,32] [119,111,114,100])then bz (ad5 a7.2.2.2.2.2.1.1 a7.2.2.2.2.2.2.1 y8.2.1.2.1) fun y9=>bif(bJ y8.2.1.2.1 y8.2.1.2.1)then bif(fG (TF) (TF))then bif(dO (bG a7.2.2.2.2.2.2.2.2.1 [((bU .i64 y9.2.1 1),((bU .i64 y9.2.2.1 1),((TF),())))]) 32)then bif(bJ y8.2.1.2.1 y8.2.1.2.1)then bif(fG (TF) (TF))then bz (aoq y8.1.1 y8.1.2.1 y8.1.2.2.1 y8.1.2.2.2.1 y8.1.2.2.2.2.1 y8.1.2.2.2.2.2.1 y8.1.2.2.2.2.2.2.1) fun y10=>bz (qF bH y10.2.1 (bC y10.2.1) 0 y9.1.1 y9.1.2.1 y10.1.1 y10.1.2.1 y10.1.2.2.1 y10.1.2.2.2.1 y10.1.2.2.2.2.1 y10.1.2.2.2.2.2.1 y10.1.2.2.2.2.2.2.1 (bG a7.2.2.2.2.2.2.2.2.1 [((bU .i64 y9.2.1 1),((bU .i64 y9.2.2.1 1),((TF),())))])) fun y11=>dE y11 (fun a12=>some (a12.2.2.2.2.2.2.2.2.1,())) (fun b12=>none)else none else none else none else none else none else none else bz (aoq y8.1.1 y8.1.2.1 y8.1.2.2.1 y8.1.2.2.2.1 y8.1.2.2.2.2.1 y8.1.2.2.2.2.2.1 y8.1.2.2.2.2.2.2.1) fun y9=>bz (qF bH y9.2.1 (bC y9.2.1) 0 a7.2.2.2.2.2.1.1 a7.2.2.2.2.2.2.1 y9.1.1 y9.1.2.1 y9.1.2.2.1 y9.1.2.2.2.1 y9.1.2.2.2.2.1 y9.1.2.2.2.2.2.1 y9.1.2.2.2.2.2.2.1 a7.2.2.2.2.2.2.2.2.1) fun y10=>dE y10 (fun a11=>some (a11.2.2.2.2.2.2.2.2.1,())) (fun b11=>none)) (fun b7=>none)) (fun b4=>none)
def aHq:Sum:=⟨[.str],[(.list VS,false)],fun x=>fn8 x.1⟩
noncomputable def adG:Env:=gy prog tt [(31,axE),(32,axF),(33,axG),(34,aCU),(41,aCX)] [(62,1,akt),(38,1,aks),(38,12,aep),(8,500006,aCu),(61,500003,XC),(8,600001,⟨[0,2],[],[],[],[],[]⟩),(8,600002,ZM),(8,600003,aCu),(8,600006,aIh),(16,600001,oC),(36,600001,oC),(62,600003,aul),(38,600003,auk),(38,600010,aoG),(38,600014,aoH)] [(62,1,aeX),(38,1,aeW),(38,12,XJ)] [8,61] [(13,aCN),(39,aCV),(40,aCW),(42,aCY)]
def afD {γ:Type} (a:QC.den->Option γ) (b:UO.den->Option γ) (c:UZ.den->Option γ) (v:QC.den):Option γ:=LP (fun v0 v1 v2 v3 v4 v5 v6 v7 v8 v9 v10 v11 v12 v13 v14 v15 v16 v17 v18=>a ((v0,v1,()),((),(),(),(v2,v3,v4,v5,()),(v6,v7,()),(),()),((),v8,(),(v9,()),(v10,()),(v11,v12,v13,v14,v15,v16,v17,()),v18,(),(),()))) (fun e0 e1 e2 e3 e4 e5 e6 e7 e8 e9 e10 e11 e12 e13 e14 e15 e16=>b ((),((),(),(),(e0,e1,e2,e3,()),(e4,e5,()),(),()),((),e6,(),(e7,()),(e8,()),(e9,e10,e11,e12,e13,e14,e15,()),e16,(),(),()))) (fun r0 r1 r2 r3 r4 r5=>c ((),((),(),(),(r0,r1,r2,r3,()),(r4,r5,()),(),()),())) v.1.1 v.1.2.1 v.2.1.2.2.2.1.1 v.2.1.2.2.2.1.2.1 v.2.1.2.2.2.1.2.2.1 v.2.1.2.2.2.1.2.2.2.1 v.2.1.2.2.2.2.1.1 v.2.1.2.2.2.2.1.2.1 v.2.2.2.1 v.2.2.2.2.2.1.1 v.2.2.2.2.2.2.1.1 v.2.2.2.2.2.2.2.1.1 v.2.2.2.2.2.2.2.1.2.1 v.2.2.2.2.2.2.2.1.2.2.1 v.2.2.2.2.2.2.2.1.2.2.2.1 v.2.2.2.2.2.2.2.1.2.2.2.2.1 v.2.2.2.2.2.2.2.1.2.2.2.2.2.1 v.2.2.2.2.2.2.2.1.2.2.2.2.2.2.1 v.2.2.2.2.2.2.2.2.1
theorem avy:dG adG 62 aji aeX:=kW (afD) (h2:=by intros;simp only[afD,LP,bV,bW,bu,bQ,bY])
def afC {γ:Type} (a:QB.den->Option γ) (b:UN.den->Option γ) (c:UY.den->Option γ) (v:QB.den):Option γ:=LM (fun v0 v1 v2 v3 v4 v5 v6 v7 v8 v9 v10 v11 v12=>a ((v0,v1,v2,()),((),(),(),()),((),(),(),(v3,()),v4,(v5,v6,v7,v8,v9,v10,v11,()),v12,(),(),()))) (fun e0 e1 e2 e3 e4 e5 e6 e7 e8 e9=>b ((),((),(),(),()),((),(),(),(e0,()),e1,(e2,e3,e4,e5,e6,e7,e8,()),e9,(),(),()))) (c ((),((),(),(),()),())) v.1.1 v.1.2.1 v.1.2.2.1 v.2.2.2.2.2.1.1 v.2.2.2.2.2.2.1 v.2.2.2.2.2.2.2.1.1 v.2.2.2.2.2.2.2.1.2.1 v.2.2.2.2.2.2.2.1.2.2.1 v.2.2.2.2.2.2.2.1.2.2.2.1 v.2.2.2.2.2.2.2.1.2.2.2.2.1 v.2.2.2.2.2.2.2.1.2.2.2.2.2.1 v.2.2.2.2.2.2.2.1.2.2.2.2.2.2.1 v.2.2.2.2.2.2.2.2.1
theorem avx:dG adG 38 ajh aeW:=kW (afC) (h2:=by intros;simp only[afC,LM,bV,bW,bu,bQ,bY])
def Yf {γ:Type} (a:KT.den->Option γ) (b:NI.den->Option γ) (c:NP.den->Option γ) (v:KT.den):Option γ:=GX (fun v0 v1 v2 v3 v4 v5 v6 v7 v8 v9 v10 v11 v12=>a ((v0,v1,v2,()),((),(),(),()),((),(),(),(v3,()),v4,(v5,v6,v7,v8,v9,v10,v11,()),v12,(),(),()))) (fun e0 e1 e2 e3 e4 e5 e6 e7 e8 e9=>b ((),((),(),(),()),((),(),(),(e0,()),e1,(e2,e3,e4,e5,e6,e7,e8,()),e9,(),(),()))) (c ((),((),(),(),()),())) v.1.1 v.1.2.1 v.1.2.2.1 v.2.2.2.2.2.1.1 v.2.2.2.2.2.2.1 v.2.2.2.2.2.2.2.1.1 v.2.2.2.2.2.2.2.1.2.1 v.2.2.2.2.2.2.2.1.2.2.1 v.2.2.2.2.2.2.2.1.2.2.2.1 v.2.2.2.2.2.2.2.1.2.2.2.2.1 v.2.2.2.2.2.2.2.1.2.2.2.2.2.1 v.2.2.2.2.2.2.2.1.2.2.2.2.2.2.1 v.2.2.2.2.2.2.2.2.1
theorem ao3:dG adG 38 adu XJ:=kW (Yf) (h2:=by intros;simp only[Yf,GX,bV,bW,bu,bQ,bY])
theorem aKh:iW b8=[]:=by kernel_rfl
theorem aKn:je b8=[(cA (cA (cB (cA (cB (cB (cB (b8))))))),cB (cA (cB (cA (cB (cB (cB (b8))))))))]:=by kernel_rfl
theorem aKj:dD adG 8 b8:=lU b8 (by rw[aKn];exact(aD (fun _=>(show pz 8 6=some (cA (cA (cB (cA (cB (cB (cB (b8))))))),cB (cA (cB (cA (cB (cB (cB (b8)))))))) by kernel_rfl)) aN)) (by rw[aKh];exact aN)
theorem azJ:iW Jv=[]:=by kernel_rfl
theorem aA9:je Jv=[(cA (cA (cB (cA (cB (Jv))))),cB (cA (cB (cA (cB (Jv))))))]:=by kernel_rfl
theorem azM:dD adG 61 Jv:=lU Jv (by rw[aA9];exact(aD (fun _=>(show pz 61 3=some (cA (cA (cB (cA (cB (Jv))))),cB (cA (cB (cA (cB (Jv)))))) by kernel_rfl)) aN)) (by rw[azJ];exact aN)
theorem azN:dD adG 62 aqE:=nJ [aji] (aD (fM (avy)) aN)
theorem azL:dD adG 38 ai8:=nJ [ajh,adu] (aD (fM (avx)) (aD (fM (ao3)) aN))
theorem ayS:eu adG:=eB (aD afL (aD afM (aD afN (aD axH (aD afO aN))))) [8,61,62,38] (aD ⟨f8,b8,by kernel_rfl,by kernel_rfl,aKj⟩ (aD ⟨f61,Jv,by kernel_rfl,by kernel_rfl,azM⟩ (aD ⟨f62,aqE,by kernel_rfl,by kernel_rfl,azN⟩ (aD ⟨f38,ai8,by kernel_rfl,by kernel_rfl,azL⟩ aN)))) (hx:=(aD afK (aD axI (aD axJ (aD axK aN)))))
theorem am6:dH prog 8 aHq:=sA ayS
end
section
open Bool renaming false_eq_true → ag
open List renaming append_assoc → ah, length_append → ai, drop_of_length_le → az, drop_eq_getElem_cons → aA, getElem_mem → aH, nil_append → aO, drop_zero → aQ, length_singleton → aU
open Nat renaming le_refl → ae
open Go.RowKit
theorem XO {u:List UInt8} (hu:u.length<=10000) (v2 v3:bM) (v4:Int) (v5 v6 v7 v11:bM) (v12:List Tok) (v13:Int) (v14:List Dlm) (v15:Bool) (v16:List Lf) (v17:List Nd) (v18:List Nt): ∀(N k:Nat),u.length-k<N->k<=u.length->
  AY N (bC u) (k:Int) v2 v3 v4 v5 v6 v7 (zY u k) 0 u v11 v12 v13 v14 v15 v16 v17 v18=
   some (.inl ((),((),(),(),(v2,v3,v4,v5,()),(v6,v7,()),(),()),((),zY u u.length,(),(0,()),(u,()),(v11,v12,v13,v14,v15,v16,v17,()),v18,(),(),())))
 |0,k,h,_=>by omega
 |N+1,k,h,hk=>by
  rw[AY,LP];by_cases e:k<u.length
  ·have ih:=XO hu v2 v3 v4 v5 v6 v7 v11 v12 v13 v14 v15 v16 v17 v18 N (k+1) (by omega) (by omega);have hl:=Gx u k;have hg:u.getD k 0=u[k]:=by simp_all
   rw[zY,hg]at ih;rw[bI (dZ (by rw[bF];omega)),bI (dN (by omega) (by omega)),byte_at e,bZ (a:=(k:Int)) (by omega) (by omega),show(k:Int)+1=((k+1:Nat):Int) by omega,show bU .i64 0 (k:Int)=(k:Int) by grind [bZ]];by_cases h:u[k]=10
   ·rw[if_pos h]at ih;rw[show(10:Int)=(((10:UInt8).toNat:Nat):Int) from rfl,aeE h,cond_true];exact(bI (kN (by grind [bG]))).trans ih
   ·rw[if_neg h]at ih;rw[show(10:Int)=(((10:UInt8).toNat:Nat):Int) from rfl,aeD h,cond_false];exact ih
  ·obtain rfl:k=u.length:=by omega
   simp_all [fV,bF]
theorem Jl {u:List UInt8} (hu:u.length<=10000) {p:Int} (h0:0<=p) (h1:p<=u.length): ∃w:Int×Int,ad5 (bC u) (zY u u.length) p=some ((bC u,(zY u u.length,())),(w.1,(w.2,(0,()))))/\ ∀t,((bU .i64 w.1 1),((bU .i64 w.2 1),(t,())))=KN u p t:=by
 obtain⟨n,rfl⟩: ∃n:Nat,p=n:=⟨p.toNat,by omega⟩;have hw:=VV u n;refine⟨P6 u n,ayA hu (a:=n) (by omega),fun t=> ?_⟩;rw[bZ (by omega) (by omega),bZ (by omega) (by omega)];rfl
theorem Xd {u:List UInt8} (hu:u.length<=10000) (T:List Tok) (a:Int) (p:List Dlm) (b:Bool) {f:List Lf} (hf:WU f) (hp:ayy u f) {l:List Nd} {F:List Int} (hl:F.length<1000000) (hF: ∀i∈F,∃(n:Nat) (h:n<l.length),i=n/\vg f l l[n]): ∀(N k:Nat) (out:List Nt),F.length-k<N->k<=F.length->out.length<=k->
  AX N F (bC F) (k:Int) (bC u) (zY u u.length) u T a p b f l out=some (.inl ((),((),(),(),()),((),(),(),(bC u,()),zY u u.length,(u,T,a,p,b,f,l,()),out++(F.drop k).map (fun i=>Aj u f l (dQ l Xc i)),(),(),())))
 |0,k,out,h,_,_=>by omega
 |N+1,k,out,h,hk,ho=>by
  rw[AX,LM];by_cases ek:k<F.length
  ·have hg:dQ F 0 (k:Int)=F[k]:=by
    simp_all [dQ]
   obtain⟨n,hn,e,hok⟩:=hF _ (aH ek);have hpl:=U0 hp hok;obtain⟨w,w1,w2⟩:=Jl hu hpl.1 hpl.2;have hgl:=get_at hn;have ih:=Xd hu T a p b hf hp hl hF N (k+1) (bG out [Aj u f l l[n]]) (by omega) (by omega) (by simp_all [bG]);rw[bI (dZ (by rw[bF];omega)),bI (dN (by omega) (by omega)),hg,e,ay3 u T a p b hf hn hok,bu];simp only;rw[w1,bu];simp only[dU,Xh rfl,cond_true,w2];rw[bZ (by omega) (by omega),show(k:Int)+1=((k+1:Nat):Int) by omega];refine(bI (kN (by grind [bG]))).trans (ih.trans ?_);simp_all [aA,bG]
  simp_all [fV,bF,az]
theorem XZ {u:List UInt8} (hu:u.length<=10000) (T:List Tok) (a:Int) (p:List Dlm) (b:Bool) (f:List Lf) (l:List Nd) {P:List Dlm} (hl:P.length<1000000) (hP: ∀d∈P,d.1.length<=2000000): ∀(N k:Nat) (out:List Nt),P.length-k<N->k<=P.length->out.length<=1000000+k->
  qF N P (bC P) (k:Int) (bC u) (zY u u.length) u T a p b f l out=some (.inl ((),((),(),(),()),((),(),(),(bC u,()),zY u u.length,(u,T,a,p,b,f,l,()),out++(P.drop k).map (XV u),(),(),())))
 |0,k,out,h,_,_=>by omega
 |N+1,k,out,h,hk,ho=>by
  rw[qF,GX];by_cases ek:k<P.length
  ·have hg:dQ P ([],(false,())) (k:Int)=P[k]:=by
    simp_all [dQ]
   have hd:=hP _ (aH ek);have hsl:=sN hd;obtain⟨w,w1,w2⟩:=Jl hu (p:=bC u) (by rw[bF];omega) (Int.le_refl _);have ih:=XZ hu T a p b f l hl hP N (k+1) (bG out [XV u P[k]]) (by omega) (by omega) (by grind [bG]);rw[bI (dZ (by rw[bF];omega)),bI (dN (by omega) (by omega)),hg,Rw hd,bu,bI (jv (by simp;omega)),w1,bu];simp only[dU,Xh rfl,cond_true,w2];rw[bZ (by omega) (by omega),show(k:Int)+1=((k+1:Nat):Int) by omega];refine(bI (kN (by grind [bG]))).trans (ih.trans ?_)
   grind [aA,bG]
  simp_all [fV,bF,az]
theorem Tj (g:Nd->Nt): ∀(l pre:List Nd),(kM pre.length l).map (fun i=>g (dQ (pre++l) Xc i))=(l.filter OW).map g
 |[],pre=>rfl
 |n::l,pre=>by
  have ih:=Tj g l (pre++[n]);rw[ai,aU,ah,List.singleton_append]at ih;rw[kM,List.filter_cons];by_cases h:OW n=true
  ·simp_all [dQ]
  simp_all
theorem Ti: ∀(l:List Nd) (k:Nat),∀i∈kM k l,∃(n:Nat) (h:n<l.length),i=((k+n:Nat):Int)/\OW l[n]=true
 |[],k,i,h=>by cases h
 |x::l,k,i,h=>by
  rw[kM]at h;have next:i∈kM (k+1) l-> ∃(n:Nat) (h:n<(x::l).length),i=((k+n:Nat):Int)/\OW (x::l)[n]=true:=fun h=>by
   obtain⟨n,h1,h2,h3⟩:=Ti l (k+1) i h;exact⟨n+1,by simp_all,by omega,by assumption⟩
  split at h
  ·rename_i hx
   rcases List.mem_cons.1 h with h|h
   ·exact⟨0,by simp,by omega,hx⟩
   ·exact next h
  ·exact next h
theorem aGu (u:bM) (T:List Tok) (hT:T.length<1000000) (a:Int) (p:List Dlm) (b:Bool) (f:List Lf) (l:List Nd):
  aoq u T a p b f l=some ((u,(T,(a,(p,(b,(f,(l,()))))))),((if(nS T).2.2.2.1=true/\(nS T).1=7 then []else p),())):=by
 rw[aoq,alj u T hT,bu];simp only;cases h:(nS T).2.2.2.1 with
 |false=>simp
 |true=>
  simp only[cond_true,if_true,true_and];by_cases h7:(nS T).1=7
  ·simp_all [eH]
  simp_all [dL]
theorem ayt {u:List UInt8} (hu:u.length<=10000) {l:List Nd} (hp:ag1 (eF u (fK u).1)=some (l,())) (hl:l.length<1000000)
  (hF: ∀(i:Nat) (h:i<l.length),OW l[i]=true->vg (eF u (fK u).1) l l[i]) (hP: ∀d∈(fK u).2.2.1,d.1.length<=2000000) (hPl:(fK u).2.2.1.length<1000000):fn8 u=some (su u l,()):=by
 have hT:=(Cb hu).2.2;have hn:=XO hu u u (bC u) u u u u (fK u).1 (fK u).2.1 (fK u).2.2.1 (fK u).2.2.2.1 (eF u (fK u).1) l [] bH 0 (dB (by omega)) (by omega);have hfl:=OE l 0;have he:=Xd hu (fK u).1 (fK u).2.1 (fK u).2.2.1 (fK u).2.2.2.1 (AB hu) (avJ hu) (l:=l) (F:=kM 0 l) (by omega) (fun i hi=>by
  grind [Ti]) bH 0 [] (dB (by omega)) (by omega) (by simp)
 have hm:(kM 0 l).map (fun i=>Aj u (eF u (fK u).1) l (dQ l Xc i))=(l.filter OW).map (Aj u (eF u (fK u).1) l):=Tj _ l [];rw[aQ,hm,aO]at he;have hml:((l.filter OW).map (Aj u (eF u (fK u).1) l)).length<=l.length:=by grind
 (rewrite [fn8];delta TF TE;rw[aHH hu,bu])
 simp only;rw[aqo hu,bu];simp only;rw[hp,bu];simp only;rw[show AY bH (bC u) 0 u u (bC u) u u u [] 0 u u (fK u).1 (fK u).2.1 (fK u).2.2.1 (fK u).2.2.2.1 (eF u (fK u).1) l []=_ from hn,bu];simp only[dE];rw[aql hl,bu];simp only;rw[show AX bH (kM 0 l) (bC (kM 0 l)) 0 (bC u) (zY u u.length) u (fK u).1 (fK u).2.1 (fK u).2.2.1 (fK u).2.2.2.1 (eF u (fK u).1) l []=_ from he,bu];simp only[dE];rw[alj u _ (by omega),bu];simp only;have hpn:=aGu u (fK u).1 (by omega) (fK u).2.1 (fK u).2.2.1 (fK u).2.2.2.1 (eF u (fK u).1) l;have h12: ∀(P:List Dlm) (out:List Nt),(∀d∈P,d∈(fK u).2.2.1)->P.length<=(fK u).2.2.1.length->out.length<=1000000->qF bH P (bC P) 0 (bC u) (zY u u.length) u (fK u).1 (fK u).2.1 (fK u).2.2.1 (fK u).2.2.2.1 (eF u (fK u).1) l out=some (.inl ((),((),(),(),()),((),(),(),(bC u,()),zY u u.length,(u,(fK u).1,(fK u).2.1,(fK u).2.2.1,(fK u).2.2.2.1,eF u (fK u).1,l,()),out++P.map (XV u),(),(),()))):=fun P out h1 h2 h3=>by
  grind [XZ,dB]
 unfold su;cases hop:(nS (fK u).1).2.2.2.1 with
 |false=>
  rw[hop]at hpn;simp only[ag,if_false,false_and,cond_false,List.append_nil]at hpn ⊢;rw[hpn,bu];simp only;rw[h12 _ _ (fun d h=>h) (ae _) (by omega),bu]
 |true=>
  obtain⟨g0,g1⟩:=ZR hu hop;obtain⟨w,w1,w2⟩:=Jl hu g0 g1;rw[hop]at hpn;simp only[if_true,true_and,cond_true]at hpn ⊢;unfold Y5;have hfit: ∀y:Nt,dO (bG ((l.filter OW).map (Aj u (eF u (fK u).1) l)) [y]) 32=true:=fun y=>kN (by grind [bG]);have hlen: ∀y:Nt,(bG ((l.filter OW).map (Aj u (eF u (fK u).1) l)) [y]).length<=1000000:=fun y=>by grind [bG]
  by_cases h7:(nS (fK u).1).1=7
  ·rw[if_pos h7]at hpn;rw[bI (eH h7),show eP [110,111,116,32,101,110,100,101,100,58,32] [104,101,114,101,45,100,111,99,117,109,101,110,116]=true from rfl,cond_true,w1,bu];simp only[dU,Xh rfl,cond_true,w2,hfit,hpn,bu];simp_all [bu,bG]
  ·rw[if_neg h7]at hpn;rw[dC (dL h7),show eP [110,111,116,32,101,110,100,101,100,58,32] [119,111,114,100]=true from rfl,cond_true,w1,bu];simp only[dU,Xh rfl,cond_true,w2,hfit,hpn,bu];simp_all [bu,bG]
end
section
open Go.RowKit
def ayx (n:Nat) (x:WT):Prop:=x.2.1.length<=n/\ ∀d∈x.2.1,d.1.length<=2000000
theorem agp {s:List UInt8} (hs:s.length<=100):(DY s).length<=2000000:=by
 have h:=Md s (cu s) s.length 0;have h2:s.length*s.length<=100*100:=Nat.mul_le_mul hs hs;have h3:s.length*(s.length*s.length+s.length)<=100*(100*100+100):=Nat.mul_le_mul hs (by omega);unfold DY;omega
theorem aBh {s:List UInt8} (hs:s.length<=100) (a n:Nat) {x:WT} (h:ayx n x):ayx (n+1) (kw s a x).2:=by
  obtain⟨aw,pd,bd,u⟩:=x;obtain⟨h1,h2⟩:=h;simp only at h1 h2;unfold kw;simp only;split
  · split
    · exact⟨by grind,fun d hd=>h2 d (List.mem_of_mem_tail hd)⟩
    · exact⟨by simp only;omega,h2⟩
  · unfold kK;simp only
    repeat' split
    all_goals first
      |exact⟨by simp only;omega,h2⟩
      | (refine⟨by simp_all,fun d hd=> ?_⟩
         grind [agp,V9])
theorem aus {s:List UInt8} (hs:s.length<=100): ∀(n a k:Nat) (l:List Tok) (x:WT),ayx k x->ayx (k+n) (qR s n a l x).2
 |0,a,k,l,x,h=>h
 |n+1,a,k,l,x,h=>by
  rw[qR];split
  ·have:=aus hs n (kw s a x).1.2.2.1.toNat (k+1) (l++[(kw s a x).1]) (kw s a x).2 (aBh hs a k h)
   grind
  ·exact⟨by have:=h.1;grind,h.2⟩
theorem aCz {u:List UInt8} (hu:u.length<=100):(fK u).2.2.1.length<1000000/\ ∀d∈(fK u).2.2.1,d.1.length<=2000000:=by
 have h:=aus hu (u.length+1) 0 0 [] (0,[],false,()) ⟨by simp,fun d hd=>by cases hd⟩;exact⟨by have:=h.1;unfold fK;omega,h.2⟩
theorem aBk {u:List UInt8} (hu:u.length<=100): ∃l,ag1 (eF u (fK u).1)=some (l,())/\agZ (eF u (fK u).1)=some (l,())/\l.length<1000000/\
  ∀(i:Nat) (h:i<l.length),OW l[i]=true->vg (eF u (fK u).1) l l[i]:=by
 obtain⟨l,h1,h2,h3,m,h4,h5⟩:=aGt (s:=u) (by omega);have hlen:(eF u (fK u).1).length<=10000:=(AB (s:=u) (by omega)).1
 grind [asM]
end
section
open Nat renaming eq_of_beq_eq_true → aj
open Tryz
open Go.RowKit
noncomputable def aH4 (sg:FuncId->Option Sum):Env:={P:=prog,T:=tt,cl:=true,kp:=fun _ _=>none,sg:=sg,lp:=fun _ _=>none,bf:=JZ}
theorem ayV {sg:FuncId->Option Sum} (h: ∀g s,sg g=some s->dH prog g s):eu (aH4 sg):=⟨tok,mixed,Pj,h,fun f fn c _ _=>jC (fun _=>rfl) (fun _=>rfl) c,afs _ fun f fn c _ _=>jC (fun _=>rfl) (fun _=>rfl) c,SG,fun _ _ h=>by cases h⟩
theorem awJ {sg:FuncId->Option Sum} (h: ∀g s,sg g=some s->dH prog g s) {f:FuncId} {s0:Sum} (h0:dH prog f s0): ∀g s,(bif Nat.beq g f then some s0 else sg g)=some s->dH prog g s:=fun g s e=>by
 rw[cond_eq_ite]at e;split at e
 ·rename_i hg
  obtain rfl:g=f:=aj hg;cases e;exact h0
 ·exact h g s e
noncomputable def aCD (g:FuncId):Option Sum:=bif Nat.beq g 31 then some axE else sg2 g
theorem awG: ∀g s,aCD g=some s->dH prog g s:=awJ aGJ afL
noncomputable def aCE (g:FuncId):Option Sum:=bif Nat.beq g 32 then some axF else aCD g
theorem awH: ∀g s,aCE g=some s->dH prog g s:=awJ awG afM
noncomputable def aCF (g:FuncId):Option Sum:=bif Nat.beq g 33 then some axG else aCE g
theorem awI: ∀g s,aCF g=some s->dH prog g s:=awJ awH afN
theorem anj:U8 (aH4 aCF) 6 [] Ou ()=some (true,()):=by kernel_rfl
def VH:Sum:=⟨[],Ou,fun _=>some (true,())⟩
theorem WP:dH prog 6 VH:=VJ (ayV awI) (by decide) fun x y h=>by
 cases h;exact anj
end
section
open Tryz
open Go.RowKit
def aoo (x0:BB):Option Qh:=bz (TS x0.1) fun y0=>bif(eP y0.1 [58])then bz (TS x0.2.1) fun y1=>bif(eP (bG y0.1 [58]) y1.1)then bif(eP (bG (bG y0.1 [58]) y1.1) [58,32])then bif(eP (bG (bG (bG y0.1 [58]) y1.1) [58,32]) x0.2.2.1)then some ((bG (bG (bG (bG y0.1 [58]) y1.1) [58,32]) x0.2.2.1),())else none else none else none else none
def awS:Sum:=⟨[VS],V7,fun x=>aoo x.1⟩
theorem afJ:dH prog 10 awS:=qA f10 [] (sE VI aN)
noncomputable def b11:Code:=(f11.body).getD .skip
noncomputable def agk:Code:=(f54.body).getD .skip
noncomputable def adr:Code:=cA (cA (cB (agk)))
def aem:dW:=⟨[0,5,6,7,55000001],[],[],[],[],[]⟩
def aoD:dW:=⟨[0,4,5,6,7],[],[],[],[],[]⟩
def KO:SQ:=⟨us [.yld 1700008,.u,.u,.u,.u,.v (.list VS),.v cO,.v cO] 8,[us [.u,.u,.v .str,.ptr 1000003 0] 10,[.yld 1700008],[]],[.lp 1700008 11 (us [.u,.u,.v .str,.ptr 1000003 0] 10) [8] 4 0 none,.box 2000001 24 [.v (.list VS)],.box 1000003 69 [.slf 1000003,.slc 1500003],.arr 1500003 (.int .u8)]⟩
def NE:SQ:=⟨us [] 16,[us [.u,.u,.v .str,.ptr 1000003 0] 10,[.yld 1700008],[]],[.lp 1700008 11 (us [.u,.u,.v .str,.ptr 1000003 0] 10) [8] 4 0 none,.box 2000001 24 [.v (.list VS)],.box 1000003 69 [.slf 1000003,.slc 1500003],.arr 1500003 (.int .u8)]⟩
def NJ:SQ:=⟨us [] 16,[us [.u,.u,.v .str,.ptr 1000003 0] 10,[.yld 1700008],[]],[]⟩
def GM {γ:Type} (rec:(List BB)->Int->Int->bM->bM->(List BB)->iC->Option γ) (kE:bM->bM->(List BB)->iC->Option γ) (kR:bM->Option γ) (v0:List BB) (v1 v2:Int) (v3 v4:bM) (v5:List BB) (v6:iC):Option γ:=bif(gU v2 v1)then bif(fB v0 v2)then bz (aoo ((dQ v0 (0,(0,([],()))) v2).1,((dQ v0 (0,(0,([],()))) v2).2.1,((dQ v0 (0,(0,([],()))) v2).2.2.1,())))) fun y0=>bif(dO (bG v6 (dh y0.1)) 1)then bif(dO (bG (bG v6 (dh y0.1)) [10]) 1)then rec v0 v1 (bU .i64 v2 1) v3 v4 v5 (bG (bG v6 (dh y0.1)) [10])else none else none else none else kE v3 v4 v5 v6
def wI:Nat->(List BB)->Int->Int->bM->bM->(List BB)->iC->Option (NE.den⊕NJ.den)
 |0,_,_,_,_,_,_,_=>none
 |n+1,v0,v1,v2,v3,v4,v5,v6=>GM (wI n) (fun e0 e1 e2 e3=>some (.inl ((),((e0,()),(),(),()),((e1,()),(e2,()),(),e3,())))) (fun r0=>some (.inr ((),((r0,()),(),(),()),()))) v0 v1 v2 v3 v4 v5 v6
def aoP (n:Nat) (v:KO.den):=wI n v.1.1 v.1.2.1 v.1.2.2.1 v.2.1.1.1 v.2.2.1.1 v.2.2.2.1.1 v.2.2.2.2.2.1
noncomputable def XG:di:=eX aem KO NE NJ (.exit 0) (aoP bH) 6
def aEj (x0:bM):Option Qh:=bz (fn8 x0) fun y0=>bz (wI bH y0.1 (bC y0.1) 0 [] [] y0.1 []) fun y1=>dE y1 (fun a2=>bif(bJ (bC a2.2.2.2.2.2.1) (bC a2.2.2.2.2.2.1))then some ((ofBytes a2.2.2.2.2.2.1),())else none) (fun b2=>none)
def aCM:Sum:=⟨[.str],V7,fun x=>aEj x.1⟩
noncomputable def ajp:Env:=gy prog tt [(8,aHq),(10,awS)] [(54,1,aem),(11,500004,akA),(11,600002,ZM),(11,600004,aku),(11,600005,F9),(11,600006,F9),(54,600003,aoD),(28,600001,pY),(29,600001,pY)] [(54,1,XG)] [11]
def Yb {γ:Type} (a:KO.den->Option γ) (b:NE.den->Option γ) (c:NJ.den->Option γ) (v:KO.den):Option γ:=GM (fun v0 v1 v2 v3 v4 v5 v6=>a ((v0,v1,v2,()),((v3,()),(),(),()),((v4,()),(v5,()),(),v6,()))) (fun e0 e1 e2 e3=>b ((),((e0,()),(),(),()),((e1,()),(e2,()),(),e3,()))) (fun r0=>c ((),((r0,()),(),(),()),())) v.1.1 v.1.2.1 v.1.2.2.1 v.2.1.1.1 v.2.2.1.1 v.2.2.2.1.1 v.2.2.2.2.2.1
theorem aoZ:dG ajp 54 adr XG:=kW (Yb) (h2:=by intros;simp only[Yb,GM,bV,bW,bu,bQ,bY])
theorem aIk:iW b11=[]:=by kernel_rfl
theorem aI4:je b11=[(cA (cA (cB (cA (cB (cB (cA (cB (b11)))))))),cB (cA (cB (cA (cB (cB (cA (cB (b11)))))))))]:=by kernel_rfl
theorem aIo:dD ajp 11 b11:=lU b11 (by rw[aI4];exact(aD (fun _=>(show pz 11 4=some (cA (cA (cB (cA (cB (cB (cA (cB (b11)))))))),cB (cA (cB (cA (cB (cB (cA (cB (b11))))))))) by kernel_rfl)) aN)) (by rw[aIk];exact aN)
theorem auw:dD ajp 54 agk:=nJ [adr] (aD (fM (aoZ)) aN)
theorem arz:eu ajp:=eB (aD am6 (aD afJ aN)) [11,54] (aD ⟨f11,b11,by kernel_rfl,by kernel_rfl,aIo⟩ (aD ⟨f54,agk,by kernel_rfl,by kernel_rfl,auw⟩ aN))
theorem awY:dH prog 11 aCM:=sA arz
noncomputable def b5:Code:=(Tryz.f5.body).getD .skip
noncomputable def aBE:Code:=cA (cA (cB (cA (cB (cB (cB (cB (cB (cB (cB (b5)))))))))))
def aCg:dW:=⟨[0,3,4,5,6,100011],[],[0,5],[],[2],[]⟩
def alz:SP:=⟨us [.v .str,.u,.u,.v (.list VS),.v (.list VS),.v .str,.v cO] 41,[]⟩
def ahU:SP:=⟨us [.v .str,.u,.u,.u,.u,.v .str] 42,[]⟩
def aim:SP:=⟨us [.u,.u,.v .bool] 45,[]⟩
def acH {γ:Type} (rec:bM->(List BB)->(List BB)->bM->Int->Option γ) (kE:bM->bM->Option γ) (kR:Bool->Option γ) (v0:bM) (v1 v2:List BB) (v3:bM) (v4:Int):Option γ:=bif(gU v4 (bC v1))then bif(fB v1 v4)then bif(fB v2 v4)then bif(!((bJ (dQ v1 (0,(0,([],()))) v4).1 (dQ v2 (0,(0,([],()))) v4).1)&&((bJ (dQ v1 (0,(0,([],()))) v4).2.1 (dQ v2 (0,(0,([],()))) v4).2.1)&&((fG (dQ v1 (0,(0,([],()))) v4).2.2.1 (dQ v2 (0,(0,([],()))) v4).2.2.1)&&true))))then kR false else bif(fB v1 v4)then bz (aoo (dQ v1 (0,(0,([],()))) v4)) fun y0=>bif(eP v3 y0.1)then bif(eP (bG v3 y0.1) [10])then rec v0 v1 v2 (bG (bG v3 y0.1) [10]) (bU .i64 v4 1)else none else none else none else none else none else kE v0 v3
def Nb:Nat->bM->(List BB)->(List BB)->bM->Int->Option (ahU.den⊕aim.den)
 |0,_,_,_,_,_=>none
 |n+1,v0,v1,v2,v3,v4=>acH (Nb n) (fun e0 e1=>some (.inl ((e0,e1,()),()))) (fun r0=>some (.inr ((r0,()),()))) v0 v1 v2 v3 v4
def aFs (n:Nat) (v:alz.den):=Nb n v.1.1 v.1.2.1 v.1.2.2.1 v.1.2.2.2.1 v.1.2.2.2.2.1
noncomputable def auX:di:=fD aCg alz ahU aim (.exit 0) (aFs bH) 6
def fn5 (x0:bM):Option oP:=bif(gU 100 (bC x0))then some (true,())else bz (fn8 x0) fun y0=>bz (fn9 x0) fun y1=>bif(!(bJ (bC y0.1) (bC y1.1)))then some (false,())else bz (Nb bH x0 y0.1 y1.1 [] 0) fun y2=>dE y2 (fun a3=>bz (aEj a3.1.1) fun y4=>some ((fG y4.1 a3.1.2.1),())) (fun b3=>some (b3.1.1,()))
def aJa:Sum:=⟨[.str],Ou,fun x=>fn5 x.1⟩
noncomputable def ayQ:Env:=iM prog tt 5 [(6,VH),(8,aHq),(9,aJh),(10,awS),(11,aCM)] [(11,aCg)] [(11,auX)]
def awf {γ:Type} (a:alz.den->Option γ) (b:ahU.den->Option γ) (c:aim.den->Option γ) (v:alz.den):Option γ:=acH (fun v0 v1 v2 v3 v4=>a ((v0,v1,v2,v3,v4,()),())) (fun e0 e1=>b ((e0,e1,()),())) (fun r0=>c ((r0,()),())) v.1.1 v.1.2.1 v.1.2.2.1 v.1.2.2.2.1 v.1.2.2.2.2.1
theorem aF8:dG ayQ 5 aBE auX:=uQ (awf) (h2:=by intros;simp only[awf,acH,bV,bW,bu,bQ,bY])
theorem aKi:dD ayQ 5 b5:=nJ [aBE] (aD (fM (aF8)) aN)
theorem ayR:eu ayQ:=eA Tryz.f5 (aD WP (aD am6 (aD aBi (aD afJ (aD awY aN))))) (aKi)
end
section
open Bool renaming not_true → ay, true_and → aJ
open List renaming mem_cons_of_mem → au, drop_of_length_le → az, drop_eq_getElem_cons → aA, getElem_mem → aH, mem_cons_self → aP
open Nat renaming le_refl → ae, le_trans → aG
open Go.RowKit
theorem SN: ∀(f u:Nat),(ags f u).length<=f
 |0,_=>ae _
 |f+1,u=>by
  have:=SN f (u/10);rw[ags]
  grind
theorem XB (n:Int):(OZ n).length<=21:=by
 have a:=SN 20 n.natAbs;have b:=SN 20 n.toNat;unfold OZ
 grind
def af9 (x:Nt):Prop:=0<=x.1/\x.1<=20000/\0<=x.2.1/\x.2.1<=20000/\x.2.2.1.length<=9000000
def Ep (x:Nt):bM:=OZ x.1++[58]++OZ x.2.1++[58,32]++x.2.2.1
theorem atE {n:Int} (p:0<=n) (q:n<=20000):TS n=some (OZ n,()):=by
 grind [TS]
theorem ZU {x:Nt} (h:af9 x):aoo x=some (Ep x,())/\(Ep x).length<=9000100:=by
 obtain⟨h1,h2,h3,h4,h5⟩:=h;have a:=XB x.1;have b:=XB x.2.1;constructor
 ·rw[aoo,atE h1 h2,bu,bI (jv (by simp;omega)),atE h3 h4,bu];simp only;rw[bI (jv (by simp[bG];omega)),bI (jv (by simp[bG];omega)),bI (jv (by simp[bG];omega))];rfl
 grind [Ep]
def YM (l:List Nt):bM:=l.flatMap fun x=>Ep x++[10]
theorem adh: ∀{l:List Nt},(∀x∈l,af9 x)->(YM l).length<=l.length*9000101
 |[],_=>by simp[YM]
 |x::r,h=>by
  have ih:=adh (l:=r) fun y hy=>h y (au _ hy);have:=(ZU (h x aP)).2
  grind [YM]
theorem aCx {l:List Nt} {k:Nat} (ek:k<l.length):dQ l (0,(0,([],()))) (k:Int)=l[k]:=by
 simp_all [dQ]
theorem UB (u:bM) {l:List Nt} (hl:l.length<=4000000) (h: ∀x∈l,af9 x): ∀(N k:Nat) (t:bM),l.length-k<N->k<=l.length->t.length<=k*9000101->
  Nb N u l l t (k:Int)=some (.inl ((u,t++YM (l.drop k),()),()))
 |0,k,t,h1,_,_=>by omega
 |N+1,k,t,h1,h2,h3=>by
  rw[Nb,acH];by_cases ek:k<l.length
  ·obtain⟨p1,p2⟩:=ZU (h _ (aH ek));have ih:=UB u hl h N (k+1) (bG (bG t (Ep l[k])) [10]) (by omega) (by omega) (by grind [bG]);have hin:fB l (k:Int)=true:=dN (by omega) (by omega);simp only[hin,aCx ek,p1,bu,cond_true,dU,mD,aJ,ay,cond_false];rw[bI (dZ (by rw[bF];omega)),bI (jv (by omega)),bI (jv (by grind [bG])),bZ (by omega) (by omega),show(k:Int)+1=((k+1:Nat):Int) by omega,ih,aA ek]
   grind [bG,YM]
  simp_all [fV,bF,az,YM]
theorem WW {l:List Nt} (hl:l.length<=4000000) (h: ∀x∈l,af9 x) (v3 v4:bM) (v5:List Nt): ∀(N k:Nat) (t:bM),l.length-k<N->k<=l.length->t.length<=k*9000101->
  wI N l (bC l) (k:Int) v3 v4 v5 (dh t)=some (.inl ((),((v3,()),(),(),()),((v4,()),(v5,()),(),dh (t++YM (l.drop k)),())))
 |0,k,t,h1,_,_=>by omega
 |N+1,k,t,h1,h2,h3=>by
  rw[wI,GM];by_cases ek:k<l.length
  ·obtain⟨p1,p2⟩:=ZU (h _ (aH ek));have ih:=WW hl h v3 v4 v5 N (k+1) (t++Ep l[k]++[10]) (by omega) (by omega) (by grind);have e1:bG (dh t) (dh (Ep l[k]))=dh (t++Ep l[k]):=by unfold bG dh;simp
   have e2:bG (dh (t++Ep l[k])) [10]=dh (t++Ep l[k]++[10]):=by unfold bG dh;simp
   have hn: ∀y:bM,(dh y).length=y.length:=fun y=>by unfold dh;simp
   have hp:aoo (l[k].1,(l[k].2.1,(l[k].2.2.1,())))=some (Ep l[k],()):=p1;simp only[aCx ek,hp,bu,e1,e2];rw[bI (dZ (by rw[bF];omega)),bI (dN (by omega) (by omega)),bI (kN (by grind)),bI (kN (by grind)),bZ (by omega) (by omega),show(k:Int)+1=((k+1:Nat):Int) by omega,ih,aA ek]
   grind [YM]
  simp_all [fV,bF,az,YM]
theorem UA {u:List UInt8} (hu:u.length<=10000) {p:Int} (h0:0<=p) (h1:p<=u.length) {t:List UInt8} (ht:t.length<=9000000):af9 (KN u p t):=by
 have h:=VV u p.toNat
 grind [af9,KN]
theorem aoY {u:List UInt8} (hu:u.length<=100) {l:List Nd} (hl:l.length<1000000) (hF: ∀(i:Nat) (h:i<l.length),OW l[i]=true->vg (eF u (fK u).1) l l[i]):(su u l).length<=4000000/\ ∀x∈su u l,af9 x:=by
 obtain⟨p1,p2⟩:=aCz hu;have hfl:(l.filter OW).length<=l.length:=List.length_filter_le _ _;have hok:=AB (s:=u) (by omega);unfold su;constructor
 ·grind
 ·intro x hx;rcases List.mem_append.1 hx with hx|hx
  ·rcases List.mem_append.1 hx with hx|hx
   ·obtain⟨y,hy,rfl⟩:=List.mem_map.1 hx;obtain⟨hm,hf⟩:=List.mem_filter.1 hy;obtain⟨i,hi,rfl⟩:=List.mem_iff_getElem.1 hm;have h:=hF i hi hf;obtain⟨q0,q1⟩:=U0 (avJ (u:=u) (by omega)) h;refine UA (by omega) q0 q1 ?_;unfold ai1;obtain⟨g0,g1,g2,g3,g4⟩:=h;obtain⟨n1,_,n3⟩:=aqn g4;split
    ·simp;omega
    ·split
     ·simp
     ·by_cases hx:l[i].2.1<bC (eF u (fK u).1)
      ·have hleaf:dQ (eF u (fK u).1) dLf l[i].2.1∈eF u (fK u).1:=by
        simp_all [dQ,bF]
       have:=sN (aG (hok.txt _ hleaf) (show 10000<=2000000 by omega));simp;omega
      omega
   ·split at hx
    ·rename_i hop
     obtain⟨g0,g1⟩:=ZR (u:=u) (by omega) hop;rw[List.mem_singleton]at hx;subst hx;refine UA (by omega) g0 g1 ?_;split<;>simp
    ·cases hx
  ·split at hx
   ·cases hx
   ·obtain⟨d,hd,rfl⟩:=List.mem_map.1 hx;have:=sN (p2 d hd);exact UA (by omega) (p:=bC u) (by rw[bF];omega) (Int.le_refl _) (by simp;omega)
theorem aoK (s:bM):fn5 s=some (true,()):=by
 rw[fn5];by_cases h:s.length<=100
 ·obtain⟨l,h1,h2,h3,h4⟩:=aBk h;obtain⟨p1,p2⟩:=aCz h;obtain⟨k1,k2⟩:=aoY h h3 h4;have hN:=ayt (u:=s) (by omega) h1 h3 h4 p2 p1;have hall:=UB s k1 k2 bH 0 [] (dB (by omega)) (by omega) (by simp);have hA: ∀v3 v4 v5,_:=fun v3 v4 v5=>WW k1 k2 v3 v4 v5 bH 0 [] (dB (by omega)) (by omega) (by simp);have hlen:=adh k2;rw[dC (jZ (by rw[bF];omega)),hN,bu,ayu (by omega) h2 h3 h4 p2 p1,bu];simp only;rw[dU,ay,cond_false,show Nb bH s (su s l) (su s l) [] 0=_ from hall,bu];simp only[dE];rw[aEj,hN,bu];simp only;rw[show wI bH (su s l) (bC (su s l)) 0 [] [] (su s l) []=_ from hA [] [] (su s l),bu];simp_all [dE,dU,bu,CP,mD]
 ·rw[bI (dZ (by rw[bF];omega))]
end
end Go.Proofs.YtldbkoijjlaaeaaGreatDoor
