/- Parts of the proof, joined and shortened by a program: the plain machine, the functions as it prints them, and the mathematics over them. -/
import Derived.Ground.NamesProg
import Derived.Shelf.Strings.Replace
import Derived.Test.YtfmikaahgehndaaGreatDoorV4
set_option linter.unusedVariables false
set_option linter.unusedSimpArgs false
set_option maxRecDepth 100000
set_option maxHeartbeats 4000000
namespace Go.Proofs.YtfmikaahgehndaaGreatDoor
section
open List renaming append_assoc → ai
open Nat renaming le_refl → ae
open Go.RowKit
variable {F:List Lf} (hF:Zr F)
include hF
theorem Il {q':jD} (u d w:Int) (hd:0<=d/\d<=201) (P:Nat->Nat->List Nd->Option (Nat×List Nd)->Prop)
  (hno: ∀N a L,CS F a=false->P (N+1) a L (some (a,L)))
  (hyes: ∀N a L a1 m1 x,CS F a=true->a1<=F.length->zO F (a:Int) L u d=some (PR F a1 (L++m1) u d,(true,()))->P N a1 (L++m1) x->P (N+1) a L x):
  ∀(N a:Nat) (L:List Nd),F.length-a<N->a<=F.length->L.length<=16*a+1000->
  ∃(a':Nat) (m:List Nd),P N a L (some (a',L++m))/\ji q' N w F (iK F) (a:Int) u d L=some (.inl ((w,()),((),()),((F,iK F,(a':Int),u,d,()),L++m,())))/\a<=a'/\a'<=F.length/\m.length<=2*(a'-a)/\Tr a a' u L.length m
 |0,a,L,hN,_,_=>by omega
 |N+1,a,L,hN,ha,hL=>by
  have hFl:=hF.len;rw[ji,acC,yA a L u d (by omega),bu];simp only;cases hr:CS F a with
  |false=>exact⟨a,[],by simp_all,by simp,ae _,ha,by simp,.nil (ae _)⟩
  |true=>
   obtain⟨a1,m1,e1,e2,e3,e4,e5⟩:=NF hF a L u d ha (by omega) hd.1 (by omega) hr;simp only[cond_true];rw[e2,bu];simp only;obtain⟨a',m,f1,f2,f3,f4,f5⟩:=Il u d w hd P hno hyes N a1 (L++m1) (by omega) e4 (by grind);exact⟨a',m1++m,by grind,by rw[f2,ai],by omega,f4,by grind,e5.2.ap f5.2⟩
theorem aEb {q:dY} {q':jD} (u d w v0 v1 v2 v3 v4 v5:Int) (hd:0<=d/\d<=201) (a:Nat) (L:List Nd) (ha:a<=F.length) (hL:L.length<=16*a+1000):
  ∃(a':Nat) (m:List Nd),nI q bP v0 v1 v2 v3 v4 v5 L F (a:Int) u d=some (.inl ((),((v0,v1,()),(v2,v3,()),(v4,v5,()),(),()),((),(),L++m,(F,(a':Int),u,d,()),())))/\
   ji q' bP w F (iK F) (a:Int) u d L=some (.inl ((w,()),((),()),((F,iK F,(a':Int),u,d,()),L++m,())))/\a<=a'/\a'<=F.length/\m.length<=2*(a'-a)/\Tr a a' u L.length m:=by
 have hFl:=hF.len;obtain⟨a',m,f1,f2,f3,f4,f5⟩:=Il hF (q':=q') u d w hd (fun N a L x=>a<=F.length-> ∀y,x=some y->nI q N v0 v1 v2 v3 v4 v5 L F (a:Int) u d=some (.inl ((),((v0,v1,()),(v2,v3,()),(v4,v5,()),(),()),((),(),y.2,(F,(y.1:Int),u,d,()),()))))
  (fun N a L hr ha y hy=>by
   cases hy;rw[nI,ui,nM hF a L u d ha hr,bu];rfl)
  (fun N a L a1 m1 x hr h1 e1 ih ha y hy=>by
   rw[nI,ui,e1,bu];simp only[cond_true];exact ih h1 y hy) bP a L (dJ (by omega)) ha hL
 grind
theorem aAx {q:dY} {q':jD} (u d w v0 v1 v2 v3 v4 v5:Int) (hd:0<=d/\d<=201) (a:Nat) (L:List Nd) (ha:a<=F.length) (hL:L.length<=16*a+1000):
  ∃(a':Nat) (m:List Nd),kX q bP v0 v1 v2 v3 v4 v5 L F (a:Int) u d=some (.inl ((),((v0,v1,()),(v2,v3,()),(v4,v5,()),(),()),((),(),L++m,(F,(a':Int),u,d,()),())))/\
   ji q' bP w F (iK F) (a:Int) u d L=some (.inl ((w,()),((),()),((F,iK F,(a':Int),u,d,()),L++m,())))/\a<=a'/\a'<=F.length/\m.length<=2*(a'-a)/\Tr a a' u L.length m:=by
 have hFl:=hF.len;obtain⟨a',m,f1,f2,f3,f4,f5⟩:=Il hF (q':=q') u d w hd (fun N a L x=>a<=F.length-> ∀y,x=some y->kX q N v0 v1 v2 v3 v4 v5 L F (a:Int) u d=some (.inl ((),((v0,v1,()),(v2,v3,()),(v4,v5,()),(),()),((),(),y.2,(F,(y.1:Int),u,d,()),()))))
  (fun N a L hr ha y hy=>by
   cases hy;rw[kX,oN,nM hF a L u d ha hr,bu];rfl)
  (fun N a L a1 m1 x hr h1 e1 ih ha y hy=>by
   rw[kX,oN,e1,bu];simp only[cond_true];exact ih h1 y hy) bP a L (dJ (by omega)) ha hL
 grind
theorem aAy {q:dY} {q':jD} (u d w v0 v1 v2 v3 v4 v5:Int) (hd:0<=d/\d<=201) (a:Nat) (L:List Nd) (ha:a<=F.length) (hL:L.length<=16*a+1000):
  ∃(a':Nat) (m:List Nd),kY q bP v0 v1 v2 v3 v4 v5 L F (a:Int) u d=some (.inl ((),((v0,v1,()),(v2,v3,()),(v4,v5,()),(),()),((),(),L++m,(F,(a':Int),u,d,()),())))/\
   ji q' bP w F (iK F) (a:Int) u d L=some (.inl ((w,()),((),()),((F,iK F,(a':Int),u,d,()),L++m,())))/\a<=a'/\a'<=F.length/\m.length<=2*(a'-a)/\Tr a a' u L.length m:=by
 have hFl:=hF.len;obtain⟨a',m,f1,f2,f3,f4,f5⟩:=Il hF (q':=q') u d w hd (fun N a L x=>a<=F.length-> ∀y,x=some y->kY q N v0 v1 v2 v3 v4 v5 L F (a:Int) u d=some (.inl ((),((v0,v1,()),(v2,v3,()),(v4,v5,()),(),()),((),(),y.2,(F,(y.1:Int),u,d,()),()))))
  (fun N a L hr ha y hy=>by
   cases hy;rw[kY,oO,nM hF a L u d ha hr,bu];rfl)
  (fun N a L a1 m1 x hr h1 e1 ih ha y hy=>by
   rw[kY,oO,e1,bu];simp only[cond_true];exact ih h1 y hy) bP a L (dJ (by omega)) ha hL
 grind
theorem aAz {q:dY} {q':jD} (u d w v0 v1 v2 v3 v4 v5:Int) (hd:0<=d/\d<=201) (a:Nat) (L:List Nd) (ha:a<=F.length) (hL:L.length<=16*a+1000):
  ∃(a':Nat) (m:List Nd),kZ q bP v0 v1 v2 v3 v4 v5 L F (a:Int) u d=some (.inl ((),((v0,v1,()),(v2,v3,()),(v4,v5,()),(),()),((),(),L++m,(F,(a':Int),u,d,()),())))/\
   ji q' bP w F (iK F) (a:Int) u d L=some (.inl ((w,()),((),()),((F,iK F,(a':Int),u,d,()),L++m,())))/\a<=a'/\a'<=F.length/\m.length<=2*(a'-a)/\Tr a a' u L.length m:=by
 have hFl:=hF.len;obtain⟨a',m,f1,f2,f3,f4,f5⟩:=Il hF (q':=q') u d w hd (fun N a L x=>a<=F.length-> ∀y,x=some y->kZ q N v0 v1 v2 v3 v4 v5 L F (a:Int) u d=some (.inl ((),((v0,v1,()),(v2,v3,()),(v4,v5,()),(),()),((),(),y.2,(F,(y.1:Int),u,d,()),()))))
  (fun N a L hr ha y hy=>by
   cases hy;rw[kZ,oP,nM hF a L u d ha hr,bu];rfl)
  (fun N a L a1 m1 x hr h1 e1 ih ha y hy=>by
   rw[kZ,oP,e1,bu];simp only[cond_true];exact ih h1 y hy) bP a L (dJ (by omega)) ha hL
 grind
theorem aAA {q:dY} {q':jD} (u d w v0 v1 v2 v3 v4 v5:Int) (hd:0<=d/\d<=201) (a:Nat) (L:List Nd) (ha:a<=F.length) (hL:L.length<=16*a+1000):
  ∃(a':Nat) (m:List Nd),lg q bP v0 v1 v2 v3 v4 v5 L F (a:Int) u d=some (.inl ((),((v0,v1,()),(v2,v3,()),(v4,v5,()),(),()),((),(),L++m,(F,(a':Int),u,d,()),())))/\
   ji q' bP w F (iK F) (a:Int) u d L=some (.inl ((w,()),((),()),((F,iK F,(a':Int),u,d,()),L++m,())))/\a<=a'/\a'<=F.length/\m.length<=2*(a'-a)/\Tr a a' u L.length m:=by
 have hFl:=hF.len;obtain⟨a',m,f1,f2,f3,f4,f5⟩:=Il hF (q':=q') u d w hd (fun N a L x=>a<=F.length-> ∀y,x=some y->lg q N v0 v1 v2 v3 v4 v5 L F (a:Int) u d=some (.inl ((),((v0,v1,()),(v2,v3,()),(v4,v5,()),(),()),((),(),y.2,(F,(y.1:Int),u,d,()),()))))
  (fun N a L hr ha y hy=>by
   cases hy;rw[lg,oQ,nM hF a L u d ha hr,bu];rfl)
  (fun N a L a1 m1 x hr h1 e1 ih ha y hy=>by
   rw[lg,oQ,e1,bu];simp only[cond_true];exact ih h1 y hy) bP a L (dJ (by omega)) ha hL
 grind
theorem aAB {q:dY} {q':jD} (u d w v0 v1 v2 v3 v4 v5:Int) (hd:0<=d/\d<=201) (a:Nat) (L:List Nd) (ha:a<=F.length) (hL:L.length<=16*a+1000):
  ∃(a':Nat) (m:List Nd),lm q bP v0 v1 v2 v3 v4 v5 L F (a:Int) u d=some (.inl ((),((v0,v1,()),(v2,v3,()),(v4,v5,()),(),()),((),(),L++m,(F,(a':Int),u,d,()),())))/\
   ji q' bP w F (iK F) (a:Int) u d L=some (.inl ((w,()),((),()),((F,iK F,(a':Int),u,d,()),L++m,())))/\a<=a'/\a'<=F.length/\m.length<=2*(a'-a)/\Tr a a' u L.length m:=by
 have hFl:=hF.len;obtain⟨a',m,f1,f2,f3,f4,f5⟩:=Il hF (q':=q') u d w hd (fun N a L x=>a<=F.length-> ∀y,x=some y->lm q N v0 v1 v2 v3 v4 v5 L F (a:Int) u d=some (.inl ((),((v0,v1,()),(v2,v3,()),(v4,v5,()),(),()),((),(),y.2,(F,(y.1:Int),u,d,()),()))))
  (fun N a L hr ha y hy=>by
   cases hy;rw[lm,oU,nM hF a L u d ha hr,bu];rfl)
  (fun N a L a1 m1 x hr h1 e1 ih ha y hy=>by
   rw[lm,oU,e1,bu];simp only[cond_true];exact ih h1 y hy) bP a L (dJ (by omega)) ha hL
 grind
end
section
open List renaming length_append → ag, append_assoc → ai
open Nat renaming le_refl → ae
open Go.RowKit
variable {F:List Lf} (hF:Zr F)
include hF
theorem EM {k:Nat} (h:All F k) (a:Nat) (l:List Nd) (u d:Int) (r r':Nat) (hm:16*(F.length-a)+13<k) (hr:k+1<=r) (hr':k+1<=r') (hp:IG F a l d 105):
  ∃(a':Nat) (m:List Nd),(dZ r).q268 F (a:Int) l u d=some (PR F a' (l++m) u d,())/\
   (fE r').q249 F (iK F) l (a:Int) u d=some (RR F a' (l++m) u d,())/\a<=a'/\a'<=F.length/\m.length<=16*(a'-a)+3/\Tr a a' u l.length m:=by
 obtain⟨p1,p2,p3,p4⟩:=hp;have hFl:=hF.len;obtain⟨q,rfl⟩: ∃q,r=q+1:=⟨r-1,by omega⟩;obtain⟨q',rfl⟩: ∃q',r'=q'+1:=⟨r'-1,by omega⟩;obtain⟨w1,w2⟩:=GR (F:=F) a [100];have w3:=w2 p1;have w4:=sN (F:=F) a [100] u;obtain⟨a1,m1,e1,e2,e3,e4,e5⟩:=h.body (pq F a [100]) (l++uj F a [100] u) u d q q' (by omega) (by omega) (by omega) ⟨w3,by rw[ag];omega,p3,p4⟩;obtain⟨x1,x2⟩:=GR (F:=F) a1 [103];have x3:=x2 e4;have x4:=sN (F:=F) a1 [103] u;refine⟨pq F a1 [103],uj F a [100] u++m1++uj F a1 [103] u, ?_, ?_,by omega,x3,by simp only[ag];omega,((xf (ae a) (ae a)).ap e5.2).apA fun _=>xf (ae a1) (by omega)⟩
 ·show aof (dZ q) F (a:Int) l u d=_;rw[aof,zo hF a l u d (by omega) (by omega) [100] rfl,bu];simp only[lS];rw[e1,bu];simp only;rw[zo hF a1 _ u d (by omega) (by simp only[ag];omega) [103] rfl,bu];simp only[lS,ai]
 ·show an6 (fE q') F (iK F) l (a:Int) u d=_;rw[an6,zq a l u d (by omega) (by omega) p3 (by omega) [100] (by simp),bu];simp only[lS];rw[e2,bu];simp only;rw[zq a1 _ u d (by omega) (by simp only[ag];omega) p3 (by omega) [103] (by simp),bu];simp only[lS,ai]
theorem YY {k:Nat} (h:All F k) (a:Nat) (l:List Nd) (u d:Int) (q q':Nat) (o:bK) (h0:o.contains 0=false) (ho:o.length<1000000) (hm:16*(F.length-a)+13<k) (hr:k<=q) (hr':k<=q') (hp:IG F a l d 105):
  ∃(a':Nat) (m:List Nd),(bz ((dZ q).q267 F (a:Int) l u d) fun y0=>bz (qP y0.1.1 y0.1.2.1 y0.1.2.2.1 y0.1.2.2.2.1 y0.1.2.2.2.2.1 o) fun y1=>
    some ((y1.1.1,(y1.1.2.1,(y1.1.2.2.1,(y1.1.2.2.2.1,(y1.1.2.2.2.2.1,()))))),()))=some (PR F a' (l++m) u d,())/\
   (∀{β:Type} (K:(List Lf×List UInt8×List Nd×Int×Int×Int×Unit)×Unit->Option β),(bz ((fE q').q248 F (iK F) l (a:Int) u d) fun y3=>bz (mX y3.1.1 y3.1.2.1 y3.1.2.2.1 y3.1.2.2.2.1 y3.1.2.2.2.2.1 y3.1.2.2.2.2.2.1 o) K)=K (RR F a' (l++m) u d,()))/\a<=a'/\a'<=F.length/\m.length<=16*(a'-a)+2/\Tr a a' u l.length m:=by
 obtain⟨p1,p2,p3,p4⟩:=hp;have hFl:=hF.len;obtain⟨a1,m1,e1,e2,e3,e4,e5⟩:=h.body a l u d q q' (by omega) (by omega) (by omega) ⟨p1,by omega,p3,p4⟩;obtain⟨x1,x2⟩:=GR (F:=F) a1 o;have x3:=x2 e4;have x4:=sN (F:=F) a1 o u;refine⟨pq F a1 o,m1++uj F a1 o u, ?_,fun K=> ?_,by omega,x3,by simp only[ag];omega,e5.2.apA fun _=>xf (ae a1) (by omega)⟩
 ·rw[e1,bu];simp only;rw[zo hF a1 _ u d (by omega) (by simp only[ag];omega) o h0,bu];simp only[lS,ai]
 ·rw[e2,bu];simp only;rw[zq a1 _ u d (by omega) (by simp only[ag];omega) p3 (by omega) o ho,bu];simp only[lS,ai]
end
section
open Nat renaming le_refl → ae
open Go.RowKit
variable {F:List Lf} (hF:Zr F)
include hF
theorem UB {k:Nat} (h:All F k) {q q':Nat} (hq:k<=q) (hq':k<=q') (u d v:Int) (hd:0<=d/\d<=200): ∀(N a:Nat) (L:List Nd),F.length-a<N->a<=F.length->16*(F.length-a)+2<k->L.length<=16*a+110->
  ∃(a':Nat) (m:List Nd),JD (dZ q) N F (a:Int) u d L=some (.inl ((),((),()),((F,(a':Int),u,d,()),L++m,())))/\
   DF (fE q') N v F (iK F) (a:Int) u d L=some (.inl ((v,()),((),()),((F,iK F,(a':Int),u,d,()),L++m,())))/\a<=a'/\a'<=F.length/\m.length<=16*(a'-a)/\Tr a a' u L.length m
 |0,a,L,hN,_,_,_=>by omega
 |N+1,a,L,hN,ha,hn,hL=>by
  have hFl:=hF.len;rw[JD,OX,DF,acB,mD hF a L u d (by omega) [101] rfl,jb a L u d [101] (by simp),bu,bu];simp only;cases hb:fG F a [101]with
  |false=>
   rw[xe hb];exact⟨a,[],by simp,by simp,ae _,ha,by simp,.nil (ae _)⟩
  |true=>
   have hlt:=gQ hb;rw[mQ hb];simp only[cond_true];rw[bY (by omega) (by omega),show(a:Int)+1=((a+1:Nat):Int) by omega];obtain⟨a1,m1,e1,e2,e3,e4,e5⟩:=h.body (a+1) L u d q q' (by omega) hq hq' ⟨by omega,by omega,hd.1,hd.2⟩;obtain⟨w1,w2⟩:=GR (F:=F) a1 [116];have w3:=w2 e4;have w4:=sN (F:=F) a1 [116] u;obtain⟨a2,m2,f1,f2,f3,f4,f5⟩:=h.body (pq F a1 [116]) (L++m1++uj F a1 [116] u) u d q q' (by omega) hq hq' ⟨w3,by grind,hd.1,hd.2⟩;obtain⟨a',m,g1,g2,g3,g4,g5⟩:=UB h hq hq' u d v hd N a2 (L++m1++uj F a1 [116] u++m2) (by omega) f4 (by omega) (by grind);refine⟨a',m1++uj F a1 [116] u++m2++m, ?_, ?_,by omega,g4,by grind,(((e5.2.wide (by omega) (ae _)).apA fun _=>xf (ae a1) (ae a1)).ap f5.2).ap g5.2⟩
   ·rw[e1,bu];simp only;rw[zo hF a1 _ u d (by omega) (by grind) [116] rfl,bu];simp_all [lS,bu]
   grind [bu,zq,lS]
theorem aBV {k:Nat} (h:All F k) (a:Nat) (l:List Nd) (u d v:Int) (r q':Nat) (hm:16*(F.length-a)+13<k) (hr:k+1<=r) (hr':k<=q') (hp:IG F a l d 105):
  ∃(a':Nat) (m:List Nd),(dZ r).q256 F (a:Int) l u d=some (PR F a' (l++m) u d,())/\
   (∀{β:Type} (K:Int->(List Lf×List UInt8×List Nd×Int×Int×Int×Unit)×Unit->Option β),
    (bz ((fE q').q248 F (iK F) l (a:Int) u d) fun y3=>
       bz (mX y3.1.1 y3.1.2.1 y3.1.2.2.1 y3.1.2.2.2.1 y3.1.2.2.2.2.1 y3.1.2.2.2.2.2.1 [116]) fun y4=>
        bz ((fE q').q248 y4.1.1 y4.1.2.1 y4.1.2.2.1 y4.1.2.2.2.1 y4.1.2.2.2.2.1 y4.1.2.2.2.2.2.1) fun y5=>
         bz (DF (fE q') bP v y5.1.1 y5.1.2.1 y5.1.2.2.2.1 y5.1.2.2.2.2.1 y5.1.2.2.2.2.2.1 y5.1.2.2.1) fun y6=>
          dL y6 (fun a7=>
           bz (jv a7.2.2.1.1 a7.2.2.1.2.1 a7.2.2.2.1 a7.2.2.1.2.2.1 a7.2.2.1.2.2.2.1 a7.2.2.1.2.2.2.2.1 [108]) fun y8=>
            bif y8.2.1 then
             bz ((fE q').q248 y8.1.1 y8.1.2.1 y8.1.2.2.1 (bU .i64 y8.1.2.2.2.1 1) y8.1.2.2.2.2.1 y8.1.2.2.2.2.2.1) fun y9=>
              bz (mX y9.1.1 y9.1.2.1 y9.1.2.2.1 y9.1.2.2.2.1 y9.1.2.2.2.2.1 y9.1.2.2.2.2.2.1 [102]) (K a7.1.1)
            else
            bz (mX y8.1.1 y8.1.2.1 y8.1.2.2.1 y8.1.2.2.2.1 y8.1.2.2.2.2.1 y8.1.2.2.2.2.2.1 [102]) (K a7.1.1)) (fun b7=>none))=K v (RR F a' (l++m) u d,()))/\a<=a'/\a'<=F.length/\m.length<=16*(a'-a)+5/\Tr a a' u l.length m:=by
 obtain⟨p1,p2,p3,p4⟩:=hp;have hFl:=hF.len;obtain⟨q,rfl⟩: ∃q,r=q+1:=⟨r-1,by omega⟩;obtain⟨a1,m1,e1,e2,e3,e4,e5⟩:=h.body a l u d q q' (by omega) (by omega) hr' ⟨p1,by omega,p3,p4⟩;obtain⟨w1,w2⟩:=GR (F:=F) a1 [116];have w3:=w2 e4;have w4:=sN (F:=F) a1 [116] u;obtain⟨a2,m2,f1,f2,f3,f4,f5⟩:=h.body (pq F a1 [116]) (l++m1++uj F a1 [116] u) u d q q' (by omega) (by omega) hr' ⟨w3,by grind,p3,p4⟩;obtain⟨a3,m3,g1,g2,g3,g4,g5⟩:=UB hF h (q:=q) (q':=q') (by omega) hr' u d v ⟨p3,p4⟩ bP a2 (l++m1++uj F a1 [116] u++m2) (dJ (by omega)) f4 (by omega) (by grind);have hlast: ∃(a':Nat) (m:List Nd),(bz (lu F (a3:Int) (l++m1++uj F a1 [116] u++m2++m3) u d [108]) fun y5=>
       bif y5.2.1 then
        bz ((dZ q).q267 y5.1.1 y5.1.2.1 y5.1.2.2.1 y5.1.2.2.2.1 y5.1.2.2.2.2.1) fun y6=>
         bz (qP y6.1.1 y6.1.2.1 y6.1.2.2.1 y6.1.2.2.2.1 y6.1.2.2.2.2.1 [102]) fun y7=>
          some ((y7.1.1,(y7.1.2.1,(y7.1.2.2.1,(y7.1.2.2.2.1,(y7.1.2.2.2.2.1,()))))),())
       else
       bz (qP y5.1.1 y5.1.2.1 y5.1.2.2.1 y5.1.2.2.2.1 y5.1.2.2.2.2.1 [102]) fun y6=>
        some ((y6.1.1,(y6.1.2.1,(y6.1.2.2.1,(y6.1.2.2.2.1,(y6.1.2.2.2.2.1,()))))),()))=some (PR F a' (l++m1++uj F a1 [116] u++m2++m3++m) u d,())/\
   (∀{β:Type} (K:(List Lf×List UInt8×List Nd×Int×Int×Int×Unit)×Unit->Option β),(bz (jv F (iK F) (l++m1++uj F a1 [116] u++m2++m3) (a3:Int) u d [108]) fun y8=>
            bif y8.2.1 then
             bz ((fE q').q248 y8.1.1 y8.1.2.1 y8.1.2.2.1 (bU .i64 y8.1.2.2.2.1 1) y8.1.2.2.2.2.1 y8.1.2.2.2.2.2.1) fun y9=>
              bz (mX y9.1.1 y9.1.2.1 y9.1.2.2.1 y9.1.2.2.2.1 y9.1.2.2.2.2.1 y9.1.2.2.2.2.2.1 [102]) K
            else
            bz (mX y8.1.1 y8.1.2.1 y8.1.2.2.1 y8.1.2.2.2.1 y8.1.2.2.2.2.1 y8.1.2.2.2.2.2.1 [102]) K)=K (RR F a' (l++m1++uj F a1 [116] u++m2++m3++m) u d,()))/\a3<=a'/\a'<=F.length/\m.length<=16*(a'-a3)+2/\Tr a3 a' u (l++m1++uj F a1 [116] u++m2++m3).length m:=by
  have hL:(l++m1++uj F a1 [116] u++m2++m3).length<=16*a3+108:=by grind
  generalize l++m1++uj F a1 [116] u++m2++m3=L at hL;rw[mD hF a3 L u d (by omega) [108] rfl,bu];cases hb:fG F a3 [108]with
  |true=>
   have hlt:=gQ hb;obtain⟨b1,n1,s1,s2,s3,s4,s5⟩:=YY hF h (a3+1) L u d q q' [102] rfl (by simp) (by omega) (by omega) hr' ⟨by omega,by omega,p3,p4⟩;refine⟨b1,n1, ?_,fun K=> ?_,by omega,s4,by omega,s5.2.wide (by omega) (ae _)⟩
   ·simp_all [mQ]
   ·rw[jb a3 L u d [108] (by simp),bu,hb];simp only[cond_true];rw[bY (by omega) (by omega),show(a3:Int)+1=((a3+1:Nat):Int) by omega];exact s2 K
  |false=>
   obtain⟨x1,x2⟩:=GR (F:=F) a3 [102];have x3:=x2 g4;have x4:=sN (F:=F) a3 [102] u;refine⟨pq F a3 [102],uj F a3 [102] u, ?_,fun K=> ?_,x1,x3,by omega,xf (ae a3) x1⟩
   ·rw[xe hb];simp only[cond_false];rw[zo hF a3 L u d (by omega) (by omega) [102] rfl,bu];simp only[lS]
   ·rw[jb a3 L u d [108] (by simp),bu,hb];simp only[cond_false]
    grind [zq,bu,lS]
 obtain⟨a',m,s1,s2,s3,s4,s5⟩:=hlast;refine⟨a',m1++uj F a1 [116] u++m2++m3++m, ?_,fun K=> ?_,by omega,s4,by grind,(((e5.2.apA fun _=>xf (ae a1) (ae a1)).ap f5.2).ap g5.2).ap s5.2⟩
 ·show aob (dZ q) F (a:Int) l u d=_;rw[aob,e1,bu];simp only;rw[zo hF a1 _ u d (by omega) (by grind) [116] rfl,bu];simp_all [lS,bu,dL]
 ·rw[e2,bu];simp only;rw[zq a1 _ u d (by omega) (by grind) p3 (by omega) [116] (by simp),bu];simp_all [lS,bu,dL]
theorem asa {k:Nat} (h:All F k) (a:Nat) (l:List Nd) (u d:Int) (r q':Nat) (hm:16*(F.length-a)+13<k) (hr:k+2<=r) (hr':k+1<=q') (hp:IG F a l d 104):
  ∃(a':Nat) (m:List Nd),(dZ r).q257 F (a:Int) l u d=some (PR F a' (l++m) u d,())/\
   (∀{β:Type} (K:(List Lf×List UInt8×List Nd×Int×Int×Int×Unit)×Unit->Option β),
    (bz ((fE q').q248 F (iK F) l (a:Int) u d) fun y3=>
       bz ((fE q').q249 y3.1.1 y3.1.2.1 y3.1.2.2.1 y3.1.2.2.2.1 y3.1.2.2.2.2.1 y3.1.2.2.2.2.2.1) K)=K (RR F a' (l++m) u d,()))/\a<=a'/\a'<=F.length/\m.length<=16*(a'-a)+4/\Tr a a' u l.length m:=by
 obtain⟨p1,p2,p3,p4⟩:=hp;have hFl:=hF.len;obtain⟨q,rfl⟩: ∃q,r=q+1:=⟨r-1,by omega⟩;obtain⟨a1,m1,e1,e2,e3,e4,e5⟩:=h.body a l u d q q' (by omega) (by omega) (by omega) ⟨p1,by omega,p3,p4⟩;obtain⟨a',m,f1,f2,f3,f4,f5⟩:=EM hF h a1 (l++m1) u d q q' (by omega) (by omega) (by omega) ⟨e4,by grind,p3,p4⟩;refine⟨a',m1++m, ?_,fun K=> ?_,by omega,f4,by grind,e5.2.ap f5.2⟩
 ·simp_all [avT,dZ,bu]
 simp_all [bu]
end
section
open Bool renaming not_true → au, not_false → aA
open List renaming append_assoc → ai, getElem_mem → aU
open Nat renaming le_refl → ae
open Go.RowKit
variable {F:List Lf} (hF:Zr F)
include hF
omit hF in
theorem aze {a:Nat} (h:fG F a [110]=true):bM (((ln F a:Nat):Int)-(a:Int)) 0=false:=by
 have:a+1<=ln F a:=by
  simp_all [ln,lnF,aek]
 exact dK (by omega)
omit hF in
theorem aCx {a:Nat} (h:fG F a [110]=false):bM (((ln F a:Nat):Int)-(a:Int)) 0=true:=by
 simp_all [ln,lnF,dQ]
theorem SY {q:dY} {q':jD} (u d:Int) (hd:0<=d/\d<=200): ∀(N a:Nat) (L:List Nd),F.length-a<N->a<=F.length->L.length<=16*a+200->
  ∃(a':Nat) (m:List Nd),Ff q N F (a:Int) u d L=some (.inl ((),((),()),((F,(a':Int),u,d,()),L++m,())))/\
   JC q' N F (iK F) (a:Int) u d L=some (.inl ((),((),()),((F,iK F,(a':Int),u,d,()),L++m,())))/\a<=a'/\a'<=F.length/\m.length<=a'-a/\Tr a a' u L.length m
 |0,a,L,hN,_,_=>by omega
 |N+1,a,L,hN,ha,hL=>by
  have hFl:=hF.len;rw[Ff,OY,JC,ah0,zQ a L u d,bu];simp only;by_cases hlt:a<F.length
  ·rw[bH (b:=iw (a:Int) (bC F)) (fJ (by rw[bD];omega)),bH (b:=gI F (a:Int)) (eP (by omega) (by omega)),zT hlt];by_cases h6:F[a].1=6
   ·have hw:CP F a=true:=by simp_all [CP]
    rw[bH (b:=bM F[a].1 6) (dQ h6),hw];simp only[cond_true];rw[Hy a L u d 7 (by omega) (by omega),Nv a L u d (by omega) (by omega) rfl (by omega) (by omega) hd.1 (by omega),bu,bu];simp only;obtain⟨a',m,g1,g2,g3,g4,g5⟩:=SY u d hd N (a+1) (L++[(7,(a:Int),((a+1:Nat):Int),u,())]) (by omega) (by omega) (by grind);exact⟨a',[(7,(a:Int),((a+1:Nat):Int),u,())]++m,by rw[g1,ai],by rw[g2,ai],by omega,g4,by grind,(Tr.lf (ae a) (ae _) (by omega)).ap g5.2⟩
   ·have hw:CP F a=false:=by simp_all [CP]
    rw[cO (b:=bM F[a].1 6) (dK h6),hw];exact⟨a,[],by simp,by simp,ae _,ha,by simp,.nil (ae _)⟩
  ·have hw:CP F a=false:=by unfold CP;rw[dif_neg hlt]
   rw[cO (b:=iw (a:Int) (bC F)) (ig (by rw[bD];omega)),hw];exact⟨a,[],by simp,by simp,ae _,ha,by simp,.nil (ae _)⟩
theorem aaJ {k:Nat} (h:All F k) (a:Nat) (l:List Nd) (u d:Int) (q q':Nat) (hm:16*(F.length-a)+13<k) (hr:k+1<=q) (hr':k+1<=q') (hp:IG F a l d 102):
  ∃(a':Nat) (m:List Nd),(bz (lu F (a:Int) l u d [59]) fun y2=>
    bif y2.2.1 then
     bz (oK y2.1.1 y2.1.2.1 y2.1.2.2.1 y2.1.2.2.2.1 y2.1.2.2.2.2.1) fun y3=>
      bz ((dZ q).q268 y3.1.1 y3.1.2.1 y3.1.2.2.1 y3.1.2.2.2.1 y3.1.2.2.2.2.1) fun y4=>
       some ((y4.1.1,(y4.1.2.1,(y4.1.2.2.1,(y4.1.2.2.2.1,(y4.1.2.2.2.2.1,()))))),())
    else
    bz (oK y2.1.1 y2.1.2.1 y2.1.2.2.1 y2.1.2.2.2.1 y2.1.2.2.2.2.1) fun y3=>
     bz (lu y3.1.1 y3.1.2.1 y3.1.2.2.1 y3.1.2.2.2.1 y3.1.2.2.2.2.1 [107]) fun y4=>
      bif y4.2.1 then
       bz (Ff (dZ q) bP y4.1.1 y4.1.2.1 y4.1.2.2.2.1 y4.1.2.2.2.2.1 y4.1.2.2.1) fun y5=>
        dL y5 (fun a6=>
         bz (lu a6.2.2.1.1 a6.2.2.1.2.1 a6.2.2.2.1 a6.2.2.1.2.2.1 a6.2.2.1.2.2.2.1 [59]) fun y7=>
          bz (oK y7.1.1 y7.1.2.1 y7.1.2.2.1 y7.1.2.2.2.1 y7.1.2.2.2.2.1) fun y8=>
           bif(!y8.2.1)then
            bif(!y7.2.1)then
             bz (xE y8.1.1 y8.1.2.1 y8.1.2.2.1 y8.1.2.2.2.1 y8.1.2.2.2.2.1) fun y9=>
              bz ((dZ q).q268 y9.1.1 y9.1.2.1 y9.1.2.2.1 y9.1.2.2.2.1 y9.1.2.2.2.2.1) fun y10=>
               some ((y10.1.1,(y10.1.2.1,(y10.1.2.2.1,(y10.1.2.2.2.1,(y10.1.2.2.2.2.1,()))))),())
            else
            bz ((dZ q).q268 y8.1.1 y8.1.2.1 y8.1.2.2.1 y8.1.2.2.2.1 y8.1.2.2.2.2.1) fun y9=>
             some ((y9.1.1,(y9.1.2.1,(y9.1.2.2.1,(y9.1.2.2.2.1,(y9.1.2.2.2.2.1,()))))),())
           else
           bz ((dZ q).q268 y8.1.1 y8.1.2.1 y8.1.2.2.1 y8.1.2.2.2.1 y8.1.2.2.2.2.1) fun y9=>
            some ((y9.1.1,(y9.1.2.1,(y9.1.2.2.1,(y9.1.2.2.2.1,(y9.1.2.2.2.2.1,()))))),())) (fun b6=>
         none)
      else
      bz ((dZ q).q268 y4.1.1 y4.1.2.1 y4.1.2.2.1 y4.1.2.2.2.1 y4.1.2.2.2.2.1) fun y5=>
       some ((y5.1.1,(y5.1.2.1,(y5.1.2.2.1,(y5.1.2.2.2.1,(y5.1.2.2.2.2.1,()))))),()))=some (PR F a' (l++m) u d,())/\
   (bz (jv F (iK F) l (a:Int) u d [59]) fun y1=>
   bif y1.2.1 then
    bz (lU y1.1.1 y1.1.2.1 y1.1.2.2.1 (bU .i64 y1.1.2.2.2.1 1) y1.1.2.2.2.2.1 y1.1.2.2.2.2.2.1) fun y2=>
     bz ((fE q').q249 y2.1.1 y2.1.2.1 y2.1.2.2.1 y2.1.2.2.2.1 y2.1.2.2.2.2.1 y2.1.2.2.2.2.2.1) fun y3=>
      some ((y3.1.1,(y3.1.2.1,(y3.1.2.2.1,(y3.1.2.2.2.1,(y3.1.2.2.2.2.1,(y3.1.2.2.2.2.2.1,())))))),())
   else
   bz (lU y1.1.1 y1.1.2.1 y1.1.2.2.1 y1.1.2.2.2.1 y1.1.2.2.2.2.1 y1.1.2.2.2.2.2.1) fun y2=>
    bz (jv y2.1.1 y2.1.2.1 y2.1.2.2.1 y2.1.2.2.2.1 y2.1.2.2.2.2.1 y2.1.2.2.2.2.2.1 [107]) fun y3=>
     bif y3.2.1 then
      bz (JC (fE q') bP y3.1.1 y3.1.2.1 (bU .i64 y3.1.2.2.2.1 1) y3.1.2.2.2.2.1 y3.1.2.2.2.2.2.1 y3.1.2.2.1) fun y4=>
       dL y4 (fun a5=>
        bz (jv a5.2.2.1.1 a5.2.2.1.2.1 a5.2.2.2.1 a5.2.2.1.2.2.1 a5.2.2.1.2.2.2.1 a5.2.2.1.2.2.2.2.1 [59]) fun y6=>
         bif y6.2.1 then
          bz (lU y6.1.1 y6.1.2.1 y6.1.2.2.1 (bU .i64 y6.1.2.2.2.1 1) y6.1.2.2.2.2.1 y6.1.2.2.2.2.2.1) fun y7=>
           bz ((fE q').q249 y7.1.1 y7.1.2.1 y7.1.2.2.1 y7.1.2.2.2.1 y7.1.2.2.2.2.1 y7.1.2.2.2.2.2.1) fun y8=>
            some ((y8.1.1,(y8.1.2.1,(y8.1.2.2.1,(y8.1.2.2.2.1,(y8.1.2.2.2.2.1,(y8.1.2.2.2.2.2.1,())))))),())
         else
         bz (lU y6.1.1 y6.1.2.1 y6.1.2.2.1 y6.1.2.2.2.1 y6.1.2.2.2.2.1 y6.1.2.2.2.2.2.1) fun y7=>
          bif(bM y7.2.1 0)then
           bz (uA y7.1.1 y7.1.2.1 y7.1.2.2.1 y7.1.2.2.2.1 y7.1.2.2.2.2.1 y7.1.2.2.2.2.2.1) fun y8=>
            bz ((fE q').q249 y8.1.1 y8.1.2.1 y8.1.2.2.1 y8.1.2.2.2.1 y8.1.2.2.2.2.1 y8.1.2.2.2.2.2.1) fun y9=>
             some ((y9.1.1,(y9.1.2.1,(y9.1.2.2.1,(y9.1.2.2.2.1,(y9.1.2.2.2.2.1,(y9.1.2.2.2.2.2.1,())))))),())
          else
          bz ((fE q').q249 y7.1.1 y7.1.2.1 y7.1.2.2.1 y7.1.2.2.2.1 y7.1.2.2.2.2.1 y7.1.2.2.2.2.2.1) fun y8=>
           some ((y8.1.1,(y8.1.2.1,(y8.1.2.2.1,(y8.1.2.2.2.1,(y8.1.2.2.2.2.1,(y8.1.2.2.2.2.2.1,())))))),())) (fun b5=>
        none)
     else
     bz ((fE q').q249 y3.1.1 y3.1.2.1 y3.1.2.2.1 y3.1.2.2.2.1 y3.1.2.2.2.2.1 y3.1.2.2.2.2.2.1) fun y4=>
      some ((y4.1.1,(y4.1.2.1,(y4.1.2.2.1,(y4.1.2.2.2.1,(y4.1.2.2.2.2.1,(y4.1.2.2.2.2.2.1,())))))),()))=some (RR F a' (l++m) u d,())/\a<=a'/\a'<=F.length/\m.length<=16*(a'-a)+4/\Tr a a' u l.length m:=by
 obtain⟨p1,p2,p3,p4⟩:=hp;have hFl:=hF.len;rw[mD hF a l u d (by omega) [59] rfl,jb a l u d [59] (by simp),bu,bu];simp only;cases hb:fG F a [59]with
 |true=>
  have hlt:=gQ hb;rw[mQ hb];simp only[cond_true];have hge:=wJ (F:=F) (a+1);have hle:=xM (F:=F) (a:=a+1) (by omega);rw[bY (by omega) (by omega),show(a:Int)+1=((a+1:Nat):Int) by omega,mY hF (a+1) l u d (by omega),l9 hF (a+1) l u d (by omega),bu,bu];simp only;obtain⟨a',m,f1,f2,f3,f4,f5⟩:=EM hF h (ln F (a+1)) l u d q q' (by omega) (by omega) (by omega) ⟨hle,by omega,p3,p4⟩;rw[f1,f2,bu,bu];exact⟨a',m,rfl,rfl,by omega,f4,by omega,f5.2.wide (by omega) (ae _)⟩
 |false=>
  rw[xe hb];simp only[cond_false];have hge:=wJ (F:=F) a;have hle:=xM (F:=F) p1;rw[mY hF a l u d p1,l9 hF a l u d p1,bu,bu];simp only;rw[mD hF (ln F a) l u d (by omega) [107] rfl,jb (ln F a) l u d [107] (by simp),bu,bu];simp only;cases hb2:fG F (ln F a) [107]with
  |false=>
   rw[xe hb2];simp only[cond_false];obtain⟨a',m,f1,f2,f3,f4,f5⟩:=EM hF h (ln F a) l u d q q' (by omega) (by omega) (by omega) ⟨hle,by omega,p3,p4⟩;rw[f1,f2,bu,bu];exact⟨a',m,rfl,rfl,by omega,f4,by omega,f5.2.wide (by omega) (ae _)⟩
  |true=>
   have hlt:=gQ hb2;rw[mQ hb2];simp only[cond_true];obtain⟨a1,m1,g1,g2,g3,g4,g5⟩:=SY hF (q:=dZ q) (q':=fE q') u d ⟨p3,p4⟩ bP (ln F a+1) l (dJ (by omega)) (by omega) (by omega);rw[bY (by omega) (by omega),show((ln F a:Nat):Int)+1=((ln F a+1:Nat):Int) by omega,g1,g2,bu,bu];simp only[dL];have hL:(l++m1).length<=16*a1+90:=by grind
   rw[mD hF a1 (l++m1) u d (by omega) [59] rfl,jb a1 (l++m1) u d [59] (by simp),bu,bu];simp only;cases hb3:fG F a1 [59]with
   |true=>
    have hlt3:=gQ hb3;rw[mQ hb3];simp only[cond_true,au,cond_false];have hge3:=wJ (F:=F) (a1+1);have hle3:=xM (F:=F) (a:=a1+1) (by omega);rw[bY (by omega) (by omega),show(a1:Int)+1=((a1+1:Nat):Int) by omega,mY hF (a1+1) (l++m1) u d (by omega),l9 hF (a1+1) (l++m1) u d (by omega),bu,bu];simp only;obtain⟨a',m,f1,f2,f3,f4,f5⟩:=EM hF h (ln F (a1+1)) (l++m1) u d q q' (by omega) (by omega) (by omega) ⟨hle3,by omega,p3,p4⟩;rw[f1,f2,bu,bu];refine⟨a',m1++m, ?_,by simp,by omega,f4,by grind,(g5.2.wide (by omega) (ae _)).ap f5.2⟩;simp
   |false=>
    rw[xe hb3];simp only[aA,cond_true,cond_false];have hge3:=wJ (F:=F) a1;have hle3:=xM (F:=F) g4;rw[mY hF a1 (l++m1) u d g4,l9 hF a1 (l++m1) u d g4,bu,bu];simp only;cases hb4:fG F a1 [110]with
    |true=>
     rw[aze hb4];simp only[au,cond_false];obtain⟨a',m,f1,f2,f3,f4,f5⟩:=EM hF h (ln F a1) (l++m1) u d q q' (by omega) (by omega) (by omega) ⟨hle3,by omega,p3,p4⟩;rw[f1,f2,bu,bu];exact⟨a',m1++m,by simp,by simp,by omega,f4,by grind,(g5.2.wide (by omega) (ae _)).ap f5.2⟩
    |false=>
     rw[aCx hb4];simp only[aA,cond_true];rw[mJ (ln F a1) (l++m1) u d (by omega),wO (ln F a1) (l++m1) u d (by omega) p3 (by omega),bu,bu];simp only;obtain⟨a',m,f1,f2,f3,f4,f5⟩:=EM hF h (ln F a1) (l++m1++[(18,((ln F a1:Nat):Int),((ln F a1:Nat):Int),u,())]) u d q q' (by omega) (by omega) (by omega) ⟨hle3,by grind,p3,p4⟩;rw[f1,f2,bu,bu];exact⟨a',m1++[(18,((ln F a1:Nat):Int),((ln F a1:Nat):Int),u,())]++m,by simp,by simp,by omega,f4,by grind,((g5.2.wide (by omega) (ae _)).apA fun _=>Tr.mis (ae (ln F a1)) (ae _)).ap f5.2⟩
theorem asD {k:Nat} (h:All F k) (a:Nat) (l:List Nd) (u d:Int) (r r':Nat) (hm:16*(F.length-a)+13<k) (hr:k+2<=r) (hr':k+2<=r') (hp:IG F a l d 101):
  ∃(a':Nat) (m:List Nd),(dZ r).q258 F (a:Int) l u d=some (PR F a' (l++m) u d,())/\
   (fE r').q250 F (iK F) l (a:Int) u d=some (RR F a' (l++m) u d,())/\a<=a'/\a'<=F.length/\m.length<=16*(a'-a)+5/\Tr a a' u l.length m:=by
 obtain⟨p1,p2,p3,p4⟩:=hp;have hFl:=hF.len;obtain⟨q,rfl⟩: ∃q,r=q+1:=⟨r-1,by omega⟩;obtain⟨q',rfl⟩: ∃q',r'=q'+1:=⟨r'-1,by omega⟩;obtain⟨a1,m1,t1,t2,t3,t4,t5⟩:=aaJ hF h a (l++[(18,(a:Int),(a:Int),u,())]) u d q q' (by omega) (by omega) (by omega) ⟨p1,by simp_all,p3,p4⟩;show ∃(a':Nat) (m:List Nd),aoc (dZ q) F (a:Int) l u d=_/\an7 (fE q') F (iK F) l (a:Int) u d=_/\_
 (rewrite [aoc,an7];delta Oe Jc Jb;rw[zQ a l u d,bu])
 simp only;by_cases hlt:a<F.length
 ·rw[bH (b:=iw (a:Int) (bC F)) (fJ (by rw[bD];omega))];simp only[show gI F (a:Int)=true from eP (by omega) (by omega),cond_true];rw[zT hlt];by_cases h6:F[a].1=6
  ·have hw:CP F a=true:=by simp_all [CP]
   rw[bH (b:=bM F[a].1 6) (dQ h6),hw];simp only[cond_true];rw[Dz (by have:=hF.txt _ (aU hlt);omega),wI (by have:=hF.txt _ (aU hlt);omega),bu,bu];simp only;cases decide (nl F[a].2.1≠0/\nl F[a].2.1=F[a].2.1.length)with
   |true=>
    simp only[cond_true];rw[Hy a l u d 7 (by omega) (by omega),Nv a l u d (by omega) (by omega) rfl (by omega) (by omega) p3 (by omega),bu,bu];obtain⟨a2,m2,s1,s2,s3,s4,s5⟩:=aaJ hF h (a+1) (l++[(7,(a:Int),((a+1:Nat):Int),u,())]) u d q q' (by omega) (by omega) (by omega) ⟨by omega,by grind,p3,p4⟩;exact⟨a2,[(7,(a:Int),((a+1:Nat):Int),u,())]++m2,by simp_all,by simp_all,by omega,s4,by grind,(Tr.lf (ae a) (ae _) (by omega)).ap s5.2⟩
   |false=>
    simp only[cond_false];rw[mJ a l u d (by omega),wO a l u d (by omega) p3 (by omega),bu,bu];exact⟨a1,[(18,(a:Int),(a:Int),u,())]++m1,by simp_all,by simp_all,by omega,t4,by simp_all,(Tr.mis (ae a) (ae a)).ap t5.2⟩
  ·have hw:CP F a=false:=by simp_all [CP]
   rw[cO (b:=bM F[a].1 6) (dK h6),hw];simp only[cond_false];rw[mJ a l u d (by omega),wO a l u d (by omega) p3 (by omega),bu,bu];exact⟨a1,[(18,(a:Int),(a:Int),u,())]++m1,by simp_all,by simp_all,by omega,t4,by simp_all,(Tr.mis (ae a) (ae a)).ap t5.2⟩
 ·have hw:CP F a=false:=by unfold CP;rw[dif_neg hlt]
  rw[cO (b:=iw (a:Int) (bC F)) (ig (by rw[bD];omega)),hw];simp only[cond_false];rw[mJ a l u d (by omega),wO a l u d (by omega) p3 (by omega),bu,bu];exact⟨a1,[(18,(a:Int),(a:Int),u,())]++m1,by simp_all,by simp_all,by omega,t4,by simp_all,(Tr.mis (ae a) (ae a)).ap t5.2⟩
end
section
open Bool renaming false_eq_true → ah
open List renaming append_assoc → ai
open Nat renaming le_refl → ae
open Go.RowKit
variable {F:List Lf} (hF:Zr F)
include hF
omit hF in
theorem MI (a:Nat):a<=CV F a/\(a<=F.length->CV F a<=F.length)/\(CP F a=true->CV F a=a+1):=by
 unfold CV;cases h:CP F a with
 |true=>have:=W9 h;grind
 |false=>simp
theorem ZB {q:dY} {q':jD} (u d v:Int) (hd:0<=d/\d<=200): ∀(N a:Nat) (L:List Nd),F.length-a<N->a<=F.length->L.length<=16*a+200->
  ∃(a':Nat) (m:List Nd),JE q N F (a:Int) u d L=some (.inl ((),((),()),((F,(a':Int),u,d,()),L++m,())))/\
   wL q' N v F (iK F) (a:Int) u d L=some (.inl ((v,()),((),()),((F,iK F,(a':Int),u,d,()),L++m,())))/\a<=a'/\a'<=F.length/\m.length<=a'-a/\Tr a a' u L.length m
 |0,a,L,hN,_,_=>by omega
 |N+1,a,L,hN,ha,hL=>by
  have hFl:=hF.len;rw[JE,O0,wL,acD,mD hF a L u d (by omega) [124] rfl,jb a L u d [124] (by simp),bu,bu];simp only;cases hb:fG F a [124]with
  |false=>
   rw[xe hb];exact⟨a,[],by simp,by simp,ae _,ha,by simp,.nil (ae _)⟩
  |true=>
   have hlt:=gQ hb;rw[mQ hb];simp only[cond_true];rw[bY (by omega) (by omega),show(a:Int)+1=((a+1:Nat):Int) by omega];obtain⟨w1,w2,_⟩:=MI (F:=F) (a+1);have w3:=w2 (by omega);rw[SX (a+1) L u d (by omega) (by omega),Zq (a+1) L u d (by omega) (by omega) hd.1 (by omega),bu,bu];simp only[IA];obtain⟨a',m,g1,g2,g3,g4,g5⟩:=ZB u d v hd N (CV F (a+1)) (L++[NU F (a+1) u]) (by omega) w3 (by grind);exact⟨a',[NU F (a+1) u]++m,by rw[g1,ai],by rw[g2,ai],by omega,g4,by grind,(SV (by omega) (ae _)).ap g5.2⟩
theorem ato {k:Nat} (h:All F k) (a:Nat) (L:List Nd) (u d:Int) (q q':Nat) (hm:16*(F.length-a)+13<k) (hr:k+1<=q) (hr':k<=q') (hp:IG F a L d 104) (hgo:fG F a [40]=true\/CP F a=true):
  ∃(a':Nat) (m:List Nd),(dZ q).q269 F (a:Int) (bT L [opn 15 a u]) (bC L) d=some (PR F a' (bT L [opn 15 a u]++m) (bC L) d,())/\
   (∀{β:Type} (K:(List Lf×List UInt8×List Nd×Int×Int×Int×Unit)×Unit->Option β) (kR:Option β),
    (bz (tH F (iK F) L (a:Int) u d 15) fun y1=>
     bz (jv y1.1.1 y1.1.2.1 y1.1.2.2.1 y1.1.2.2.2.1 y1.1.2.2.2.2.1 y1.1.2.2.2.2.2.1 [40]) fun y2=>
      bif y2.2.1 then
       bz (xF y2.1.1 y2.1.2.1 y2.1.2.2.1 (bU .i64 y2.1.2.2.2.1 1) y2.1.2.2.2.2.1 y2.1.2.2.2.2.2.1) fun y3=>
        bz (wL (fE q') bP y1.2.1 y3.1.1 y3.1.2.1 y3.1.2.2.2.1 y3.1.2.2.2.2.1 y3.1.2.2.2.2.2.1 y3.1.2.2.1) fun y4=>
         dL y4 (fun a5=>
          bz (mX a5.2.2.1.1 a5.2.2.1.2.1 a5.2.2.2.1 a5.2.2.1.2.2.1 a5.2.2.1.2.2.2.1 a5.2.2.1.2.2.2.2.1 [41]) fun y6=>
           bz (lU y6.1.1 y6.1.2.1 y6.1.2.2.1 y6.1.2.2.2.1 y6.1.2.2.2.2.1 y6.1.2.2.2.2.2.1) fun y7=>
            bz (Dn y7.1.1 y7.1.2.1 y7.1.2.2.1 y7.1.2.2.2.1 y7.1.2.2.2.2.1 y7.1.2.2.2.2.2.1) fun y8=>
             bif y8.2.1 then
              bz ((fE q').q142 y8.1.1 y8.1.2.1 y8.1.2.2.1 y8.1.2.2.2.1 y8.1.2.2.2.2.1 y8.1.2.2.2.2.2.1) fun y9=>
               bz (jY y9.1.1 y9.1.2.1 y9.1.2.2.1 y9.1.2.2.2.1 y9.1.2.2.2.2.1 y9.1.2.2.2.2.2.1 a5.1.1) K
             else
             bz (jY y8.1.1 y8.1.2.1 y8.1.2.2.1 y8.1.2.2.2.1 y8.1.2.2.2.2.1 y8.1.2.2.2.2.2.1 a5.1.1) K) (fun b5=>kR)
      else
      bz (xF y2.1.1 y2.1.2.1 y2.1.2.2.1 y2.1.2.2.2.1 y2.1.2.2.2.2.1 y2.1.2.2.2.2.2.1) fun y3=>
       bz (wL (fE q') bP y1.2.1 y3.1.1 y3.1.2.1 y3.1.2.2.2.1 y3.1.2.2.2.2.1 y3.1.2.2.2.2.2.1 y3.1.2.2.1) fun y4=>
        dL y4 (fun a5=>
         bz (mX a5.2.2.1.1 a5.2.2.1.2.1 a5.2.2.2.1 a5.2.2.1.2.2.1 a5.2.2.1.2.2.2.1 a5.2.2.1.2.2.2.2.1 [41]) fun y6=>
          bz (lU y6.1.1 y6.1.2.1 y6.1.2.2.1 y6.1.2.2.2.1 y6.1.2.2.2.2.1 y6.1.2.2.2.2.2.1) fun y7=>
           bz (Dn y7.1.1 y7.1.2.1 y7.1.2.2.1 y7.1.2.2.2.1 y7.1.2.2.2.2.1 y7.1.2.2.2.2.2.1) fun y8=>
            bif y8.2.1 then
             bz ((fE q').q142 y8.1.1 y8.1.2.1 y8.1.2.2.1 y8.1.2.2.2.1 y8.1.2.2.2.2.1 y8.1.2.2.2.2.2.1) fun y9=>
              bz (jY y9.1.1 y9.1.2.1 y9.1.2.2.1 y9.1.2.2.2.1 y9.1.2.2.2.2.1 y9.1.2.2.2.2.2.1 a5.1.1) K
            else
            bz (jY y8.1.1 y8.1.2.1 y8.1.2.2.1 y8.1.2.2.2.1 y8.1.2.2.2.2.1 y8.1.2.2.2.2.2.1 a5.1.1) K) (fun b5=>kR))=K (RR F a' (L++(15,(a:Int),(a':Int),u,())::m) u d,()))/\a<a'/\a'<=F.length/\m.length+4<=16*(a'-a)/\Tr a a' (bC L) (L.length+1) m:=by
 obtain⟨p1,p2,p3,p4⟩:=hp;have hFl:=hF.len;obtain⟨q,rfl⟩: ∃q0,q=q0+1:=⟨q-1,by omega⟩;have hcl:(bT L [opn 15 a u]).length=L.length+1:=by unfold bT;simp
 have hcat:bT L [opn 15 a u]=L++[(15,(a:Int),0,u,())]:=rfl;have h0a:a<=tk F a [40]/\tk F a [40]<=F.length:=by
  unfold tk;split
  ·rename_i hx;have:=gQ hx;omega
  ·omega
 obtain⟨w1,w2,w3⟩:=MI (F:=F) (tk F a [40]);have w4:=w2 h0a.2;have hstep:a+1<=CV F (tk F a [40]):=by
  cases hx:fG F a [40]with
  |true=>simp_all [mQ]
  |false=>
   grind
 obtain⟨a2,m2,g1,g2,g3,g4,g5⟩:=ZB hF (q:=dZ q) (q':=fE q') (bC L) d u ⟨p3,p4⟩ bP (CV F (tk F a [40])) (bT L [opn 15 a u]++[NU F (tk F a [40]) (bC L)]) (dJ (by omega)) w4 (by grind);obtain⟨x1,x2⟩:=GR (F:=F) a2 [41];have x3:=x2 g4;have x4:=sN (F:=F) a2 [41] (bC L);have hge:=wJ (F:=F) (pq F a2 [41]);have hle:=xM (F:=F) x3;have hM:(bT L [opn 15 a u]++[NU F (tk F a [40]) (bC L)]++m2++uj F a2 [41] (bC L)).length<=L.length+3+(a2-CV F (tk F a [40])):=by
  grind
 have hend: ∀(a':Nat) (m:List Nd) {β:Type} (K:(List Lf×List UInt8×List Nd×Int×Int×Int×Unit)×Unit->Option β),bz (jY F (iK F) (bT L [opn 15 a u]++m) (a':Int) (bC L) d u) K=K (RR F a' (L++(15,(a:Int),(a':Int),u,())::m) u d,()):=fun a' m β K=>by
  rw[hcat,show bC L=((L.length:Nat):Int) from rfl,uz a' _ u d L.length (by simp) (nR L _ 15 _ _) (by omega) (by omega) p3 (by omega),bu];simp only[nO,show jo 15=false from rfl,ah,if_false]
 have hfin: ∃(a':Nat) (m:List Nd),∃(hp1:pM F (ln F (pq F a2 [41])) d=true->(dZ q).q159 F ((ln F (pq F a2 [41]):Nat):Int) (bT (bT L [opn 15 a u]++[NU F (tk F a [40]) (bC L)]++m2++uj F a2 [41] (bC L)) [opn 2 (ln F (pq F a2 [41])) (bC L)]) (bC (bT L [opn 15 a u]++[NU F (tk F a [40]) (bC L)]++m2++uj F a2 [41] (bC L))) d=some (PR F a' (bT (bT L [opn 15 a u]++[NU F (tk F a [40]) (bC L)]++m2++uj F a2 [41] (bC L)) [opn 2 (ln F (pq F a2 [41])) (bC L)]++m) (bC (bT L [opn 15 a u]++[NU F (tk F a [40]) (bC L)]++m2++uj F a2 [41] (bC L))) d,())/\
   (fE q').q142 F (iK F) (bT L [opn 15 a u]++[NU F (tk F a [40]) (bC L)]++m2++uj F a2 [41] (bC L)) ((ln F (pq F a2 [41]):Nat):Int) (bC L) d=some (RR F a' ((bT L [opn 15 a u]++[NU F (tk F a [40]) (bC L)]++m2++uj F a2 [41] (bC L))++(2,((ln F (pq F a2 [41]):Nat):Int),(a':Int),(bC L),())::m) (bC L) d,())),
   ln F (pq F a2 [41])<=a'/\a'<=F.length/\(pM F (ln F (pq F a2 [41])) d=true->m.length+1<=16*(a'-ln F (pq F a2 [41])))/\(pM F (ln F (pq F a2 [41])) d=false->a'=ln F (pq F a2 [41]))/\(pM F (ln F (pq F a2 [41])) d=true->Tr (ln F (pq F a2 [41])) a' (bC (bT L [opn 15 a u]++[NU F (tk F a [40]) (bC L)]++m2++uj F a2 [41] (bC L))) ((bT L [opn 15 a u]++[NU F (tk F a [40]) (bC L)]++m2++uj F a2 [41] (bC L)).length+1) m):=by
  cases hb:pM F (ln F (pq F a2 [41])) d with
  |true=>
   obtain⟨a',m,e1,e2,e3,e4,e5⟩:=h.list (ln F (pq F a2 [41])) (bT L [opn 15 a u]++[NU F (tk F a [40]) (bC L)]++m2++uj F a2 [41] (bC L)) (bC L) d q q' (by omega) (by omega) hr' ⟨hle,by omega,p3,p4⟩ hb
   grind
  |false=>simp_all
 obtain⟨a',m,f1,f2,f3,f4,f5,f6⟩:=hfin;refine⟨a',[NU F (tk F a [40]) (bC L)]++m2++uj F a2 [41] (bC L)++(if pM F (ln F (pq F a2 [41])) d=true then(2,((ln F (pq F a2 [41]):Nat):Int),(a':Int),(bC L),())::m else []), ?_,fun K kR=> ?_,by omega,f3, ?_⟩
 ·show aog (dZ q) F (a:Int) _ _ d=_;rw[aog,mD hF a _ (bC L) d (by omega) [40] rfl,bu];simp only;rw[SX (tk F a [40]) _ _ d (by omega) (by rw[hcl];omega),bu];simp only[IA];rw[g1,bu];simp only[dL];rw[zo hF a2 _ (bC L) d (by omega) (by grind) [41] rfl,bu];simp only[lS];rw[mY hF (pq F a2 [41]) _ (bC L) d x3,bu];simp only;rw[BF hF (ln F (pq F a2 [41])) _ (bC L) d (by omega),bu];simp only;cases hb:pM F (ln F (pq F a2 [41])) d with
  |true=>
   have n1:=(kS (bT L [opn 15 a u]++[NU F (tk F a [40]) (bC L)]++m2++uj F a2 [41] (bC L)) (opn 2 (ln F (pq F a2 [41])) (bC L)) (by omega)).1;obtain⟨c1,c2⟩:=pK (bT L [opn 15 a u]++[NU F (tk F a [40]) (bC L)]++m2++uj F a2 [41] (bC L)) m (opn 2 (ln F (pq F a2 [41])) (bC L));simp_all [fD,bu,lJ]
  |false=>
   simp_all
 ·rw[lI a L u d (by omega) (by omega) (by omega) p3 (by omega),bu];simp only[show jo 15=false from rfl,ah,if_false];rw[show((L.length:Nat):Int)=bC L from rfl,<-hcat,jb a _ (bC L) d [40] (by simp),bu];simp only;have hrest: ∀(b:Nat),b=tk F a [40]->(bz (xF F (iK F) (bT L [opn 15 a u]) (b:Int) (bC L) d) fun y3=>
        bz (wL (fE q') bP u y3.1.1 y3.1.2.1 y3.1.2.2.2.1 y3.1.2.2.2.2.1 y3.1.2.2.2.2.2.1 y3.1.2.2.1) fun y4=>
         dL y4 (fun a5=>
          bz (mX a5.2.2.1.1 a5.2.2.1.2.1 a5.2.2.2.1 a5.2.2.1.2.2.1 a5.2.2.1.2.2.2.1 a5.2.2.1.2.2.2.2.1 [41]) fun y6=>
           bz (lU y6.1.1 y6.1.2.1 y6.1.2.2.1 y6.1.2.2.2.1 y6.1.2.2.2.2.1 y6.1.2.2.2.2.2.1) fun y7=>
            bz (Dn y7.1.1 y7.1.2.1 y7.1.2.2.1 y7.1.2.2.2.1 y7.1.2.2.2.2.1 y7.1.2.2.2.2.2.1) fun y8=>
             bif y8.2.1 then
              bz ((fE q').q142 y8.1.1 y8.1.2.1 y8.1.2.2.1 y8.1.2.2.2.1 y8.1.2.2.2.2.1 y8.1.2.2.2.2.2.1) fun y9=>
               bz (jY y9.1.1 y9.1.2.1 y9.1.2.2.1 y9.1.2.2.2.1 y9.1.2.2.2.2.1 y9.1.2.2.2.2.2.1 a5.1.1) K
             else
             bz (jY y8.1.1 y8.1.2.1 y8.1.2.2.1 y8.1.2.2.2.1 y8.1.2.2.2.2.1 y8.1.2.2.2.2.2.1 a5.1.1) K) (fun b5=>kR))=K (RR F a' (L++(15,(a:Int),(a':Int),u,())::([NU F (tk F a [40]) (bC L)]++m2++uj F a2 [41] (bC L)++(if pM F (ln F (pq F a2 [41])) d=true then(2,((ln F (pq F a2 [41]):Nat):Int),(a':Int),(bC L),())::m else []))) u d,()):=by
   rintro b rfl;rw[Zq (tk F a [40]) _ _ d (by omega) (by rw[hcl];omega) p3 (by omega),bu];simp only[IA];rw[g2,bu];simp only[dL];rw[zq a2 _ (bC L) d (by omega) (by grind) p3 (by omega) [41] (by simp),bu];simp only[lS];rw[l9 hF (pq F a2 [41]) _ (bC L) d x3,bu];simp only;rw[GV (ln F (pq F a2 [41])) _ (bC L) d (by omega),bu];simp only;cases hb:pM F (ln F (pq F a2 [41])) d with
   |true=>
    simp_all [bu]
   |false=>
    simp_all
  cases hx:fG F a [40]with
  |true=>
   simp only[cond_true]
   grind [bY,mQ]
  |false=>
   simp_all [xe]
 ·cases hb:pM F (ln F (pq F a2 [41])) d with
  |true=>
   have:=f4 hb;rw[if_pos rfl];exact⟨by grind,(((SV (by omega) (ae _)).ap g5.2).apA fun _=>xf (ae a2) (ae _)).ap (Tr.one (f6 hb) (ae _) (ae _) (by omega) rfl)⟩
  |false=>
   have:=f5 hb;rw[if_neg (by simp),List.append_nil];exact⟨by grind,((SV (by omega) (ae _)).ap g5.2).apA fun _=>xf (ae a2) (by omega)⟩
end
section
open Bool renaming not_true → au, not_false → aA
open List renaming length_append → ag
open Nat renaming le_refl → ae
open Go.RowKit
variable {F:List Lf} (hF:Zr F)
include hF
theorem PK {k:Nat} (h:All F k) {q q':Nat} (hq:k+1<=q) (hq':k<=q') (u d:Int) (hd:0<=d/\d<=200): ∀(N N' a:Nat) (L:List Nd),F.length-a<N->F.length-a+1<N'->a<=F.length->16*(F.length-a)+13<k->L.length<=16*a+104->
  ∃(a':Nat) (m:List Nd),Fg (dZ q) N F (a:Int) u d L=some (.inl ((),((),()),((F,(a':Int),u,d,()),L++m,())))/\
   Bc (fE q') N' true F (iK F) (a:Int) u d L=some (.inl ((),((),()),((F,iK F,(a':Int),u,d,()),L++m,())))/\a<=a'/\a'<=F.length/\m.length<=16*(a'-a)/\Tr a a' u L.length m
 |0,_,a,L,hN,_,_,_,_=>by omega
 |N+1,0,a,L,_,hN,_,_,_=>by omega
 |N+1,1,a,L,_,hN,_,_,_=>by omega
 |N+1,N'+2,a,L,hN,hN',ha,hn,hL=>by
  have hFl:=hF.len
  (rewrite [Fg,OZ,Bc,Y4];delta vX;rw[Wq hF a L u d (by omega) [40] rfl,jb a L u d [40] (by simp),bu,cond_true,bu])
  simp only;have h122:bM ((CU F a).toNat:Int) 122=fG F a [122]:=Vz a 122 (by decide);by_cases hgo:fG F a [40]=true\/(CP F a=true/\fG F a [122]=false)
  ·obtain⟨a1,m1,e1,e2,e3,e4,e5⟩:=ato hF h a L u d q q' (by omega) hq hq' ⟨ha,hL,hd.1,hd.2⟩ (hgo.imp id And.left);obtain⟨n1,_,_⟩:=kS L (opn 15 a u) (by omega);obtain⟨c1,c2⟩:=pK L m1 (opn 15 a u);have hL1:(L++(15,(a:Int),(a1:Int),u,())::m1).length<=16*a1+104:=by grind
   have hend: ∃(a':Nat) (m:List Nd),(bz (lu F (a1:Int) (L++(15,(a:Int),(a1:Int),u,())::m1) u d [121]) fun y2=>
      bif(!y2.2.1)then
       some (.inl ((),((),()),((y2.1.1,y2.1.2.1,y2.1.2.2.2.1,y2.1.2.2.2.2.1,()),y2.1.2.2.1,())))
      else
      bz (oK y2.1.1 y2.1.2.1 y2.1.2.2.1 y2.1.2.2.2.1 y2.1.2.2.2.2.1) fun y3=>
       Fg (dZ q) N y3.1.1 y3.1.2.1 y3.1.2.2.2.1 y3.1.2.2.2.2.1 y3.1.2.2.1)=some (.inl ((),((),()),((F,(a':Int),u,d,()),L++m,())))/\
     (bz (jv F (iK F) (L++(15,(a:Int),(a1:Int),u,())::m1) (a1:Int) u d [121]) fun y10=>
      bif y10.2.1 then
       bz (lU y10.1.1 y10.1.2.1 y10.1.2.2.1 (bU .i64 y10.1.2.2.2.1 1) y10.1.2.2.2.2.1 y10.1.2.2.2.2.2.1) fun y11=>
        Bc (fE q') (N'+1) y10.2.1 y11.1.1 y11.1.2.1 y11.1.2.2.2.1 y11.1.2.2.2.2.1 y11.1.2.2.2.2.2.1 y11.1.2.2.1
      else
      Bc (fE q') (N'+1) y10.2.1 y10.1.1 y10.1.2.1 y10.1.2.2.2.1 y10.1.2.2.2.2.1 y10.1.2.2.2.2.2.1 y10.1.2.2.1)=some (.inl ((),((),()),((F,iK F,(a':Int),u,d,()),L++m,())))/\a<=a'/\a'<=F.length/\m.length<=16*(a'-a)/\Tr a a' u L.length m:=by
    rw[mD hF a1 _ u d (by omega) [121] rfl,jb a1 _ u d [121] (by simp),bu,bu];simp only;cases hb:fG F a1 [121]with
    |false=>
     rw[xe hb];simp only[aA,cond_true,cond_false]
     (rewrite [Bc,Y4];delta vX;rw[cond_false])
     exact⟨a1,(15,(a:Int),(a1:Int),u,())::m1,rfl,rfl,by omega,e4,by grind,e5.2.one (ae _) (ae _) (by omega) rfl⟩
    |true=>
     have hlt:=gQ hb;rw[mQ hb];simp only[au,cond_true,cond_false];have hge:=wJ (F:=F) (a1+1);have hle:=xM (F:=F) (a:=a1+1) (by omega);rw[bY (by omega) (by omega),show(a1:Int)+1=((a1+1:Nat):Int) by omega,mY hF (a1+1) _ u d (by omega),l9 hF (a1+1) _ u d (by omega),bu,bu];simp only;obtain⟨a',m,g1,g2,g3,g4,g5⟩:=PK h hq hq' u d hd N (N'+1) (ln F (a1+1)) (L++(15,(a:Int),(a1:Int),u,())::m1) (by omega) (by omega) hle (by omega) (by omega);exact⟨a',((15,(a:Int),(a1:Int),u,())::m1)++m,by simp_all,by simp_all,by omega,g4,by grind,(e5.2.one (ae _) (ae _) (by omega) rfl).app g5.2 (by omega) (ag ..)⟩
   obtain⟨a',m,s1,s2,s3,s4,s5⟩:=hend;refine⟨a',m, ?_, ?_,s3,s4,s5⟩
   ·cases hx:fG F a [40]with
    |true=>
     simp_all [fD,bu,lJ]
    |false=>
     rcases hgo with g|⟨g1,g2⟩
     ·simp_all
     ·rw[zQ a L u d,g1];simp only[cond_false,cond_true,bu];rw[nV hF a L u d (by omega),bu];simp_all [fD,bu,lJ]
   ·cases hx:fG F a [40]with
    |true=>
     simp_all
    |false=>
     rcases hgo with g|⟨g1,g2⟩
     ·simp_all
     ·have hlt:=W9 g1;have h6:F[a].1=6:=by
       simp_all [CP]
      rw[cond_false,bH (b:=iw (a:Int) (bC F)) (fJ (by rw[bD];omega)),bH (b:=gI F (a:Int)) (eP (by omega) (by omega)),zT hlt,bH (b:=bM F[a].1 6) (dQ h6),jb a L u d [122] (by simp),bu,g2];simp_all
  ·have hx:fG F a [40]=false:=by
    simp_all
   rw[hx];simp only[cond_false];refine⟨a,[], ?_, ?_,ae _,ha,by simp,.nil (ae _)⟩
   ·rw[zQ a L u d,bu];simp only;cases hw:CP F a with
    |false=>simp
    |true=>
     have h2:fG F a [122]=true:=by
      simp_all
     simp only[cond_true]
     grind [nV,bu]
   ·by_cases hlt:a<F.length
    ·rw[bH (b:=iw (a:Int) (bC F)) (fJ (by rw[bD];omega)),bH (b:=gI F (a:Int)) (eP (by omega) (by omega)),zT hlt];by_cases h6:F[a].1=6
     ·have hw:CP F a=true:=by simp_all [CP]
      simp_all [jb,bu]
     simp_all [cO,dK]
    simp_all [cO,ig,bD]
theorem ams {k:Nat} (h:All F k) (a:Nat) (l:List Nd) (u d:Int) (r r':Nat) (hm:16*(F.length-a)+13<k) (hr:k+2<=r) (hr':k+1<=r') (hp:IG F a l d 100):
  ∃(a':Nat) (m:List Nd),(dZ r).q259 F (a:Int) l u d=some (PR F a' (l++m) u d,())/\
   (fE r').q251 F (iK F) l (a:Int) u d=some (RR F a' (l++m) u d,())/\a<=a'/\a'<=F.length/\m.length<=16*(a'-a)+3/\Tr a a' u l.length m:=by
 obtain⟨p1,p2,p3,p4⟩:=hp;have hFl:=hF.len;obtain⟨q,rfl⟩: ∃q,r=q+1:=⟨r-1,by omega⟩;obtain⟨q',rfl⟩: ∃q',r'=q'+1:=⟨r'-1,by omega⟩;obtain⟨w1,w2,w3⟩:=MI (F:=F) a;have w4:=w2 p1;have hge:=wJ (F:=F) (CV F a);have hle:=xM (F:=F) w4;obtain⟨x1,x2⟩:=GR (F:=F) (ln F (CV F a)) [107];have x3:=x2 hle;have x4:=sN (F:=F) (ln F (CV F a)) [107] u;have hge2:=wJ (F:=F) (pq F (ln F (CV F a)) [107]);have hle2:=xM (F:=F) x3;obtain⟨a1,m1,g1,g2,g3,g4,g5⟩:=PK hF h (q:=q) (q':=q') (by omega) (by omega) u d ⟨p3,p4⟩ bP bP (ln F (pq F (ln F (CV F a)) [107])) (l++[NU F a u]++uj F (ln F (CV F a)) [107] u) (dJ (by omega)) (dJ (by omega)) hle2 (by omega) (by grind);obtain⟨y1,y2⟩:=GR (F:=F) a1 [122];have y3:=y2 g4;have y4:=sN (F:=F) a1 [122] u;refine⟨pq F a1 [122],[NU F a u]++uj F (ln F (CV F a)) [107] u++m1++uj F a1 [122] u, ?_, ?_,by omega,y3,by grind,(((SV (ae a) (ae _)).apA fun _=>xf (ae (ln F (CV F a))) (ae _)).ap g5.2).apA fun _=>xf (ae a1) (by omega)⟩
 ·show aod (dZ q) F (a:Int) l u d=_;rw[aod,SX a l u d (by omega) (by omega),bu];simp only[IA];rw[mY hF (CV F a) _ u d w4,bu];simp only;rw[zo hF (ln F (CV F a)) _ u d (by omega) (by grind) [107] rfl,bu];simp only[lS];rw[mY hF (pq F (ln F (CV F a)) [107]) _ u d x3,bu];simp only;rw[g1,bu];simp only[dL];rw[zo hF a1 _ u d (by omega) (by grind) [122] rfl,bu];simp_all [lS]
 ·show an8 (fE q') F (iK F) l (a:Int) u d=_;rw[an8,Zq a l u d (by omega) (by omega) p3 (by omega),bu];simp only[IA];rw[l9 hF (CV F a) _ u d w4,bu];simp only;rw[zq (ln F (CV F a)) _ u d (by omega) (by grind) p3 (by omega) [107] (by simp),bu];simp only[lS];rw[l9 hF (pq F (ln F (CV F a)) [107]) _ u d x3,bu]
  grind [bu,dL,zq,lS]
end
section
open Bool renaming and_eq_true → af, and_true → az
open List renaming append_assoc → ai
open Nat renaming le_refl → ae
open Go.RowKit
theorem ay6 (q':jD) (F:List Lf) (S:bK) (a u d:Int) (l:List Nd):xQ q' bP 123 9 0 F S a u d l=some (.inl ((9,()),((),()),((F,S,a,u,d,()),l,()))):=by kernel_rfl
theorem atU (q':jD) (F:List Lf) (S:bK) (a u d:Int) (l:List Nd):xQ q' bP 40 9 0 F S a u d l=some (.inl ((10,()),((),()),((F,S,a,u,d,()),l,()))):=by kernel_rfl
theorem atV (q':jD) (F:List Lf) (S:bK) (a u d:Int) (l:List Nd):xQ q' bP 105 9 0 F S a u d l=some (.inl ((11,()),((),()),((F,S,a,u,d,()),l,()))):=by kernel_rfl
theorem atW (q':jD) (F:List Lf) (S:bK) (a u d:Int) (l:List Nd):xQ q' bP 119 9 0 F S a u d l=some (.inl ((12,()),((),()),((F,S,a,u,d,()),l,()))):=by kernel_rfl
theorem atX (q':jD) (F:List Lf) (S:bK) (a u d:Int) (l:List Nd):xQ q' bP 114 9 0 F S a u d l=some (.inl ((13,()),((),()),((F,S,a,u,d,()),l,()))):=by kernel_rfl
theorem atY (q':jD) (F:List Lf) (S:bK) (a u d:Int) (l:List Nd):xQ q' bP 99 9 0 F S a u d l=some (.inl ((14,()),((),()),((F,S,a,u,d,()),l,()))):=by kernel_rfl
variable {F:List Lf} (hF:Zr F)
include hF
theorem aBa {n:Nat} (h2:All F (n-2)) (a:Nat) (l:List Nd) (u d:Int) (q q':Nat) (hm:16*(F.length-a)+8<n+1) (hq:n<=q) (hq':n<=q') (hp:IG F a l d 113) (hlt:a<F.length) (hd:d<200) (hs:CU F a=123):
  ∃(a':Nat) (m:List Nd),zL (dZ q) F (a:Int) l u d=some (PR F a' (l++m) u d,())/\
   zK (fE q') F (iK F) l (a:Int) u d=some (RR F a' (l++m) u d,())/\a<a'/\a'<=F.length/\m.length+3<=16*(a'-a)/\Tr a a' u l.length m:=by
 obtain⟨p1,p2,p3,p4⟩:=hp;have hFl:=hF.len;obtain⟨q0,rfl⟩: ∃q0,q=q0+1:=⟨q-1,by omega⟩;have hcl:(bT l [opn 9 a u]).length=l.length+1:=by unfold bT;simp
 have hcat:bT l [opn 9 a u]=l++[(9,(a:Int),0,u,())]:=rfl;obtain⟨n1,_,_⟩:=kS l (opn 9 a u) (by omega);obtain⟨a1,m1,e1,e2,e3,e4,e5⟩:=YY hF h2 (a+1) (bT l [opn 9 a u]) (bC l) (d+1) q0 q' [125] rfl (by simp) (by omega) (by omega) (by omega) ⟨by omega,by rw[hcl];omega,by omega,by omega⟩;obtain⟨a2,m2,f1,f2,f3,f4,f5⟩:=aAB hF (q:=dZ (q0+1)) (q':=fE q') (bC l) (d+1) u (bC l) u 9 9 9 9 ⟨by omega,by omega⟩ a1 (bT l [opn 9 a u]++m1) e4 (by grind);obtain⟨c1,c2⟩:=pK l (m1++m2) (opn 9 a u);refine⟨a2,(9,(a:Int),(a2:Int),u,())::(m1++m2), ?_, ?_,by omega,f4,by grind,Tr.one (((hcl▸e5.2).wide (by omega) (ae _)).ap f5.2) (ae _) (ae _) (by omega) rfl⟩
 ·rw[zL];simp only[fD,mF,az,cond_true,bu];rw[nV hF a l u d (by omega),bu];simp only[hs,show bM (((123:UInt8).toNat:Nat):Int) 40=false from by kernel_rfl,show bM (((123:UInt8).toNat:Nat):Int) 105=false from by kernel_rfl,show bM (((123:UInt8).toNat:Nat):Int) 119=false from by kernel_rfl,show bM (((123:UInt8).toNat:Nat):Int) 114=false from by kernel_rfl,show bM (((123:UInt8).toNat:Nat):Int) 99=false from by kernel_rfl,cond_true,cond_false,n1];rw[bY (by omega) (by omega),bY (by omega) (by omega),show(a:Int)+1=((a+1:Nat):Int) by omega];show bz (an9 (dZ q0) F ((a+1:Nat):Int) _ _ _) _=_;rw[an9,e1,bu];simp only;rw[f1,bu];simp only[dL];rw[ai,gG (by omega) (by omega)];simp only[c1,c2,cond_true,lJ,show d+1-1=d by omega]
 ·(rewrite [zK];delta mW;rw[bH (b:=gI (iK F) (a:Int)) (eP (by omega) (by simp_all)),zi hlt,hs,show(((123:UInt8).toNat:Nat):Int)=123 from by kernel_rfl,ay6,bu])
  simp only[dL];rw[lI a l u d (by omega) (by omega) (by omega) p3 (by omega),bu];simp only[show jo 9=true from by kernel_rfl,if_true,show bM (9:Int) 9=true from by kernel_rfl,cond_true,cond_false];rw[show((l.length:Nat):Int)=bC l from rfl,<-hcat,bY (by omega) (by omega),show(a:Int)+1=((a+1:Nat):Int) by omega];refine(e2 _).trans ?_;simp only;rw[f2,bu];simp only[dL];rw[ai,hcat,show bC l=((l.length:Nat):Int) from rfl,uz a2 _ u (d+1) l.length (by simp) (nR l _ 9 _ _) (by omega) (by omega) (by omega) (by omega),bu];simp only[nO,show jo 9=true from by kernel_rfl,if_true,show d+1-1=d by omega]
theorem axA {n:Nat} (h2:All F (n-2)) (a:Nat) (l:List Nd) (u d:Int) (q q':Nat) (hm:16*(F.length-a)+8<n+1) (hq:n<=q) (hq':n<=q') (hp:IG F a l d 113) (hlt:a<F.length) (hd:d<200) (hs:CU F a=40):
  ∃(a':Nat) (m:List Nd),zL (dZ q) F (a:Int) l u d=some (PR F a' (l++m) u d,())/\
   zK (fE q') F (iK F) l (a:Int) u d=some (RR F a' (l++m) u d,())/\a<a'/\a'<=F.length/\m.length+3<=16*(a'-a)/\Tr a a' u l.length m:=by
 obtain⟨p1,p2,p3,p4⟩:=hp;have hFl:=hF.len;obtain⟨q0,rfl⟩: ∃q0,q=q0+1:=⟨q-1,by omega⟩;have hcl:(bT l [opn 10 a u]).length=l.length+1:=by unfold bT;simp
 have hcat:bT l [opn 10 a u]=l++[(10,(a:Int),0,u,())]:=rfl;obtain⟨n1,_,_⟩:=kS l (opn 10 a u) (by omega);obtain⟨a1,m1,e1,e2,e3,e4,e5⟩:=YY hF h2 (a+1) (bT l [opn 10 a u]) (bC l) (d+1) q0 q' [41] rfl (by simp) (by omega) (by omega) (by omega) ⟨by omega,by rw[hcl];omega,by omega,by omega⟩;obtain⟨a2,m2,f1,f2,f3,f4,f5⟩:=aEb hF (q:=dZ (q0+1)) (q':=fE q') (bC l) (d+1) u (bC l) u 10 10 10 10 ⟨by omega,by omega⟩ a1 (bT l [opn 10 a u]++m1) e4 (by grind);obtain⟨c1,c2⟩:=pK l (m1++m2) (opn 10 a u);refine⟨a2,(10,(a:Int),(a2:Int),u,())::(m1++m2), ?_, ?_,by omega,f4,by grind,Tr.one (((hcl▸e5.2).wide (by omega) (ae _)).ap f5.2) (ae _) (ae _) (by omega) rfl⟩
 ·rw[zL];simp only[fD,mF,az,cond_true,bu];rw[nV hF a l u d (by omega),bu];simp only[hs,show bM (((40:UInt8).toNat:Nat):Int) 40=true from by kernel_rfl,cond_true,cond_false,n1];rw[bY (by omega) (by omega),bY (by omega) (by omega),show(a:Int)+1=((a+1:Nat):Int) by omega];show bz (aoa (dZ q0) F ((a+1:Nat):Int) _ _ _) _=_;rw[aoa,e1,bu];simp only;rw[f1,bu];simp only[dL];rw[ai,gG (by omega) (by omega)];simp only[c1,c2,cond_true,lJ,show d+1-1=d by omega]
 ·(rewrite [zK];delta mW;rw[bH (b:=gI (iK F) (a:Int)) (eP (by omega) (by simp_all)),zi hlt,hs,show(((40:UInt8).toNat:Nat):Int)=40 from by kernel_rfl,atU,bu])
  simp only[dL];rw[lI a l u d (by omega) (by omega) (by omega) p3 (by omega),bu];simp only[show jo 10=true from by kernel_rfl,if_true,show bM (10:Int) 9=false from by kernel_rfl,show bM (10:Int) 10=true from by kernel_rfl,cond_true,cond_false];rw[show((l.length:Nat):Int)=bC l from rfl,<-hcat,bY (by omega) (by omega),show(a:Int)+1=((a+1:Nat):Int) by omega];refine(e2 _).trans ?_;simp only;rw[f2,bu];simp only[dL];rw[ai,hcat,show bC l=((l.length:Nat):Int) from rfl,uz a2 _ u (d+1) l.length (by simp) (nR l _ 10 _ _) (by omega) (by omega) (by omega) (by omega),bu];simp only[nO,show jo 10=true from by kernel_rfl,if_true,show d+1-1=d by omega]
theorem axB {n:Nat} (h2:All F (n-2)) (a:Nat) (l:List Nd) (u d:Int) (q q':Nat) (hm:16*(F.length-a)+8<n+1) (hq:n<=q) (hq':n<=q') (hp:IG F a l d 113) (hlt:a<F.length) (hd:d<200) (hs:CU F a=105):
  ∃(a':Nat) (m:List Nd),zL (dZ q) F (a:Int) l u d=some (PR F a' (l++m) u d,())/\
   zK (fE q') F (iK F) l (a:Int) u d=some (RR F a' (l++m) u d,())/\a<a'/\a'<=F.length/\m.length+3<=16*(a'-a)/\Tr a a' u l.length m:=by
 obtain⟨p1,p2,p3,p4⟩:=hp;have hFl:=hF.len;obtain⟨q0,rfl⟩: ∃q0,q=q0+1:=⟨q-1,by omega⟩;have hcl:(bT l [opn 11 a u]).length=l.length+1:=by unfold bT;simp
 have hcat:bT l [opn 11 a u]=l++[(11,(a:Int),0,u,())]:=rfl;obtain⟨n1,_,_⟩:=kS l (opn 11 a u) (by omega);obtain⟨a1,m1,e1,e2,e3,e4,e5⟩:=aBV hF h2 (a+1) (bT l [opn 11 a u]) (bC l) (d+1) u (q0+1) q' (by omega) (by omega) (by omega) ⟨by omega,by rw[hcl];omega,by omega,by omega⟩;obtain⟨a2,m2,f1,f2,f3,f4,f5⟩:=aAx hF (q:=dZ (q0+1)) (q':=fE q') (bC l) (d+1) u (bC l) u 11 11 11 11 ⟨by omega,by omega⟩ a1 (bT l [opn 11 a u]++m1) e4 (by grind);obtain⟨c1,c2⟩:=pK l (m1++m2) (opn 11 a u);refine⟨a2,(11,(a:Int),(a2:Int),u,())::(m1++m2), ?_, ?_,by omega,f4,by grind,Tr.one (((hcl▸e5.2).wide (by omega) (ae _)).ap f5.2) (ae _) (ae _) (by omega) rfl⟩
 ·rw[zL];simp only[fD,mF,az,cond_true,bu];rw[nV hF a l u d (by omega),bu];simp only[hs,show bM (((105:UInt8).toNat:Nat):Int) 40=false from by kernel_rfl,show bM (((105:UInt8).toNat:Nat):Int) 105=true from by kernel_rfl,cond_true,cond_false,n1];rw[bY (by omega) (by omega),bY (by omega) (by omega),show(a:Int)+1=((a+1:Nat):Int) by omega];rw[e1,bu];simp only;rw[f1,bu];simp only[dL];rw[ai,gG (by omega) (by omega)];simp only[c1,c2,cond_true,lJ,show d+1-1=d by omega]
 ·(rewrite [zK];delta mW;rw[bH (b:=gI (iK F) (a:Int)) (eP (by omega) (by simp_all)),zi hlt,hs,show(((105:UInt8).toNat:Nat):Int)=105 from by kernel_rfl,atV,bu])
  simp only[dL];rw[lI a l u d (by omega) (by omega) (by omega) p3 (by omega),bu];simp only[show jo 11=true from by kernel_rfl,if_true,show bM (11:Int) 9=false from by kernel_rfl,show bM (11:Int) 10=false from by kernel_rfl,show bM (11:Int) 11=true from by kernel_rfl,cond_true,cond_false];rw[show((l.length:Nat):Int)=bC l from rfl,<-hcat,bY (by omega) (by omega),show(a:Int)+1=((a+1:Nat):Int) by omega];refine(e2 (fun w y=>bz (ji (fE q') bP w y.1.1 y.1.2.1 y.1.2.2.2.1 y.1.2.2.2.2.1 y.1.2.2.2.2.2.1 y.1.2.2.1) fun y5=>
   dL y5 (fun a6=>
    bz (jY a6.2.2.1.1 a6.2.2.1.2.1 a6.2.2.2.1 a6.2.2.1.2.2.1 a6.2.2.1.2.2.2.1 a6.2.2.1.2.2.2.2.1 a6.1.1) fun y7=>
     some ((y7.1.1,(y7.1.2.1,(y7.1.2.2.1,(y7.1.2.2.2.1,(y7.1.2.2.2.2.1,(y7.1.2.2.2.2.2.1,())))))),())) (fun b6=>none))).trans ?_
  simp only;rw[f2,bu];simp only[dL];rw[ai,hcat,show bC l=((l.length:Nat):Int) from rfl,uz a2 _ u (d+1) l.length (by simp) (nR l _ 11 _ _) (by omega) (by omega) (by omega) (by omega),bu];simp only[nO,show jo 11=true from by kernel_rfl,if_true,show d+1-1=d by omega]
theorem axC {n:Nat} (h2:All F (n-2)) (a:Nat) (l:List Nd) (u d:Int) (q q':Nat) (hm:16*(F.length-a)+8<n+1) (hq:n<=q) (hq':n<=q') (hp:IG F a l d 113) (hlt:a<F.length) (hd:d<200) (hs:CU F a=119):
  ∃(a':Nat) (m:List Nd),zL (dZ q) F (a:Int) l u d=some (PR F a' (l++m) u d,())/\
   zK (fE q') F (iK F) l (a:Int) u d=some (RR F a' (l++m) u d,())/\a<a'/\a'<=F.length/\m.length+3<=16*(a'-a)/\Tr a a' u l.length m:=by
 obtain⟨p1,p2,p3,p4⟩:=hp;have hFl:=hF.len;obtain⟨q0,rfl⟩: ∃q0,q=q0+1:=⟨q-1,by omega⟩;have hcl:(bT l [opn 12 a u]).length=l.length+1:=by unfold bT;simp
 have hcat:bT l [opn 12 a u]=l++[(12,(a:Int),0,u,())]:=rfl;obtain⟨n1,_,_⟩:=kS l (opn 12 a u) (by omega);obtain⟨a1,m1,e1,e2,e3,e4,e5⟩:=asa hF h2 (a+1) (bT l [opn 12 a u]) (bC l) (d+1) (q0+1) q' (by omega) (by omega) (by omega) ⟨by omega,by rw[hcl];omega,by omega,by omega⟩;obtain⟨a2,m2,f1,f2,f3,f4,f5⟩:=aAy hF (q:=dZ (q0+1)) (q':=fE q') (bC l) (d+1) u (bC l) u 12 12 12 12 ⟨by omega,by omega⟩ a1 (bT l [opn 12 a u]++m1) e4 (by grind);obtain⟨c1,c2⟩:=pK l (m1++m2) (opn 12 a u);refine⟨a2,(12,(a:Int),(a2:Int),u,())::(m1++m2), ?_, ?_,by omega,f4,by grind,Tr.one (((hcl▸e5.2).wide (by omega) (ae _)).ap f5.2) (ae _) (ae _) (by omega) rfl⟩
 ·rw[zL];simp only[fD,mF,az,cond_true,bu];rw[nV hF a l u d (by omega),bu];simp only[hs,show bM (((119:UInt8).toNat:Nat):Int) 40=false from by kernel_rfl,show bM (((119:UInt8).toNat:Nat):Int) 105=false from by kernel_rfl,show bM (((119:UInt8).toNat:Nat):Int) 119=true from by kernel_rfl,cond_true,cond_false,n1];rw[bY (by omega) (by omega),bY (by omega) (by omega),show(a:Int)+1=((a+1:Nat):Int) by omega];rw[e1,bu];simp only;rw[f1,bu];simp only[dL];rw[ai,gG (by omega) (by omega)];simp only[c1,c2,cond_true,lJ,show d+1-1=d by omega]
 ·(rewrite [zK];delta mW;rw[bH (b:=gI (iK F) (a:Int)) (eP (by omega) (by simp_all)),zi hlt,hs,show(((119:UInt8).toNat:Nat):Int)=119 from by kernel_rfl,atW,bu])
  simp only[dL];rw[lI a l u d (by omega) (by omega) (by omega) p3 (by omega),bu];simp only[show jo 12=true from by kernel_rfl,if_true,show bM (12:Int) 9=false from by kernel_rfl,show bM (12:Int) 10=false from by kernel_rfl,show bM (12:Int) 11=false from by kernel_rfl,show bM (12:Int) 12=true from by kernel_rfl,cond_true,cond_false];rw[show((l.length:Nat):Int)=bC l from rfl,<-hcat,bY (by omega) (by omega),show(a:Int)+1=((a+1:Nat):Int) by omega];refine(e2 _).trans ?_;simp only;rw[f2,bu];simp only[dL];rw[ai,hcat,show bC l=((l.length:Nat):Int) from rfl,uz a2 _ u (d+1) l.length (by simp) (nR l _ 12 _ _) (by omega) (by omega) (by omega) (by omega),bu];simp only[nO,show jo 12=true from by kernel_rfl,if_true,show d+1-1=d by omega]
theorem axD {n:Nat} (h2:All F (n-2)) (a:Nat) (l:List Nd) (u d:Int) (q q':Nat) (hm:16*(F.length-a)+8<n+1) (hq:n<=q) (hq':n<=q') (hp:IG F a l d 113) (hlt:a<F.length) (hd:d<200) (hs:CU F a=114):
  ∃(a':Nat) (m:List Nd),zL (dZ q) F (a:Int) l u d=some (PR F a' (l++m) u d,())/\
   zK (fE q') F (iK F) l (a:Int) u d=some (RR F a' (l++m) u d,())/\a<a'/\a'<=F.length/\m.length+3<=16*(a'-a)/\Tr a a' u l.length m:=by
 obtain⟨p1,p2,p3,p4⟩:=hp;have hFl:=hF.len;obtain⟨q0,rfl⟩: ∃q0,q=q0+1:=⟨q-1,by omega⟩;have hcl:(bT l [opn 13 a u]).length=l.length+1:=by unfold bT;simp
 have hcat:bT l [opn 13 a u]=l++[(13,(a:Int),0,u,())]:=rfl;obtain⟨n1,_,_⟩:=kS l (opn 13 a u) (by omega);obtain⟨a1,m1,e1,e2,e3,e4,e5⟩:=asD hF h2 (a+1) (bT l [opn 13 a u]) (bC l) (d+1) (q0+1) q' (by omega) (by omega) (by omega) ⟨by omega,by rw[hcl];omega,by omega,by omega⟩;obtain⟨a2,m2,f1,f2,f3,f4,f5⟩:=aAz hF (q:=dZ (q0+1)) (q':=fE q') (bC l) (d+1) u (bC l) u 13 13 13 13 ⟨by omega,by omega⟩ a1 (bT l [opn 13 a u]++m1) e4 (by grind);obtain⟨c1,c2⟩:=pK l (m1++m2) (opn 13 a u);refine⟨a2,(13,(a:Int),(a2:Int),u,())::(m1++m2), ?_, ?_,by omega,f4,by grind,Tr.one (((hcl▸e5.2).wide (by omega) (ae _)).ap f5.2) (ae _) (ae _) (by omega) rfl⟩
 ·rw[zL];simp only[fD,mF,az,cond_true,bu];rw[nV hF a l u d (by omega),bu];simp only[hs,show bM (((114:UInt8).toNat:Nat):Int) 40=false from by kernel_rfl,show bM (((114:UInt8).toNat:Nat):Int) 105=false from by kernel_rfl,show bM (((114:UInt8).toNat:Nat):Int) 119=false from by kernel_rfl,show bM (((114:UInt8).toNat:Nat):Int) 114=true from by kernel_rfl,cond_true,cond_false,n1];rw[bY (by omega) (by omega),bY (by omega) (by omega),show(a:Int)+1=((a+1:Nat):Int) by omega];rw[e1,bu];simp only;rw[f1,bu];simp only[dL];rw[ai,gG (by omega) (by omega)];simp only[c1,c2,cond_true,lJ,show d+1-1=d by omega]
 ·(rewrite [zK];delta mW;rw[bH (b:=gI (iK F) (a:Int)) (eP (by omega) (by simp_all)),zi hlt,hs,show(((114:UInt8).toNat:Nat):Int)=114 from by kernel_rfl,atX,bu])
  simp only[dL];rw[lI a l u d (by omega) (by omega) (by omega) p3 (by omega),bu];simp only[show jo 13=true from by kernel_rfl,if_true,show bM (13:Int) 9=false from by kernel_rfl,show bM (13:Int) 10=false from by kernel_rfl,show bM (13:Int) 11=false from by kernel_rfl,show bM (13:Int) 12=false from by kernel_rfl,show bM (13:Int) 13=true from by kernel_rfl,cond_true,cond_false];rw[show((l.length:Nat):Int)=bC l from rfl,<-hcat,bY (by omega) (by omega),show(a:Int)+1=((a+1:Nat):Int) by omega];rw[e2,bu];simp only;rw[f2,bu];simp only[dL];rw[ai,hcat,show bC l=((l.length:Nat):Int) from rfl,uz a2 _ u (d+1) l.length (by simp) (nR l _ 13 _ _) (by omega) (by omega) (by omega) (by omega),bu];simp only[nO,show jo 13=true from by kernel_rfl,if_true,show d+1-1=d by omega]
theorem axE {n:Nat} (h2:All F (n-2)) (a:Nat) (l:List Nd) (u d:Int) (q q':Nat) (hm:16*(F.length-a)+8<n+1) (hq:n<=q) (hq':n<=q') (hp:IG F a l d 113) (hlt:a<F.length) (hd:d<200) (hs:CU F a=99):
  ∃(a':Nat) (m:List Nd),zL (dZ q) F (a:Int) l u d=some (PR F a' (l++m) u d,())/\
   zK (fE q') F (iK F) l (a:Int) u d=some (RR F a' (l++m) u d,())/\a<a'/\a'<=F.length/\m.length+3<=16*(a'-a)/\Tr a a' u l.length m:=by
 obtain⟨p1,p2,p3,p4⟩:=hp;have hFl:=hF.len;obtain⟨q0,rfl⟩: ∃q0,q=q0+1:=⟨q-1,by omega⟩;have hcl:(bT l [opn 14 a u]).length=l.length+1:=by unfold bT;simp
 have hcat:bT l [opn 14 a u]=l++[(14,(a:Int),0,u,())]:=rfl;obtain⟨n1,_,_⟩:=kS l (opn 14 a u) (by omega);obtain⟨a1,m1,e1,e2,e3,e4,e5⟩:=ams hF h2 (a+1) (bT l [opn 14 a u]) (bC l) (d+1) (q0+1) q' (by omega) (by omega) (by omega) ⟨by omega,by rw[hcl];omega,by omega,by omega⟩;obtain⟨a2,m2,f1,f2,f3,f4,f5⟩:=aAA hF (q:=dZ (q0+1)) (q':=fE q') (bC l) (d+1) u (bC l) u 14 14 14 14 ⟨by omega,by omega⟩ a1 (bT l [opn 14 a u]++m1) e4 (by grind);obtain⟨c1,c2⟩:=pK l (m1++m2) (opn 14 a u);refine⟨a2,(14,(a:Int),(a2:Int),u,())::(m1++m2), ?_, ?_,by omega,f4,by grind,Tr.one (((hcl▸e5.2).wide (by omega) (ae _)).ap f5.2) (ae _) (ae _) (by omega) rfl⟩
 ·rw[zL];simp only[fD,mF,az,cond_true,bu];rw[nV hF a l u d (by omega),bu];simp only[hs,show bM (((99:UInt8).toNat:Nat):Int) 40=false from by kernel_rfl,show bM (((99:UInt8).toNat:Nat):Int) 105=false from by kernel_rfl,show bM (((99:UInt8).toNat:Nat):Int) 119=false from by kernel_rfl,show bM (((99:UInt8).toNat:Nat):Int) 114=false from by kernel_rfl,show bM (((99:UInt8).toNat:Nat):Int) 99=true from by kernel_rfl,cond_true,cond_false,n1];rw[bY (by omega) (by omega),bY (by omega) (by omega),show(a:Int)+1=((a+1:Nat):Int) by omega];rw[e1,bu];simp only;rw[f1,bu];simp only[dL];rw[ai,gG (by omega) (by omega)];simp only[c1,c2,cond_true,lJ,show d+1-1=d by omega]
 ·(rewrite [zK];delta mW;rw[bH (b:=gI (iK F) (a:Int)) (eP (by omega) (by simp_all)),zi hlt,hs,show(((99:UInt8).toNat:Nat):Int)=99 from by kernel_rfl,atY,bu])
  simp only[dL];rw[lI a l u d (by omega) (by omega) (by omega) p3 (by omega),bu];simp only[show jo 14=true from by kernel_rfl,if_true,show bM (14:Int) 9=false from by kernel_rfl,show bM (14:Int) 10=false from by kernel_rfl,show bM (14:Int) 11=false from by kernel_rfl,show bM (14:Int) 12=false from by kernel_rfl,show bM (14:Int) 13=false from by kernel_rfl,show bM (14:Int) 14=true from by kernel_rfl,cond_true,cond_false];rw[show((l.length:Nat):Int)=bC l from rfl,<-hcat,bY (by omega) (by omega),show(a:Int)+1=((a+1:Nat):Int) by omega];rw[e2,bu];simp only;rw[f2,bu];simp only[dL];rw[ai,hcat,show bC l=((l.length:Nat):Int) from rfl,uz a2 _ u (d+1) l.length (by simp) (nR l _ 14 _ _) (by omega) (by omega) (by omega) (by omega),bu];simp only[nO,show jo 14=true from by kernel_rfl,if_true,show d+1-1=d by omega]
theorem Ti {n:Nat} (h2:All F (n-2)) (a:Nat) (l:List Nd) (u d:Int) (r r':Nat) (hm:16*(F.length-a)+8<n+1) (hr:n+1<=r) (hr':n+1<=r') (hp:IG F a l d 113) (hc:G9 F a d=true):
  ∃(a':Nat) (m:List Nd),(dZ r).q243 F (a:Int) l u d=some (PR F a' (l++m) u d,())/\
   (fE r').q236 F (iK F) l (a:Int) u d=some (RR F a' (l++m) u d,())/\a<a'/\a'<=F.length/\m.length+3<=16*(a'-a)/\Tr a a' u l.length m:=by
 obtain⟨q,rfl⟩: ∃q,r=q+1:=⟨r-1,by omega⟩;obtain⟨q',rfl⟩: ∃q',r'=q'+1:=⟨r'-1,by omega⟩;unfold G9 at hc;simp only[af,decide_eq_true_eq]at hc;obtain⟨hd,hx⟩:=hc;have hlt:=gQ hx;unfold fG at hx;simp only[af,decide_eq_true_eq,List.contains_eq_mem,List.mem_cons,List.not_mem_nil,or_false]at hx;rcases hx.2 with e|e|e|e|e|e
 ·exact aBa hF h2 a l u d q q' hm (by omega) (by omega) hp hlt hd e
 ·exact axA hF h2 a l u d q q' hm (by omega) (by omega) hp hlt hd e
 ·exact axB hF h2 a l u d q q' hm (by omega) (by omega) hp hlt hd e
 ·exact axC hF h2 a l u d q q' hm (by omega) (by omega) hp hlt hd e
 ·exact axD hF h2 a l u d q q' hm (by omega) (by omega) hp hlt hd e
 ·exact axE hF h2 a l u d q q' hm (by omega) (by omega) hp hlt hd e
end
section
open Bool renaming false_eq_true → ah, not_true → au, and_true → az, not_false → aA
open List renaming length_append → ag, nil_append → aH, getElem_mem → aU
open Nat renaming le_refl → ae
open Go.RowKit
variable {F:List Lf} (hF:Zr F)
include hF
theorem axl (n:Nat):All F n:=by
 induction n using Nat.strongRecOn with
 |_ n ih=>
  cases n with
  |zero=>exact⟨fun a l u d r r' h=>by omega,fun a l u d r r' h=>by omega,fun a l u d r r' h=>by omega,fun a l u d r h=>by omega,fun a l u d r r' h=>by omega,fun a l u d r r' h=>by omega,fun a l u d r r' h=>by omega⟩
  |succ n=>
   have h:=ih n (by omega);have h1:=ih (n-1) (by omega);have h2:=ih (n-2) (by omega);exact⟨fun a l u d r r' hm hr hr' hp hb=>akA hF h a l u d r r' hm hr hr' hp hb,
    fun a l u d r r' hm hr hr' hp hb=>ada hF h a l u d r r' hm hr hr' hp hb,
    fun a l u d r r' hm hr hr' hp hb=>akY hF h a l u d r r' hm hr hr' hp hb,
    fun a l u d r hm hr hp hb=>abS hF a l u d r hr hp hb,
    fun a l u d r r' hm hr hr' hp=>Ws hF h h1 a l u d r r' hm hr hr' hp,
    fun a l u d r r' hm hr hr' hp hb=>Ti hF h2 a l u d r r' hm hr hr' hp hb,
    fun a l u d r r' hm hr hr' hp=>aiz hF h a l u d r r' hm hr hr' hp⟩
theorem RH: ∀(N a:Nat),F.length-a<N->a<=F.length->
  QD N F ((iK F).take a) (a:Int)=some (.inl ((F,iK F,()),()))
 |0,a,h,_=>by omega
 |N+1,a,hN,ha=>by
  have hFl:=hF.len;rw[QD,aqy];by_cases h:a<F.length
  ·rw[bH (b:=iw (a:Int) (bC F)) (fJ (by rw[bD];omega)),bH (b:=gI F (a:Int)) (eP (by omega) (by omega)),zT h];have hs:Gl F[a]=some ([sgn F[a]],()):=(aqs (hF.txt _ (aU h))).2;rw[hs,bu];have hroom:kC ((iK F).take a) [sgn F[a]]=true:=by
    unfold kC ni
    grind
   simp only[hroom,cond_true];rw[bY (by omega) (by omega),show(a:Int)+1=((a+1:Nat):Int) by omega];have ht:bT ((iK F).take a) [sgn F[a]]=(iK F).take (a+1):=by
    simp_all [bT,List.take_add_one]
   rw[ht];exact RH N (a+1) (by omega) (by omega)
  simp_all [cO,ig,bD,List.take_of_length_le]
theorem Kt (w:Int): ∀(N a:Nat) (L:List Nd) (b:Bool) (v:Int),F.length-a<N->a<=F.length->L.length<=16*a+1->bM v 2=b->
  ∃m,E9 N b F (a:Int) 0 0 L=some (.inl ((),((),()),((F,((F.length:Nat):Int),0,0,()),L++m,())))/\
   Lc N F w v L F (iK F) (a:Int) 0 0=some (.inl ((w,()),(L++m,(F,iK F,((F.length:Nat):Int),0,0,()),())))/\m.length<=16*(F.length-a)/\Tr a F.length 0 L.length m
 |0,a,L,b,v,hN,_,_,_=>by omega
 |N+1,a,L,b,v,hN,ha,hL,hv=>by
  have hFl:=hF.len;rw[E9,OG,Lc,aqz];by_cases h:a<F.length
  ·rw[bH (b:=iw (a:Int) (bC F)) (fJ (by rw[bD];omega)),bH (b:=iw (a:Int) (bC F)) (fJ (by rw[bD];omega)),mD hF a L 0 0 (by omega) [110] rfl,jb a L 0 0 [110] (by simp),bu,bu];simp only;have hone: ∃m,E9 N false F ((a+1:Nat):Int) 0 0 (L++[(17,(a:Int),((a+1:Nat):Int),0,())])=some (.inl ((),((),()),((F,((F.length:Nat):Int),0,0,()),L++m,())))/\
     Lc N F w 17 (L++[(17,(a:Int),((a+1:Nat):Int),0,())]) F (iK F) ((a+1:Nat):Int) 0 0=some (.inl ((w,()),(L++m,(F,iK F,((F.length:Nat):Int),0,0,()),())))/\m.length<=16*(F.length-a)/\Tr a F.length 0 L.length m:=by
    obtain⟨m,g1,g2,g3⟩:=Kt w N (a+1) (L++[(17,(a:Int),((a+1:Nat):Int),0,())]) false 17 (by omega) (by omega) (by grind) rfl;exact⟨[(17,(a:Int),((a+1:Nat):Int),0,())]++m,by simp_all,by simp_all,by grind,(Tr.lf (ae a) (ae _) (by omega)).ap g3.2⟩
   cases hb:fG F a [110]with
   |true=>
    rw[mQ hb,bY (by omega) (by omega),show(a:Int)+1=((a+1:Nat):Int) by omega];simp only[cond_true];obtain⟨m,g1,g2,g3⟩:=Kt w N (a+1) L b v (by omega) (by omega) (by omega) hv;exact⟨m,g1,g2,by omega,g3.2.wide (by omega) (ae _)⟩
   |false=>
    rw[xe hb,hv];simp only[cond_false];cases b with
    |true=>
     simp only[au,cond_false];rw[Hy a L 0 0 17 (by omega) (by omega),Nv a L 0 0 (by omega) (by omega) rfl (by omega) (by omega) (by omega) (by omega),bu,bu];exact hone
    |false=>
     simp only[aA,cond_true];rw[BF hF a L 0 0 (by omega),GV a L 0 0 (by omega),bu,bu];simp only;cases hp:pM F a 0 with
     |true=>
      obtain⟨n1,_,_⟩:=kS L (opn 2 a 0) (by omega);obtain⟨a1,m1,e1,e2,e3,e4,e5⟩:=(axl hF (16*F.length+13)).list a L 0 0 bP bP (by omega) (Nat.le_of_lt (dJ (by omega))) (Nat.le_of_lt (dJ (by omega))) ⟨ha,by omega,by omega,by omega⟩ hp;obtain⟨c1,c2⟩:=pK L m1 (opn 2 a 0);have e1':aok F (a:Int) (bT L [opn 2 a 0]) (bC L) 0=some (PR F a1 (bT L [opn 2 a 0]++m1) (bC L) 0,()):=e1;have e2':avW F (iK F) L (a:Int) 0 0=some (RR F a1 (L++(2,(a:Int),(a1:Int),0,())::m1) 0 0,()):=e2;obtain⟨m,g1,g2,g3⟩:=Kt w N a1 (L++(2,(a:Int),(a1:Int),0,())::m1) true 2 (by omega) e4 (by grind) rfl;refine⟨((2,(a:Int),(a1:Int),0,())::m1)++m, ?_, ?_,by grind,(e5.2.one (ae _) (ae _) (by omega) rfl).app g3.2 (ae _) (ag ..)⟩
      ·simp_all [fD,bu,lJ]
      simp_all [bu]
     |false=>
      simp only[cond_false];rw[Hy a L 0 0 17 (by omega) (by omega),Nv a L 0 0 (by omega) (by omega) rfl (by omega) (by omega) (by omega) (by omega),bu,bu];exact hone
  ·have hal:a=F.length:=by omega
   rw[cO (b:=iw (a:Int) (bC F)) (ig (by rw[bD];omega)),cO (b:=iw (a:Int) (bC F)) (ig (by rw[bD];omega)),hal];exact⟨[],by simp,by simp,by simp,.nil (ae _)⟩
theorem apK: ∃l,aaF F=some (l,())/\aBP F=some (l,())/\l.length<=16*F.length+1/\ ∃m,l=(1,0,(F.length:Int),-1,())::m/\Tr 0 F.length 0 1 m:=by
 have hFl:=hF.len;obtain⟨m,g1,g2,g3⟩:=Kt hF (-1) bP 0 [(1,0,0,-1,())] false 0 (dJ (by omega)) (by omega) (by simp) rfl;refine⟨aad ([(1,0,0,-1,())]++m) 0 ((F.length:Nat):Int), ?_, ?_,by simp_all [amE],m,rfl,g3.2⟩
 ·rw[aaF];have hfit:eH [((1:Int),((0:Int),((0:Int),((-1:Int),()))))] 32=true:=by kernel_rfl
  simp only[fD,az,cond_true,hfit];rw[aoi,show((0:Int))=((0:Nat):Int) from rfl];simp only[Int.ofNat_zero]at g1 ⊢;rw[g1,bu];simp only[dL,bu];rw[bH (eP (by omega) (by simp)),bH (wM (by simp[dA]))];rfl
 ·rw[aBP,show QD bP F [] 0=some (.inl ((F,iK F,()),())) from RH hF bP 0 (dJ (by omega)) (by omega),bu];simp only[dL];rw[show tH F (iK F) [] 0 (-1) 0 1=_ from lI 0 [] (-1) 0 (by omega) (by omega) (by simp) (by omega) (by omega),bu];simp only[show jo 1=false from by kernel_rfl,ah,if_false,aH,List.length_nil];rw[show Lc bP F (-1) 0 [(1,((0:Nat):Int),0,-1,())] F (iK F) ((0:Nat):Int) ((0:Nat):Int) 0=_ from g2,bu];simp only[dL];rw[show jY F (iK F) _ ((F.length:Nat):Int) 0 0 (-1)=_ from uz F.length ([(1,0,0,-1,())]++m) (-1) 0 0 (by simp) (k:=1) rfl (by omega) (by omega) (by omega) (by omega),bu]
end
section
open Go.RowKit
end
section
open Bool renaming not_true → au
open List renaming length_append → ag, mem_cons_of_mem → aj, length_singleton → ay, length_cons → aB, drop_eq_getElem_cons → aF, mem_cons_self → aG, nil_append → aH, drop_of_length_le → aJ, drop_zero → aS, getElem_mem → aU
open Go.RowKit
def um (l:List Nd) (leaf:Int):Nat->Int
 |0=> -1
 |k+1=>if(dN l Aq (k:Int)).2.1<=leaf/\leaf<(dN l Aq (k:Int)).2.2.1 then(k:Int)else um l leaf k
theorem afL (l:List Nd) (leaf:Int): ∀k,um l leaf k= -1\/(0<=um l leaf k/\um l leaf k<k/\(dN l Aq (um l leaf k)).2.1<=leaf/\leaf<(dN l Aq (um l leaf k)).2.2.1)
 |0=>.inl rfl
 |k+1=>by
  rw[um];split
  ·rename_i h
   exact .inr ⟨by omega,by omega,h⟩
  ·rcases afL l leaf k with h|h
   ·exact .inl h
   ·exact .inr ⟨h.1,by omega,h.2.2⟩
theorem ZZ (l:List Nd) (leaf:Int) (hl:l.length<1000000): ∀(k N:Nat),k<=l.length->k<N->
  KY N l leaf ((k:Int)-1)=some (if um l leaf k= -1 then .inl ((),())else .inr ((um l leaf k,()),()))
 |0,0,_,h=>by omega
 |0,N+1,_,_=>by
  rw[KY,RP,cO (Jm (by omega)),um];rfl
 |k+1,0,_,h=>by omega
 |k+1,N+1,hk,hN=>by
  have ih:=ZZ l leaf hl k N (by omega) (by omega);have e:((k+1:Nat):Int)-1=(k:Int):=by omega
  have hi:gI l (k:Int)=true:=eP (by omega) (by omega);have hs:ed .i64 (k:Int) 1=(k:Int)-1:=gG (by omega) (by omega);rw[KY,RP,e,bH (ou (by omega))];simp only[hi,hs,ih,cond_true];show(bif leI (dN l Aq (k:Int)).2.1 leaf then bif iw leaf (dN l Aq (k:Int)).2.2.1 then _ else _ else _)=_;by_cases h1:(dN l Aq (k:Int)).2.1<=leaf
  ·rw[bH (ou h1)];by_cases h2:leaf<(dN l Aq (k:Int)).2.2.1
   ·have hc:um l leaf (k+1)=(k:Int):=by rw[um,if_pos ⟨h1,h2⟩]
    rw[bH (fJ h2),hc,if_neg (by omega)]
   ·have hc:um l leaf (k+1)=um l leaf k:=by rw[um,if_neg (fun h=>h2 h.2)]
    rw[cO (ig h2),hc]
  ·have hc:um l leaf (k+1)=um l leaf k:=by rw[um,if_neg (fun h=>h1 h.1)]
   rw[cO (CB h1),hc]
theorem asi {l:List Nd} (hl:l.length<1000000) (leaf:Int):ata l leaf=some (um l leaf l.length,()):=by
 have h:=ZZ l leaf hl l.length bP (by omega) (dJ (by omega));have hs:ed .i64 (bC l) 1=(l.length:Int)-1:=gG (by rw[bD];omega) (by rw[bD];omega);rw[ata,hs,h,bu];split
 ·rename_i e;rw[e];rfl
 ·rfl
def AZ (up:Int):List Nd->Nat->List Int
 |[],_=>[]
 |n::m,k=>if n.2.2.2.1=up then(k:Int)::AZ up m (k+1)else AZ up m (k+1)
theorem Xm (up:Int) (l:List Nd): ∀(m:List Nd) (k:Nat),l.drop k=m->k<=l.length-> ∀x∈AZ up m k,∃j:Nat,x=(j:Int)/\j<l.length
 |[],_,_,_,x,hx=>by cases hx
 |n::m,k,h,hk,x,hx=>by
  have hlt:k<l.length:=by
   have:=congrArg List.length h;simp at this;omega
  have ih:=Xm up l m (k+1) (by rw[<-List.drop_drop,h];rfl) (by omega);rw[AZ]at hx;split at hx
  ·rcases List.mem_cons.1 hx with e|e
   ·exact⟨k,e,hlt⟩
   ·exact ih x e
  ·exact ih x hx
theorem abw (up:Int): ∀(m:List Nd) (k:Nat),(AZ up m k).length<=m.length
 |[],_=>by simp[AZ]
 |n::m,k=>by
  have ih:=abw up m (k+1);rw[AZ];split
  ·simp;omega
  ·simp;omega
theorem KQ (l:List Nd) (up:Int) (hl:l.length<1000000): ∀(N k:Nat) (o:List Int),l.length-k<N->k<=l.length->o.length<=k->
  Fa N up l (bC l) (k:Int) o=some (.inl ((),(o++AZ up (l.drop k) k,())))
 |0,k,o,h,_,_=>by omega
 |N+1,k,o,h,hk,ho=>by
  rw[Fa,OH];by_cases e:k<l.length
  ·have ha:bU .i64 (k:Int) 1=((k+1:Nat):Int):=by rw[bY (by omega) (by omega)];omega
   rw[bH (fJ (by rw[bD];omega)),bH (eP (by omega) (by omega)),wF e,ha,aF e,AZ];by_cases h1:l[k].2.2.2.1=up
   ·rw[bH (dQ h1),if_pos h1,bH (Jd (by simp only[bT,ag,ay];omega)),KQ l up hl N (k+1) _ (by omega) (by omega) (by simp only[bT,ag,ay];omega)];simp[bT]
   ·rw[cO (dK h1),if_neg h1,KQ l up hl N (k+1) _ (by omega) (by omega) (by omega)]
  ·rw[cO (ig (by rw[bD];omega)),aJ (by omega)];simp[AZ]
theorem axd {l:List Nd} (hl:l.length<1000000) {i:Int} (h0:0<=i) (h1:i<l.length):afT l i=some (AZ i l 0,()):=by
 have h:=KQ l i hl bP 0 [] (dJ (by omega)) (by omega) (by simp);have hi:af6 l i=some (true,()):=by
  rw[af6,ou h0,fJ (by rw[bD];exact h1)];rfl
 rw[afT,hi,bu];simp only[au,cond_false];rw[show Fa bP i l (bC l) 0 []=_ from h,bu];simp only[dL,aS,aH]
def CX (l:List Nd) (i:Int):List Int->Int->Int->Int×Int
 |[],n,f=>(n,f)
 |k::K,n,f=>if k<i/\(dN l Aq k).1=7 then CX l i K (n+1) (if n=0 then k else f)else CX l i K n f
theorem VX (l:List Nd) (i:Int): ∀(K:List Int) (n f:Int),0<=n->(∀x∈K,∃j:Nat,x=(j:Int)/\j<l.length)->(0<n-> ∃j:Nat,f=(j:Int)/\j<l.length/\(dN l Aq f).1=7)->
  n<=(CX l i K n f).1/\(CX l i K n f).1<=n+K.length/\(0<(CX l i K n f).1-> ∃j:Nat,(CX l i K n f).2=(j:Int)/\j<l.length/\(dN l Aq (CX l i K n f).2).1=7)
 |[],n,f,h0,_,hf=>⟨by simp[CX],by simp[CX],hf⟩
 |k::K,n,f,h0,hK,hf=>by
  rw[CX];have hK': ∀x∈K,∃j:Nat,x=(j:Int)/\j<l.length:=fun x hx=>hK x (aj _ hx);split
  ·rename_i h
   have ih:=VX l i K (n+1) (if n=0 then k else f) (by omega) hK' (fun _=>by
    split
    ·obtain⟨j,e,hj⟩:=hK k (aG ..);exact⟨j,e,hj,h.2⟩
    ·exact hf (by omega))
   rw[aB];exact⟨by omega,by omega,ih.2.2⟩
  ·have ih:=VX l i K n f h0 hK' hf;rw[aB];exact⟨by omega,by omega,ih.2.2⟩
theorem wo (l:List Nd) (i:Int) (K:List Int) (hK:K.length<1000000) (hin: ∀x∈K,∃j:Nat,x=(j:Int)/\j<l.length): ∀(N j:Nat) (n f:Int),K.length-j<N->j<=K.length->0<=n->n<=j->
  KZ N l i n f K (bC K) (j:Int)=some (.inl (((CX l i (K.drop j) n f).1,(CX l i (K.drop j) n f).2,()),()))
 |0,j,n,f,h,_,_,_=>by omega
 |N+1,j,n,f,h,hj,h0,h1=>by
  rw[KZ,Za];by_cases e:j<K.length
  ·have ha:bU .i64 (j:Int) 1=((j+1:Nat):Int):=by rw[bY (by omega) (by omega)];omega
   have hb:bU .i64 n 1=n+1:=bY (by omega) (by omega);obtain⟨q,hq,hql⟩:=hin K[j] (aU e);rw[bH (fJ (by rw[bD];omega)),bH (eP (by omega) (by omega)),wF e,aF e,CX,ha,hb];by_cases h2:K[j]<i
   ·rw[bH (fJ h2),bH (eP (by omega) (by omega))];show(bif bM (dN l Aq K[j]).1 7 then _ else _)=_;by_cases h3:(dN l Aq K[j]).1=7
    ·rw[bH (dQ h3),if_pos ⟨h2,h3⟩];by_cases h4:n=0
     ·rw[bH (dQ h4),if_pos h4,wo l i K hK hin N (j+1) _ _ (by omega) (by omega) (by omega) (by omega)]
     ·rw[cO (dK h4),if_neg h4,wo l i K hK hin N (j+1) _ _ (by omega) (by omega) (by omega) (by omega)]
    ·rw[cO (dK h3),if_neg (fun h=>h3 h.2),wo l i K hK hin N (j+1) _ _ (by omega) (by omega) (by omega) (by omega)]
   ·rw[cO (ig h2),if_neg (fun h=>h2 h.1),wo l i K hK hin N (j+1) _ _ (by omega) (by omega) (by omega) (by omega)]
  ·rw[cO (ig (by rw[bD];omega)),aJ (by omega)];rfl
theorem ash {l:List Nd} (hl:l.length<1000000) {up:Int} (h0:0<=up) (h1:up<l.length) (i:Int):
  aor l up i=some ((CX l i (AZ up l 0) 0 i).1,((CX l i (AZ up l 0) 0 i).2,())):=by
 have hk:=abw up l 0;have h:=wo l i (AZ up l 0) (by omega) (Xm up l l 0 rfl (by omega)) bP 0 0 i (dJ (by omega)) (by omega) (by omega) (by omega);rw[aor,axd hl h0 h1,bu];simp only;rw[show KZ bP l i 0 i (AZ up l 0) (bC (AZ up l 0)) 0=_ from h,bu];simp only[dL,aS]
def aeK:List Lf->Int
 |[]=>0
 |x::l=>if x.1=4 then((ofF x.2.1:Nat):Int)else aeK l
theorem ab6 (v:List Lf) (hv:v.length<1000000): ∀(N k:Nat),v.length-k<N->k<=v.length->
  ∃r,La N v (bC v) (k:Int)=some r/\dL r (fun _=>some ((0:Int),())) (fun b=>some (b.1.1,()))=some (aeK (v.drop k),())
 |0,k,h,_=>by omega
 |N+1,k,h,hk=>by
  rw[La,Zb];by_cases e:k<v.length
  ·have ha:bU .i64 (k:Int) 1=((k+1:Nat):Int):=by rw[bY (by omega) (by omega)];omega
   rw[bH (fJ (by rw[bD];omega)),bH (eP (by omega) (by omega)),wF e,aF e,aeK,ha];by_cases h1:v[k].1=4
   ·rw[bH (dQ h1),if_pos h1,aeE,bu];exact⟨_,rfl,rfl⟩
   ·rw[cO (dK h1),if_neg h1];exact ab6 v hv N (k+1) (by omega) (by omega)
  ·rw[cO (ig (by rw[bD];omega)),aJ (by omega)];exact⟨_,rfl,rfl⟩
theorem aAW {f:List Lf} (hf:f.length<1000000) {n:Nd} (h0:0<=n.2.1) (h1:n.2.1<=n.2.2.1) (h2:n.2.2.1<=f.length):atb f n=some (aeK (sub f n.2.1 n.2.2.1),()):=by
 have hsl:(sub f n.2.1 n.2.2.1).length<1000000:=by
  have:=nZ h0 h1 h2;omega
 obtain⟨r,e1,e2⟩:=ab6 (sub f n.2.1 n.2.2.1) hsl bP 0 (dJ (by omega)) (by omega);rw[atb,bH (fK h0 h1 (by rw[bD];omega)),show La bP (sub f n.2.1 n.2.2.1) (bC (sub f n.2.1 n.2.2.1)) 0=_ from e1,bu];exact e2
structure NOk (a b k:Nat) (n:Nd):Prop where
 f0:(a:Int)<=n.2.1
 ft:n.2.1<=n.2.2.1
 t1:n.2.2.1<=b
 wd:n.1=7->n.2.2.1=n.2.1+1
 u0:0<=n.2.2.2.1
 u1:n.2.2.2.1<k
theorem NOk.mono {a b k a' b' k':Nat} {n:Nd} (h:NOk a b k n) (ha:a'<=a) (hb:b<=b') (hk:k<=k'):NOk a' b' k' n:=
 ⟨by have:=h.f0;omega,h.ft,by have:=h.t1;omega,h.wd,h.u0,by have:=h.u1;omega⟩
theorem Tr.all {a b:Nat} {u:Int} {k:Nat} {m:List Nd} (h:Tr a b u k m):0<=u->u<k-> ∀n∈m,NOk a b (k+m.length) n:=by
 induction h with
 |nil h=>intro _ _ n hn;cases hn
 | @leaf a b f t u k kd m h1 hk h2 ih=>
  intro h0 hu n hn;have hle:=h2.le;rcases List.mem_cons.1 hn with e|e
  ·subst e;exact⟨by simp only;omega,by simp only;omega,by simp only;omega,by simp only;omega,h0,by simp only[aB];omega⟩
  ·exact(ih h0 (by omega) n e).mono (by omega) (by omega) (by simp only[aB];omega)
 | @node a b f t u k kd m n' h1 hk h h2 ih1 ih2=>
  intro h0 hu n hn;have hle:=h.le;have hle2:=h2.le;rcases List.mem_cons.1 hn with e|e
  ·subst e;exact⟨by simp only;omega,by simp only;omega,by simp only;omega,by simp only;omega,h0,by simp only[aB];omega⟩
  ·rcases List.mem_append.1 e with e|e
   ·exact(ih1 (by omega) (by omega) n e).mono (by omega) (by omega) (by simp only[aB,ag];omega)
   ·exact(ih2 h0 (by omega) n e).mono (by omega) (by omega) (by simp only[aB,ag];omega)
def DC (s:bK):Nat->Nat->List Tok->List Tok
 |0,_,l=>l
 |n+1,a,l=>if a<s.length then DC s n (kV s a (0,[],false,())).1.2.2.1.toNat (l++[(kV s a (0,[],false,())).1])else l
def abD (s:bK):List Tok:=DC s (s.length+1) 0 []
theorem UZ {s:List UInt8} (hs:s.length<=10000): ∀(n m a:Nat) (l:List Tok),s.length<n+a->s.length<m+a->DC s n a l=DC s m a l
 |0,0,a,l,_,_=>rfl
 |0,m+1,a,l,h,_=>by rw[DC,DC,if_neg (by omega)]
 |n+1,0,a,l,_,h=>by rw[DC,DC,if_neg (by omega)]
 |n+1,m+1,a,l,h1,h2=>by
  rw[DC,DC];split
  ·rename_i ha
   have:=wV hs ha (0,[],false,());exact UZ hs n m _ _ (by omega) (by omega)
  ·rfl
theorem agC {s:List UInt8} (hs:s.length<=10000): ∀(n a:Nat) (l:List Tok),l.length<=a->a<=s.length->(∀t∈l,OkT s t/\t.1≠7)->(∀t∈DC s n a l,OkT s t/\t.1≠7)/\(DC s n a l).length<=s.length
 |0,a,l,hl,ha,h=>⟨h,by grind [DC]⟩
 |n+1,a,l,hl,ha,h=>by
  rw[DC];split
  ·rename_i e
   have hto:=wV hs e (0,[],false,());exact agC hs n _ _ (by grind) (by omega) (fun t ht=>by
    rcases List.mem_append.1 ht with h1|h1
    ·exact h t h1
    ·rw[List.mem_singleton.1 h1];refine⟨⟨by omega,by omega,by omega⟩, ?_⟩;unfold kV oH
     grind)
  ·exact⟨h,by omega⟩
theorem Xo {s:List UInt8} (hs:s.length<=10000):(∀t∈abD s,OkT s t/\t.1≠7)/\(abD s).length<=s.length:=
 agC hs _ _ _ (by simp) (by omega) (fun t ht=>by cases ht)
end
section
open Tryz
open Go.RowKit
noncomputable def b40:Code:=(f40.body).getD .skip
noncomputable def adi:Code:=(f69.body).getD .skip
noncomputable def V7:Code:=(f104.body).getD .skip
noncomputable def V8:Code:=(f109.body).getD .skip
noncomputable def ZO:Code:=cA (cA (cB (cA (cB (cB (adi))))))
noncomputable def Uo:Code:=cA (cA (cB (cA (cB (cB (cB (cA (cB (V7)))))))))
noncomputable def Ur:Code:=cA (cA (cB (cA (cB (cB (cB (cB (V8))))))))
def aaY:dM:=⟨[3,15,16,17,70000003],[],[3],[],[2],[]⟩
def UU:dM:=⟨[1,2,3,4,5,105000004],[(300000300,.pair (.list .unit) (.int .u8))],[4],[],[],[]⟩
def UV:dM:=⟨[0,2,8,9,10,11,110000005],[(9,(.int .u8))],[2,9,10],[],[6],[]⟩
def ay8:dM:=⟨[2,3,4],[],[],[],[],[]⟩
def ayV:dM:=⟨[0,2,3,4],[],[],[],[],[]⟩
def ayW:dM:=⟨[4,5],[],[],[],[],[]⟩
def ayX:dM:=⟨[2,3,4],[],[],[],[],[]⟩
def aea:dM:=⟨[1,2,3,4,5],[],[],[],[],[]⟩
def abp:dM:=⟨[1,2,3,4,5,6],[],[],[],[],[]⟩
def abq:dM:=⟨[1,2,3,4,5,8,9],[],[],[],[],[]⟩
def abr:dM:=⟨[1,2,3,4,5,6],[],[],[],[],[]⟩
def abo:dM:=⟨[1,2,3,4,5,6],[],[],[],[],[]⟩
def abt:dM:=⟨[4],[],[],[],[],[]⟩
def aeb:dM:=⟨[1,3],[],[],[],[],[]⟩
def aec:dM:=⟨[0,2,8,9,10,11],[],[],[],[],[]⟩
def abu:dM:=⟨[0,2,8,9,10,12],[],[],[],[],[]⟩
def aed:dM:=⟨[0,2,8,9,12],[],[],[],[],[]⟩
def aee:dM:=⟨[0,2,8,12],[],[],[],[],[]⟩
def abv:dM:=⟨[2,9],[],[],[],[],[]⟩
def aks:dM:=⟨[0,1],[],[],[],[],[]⟩
def JR:SQ:=⟨us [.u,.u,.u,.ptr 2000011 0,.u,.u,.u,.u,.u,.u,.u,.u,.u,.u,.u,.v Uc,.v cu,.v cu] 14,[us [.v .str,.u,.ptr 1000002 0,.ptr 1000003 0,.ptr 1000004 0,.u,.v .str] 9,[]],[.box 2000011 163 [.v .str,.v Uc,.mpv 2000009],.mp 2000009 .i64 .i64,.box 1000004 108 [.slf 1000004,.slc 1500004],.arr 1500004 (.int .u8),.box 1000003 4 [.v .bool],.box 1000002 9 [.v .str]]⟩
def LD:SQ:=⟨us [.u,.u,.u,.ptr 2000011 0] 28,[us [.v .str,.u,.ptr 1000002 0,.ptr 1000003 0,.ptr 1000004 0,.u,.v .str] 9,[]],[.box 2000011 163 [.v .str,.v Uc,.mpv 2000009],.mp 2000009 .i64 .i64,.box 1000004 108 [.slf 1000004,.slc 1500004],.arr 1500004 (.int .u8),.box 1000003 4 [.v .bool],.box 1000002 9 [.v .str]]⟩
def LJ:SQ:=⟨us [] 32,[us [.v .str,.u,.ptr 1000002 0,.ptr 1000003 0,.ptr 1000004 0,.u,.v .str] 9,[]],[]⟩
def FO {γ:Type} (rec:(List iQ)->Int->Int->bK->bK->bK->(List iQ)->(List lH)->gW->Bool->bK->Option γ) (kE:bK->bK->bK->(List iQ)->(List lH)->gW->Bool->bK->Option γ) (kR:bK->bK->Option γ) (v0:List iQ) (v1 v2:Int) (v3 v4 v5:bK) (v6:List iQ) (v7:List lH) (v8:gW) (v9:Bool) (v10:bK):Option γ:=bif(iw v2 v1)then bif(gI v0 v2)then rec v0 v1 (bU .i64 v2 1) v3 v4 v5 v6 (tN v7 (dN v0 (0,(0,(0,(0,(false,()))))) v2).2.1 (bU .i64 v2 1)) v8 v9 v10 else none else kE v3 v4 v5 v6 v7 v8 v9 v10
def vP:Nat->(List iQ)->Int->Int->bK->bK->bK->(List iQ)->(List lH)->gW->Bool->bK->Option (LD.den⊕LJ.den)
 |0,_,_,_,_,_,_,_,_,_,_,_=>none
 |n+1,v0,v1,v2,v3,v4,v5,v6,v7,v8,v9,v10=>FO (vP n) (fun e0 e1 e2 e3 e4 e5 e6 e7=>some (.inl ((),((e0,e1,()),(),()),((e2,e3,()),e4,(),e5,(e6,()),(e7,()),())))) (fun r0 r1=>some (.inr ((),((r0,r1,()),(),()),()))) v0 v1 v2 v3 v4 v5 v6 v7 v8 v9 v10
def akJ (n:Nat) (v:JR.den):=vP n v.1.1 v.1.2.1 v.1.2.2.1 v.2.1.1.1 v.2.1.1.2.1 v.2.2.1.1 v.2.2.1.2.1 v.2.2.2.1 v.2.2.2.2.2.1 v.2.2.2.2.2.2.1.1 v.2.2.2.2.2.2.2.1.1
noncomputable def U4:dC:=fO aaY JR LD LJ (.exit 0) (akJ bP) 6
def FC:SQ:=⟨us [.ptr 2000011 0,.u,.yld 1700009,.u,.u,.u,.u,.u,.v cu,.slc 4800009,.v .bool,.v cu] 83,[[.u,.ptr 2000001 0,.ptr 3000002 0,.ptr 3000003 0,.fn 105 [(3000003,0),(3000002,0)],.v cu,.ptr 3000006 0,.u,.u,.u,.u,.u,.u,.u,.u,.u,.u,.u,.u,.u,.u,.u,.u,.u,.u,.u,.u,.u,.u,.u,.u,.u,.u,.u,.u,.u,.u,.u,.u,.u,.u,.u,.u,.u,.u,.u,.u,.u,.u,.u,.u,.u,.u,.u,.u,.u,.u,.u,.u,.u,.u,.u,.u,.u,.u,.u,.u,.u,.u,.u,.u,.u,.u,.u,.u,.u,.u,.u,.u,.u,.u,.u,.u,.u,.u,.u,.u,.u,.u,.u,.u,.u,.u,.u,.u,.u,.u,.u,.u,.u,.u,.fn 105 [(3000003,0),(3000002,0)],.kb true,.kb true,.ptr 2000011 0,.v Ub,.yld 1700009,.u,.u,.u,.u,.u],us [.u,.u,.ptr 1000002 0,.ptr 1000003 0,.ptr 1000004 0] 11,[.yld 1700009],[]],[.arr 4800009 (.int .u8),.box 3000006 98 [.v cu,.v cu,.v cu,.v cu,.v .bool],.arr 3500003 (.int .u8),.box 3000003 86 [.nils],.box 3000002 164 [.yld 1700009],.box 2000011 163 [.v .str,.v Uc,.mpv 2000009],.mp 2000009 .i64 .i64,.box 2000001 111 [.ptr 2000011 0],.lp 1700009 40 (us [.u,.u,.ptr 1000002 0,.ptr 1000003 0,.ptr 1000004 0] 11) [9] 4 0 none,.arr 1500004 (.int .u8),.box 1000004 108 [.slf 1000004,.slc 1500004],.box 1000003 4 [.v .bool],.box 1000002 9 [.v .str]]⟩
def BA:SQ:=⟨us [.u,.u,.yld 1700009,.u,.u,.u,.u,.u,.u,.slc 4800009,.v .bool] 84,[[.u,.ptr 2000001 0,.ptr 3000002 0,.ptr 3000003 0,.fn 105 [(3000003,0),(3000002,0)],.v cu,.ptr 3000006 0,.u,.u,.u,.u,.u,.u,.u,.u,.u,.u,.u,.u,.u,.u,.u,.u,.u,.u,.u,.u,.u,.u,.u,.u,.u,.u,.u,.u,.u,.u,.u,.u,.u,.u,.u,.u,.u,.u,.u,.u,.u,.u,.u,.u,.u,.u,.u,.u,.u,.u,.u,.u,.u,.u,.u,.u,.u,.u,.u,.u,.u,.u,.u,.u,.u,.u,.u,.u,.u,.u,.u,.u,.u,.u,.u,.u,.u,.u,.u,.u,.u,.u,.u,.u,.u,.u,.u,.u,.u,.u,.u,.u,.u,.u,.fn 105 [(3000003,0),(3000002,0)],.kb true,.kb true,.ptr 2000011 0,.v Ub,.yld 1700009,.u,.u,.u,.u,.u],us [.u,.u,.ptr 1000002 0,.ptr 1000003 0,.ptr 1000004 0] 11,[.yld 1700009],[]],[.arr 4800009 (.int .u8),.box 3000006 98 [.v cu,.v cu,.v cu,.v cu,.v .bool],.arr 3500003 (.int .u8),.box 3000003 86 [.nils],.box 3000002 164 [.yld 1700009],.box 2000011 163 [.v .str,.v Uc,.mpv 2000009],.mp 2000009 .i64 .i64,.box 2000001 111 [.ptr 2000011 0],.lp 1700009 40 (us [.u,.u,.ptr 1000002 0,.ptr 1000003 0,.ptr 1000004 0] 11) [9] 4 0 none,.arr 1500004 (.int .u8),.box 1000004 108 [.slf 1000004,.slc 1500004],.box 1000003 4 [.v .bool],.box 1000002 9 [.v .str]]⟩
def BD:SQ:=⟨us [.u,.u,.u,.u,.u,.u,.kb false] 88,[[.u,.ptr 2000001 0,.ptr 3000002 0,.ptr 3000003 0,.fn 105 [(3000003,0),(3000002,0)],.v cu,.ptr 3000006 0,.u,.u,.u,.u,.u,.u,.u,.u,.u,.u,.u,.u,.u,.u,.u,.u,.u,.u,.u,.u,.u,.u,.u,.u,.u,.u,.u,.u,.u,.u,.u,.u,.u,.u,.u,.u,.u,.u,.u,.u,.u,.u,.u,.u,.u,.u,.u,.u,.u,.u,.u,.u,.u,.u,.u,.u,.u,.u,.u,.u,.u,.u,.u,.u,.u,.u,.u,.u,.u,.u,.u,.u,.u,.u,.u,.u,.u,.u,.u,.u,.u,.u,.u,.u,.u,.u,.u,.u,.u,.u,.u,.u,.u,.u,.fn 105 [(3000003,0),(3000002,0)],.kb true,.kb true,.ptr 2000011 0,.v Ub,.yld 1700009,.u,.u,.u,.u,.u],us [.u,.u,.ptr 1000002 0,.ptr 1000003 0,.ptr 1000004 0] 11,[.yld 1700009],[]],[.box 3000006 98 [.v cu,.v cu,.v cu,.v cu,.v .bool],.arr 3500003 (.int .u8),.box 3000003 86 [.nils],.box 3000002 164 [.yld 1700009],.box 2000011 163 [.v .str,.v Uc,.mpv 2000009],.mp 2000009 .i64 .i64,.box 2000001 111 [.ptr 2000011 0],.lp 1700009 40 (us [.u,.u,.ptr 1000002 0,.ptr 1000003 0,.ptr 1000004 0] 11) [9] 4 1 (some .ret),.arr 1500004 (.int .u8),.box 1000004 108 [.slf 1000004,.slc 1500004],.box 1000003 4 [.kb false],.box 1000002 9 [.v .str]]⟩
def fB (v13:List iQ) (v14:List lH) (v2:Int):=dN v13 (0,(0,(0,(0,(false,()))))) (ed .i64 (lV v14 v2) 1)
def iR (v12:bK) (v13:List iQ) (v14:List lH) (v2:Int):=bV v12 (bU .i64 (fB v13 v14 v2).2.1 1)
def nX {γ:Type} (v5:gW) (v12:bK) (v13:List iQ) (v14:List lH) (v2:Int) (rec:Int->Bool->Int->Int->iQ->gW->Int->Int->Int->Int->Bool->gW->bK->(List iQ)->(List lH)->gW->Bool->bK->Option γ) (v0:Int) (v1:Bool) (v3:Int) (v4:iQ) (v6 v7 v8 v9:Int) (v10:Bool) (v11 v15:gW) (v16:Bool) (v17:bK):Option γ:=bif(eH (bT v5 (bI (ofBytes [(iR v12 v13 v14 v2)]))) 1)then rec v0 v1 (fB v13 v14 v2).2.2.1 v3 v4 (bT v5 (bI (ofBytes [(iR v12 v13 v14 v2)]))) v6 v7 v8 v9 v10 v11 v12 v13 v14 v15 v16 v17 else none
def nY {γ:Type} (v12:bK) (v13:List iQ) (v14:List lH) (v2:Int) (v5:gW) (rec:Int->Bool->Int->Int->iQ->gW->Int->Int->Int->Int->Bool->gW->bK->(List iQ)->(List lH)->gW->Bool->bK->Option γ) (v0:Int) (v1:Bool) (v3:Int) (v4:iQ) (v6 v7 v8 v9:Int) (v10:Bool) (v11 v15:gW) (v16:Bool) (v17:bK):Option γ:=bif(bM (iR v12 v13 v14 v2) 10)then bif(eH (bT v5 (bI [])) 1)then rec v0 v1 (fB v13 v14 v2).2.2.1 v3 v4 (bT v5 (bI [])) v6 v7 v8 v9 v10 v11 v12 v13 v14 v15 v16 v17 else none else bif(fF (bC v12) (fB v13 v14 v2).2.1 (fB v13 v14 v2).2.2.1)then bif(eH (bT v5 (bI (sub v12 (fB v13 v14 v2).2.1 (fB v13 v14 v2).2.2.1))) 1)then rec v0 v1 (fB v13 v14 v2).2.2.1 v3 v4 (bT v5 (bI (sub v12 (fB v13 v14 v2).2.1 (fB v13 v14 v2).2.2.1))) v6 v7 v8 v9 v10 v11 v12 v13 v14 v15 v16 v17 else none else none
def BR {γ:Type} (rec:Int->Bool->Int->Int->iQ->gW->Int->Int->Int->Int->Bool->gW->bK->(List iQ)->(List lH)->gW->Bool->bK->Option γ) (kE:Bool->Int->iQ->gW->Int->Int->Int->Int->Bool->gW->bK->(List iQ)->(List lH)->gW->Bool->bK->Option γ) (kR:Int->iQ->Int->Int->Int->Int->Bool->gW->bK->(List iQ)->(List lH)->gW->bK->Option γ) (v0:Int) (v1:Bool) (v2 v3:Int) (v4:iQ) (v5:gW) (v6 v7 v8 v9:Int) (v10:Bool) (v11:gW) (v12:bK) (v13:List iQ) (v14:List lH) (v15:gW) (v16:Bool) (v17:bK):Option γ:=bif(iw v2 v0)then bif(bM (lV v14 v2) 0)then bif(gI v12 v2)then bif(eH (bT v5 [(bV v12 v2)]) 1)then rec v0 v1 (bU .i64 v2 1) v3 v4 (bT v5 [(bV v12 v2)]) v6 v7 v8 v9 v10 v11 v12 v13 v14 v15 v16 v17 else none else none else bif(gI v13 (ed .i64 (lV v14 v2) 1))then bz (Qb ((fB v13 v14 v2).1,((fB v13 v14 v2).2.1,((fB v13 v14 v2).2.2.1,((fB v13 v14 v2).2.2.2.1,((fB v13 v14 v2).2.2.2.2.1,())))))) fun y0=>bif y0.1 then bif(gI v12 v2)then bif(eH (bT v5 [(bV v12 v2)]) 1)then rec v0 v1 (bU .i64 v2 1) v3 v4 (bT v5 [(bV v12 v2)]) v6 v7 v8 v9 v10 v11 v12 v13 v14 v15 v16 v17 else none else none else bif(bM (fB v13 v14 v2).1 13)then bif(iw (ed .i64 (fB v13 v14 v2).2.2.1 (fB v13 v14 v2).2.1) 2)then bif(eH (bT v5 (bI [])) 1)then rec v0 v1 (fB v13 v14 v2).2.2.1 v3 v4 (bT v5 (bI [])) v6 v7 v8 v9 v10 v11 v12 v13 v14 v15 v16 v17 else none else bif(gI v12 (bU .i64 (fB v13 v14 v2).2.1 1))then bif(bM (iR v12 v13 v14 v2) 36)then bif(bM (iR v12 v13 v14 v2) 36)then nX v5 v12 v13 v14 v2 rec v0 v1 v3 v4 v6 v7 v8 v9 v10 v11 v15 v16 v17 else nY v12 v13 v14 v2 v5 rec v0 v1 v3 v4 v6 v7 v8 v9 v10 v11 v15 v16 v17 else bif(bM (iR v12 v13 v14 v2) 96)then bif(bM (iR v12 v13 v14 v2) 96)then nX v5 v12 v13 v14 v2 rec v0 v1 v3 v4 v6 v7 v8 v9 v10 v11 v15 v16 v17 else nY v12 v13 v14 v2 v5 rec v0 v1 v3 v4 v6 v7 v8 v9 v10 v11 v15 v16 v17 else bif(bM (iR v12 v13 v14 v2) 34)then bif(bM (iR v12 v13 v14 v2) 34)then nX v5 v12 v13 v14 v2 rec v0 v1 v3 v4 v6 v7 v8 v9 v10 v11 v15 v16 v17 else nY v12 v13 v14 v2 v5 rec v0 v1 v3 v4 v6 v7 v8 v9 v10 v11 v15 v16 v17 else bif(bM (iR v12 v13 v14 v2) 92)then nX v5 v12 v13 v14 v2 rec v0 v1 v3 v4 v6 v7 v8 v9 v10 v11 v15 v16 v17 else nY v12 v13 v14 v2 v5 rec v0 v1 v3 v4 v6 v7 v8 v9 v10 v11 v15 v16 v17 else none else bif(iw 0 (bC v5))then bif(eH (bT v15 (bI (ofBytes v5))) 1)then bif(fF (bC v12) (fB v13 v14 v2).2.1 (fB v13 v14 v2).2.2.1)then kR v3 v4 v6 v7 v8 v9 v10 v11 v12 v13 v14 (bT v15 (bI (ofBytes v5))) []else none else none else bif(fF (bC v12) (fB v13 v14 v2).2.1 (fB v13 v14 v2).2.2.1)then kR v3 v4 v6 v7 v8 v9 v10 v11 v12 v13 v14 v15 []else none else none else kE v1 v3 v4 v5 v6 v7 v8 v9 v10 v11 v12 v13 v14 v15 v16 v17
def nJ:Nat->Int->Bool->Int->Int->iQ->gW->Int->Int->Int->Int->Bool->gW->bK->(List iQ)->(List lH)->gW->Bool->bK->Option (BA.den⊕BD.den)
 |0,_,_,_,_,_,_,_,_,_,_,_,_,_,_,_,_,_,_=>none
 |n+1,v0,v1,v2,v3,v4,v5,v6,v7,v8,v9,v10,v11,v12,v13,v14,v15,v16,v17=>BR (nJ n) (fun e0 e1 e2 e3 e4 e5 e6 e7 e8 e9 e10 e11 e12 e13 e14 e15=>some (.inl ((e0,()),((e1,e2,()),(),(),(),()),(e3,(e4,e5,e6,e7,e8,()),e9,(),(),(e10,e11,()),e12,(),(),e13,(),(e14,()),(e15,()),())))) (fun r0 r1 r2 r3 r4 r5 r6 r7 r8 r9 r10 r11 r12=>some (.inr ((),((r0,r1,()),(),(),(),()),((r2,r3,r4,r5,r6,()),r7,(),(),(r8,r9,()),r10,(),(),r11,(),(),(r12,()),())))) v0 v1 v2 v3 v4 v5 v6 v7 v8 v9 v10 v11 v12 v13 v14 v15 v16 v17
def aeA (n:Nat) (v:FC.den):=nJ n v.1.1 v.1.2.1 v.1.2.2.1 v.2.1.1.1 v.2.1.1.2.1 v.2.2.1 v.2.2.2.1.1 v.2.2.2.1.2.1 v.2.2.2.1.2.2.1 v.2.2.2.1.2.2.2.1 v.2.2.2.1.2.2.2.2.1 v.2.2.2.2.1 v.2.2.2.2.2.2.2.1.1 v.2.2.2.2.2.2.2.1.2.1 v.2.2.2.2.2.2.2.2.1 v.2.2.2.2.2.2.2.2.2.2.2.1 v.2.2.2.2.2.2.2.2.2.2.2.2.2.1.1 v.2.2.2.2.2.2.2.2.2.2.2.2.2.2.1.1
noncomputable def QI:dC:=fO UV FC BA BD (.exit 0) (aeA bP) 12
def FB:SQ:=⟨us [.u,.ptr 2000001 0,.ptr 3000002 0,.ptr 3000003 0,.fn 105 [(3000003,0),(3000002,0)],.v cu] 106,[us [.u,.u,.ptr 1000002 0,.ptr 1000003 0,.ptr 1000004 0] 11,[.yld 1700009],[]],[.arr 3500003 (.int .u8),.box 3000003 86 [.slc 3500003],.box 3000002 164 [.yld 1700009],.box 2000011 163 [.v .str,.v Uc,.mpv 2000009],.mp 2000009 .i64 .i64,.box 2000001 111 [.ptr 2000011 0],.lp 1700009 40 (us [.u,.u,.ptr 1000002 0,.ptr 1000003 0,.ptr 1000004 0] 11) [9] 4 0 none,.arr 1500004 (.int .u8),.box 1000004 108 [.slf 1000004,.slc 1500004],.box 1000003 4 [.v .bool],.box 1000002 9 [.v .str]]⟩
def Bz:SQ:=⟨us [.u,.u,.u,.u,.fn 105 [(3000003,0),(3000002,0)]] 107,[us [.u,.u,.ptr 1000002 0,.ptr 1000003 0,.ptr 1000004 0] 11,[.yld 1700009],[]],[.arr 3500003 (.int .u8),.box 3000003 86 [.slc 3500003],.box 3000002 164 [.yld 1700009],.box 2000011 163 [.v .str,.v Uc,.mpv 2000009],.mp 2000009 .i64 .i64,.box 2000001 111 [.ptr 2000011 0],.lp 1700009 40 (us [.u,.u,.ptr 1000002 0,.ptr 1000003 0,.ptr 1000004 0] 11) [9] 4 0 none,.arr 1500004 (.int .u8),.box 1000004 108 [.slf 1000004,.slc 1500004],.box 1000003 4 [.v .bool],.box 1000002 9 [.v .str]]⟩
def BC:SQ:=⟨us [] 112,[us [.u,.u,.ptr 1000002 0,.ptr 1000003 0,.ptr 1000004 0] 11,[.yld 1700009],[]],[.box 2000011 163 [.v .str,.v Uc,.mpv 2000009],.mp 2000009 .i64 .i64,.box 2000001 111 [.ptr 2000011 0],.lp 1700009 40 (us [.u,.u,.ptr 1000002 0,.ptr 1000003 0,.ptr 1000004 0] 11) [9] 4 1 (some .ret),.arr 1500004 (.int .u8),.box 1000004 108 [.slf 1000004,.slc 1500004],.box 1000003 4 [.v .bool],.box 1000002 9 [.v .str]]⟩
def bZ (v3:List iQ) (v4:List lH) (v0:Int):=dN v3 (0,(0,(0,(0,(false,()))))) (ed .i64 (lV v4 v0) 1)
def qL (v3:List iQ) (v4:List lH) (v0:Int):=aas ((bZ v3 v4 v0).1,((bZ v3 v4 v0).2.1,((bZ v3 v4 v0).2.2.1,((bZ v3 v4 v0).2.2.2.1,((bZ v3 v4 v0).2.2.2.2.1,())))))
def kU (v2:bK) (v3:List iQ) (v4:List lH) (v0:Int):=sub v2 (bU .i64 (bZ v3 v4 v0).2.1 1) (bZ v3 v4 v0).2.2.1
def vF {γ:Type} (v2:bK) (v3:List iQ) (v4:List lH) (v0:Int) (v1:gW) (rec:Int->gW->bK->(List iQ)->(List lH)->gW->Bool->bK->Option γ) (v5:gW) (v6:Bool) (v7:bK):Option γ:=bif(fF (bC v2) (bZ v3 v4 v0).2.1 (bZ v3 v4 v0).2.2.1)then bif(eH (bT v1 (bI (sub v2 (bZ v3 v4 v0).2.1 (bZ v3 v4 v0).2.2.1))) 1)then rec (bZ v3 v4 v0).2.2.1 (bT v1 (bI (sub v2 (bZ v3 v4 v0).2.1 (bZ v3 v4 v0).2.2.1))) v2 v3 v4 v5 v6 v7 else none else none
def vG {γ:Type} (v3:List iQ) (v4:List lH) (v0:Int) (v2:bK) (v1 v5:gW) (rec:Int->gW->bK->(List iQ)->(List lH)->gW->Bool->bK->Option γ) (v6:Bool) (v7:bK):Option γ:=bif(bM (bZ v3 v4 v0).1 4)then bz (qL v3 v4 v0) fun y1=>bif(fF (bC v2) y1.1 y1.2.1)then bif(gU (ofBytes v1) [])then bif(eH (bT v5 (bI (sub v2 y1.1 y1.2.1))) 1)then rec (bZ v3 v4 v0).2.2.1 [] v2 v3 v4 (bT v5 (bI (sub v2 y1.1 y1.2.1))) v6 v7 else none else bif(eH (bT v5 (bI (ofBytes v1))) 1)then bif(eH (bT (bT v5 (bI (ofBytes v1))) (bI (sub v2 y1.1 y1.2.1))) 1)then rec (bZ v3 v4 v0).2.2.1 [] v2 v3 v4 (bT (bT v5 (bI (ofBytes v1))) (bI (sub v2 y1.1 y1.2.1))) v6 v7 else none else none else none else bif(fF (bC v2) (bU .i64 (bZ v3 v4 v0).2.1 1) (bZ v3 v4 v0).2.2.1)then bif(!(gU (kU v2 v3 v4 v0) []))then bif(!(gU (kU v2 v3 v4 v0) [10]))then bif(gU (ofBytes v1) [])then bif(eH (bT v5 (bI (kU v2 v3 v4 v0))) 1)then rec (bZ v3 v4 v0).2.2.1 [] v2 v3 v4 (bT v5 (bI (kU v2 v3 v4 v0))) v6 v7 else none else bif(eH (bT v5 (bI (ofBytes v1))) 1)then bif(eH (bT (bT v5 (bI (ofBytes v1))) (bI (kU v2 v3 v4 v0))) 1)then rec (bZ v3 v4 v0).2.2.1 [] v2 v3 v4 (bT (bT v5 (bI (ofBytes v1))) (bI (kU v2 v3 v4 v0))) v6 v7 else none else none else rec (bZ v3 v4 v0).2.2.1 v1 v2 v3 v4 v5 v6 v7 else rec (bZ v3 v4 v0).2.2.1 v1 v2 v3 v4 v5 v6 v7 else none
def vH {γ:Type} (y2:BA.den⊕BD.den) (rec:Int->gW->bK->(List iQ)->(List lH)->gW->Bool->bK->Option γ) (kR:bK->(List iQ)->(List lH)->gW->Bool->bK->Option γ):Option γ:=dL y2 (fun a3=>bif(bM (bC a3.2.2.1) 0)then bif a3.1.1 then rec a3.2.1.1.1 [] a3.2.2.2.2.2.2.2.1.1 a3.2.2.2.2.2.2.2.1.2.1 a3.2.2.2.2.2.2.2.2.1 a3.2.2.2.2.2.2.2.2.2.2.2.1 a3.2.2.2.2.2.2.2.2.2.2.2.2.2.1.1 a3.2.2.2.2.2.2.2.2.2.2.2.2.2.2.1.1 else bif(eH (bT a3.2.2.2.2.2.2.2.2.2.2.2.1 (bI (ofBytes a3.2.2.1))) 1)then rec a3.2.1.1.1 [] a3.2.2.2.2.2.2.2.1.1 a3.2.2.2.2.2.2.2.1.2.1 a3.2.2.2.2.2.2.2.2.1 (bT a3.2.2.2.2.2.2.2.2.2.2.2.1 (bI (ofBytes a3.2.2.1))) a3.2.2.2.2.2.2.2.2.2.2.2.2.2.1.1 a3.2.2.2.2.2.2.2.2.2.2.2.2.2.2.1.1 else none else bif(eH (bT a3.2.2.2.2.2.2.2.2.2.2.2.1 (bI (ofBytes a3.2.2.1))) 1)then rec a3.2.1.1.1 [] a3.2.2.2.2.2.2.2.1.1 a3.2.2.2.2.2.2.2.1.2.1 a3.2.2.2.2.2.2.2.2.1 (bT a3.2.2.2.2.2.2.2.2.2.2.2.1 (bI (ofBytes a3.2.2.1))) a3.2.2.2.2.2.2.2.2.2.2.2.2.2.1.1 a3.2.2.2.2.2.2.2.2.2.2.2.2.2.2.1.1 else none) (fun b3=>kR b3.2.2.2.2.2.2.1.1 b3.2.2.2.2.2.2.1.2.1 b3.2.2.2.2.2.2.2.1 b3.2.2.2.2.2.2.2.2.2.2.1 false b3.2.2.2.2.2.2.2.2.2.2.2.2.2.1.1)
def vI {γ:Type} (v3:List iQ) (v4:List lH) (v0:Int) (v1:gW) (v2:bK) (v5:gW) (v6:Bool) (v7:bK) (rec:Int->gW->bK->(List iQ)->(List lH)->gW->Bool->bK->Option γ) (kR:bK->(List iQ)->(List lH)->gW->Bool->bK->Option γ):Option γ:=bif(bM (bZ v3 v4 v0).1 5)then bif(gU (ofBytes v1) [])then bz (qL v3 v4 v0) fun y1=>bz (nJ bP y1.2.1 false y1.1 (bZ v3 v4 v0).2.2.1 ((bZ v3 v4 v0).1,((bZ v3 v4 v0).2.1,((bZ v3 v4 v0).2.2.1,((bZ v3 v4 v0).2.2.2.1,((bZ v3 v4 v0).2.2.2.2.1,()))))) [] (bZ v3 v4 v0).1 (bZ v3 v4 v0).2.1 (bZ v3 v4 v0).2.2.1 (bZ v3 v4 v0).2.2.2.1 (bZ v3 v4 v0).2.2.2.2.1 v1 v2 v3 v4 v5 v6 v7) fun y2=>vH y2 rec kR else bif(eH (bT v5 (bI (ofBytes v1))) 1)then bz (qL v3 v4 v0) fun y1=>bz (nJ bP y1.2.1 false y1.1 (bZ v3 v4 v0).2.2.1 ((bZ v3 v4 v0).1,((bZ v3 v4 v0).2.1,((bZ v3 v4 v0).2.2.1,((bZ v3 v4 v0).2.2.2.1,((bZ v3 v4 v0).2.2.2.2.1,()))))) [] (bZ v3 v4 v0).1 (bZ v3 v4 v0).2.1 (bZ v3 v4 v0).2.2.1 (bZ v3 v4 v0).2.2.2.1 (bZ v3 v4 v0).2.2.2.2.1 v1 v2 v3 v4 (bT v5 (bI (ofBytes v1))) v6 v7) fun y2=>vH y2 rec kR else none else bif(gU (ofBytes v1) [])then bif(fF (bC v2) (bZ v3 v4 v0).2.1 (bZ v3 v4 v0).2.2.1)then kR v2 v3 v4 v5 false []else none else bif(eH (bT v5 (bI (ofBytes v1))) 1)then bif(fF (bC v2) (bZ v3 v4 v0).2.1 (bZ v3 v4 v0).2.2.1)then kR v2 v3 v4 (bT v5 (bI (ofBytes v1))) false []else none else none
def vJ {γ:Type} (v3:List iQ) (v4:List lH) (v0:Int) (v2:bK) (v1 v5:gW) (rec:Int->gW->bK->(List iQ)->(List lH)->gW->Bool->bK->Option γ) (v6:Bool) (v7:bK) (kR:bK->(List iQ)->(List lH)->gW->Bool->bK->Option γ):Option γ:=bif(bM (bZ v3 v4 v0).1 13)then bif(bM (bZ v3 v4 v0).1 13)then vG v3 v4 v0 v2 v1 v5 rec v6 v7 else vI v3 v4 v0 v1 v2 v5 v6 v7 rec kR else bif(bM (bZ v3 v4 v0).1 4)then vG v3 v4 v0 v2 v1 v5 rec v6 v7 else vI v3 v4 v0 v1 v2 v5 v6 v7 rec kR
def BQ {γ:Type} (rec:Int->gW->bK->(List iQ)->(List lH)->gW->Bool->bK->Option γ) (kE:gW->bK->(List iQ)->(List lH)->gW->Bool->bK->Option γ) (kR:bK->(List iQ)->(List lH)->gW->Bool->bK->Option γ) (v0:Int) (v1:gW) (v2:bK) (v3:List iQ) (v4:List lH) (v5:gW) (v6:Bool) (v7:bK):Option γ:=bif(iw v0 (bC v2))then bif(bM (lV v4 v0) 0)then bif(gI v2 v0)then bif(gU v2 v2)then bif(bM v0 v0)then bif(eH (bT v1 [(bV v2 v0)]) 1)then bif(gU v2 v2)then bif(bM v0 v0)then bif(gI v2 v0)then bif(bM (bV v2 v0) (bV v2 v0))then rec (bU .i64 v0 1) (bT v1 [(bV v2 v0)]) v2 v3 v4 v5 v6 v7 else none else none else none else none else none else none else none else none else bif(gI v3 (ed .i64 (lV v4 v0) 1))then bz (Qb ((bZ v3 v4 v0).1,((bZ v3 v4 v0).2.1,((bZ v3 v4 v0).2.2.1,((bZ v3 v4 v0).2.2.2.1,((bZ v3 v4 v0).2.2.2.2.1,())))))) fun y0=>bif y0.1 then bif y0.1 then vF v2 v3 v4 v0 v1 rec v5 v6 v7 else vJ v3 v4 v0 v2 v1 v5 rec v6 v7 kR else bif(bM (bZ v3 v4 v0).1 14)then vF v2 v3 v4 v0 v1 rec v5 v6 v7 else vJ v3 v4 v0 v2 v1 v5 rec v6 v7 kR else none else kE v1 v2 v3 v4 v5 v6 v7
def jI:Nat->Int->gW->bK->(List iQ)->(List lH)->gW->Bool->bK->Option (Bz.den⊕BC.den)
 |0,_,_,_,_,_,_,_,_=>none
 |n+1,v0,v1,v2,v3,v4,v5,v6,v7=>BQ (jI n) (fun e0 e1 e2 e3 e4 e5 e6=>some (.inl ((),((),(),(),()),(e0,(),(),(e1,e2,()),e3,(),(),e4,(),(e5,()),(e6,()),())))) (fun r0 r1 r2 r3 r4 r5=>some (.inr ((),((),(),(),()),((r0,r1,()),r2,(),(),r3,(),(r4,()),(r5,()),())))) v0 v1 v2 v3 v4 v5 v6 v7
def aez (n:Nat) (v:FB.den):=jI n v.1.1 v.2.2.1 v.2.2.2.2.2.1.1 v.2.2.2.2.2.1.2.1 v.2.2.2.2.2.2.1 v.2.2.2.2.2.2.2.2.2.1 v.2.2.2.2.2.2.2.2.2.2.2.1.1 v.2.2.2.2.2.2.2.2.2.2.2.2.1.1
noncomputable def QH:dC:=fO UU FB Bz BC (.exit 0) (aez bP) 18
def NW (x0:bK):Option (bK×Bool×Unit):=bz (akh x0) fun y0=>bz (vP bP y0.1 (bC y0.1) 0 x0 x0 x0 y0.1 [] [] false []) fun y1=>dL y1 (fun a2=>bz (jI bP 0 [] a2.2.2.1.1 a2.2.2.1.2.1 a2.2.2.2.1 a2.2.2.2.2.2.1 a2.2.2.2.2.2.2.1.1 a2.2.2.2.2.2.2.2.1.1) fun y3=>dL y3 (fun a4=>bif(gU (ofBytes a4.2.2.1) [])then bif(bM (bC a4.2.2.2.2.2.2.2.2.2.1) (bC a4.2.2.2.2.2.2.2.2.2.1))then some ((ofBytes a4.2.2.2.2.2.2.2.2.2.1),(true,()))else none else bif(eH (bT a4.2.2.2.2.2.2.2.2.2.1 (bI (ofBytes a4.2.2.1))) 1)then bif(bM (bC (bT a4.2.2.2.2.2.2.2.2.2.1 (bI (ofBytes a4.2.2.1)))) (bC (bT a4.2.2.2.2.2.2.2.2.2.1 (bI (ofBytes a4.2.2.1)))))then some ((ofBytes (bT a4.2.2.2.2.2.2.2.2.2.1 (bI (ofBytes a4.2.2.1)))),(true,()))else none else none) (fun b4=>some (b4.2.2.2.2.2.2.2.2.2.1.1,(b4.2.2.2.2.2.2.2.2.1.1,())))) (fun b2=>none)
def arE:Sum:=⟨[.str],[(.str,false),(.bool,false)],fun x=>NW x.1⟩
noncomputable def MR:Env:=eu prog tt [(68,aih),(107,afo),(153,afr)] [(69,3,aaY),(104,4,UU),(109,5,UV),(40,500004,ay8),(40,600002,ayV),(40,600006,ayW),(40,600007,ayX),(104,600005,aea),(104,600016,abp),(104,600017,abq),(104,600019,abr),(104,600010,abo),(104,600020,abt),(105,600003,aeb),(109,600006,aec),(109,600016,abu),(109,600007,aed),(109,600009,aee),(109,600020,abv),(71,600001,aks)] [(69,3,U4),(109,5,QI),(104,4,QH)] [40]
def Vx {γ:Type} (a:JR.den->Option γ) (b:LD.den->Option γ) (c:LJ.den->Option γ) (v:JR.den):Option γ:=FO (fun v0 v1 v2 v3 v4 v5 v6 v7 v8 v9 v10=>a ((v0,v1,v2,()),((v3,v4,()),(),()),((v5,v6,()),v7,(),v8,(v9,()),(v10,()),()))) (fun e0 e1 e2 e3 e4 e5 e6 e7=>b ((),((e0,e1,()),(),()),((e2,e3,()),e4,(),e5,(e6,()),(e7,()),()))) (fun r0 r1=>c ((),((r0,r1,()),(),()),())) v.1.1 v.1.2.1 v.1.2.2.1 v.2.1.1.1 v.2.1.1.2.1 v.2.2.1.1 v.2.2.1.2.1 v.2.2.2.1 v.2.2.2.2.2.1 v.2.2.2.2.2.2.1.1 v.2.2.2.2.2.2.2.1.1
theorem akQ:eQ MR 69 ZO U4:=oG (Vx) (h2:=by intros;simp only[Vx,FO,dm,dn,bu,dh,dw])
def Rx {γ:Type} (a:FC.den->Option γ) (b:BA.den->Option γ) (c:BD.den->Option γ) (v:FC.den):Option γ:=BR (fun v0 v1 v2 v3 v4 v5 v6 v7 v8 v9 v10 v11 v12 v13 v14 v15 v16 v17=>a ((v0,v1,v2,()),((v3,v4,()),(),(),(),()),(v5,(v6,v7,v8,v9,v10,()),v11,(),(),(v12,v13,()),v14,(),(),v15,(),(v16,()),(v17,()),()))) (fun e0 e1 e2 e3 e4 e5 e6 e7 e8 e9 e10 e11 e12 e13 e14 e15=>b ((e0,()),((e1,e2,()),(),(),(),()),(e3,(e4,e5,e6,e7,e8,()),e9,(),(),(e10,e11,()),e12,(),(),e13,(),(e14,()),(e15,()),()))) (fun r0 r1 r2 r3 r4 r5 r6 r7 r8 r9 r10 r11 r12=>c ((),((r0,r1,()),(),(),(),()),((r2,r3,r4,r5,r6,()),r7,(),(),(r8,r9,()),r10,(),(),r11,(),(),(r12,()),()))) v.1.1 v.1.2.1 v.1.2.2.1 v.2.1.1.1 v.2.1.1.2.1 v.2.2.1 v.2.2.2.1.1 v.2.2.2.1.2.1 v.2.2.2.1.2.2.1 v.2.2.2.1.2.2.2.1 v.2.2.2.1.2.2.2.2.1 v.2.2.2.2.1 v.2.2.2.2.2.2.2.1.1 v.2.2.2.2.2.2.2.1.2.1 v.2.2.2.2.2.2.2.2.1 v.2.2.2.2.2.2.2.2.2.2.2.1 v.2.2.2.2.2.2.2.2.2.2.2.2.2.1.1 v.2.2.2.2.2.2.2.2.2.2.2.2.2.2.1.1
theorem aeH:eQ MR 109 Ur QI:=oG (Rx) (h2:=by intros;simp only[Rx,BR,dm,dn,bu,dh,dw,fB,iR,nX,nY])
def Rw {γ:Type} (a:FB.den->Option γ) (b:Bz.den->Option γ) (c:BC.den->Option γ) (v:FB.den):Option γ:=BQ (fun v0 v1 v2 v3 v4 v5 v6 v7=>a ((v0,()),((),(),(),()),(v1,(),(),(v2,v3,()),v4,(),(),v5,(),(v6,()),(v7,()),()))) (fun e0 e1 e2 e3 e4 e5 e6=>b ((),((),(),(),()),(e0,(),(),(e1,e2,()),e3,(),(),e4,(),(e5,()),(e6,()),()))) (fun r0 r1 r2 r3 r4 r5=>c ((),((),(),(),()),((r0,r1,()),r2,(),(),r3,(),(r4,()),(r5,()),()))) v.1.1 v.2.2.1 v.2.2.2.2.2.1.1 v.2.2.2.2.2.1.2.1 v.2.2.2.2.2.2.1 v.2.2.2.2.2.2.2.2.2.1 v.2.2.2.2.2.2.2.2.2.2.2.1.1 v.2.2.2.2.2.2.2.2.2.2.2.2.1.1
theorem aeG:eQ MR 104 Uo QH:=oG (Rw) (h2:=by intros;simp only[Rw,BQ,dm,dn,bu,dh,dw,bZ,qL,kU,vF,vG,vH,vI,vJ])
theorem aCq:jf b40=[]:=by kernel_rfl
theorem aCX:jA b40=[(cA (cA (cB (cA (cB (cB (b40)))))),cB (cA (cB (cA (cB (cB (b40)))))))]:=by kernel_rfl
theorem aCE:dO MR 40 b40:=pU b40 (by rw[aCX];exact(aD (fun _=>(show qJ 40 4=some (cA (cA (cB (cA (cB (cB (b40)))))),cB (cA (cB (cA (cB (cB (b40))))))) by kernel_rfl)) aN)) (by rw[aCq];exact aN)
theorem apc:dO MR 69 adi:=wK [ZO] (aD (fM (akQ)) aN)
theorem akC:dO MR 104 V7:=wK [Uo] (aD (fM (aeG)) aN)
theorem akD:dO MR 109 V8:=wK [Ur] (aD (fM (aeH)) aN)
theorem ana:dB MR:=eB (aD Su (aD VF (aD VI aN))) [40,69,104,109] (aD ⟨f40,b40,by kernel_rfl,by kernel_rfl,aCE⟩ (aD ⟨f69,adi,by kernel_rfl,by kernel_rfl,apc⟩ (aD ⟨f104,V7,by kernel_rfl,by kernel_rfl,akC⟩ (aD ⟨f109,V8,by kernel_rfl,by kernel_rfl,akD⟩ aN))))
theorem acM:dU prog 40 arE:=sA ana
noncomputable def b41:Code:=(f41.body).getD .skip
noncomputable def adk:Code:=(f73.body).getD .skip
noncomputable def ZP:Code:=cA (cA (cB (cA (cB (cB (adk))))))
noncomputable def nC:Code:=cB (cB (b41))
def aaZ:dM:=⟨[0,1,5,15,16,17,74000003],[(5,SS)],[0,1,5],[],[4],[]⟩
def pJ:dM:=⟨[4,6,7,900002],[(7,.pair .unit tyD)],[6],[],[6],[]⟩
def ayY:dM:=⟨[0,2,4,6],[],[],[],[],[]⟩
def JS:SQ:=⟨us [.ptr 0 0,.v cu,.u,.u,.u,.slc 2800005,.u,.u,.u,.u,.u,.u,.u,.u,.u,.v (.list SS),.v cu,.v cu] 36,[us [.ptr 0 0,.u,.v cu,.u,.ptr 1000004 0,.u,.ptr 1000006 0,.u,.u,.u,.u,.u,.u,.u,.ptr 0 0,.v cu] 91,[.ptr 0 0]],[.arr 2800005 SS,.box 1000006 25 [.v cu,.v cu,.v cu,.v cu,.v .str,.v .bool,.v .str,.v cu,.v cu],.box 1000004 25 [.v cu,.v cu,.v cu,.v cu,.v .str,.v .bool,.v .str,.v cu,.v cu],.box 0 52 [.v .str,.v cu,.v cu,.v (.list SS),.v cu,.v cu,.v cu,.v .bool,.v .bool]]⟩
def LG:SQ:=⟨us [.ptr 0 0,.v cu,.u,.u,.u,.slc 2800005] 48,[us [.ptr 0 0,.u,.v cu,.u,.ptr 1000004 0,.u,.ptr 1000006 0,.u,.u,.u,.u,.u,.u,.u,.ptr 0 0,.v cu] 91,[.ptr 0 0]],[.arr 2800005 SS,.box 1000006 25 [.v cu,.v cu,.v cu,.v cu,.v .str,.v .bool,.v .str,.v cu,.v cu],.box 1000004 25 [.v cu,.v cu,.v cu,.v cu,.v .str,.v .bool,.v .str,.v cu,.v cu],.box 0 52 [.v .str,.v cu,.v cu,.v (.list SS),.v cu,.v cu,.v cu,.v .bool,.v .bool]]⟩
def LK:SQ:=⟨us [] 54,[us [.ptr 0 0,.u,.v cu,.u,.ptr 1000004 0,.u,.ptr 1000006 0,.u,.u,.u,.u,.u,.u,.u,.ptr 0 0,.v cu] 91,[.ptr 0 0]],[]⟩
def jB (v1:List qh) (v3:Int):=dN v1 (0,(0,(0,(false,())))) v3
def FP {γ:Type} (rec:Int->(List qh)->Int->Int->Int->Int->(List qh)->Int->Int->Int->Int->bK->Bool->bK->Int->Int->Int->Int->Int->Int->bK->Bool->bK->Int->Int->bK->Int->Int->(List qh)->Int->Int->Int->Bool->Bool->Option γ) (kE:Int->Int->Int->(List qh)->Int->Int->Int->Int->bK->Bool->bK->Int->Int->Int->Int->Int->Int->bK->Bool->bK->Int->Int->bK->Int->Int->(List qh)->Int->Int->Int->Bool->Bool->Option γ) (kR:Int->Int->Option γ) (v0:Int) (v1:List qh) (v2 v3 v4 v5:Int) (v6:List qh) (v7 v8 v9 v10:Int) (v11:bK) (v12:Bool) (v13:bK) (v14 v15 v16 v17 v18 v19:Int) (v20:bK) (v21:Bool) (v22:bK) (v23 v24:Int) (v25:bK) (v26 v27:Int) (v28:List qh) (v29 v30 v31:Int) (v32 v33:Bool):Option γ:=bif(iw v3 v2)then bif(gI v1 v3)then bif(leI (jB v1 v3).2.2.1 v0)then bif(eH (bT v6 [((jB v1 v3).1,((jB v1 v3).2.1,((jB v1 v3).2.2.1,((jB v1 v3).2.2.2.1,()))))]) 32)then rec v0 v1 v2 (bU .i64 v3 1) v4 v5 (bT v6 [((jB v1 v3).1,((jB v1 v3).2.1,((jB v1 v3).2.2.1,((jB v1 v3).2.2.2.1,()))))]) v7 v8 v9 v10 v11 v12 v13 v14 v15 v16 v17 v18 v19 v20 v21 v22 v23 v24 v25 v26 v27 v28 v29 v30 v31 v32 v33 else none else rec v0 v1 v2 (bU .i64 v3 1) v4 v5 v6 v7 v8 v9 v10 v11 v12 v13 v14 v15 v16 v17 v18 v19 v20 v21 v22 v23 v24 v25 v26 v27 v28 v29 v30 v31 v32 v33 else none else kE v0 v4 v5 v6 v7 v8 v9 v10 v11 v12 v13 v14 v15 v16 v17 v18 v19 v20 v21 v22 v23 v24 v25 v26 v27 v28 v29 v30 v31 v32 v33
def vS:Nat->Int->(List qh)->Int->Int->Int->Int->(List qh)->Int->Int->Int->Int->bK->Bool->bK->Int->Int->Int->Int->Int->Int->bK->Bool->bK->Int->Int->bK->Int->Int->(List qh)->Int->Int->Int->Bool->Bool->Option (LG.den⊕LK.den)
 |0,_,_,_,_,_,_,_,_,_,_,_,_,_,_,_,_,_,_,_,_,_,_,_,_,_,_,_,_,_,_,_,_,_,_=>none
 |n+1,v0,v1,v2,v3,v4,v5,v6,v7,v8,v9,v10,v11,v12,v13,v14,v15,v16,v17,v18,v19,v20,v21,v22,v23,v24,v25,v26,v27,v28,v29,v30,v31,v32,v33=>FP (vS n) (fun e0 e1 e2 e3 e4 e5 e6 e7 e8 e9 e10 e11 e12 e13 e14 e15 e16 e17 e18 e19 e20 e21 e22 e23 e24 e25 e26 e27 e28 e29 e30=>some (.inl ((e0,()),((e1,e2,()),(),()),(e3,(e4,e5,e6,e7,e8,e9,e10,e11,e12,()),(e13,e14,e15,e16,e17,e18,e19,e20,e21,()),(e22,e23,e24,e25,e26,e27,e28,e29,e30,()),())))) (fun r0 r1=>some (.inr ((),((r0,r1,()),(),()),()))) v0 v1 v2 v3 v4 v5 v6 v7 v8 v9 v10 v11 v12 v13 v14 v15 v16 v17 v18 v19 v20 v21 v22 v23 v24 v25 v26 v27 v28 v29 v30 v31 v32 v33
def akK (n:Nat) (v:JS.den):=vS n v.1.1 v.1.2.1 v.1.2.2.1 v.1.2.2.2.1 v.2.1.1.1 v.2.1.1.2.1 v.2.2.1 v.2.2.2.1.1 v.2.2.2.1.2.1 v.2.2.2.1.2.2.1 v.2.2.2.1.2.2.2.1 v.2.2.2.1.2.2.2.2.1 v.2.2.2.1.2.2.2.2.2.1 v.2.2.2.1.2.2.2.2.2.2.1 v.2.2.2.1.2.2.2.2.2.2.2.1 v.2.2.2.1.2.2.2.2.2.2.2.2.1 v.2.2.2.2.1.1 v.2.2.2.2.1.2.1 v.2.2.2.2.1.2.2.1 v.2.2.2.2.1.2.2.2.1 v.2.2.2.2.1.2.2.2.2.1 v.2.2.2.2.1.2.2.2.2.2.1 v.2.2.2.2.1.2.2.2.2.2.2.1 v.2.2.2.2.1.2.2.2.2.2.2.2.1 v.2.2.2.2.1.2.2.2.2.2.2.2.2.1 v.2.2.2.2.2.1.1 v.2.2.2.2.2.1.2.1 v.2.2.2.2.2.1.2.2.1 v.2.2.2.2.2.1.2.2.2.1 v.2.2.2.2.2.1.2.2.2.2.1 v.2.2.2.2.2.1.2.2.2.2.2.1 v.2.2.2.2.2.1.2.2.2.2.2.2.1 v.2.2.2.2.2.1.2.2.2.2.2.2.2.1 v.2.2.2.2.2.1.2.2.2.2.2.2.2.2.1
noncomputable def U5:dC:=fO aaZ JS LG LK (.exit 0) (akK bP) 6
def Ia:SQ:=⟨us [.u,.u,.u,.u,.ptr 1000004 0,.u,.ptr 1000006 0,.v uu] 99,[[.ptr 0 0]],[.box 1000006 25 [.v cu,.v cu,.v cu,.v cu,.v .str,.v .bool,.v .str,.v cu,.v cu],.box 1000004 25 [.v cu,.v cu,.v cu,.v cu,.v .str,.v .bool,.v .str,.v cu,.v cu],.box 0 52 [.v .str,.v cu,.v cu,.v (.list SS),.v cu,.v cu,.v cu,.v .bool,.v .bool]]⟩
def tX:SQ:=⟨[],[[.ptr 0 0]],[]⟩
def tY:SQ:=⟨us [.u,.u,.u,.u,.u,.u,.ptr 1000006 0] 100,[[.ptr 0 0]],[.box 1000006 25 [.v cu,.v cu,.v cu,.v cu,.v .str,.v .bool,.v .str,.v cu,.v cu],.box 0 52 [.v .str,.v cu,.v cu,.v (.list SS),.v cu,.v cu,.v cu,.v .bool,.v .bool]]⟩
def sJ {γ:Type} (y0:((List gB)×Unit)) (y1:BZ) (v0:List gq) (kR:Int->Int->Int->Int->bK->Bool->bK->Int->Int->bK->Int->Int->(List qh)->Int->Int->Int->Bool->Bool->Option γ) (v10 v12 v13:Int) (v14:bK) (v15:Bool) (v16:bK) (v17 v18:Int) (v19:bK) (v20 v21:Int) (v22:List qh) (v23 v24 v25:Int) (v26 v27:Bool):Option γ:=bif(gI y0.1 (dN y0.1 (0,(0,(0,(0,())))) y1.1).2.2.2.1)then bz (atb v0 (dN y0.1 (0,(0,(0,(0,())))) (dN y0.1 (0,(0,(0,(0,())))) y1.1).2.2.2.1)) fun y3=>bif(bM y3.1 4)then kR v10 4 v12 v13 v14 v15 v16 v17 v18 v19 v20 v21 v22 v23 v24 v25 v26 v27 else bif(bM y3.1 5)then kR v10 4 v12 v13 v14 v15 v16 v17 v18 v19 v20 v21 v22 v23 v24 v25 v26 v27 else kR v10 3 v12 v13 v14 v15 v16 v17 v18 v19 v20 v21 v22 v23 v24 v25 v26 v27 else none
def yu {γ:Type} (kE:Option γ) (kR:Int->Int->Int->Int->bK->Bool->bK->Int->Int->bK->Int->Int->(List qh)->Int->Int->Int->Bool->Bool->Option γ) (v0:List gq) (v1 v2 v3 v4:Int) (v5:bK) (v6:Bool) (v7:bK) (v8 v9 v10 v11 v12 v13:Int) (v14:bK) (v15:Bool) (v16:bK) (v17 v18:Int) (v19:bK) (v20 v21:Int) (v22:List qh) (v23 v24 v25:Int) (v26 v27:Bool):Option γ:=bz (aaF v0) fun y0=>bz (ata y0.1 (ed .i64 (bC v0) 1)) fun y1=>bif(gI y0.1 y1.1)then bif(bM (dN y0.1 (0,(0,(0,(0,())))) y1.1).1 6)then bif(gI y0.1 y1.1)then bif(!(bM (dN y0.1 (0,(0,(0,(0,())))) y1.1).1 7))then kR v10 5 v12 v13 v14 v15 v16 v17 v18 v19 v20 v21 v22 v23 v24 v25 v26 v27 else bif(gI y0.1 y1.1)then bz (aor y0.1 (dN y0.1 (0,(0,(0,(0,())))) y1.1).2.2.2.1 y1.1) fun y2=>bif(gI y0.1 (dN y0.1 (0,(0,(0,(0,())))) y1.1).2.2.2.1)then bif(bM (dN y0.1 (0,(0,(0,(0,())))) (dN y0.1 (0,(0,(0,(0,())))) y1.1).2.2.2.1).1 5)then bif(iw 0 y2.1)then bif(gI y0.1 y2.2.1)then bif(gI v0 (dN y0.1 (0,(0,(0,(0,())))) y2.2.1).2.1)then bz (NW (dN v0 (0,([],(0,(0,())))) (dN y0.1 (0,(0,(0,(0,())))) y2.2.1).2.1).2.1) fun y3=>kR v10 2 v12 v13 v14 v15 y3.1 y2.1 v18 v19 v20 v21 v22 v23 v24 v25 v26 v27 else none else none else kR v10 1 v12 v13 v14 v15 v16 v17 v18 v19 v20 v21 v22 v23 v24 v25 v26 v27 else bif(bM (dN y0.1 (0,(0,(0,(0,())))) (dN y0.1 (0,(0,(0,(0,())))) y1.1).2.2.2.1).1 8)then sJ y0 y1 v0 kR v10 v12 v13 v14 v15 v16 v17 v18 v19 v20 v21 v22 v23 v24 v25 v26 v27 else bif(bM (dN y0.1 (0,(0,(0,(0,())))) (dN y0.1 (0,(0,(0,(0,())))) y1.1).2.2.2.1).1 13)then bif(bM y2.1 0)then kR v10 6 v12 v13 v14 v15 v16 v17 v18 v19 v20 v21 v22 v23 v24 v25 v26 v27 else kR v10 7 v12 v13 v14 v15 v16 v17 v18 v19 v20 v21 v22 v23 v24 v25 v26 v27 else bif(bM (dN y0.1 (0,(0,(0,(0,())))) (dN y0.1 (0,(0,(0,(0,())))) y1.1).2.2.2.1).1 14)then kR v10 7 v12 v13 v14 v15 v16 v17 v18 v19 v20 v21 v22 v23 v24 v25 v26 v27 else bif(bM (dN y0.1 (0,(0,(0,(0,())))) (dN y0.1 (0,(0,(0,(0,())))) y1.1).2.2.2.1).1 15)then kR v10 8 v12 v13 v14 v15 v16 v17 v18 v19 v20 v21 v22 v23 v24 v25 v26 v27 else kR v10 5 v12 v13 v14 v15 v16 v17 v18 v19 v20 v21 v22 v23 v24 v25 v26 v27 else none else none else none else bif(gI y0.1 y1.1)then bif(!(bM (dN y0.1 (0,(0,(0,(0,())))) y1.1).1 7))then kR v10 9 v12 v13 v14 v15 v16 v17 v18 v19 v20 v21 v22 v23 v24 v25 v26 v27 else bif(gI y0.1 y1.1)then bz (aor y0.1 (dN y0.1 (0,(0,(0,(0,())))) y1.1).2.2.2.1 y1.1) fun y2=>bif(gI y0.1 (dN y0.1 (0,(0,(0,(0,())))) y1.1).2.2.2.1)then bif(bM (dN y0.1 (0,(0,(0,(0,())))) (dN y0.1 (0,(0,(0,(0,())))) y1.1).2.2.2.1).1 5)then bif(iw 0 y2.1)then bif(gI y0.1 y2.2.1)then bif(gI v0 (dN y0.1 (0,(0,(0,(0,())))) y2.2.1).2.1)then bz (NW (dN v0 (0,([],(0,(0,())))) (dN y0.1 (0,(0,(0,(0,())))) y2.2.1).2.1).2.1) fun y3=>kR v10 2 v12 v13 v14 v15 y3.1 y2.1 v18 v19 v20 v21 v22 v23 v24 v25 v26 v27 else none else none else kR v10 1 v12 v13 v14 v15 v16 v17 v18 v19 v20 v21 v22 v23 v24 v25 v26 v27 else bif(bM (dN y0.1 (0,(0,(0,(0,())))) (dN y0.1 (0,(0,(0,(0,())))) y1.1).2.2.2.1).1 8)then sJ y0 y1 v0 kR v10 v12 v13 v14 v15 v16 v17 v18 v19 v20 v21 v22 v23 v24 v25 v26 v27 else bif(bM (dN y0.1 (0,(0,(0,(0,())))) (dN y0.1 (0,(0,(0,(0,())))) y1.1).2.2.2.1).1 13)then bif(bM y2.1 0)then kR v10 6 v12 v13 v14 v15 v16 v17 v18 v19 v20 v21 v22 v23 v24 v25 v26 v27 else kR v10 7 v12 v13 v14 v15 v16 v17 v18 v19 v20 v21 v22 v23 v24 v25 v26 v27 else bif(bM (dN y0.1 (0,(0,(0,(0,())))) (dN y0.1 (0,(0,(0,(0,())))) y1.1).2.2.2.1).1 14)then kR v10 7 v12 v13 v14 v15 v16 v17 v18 v19 v20 v21 v22 v23 v24 v25 v26 v27 else bif(bM (dN y0.1 (0,(0,(0,(0,())))) (dN y0.1 (0,(0,(0,(0,())))) y1.1).2.2.2.1).1 15)then kR v10 8 v12 v13 v14 v15 v16 v17 v18 v19 v20 v21 v22 v23 v24 v25 v26 v27 else kR v10 9 v12 v13 v14 v15 v16 v17 v18 v19 v20 v21 v22 v23 v24 v25 v26 v27 else none else none else none else none
def nK (v0:List gq) (v1 v2 v3 v4:Int) (v5:bK) (v6:Bool) (v7:bK) (v8 v9 v10 v11 v12 v13:Int) (v14:bK) (v15:Bool) (v16:bK) (v17 v18:Int) (v19:bK) (v20 v21:Int) (v22:List qh) (v23 v24 v25:Int) (v26 v27:Bool):Option (tX.den⊕tY.den):=yu (some (.inl ((),((),()),()))) (fun r0 r1 r2 r3 r4 r5 r6 r7 r8 r9 r10 r11 r12 r13 r14 r15 r16 r17=>some (.inr ((),((),()),((r0,r1,r2,r3,r4,r5,r6,r7,r8,()),(r9,r10,r11,r12,r13,r14,r15,r16,r17,()),())))) v0 v1 v2 v3 v4 v5 v6 v7 v8 v9 v10 v11 v12 v13 v14 v15 v16 v17 v18 v19 v20 v21 v22 v23 v24 v25 v26 v27
noncomputable def DK:dC:=fO pJ Ia tX tY (.exit 0) (fun v=>nK v.1.1 v.2.2.1.1 v.2.2.1.2.1 v.2.2.1.2.2.1 v.2.2.1.2.2.2.1 v.2.2.1.2.2.2.2.1 v.2.2.1.2.2.2.2.2.1 v.2.2.1.2.2.2.2.2.2.1 v.2.2.1.2.2.2.2.2.2.2.1 v.2.2.1.2.2.2.2.2.2.2.2.1 v.2.2.2.1.1 v.2.2.2.1.2.1 v.2.2.2.1.2.2.1 v.2.2.2.1.2.2.2.1 v.2.2.2.1.2.2.2.2.1 v.2.2.2.1.2.2.2.2.2.1 v.2.2.2.1.2.2.2.2.2.2.1 v.2.2.2.1.2.2.2.2.2.2.2.1 v.2.2.2.1.2.2.2.2.2.2.2.2.1 v.2.2.2.2.1.1 v.2.2.2.2.1.2.1 v.2.2.2.2.1.2.2.1 v.2.2.2.2.1.2.2.2.1 v.2.2.2.2.1.2.2.2.2.1 v.2.2.2.2.1.2.2.2.2.2.1 v.2.2.2.2.1.2.2.2.2.2.2.1 v.2.2.2.2.1.2.2.2.2.2.2.2.1 v.2.2.2.2.1.2.2.2.2.2.2.2.2.1) 12
def Bv:SQ:=⟨us [.u,.u,.u,.u,.ptr 1000004 0,.u,.ptr 1000006 0] 100,[[.ptr 0 0]],[]⟩
def rX:SQ:=⟨[],[[.ptr 0 0]],[]⟩
def rY:SQ:=⟨us [] 107,[[.ptr 0 0]],[]⟩
def zl {γ:Type} (kE kR:Option γ):Option γ:=none
def rV:Option (rX.den⊕rY.den):=zl (some (.inl ((),((),()),()))) (some (.inr ((),((),()),())))
noncomputable def yL:dC:=fO pJ Bv rX rY (.exit 0) (fun v=>rV) 18
def adU (y4:tX.den⊕tY.den):Option taI:=dL y4 (fun a5=>none) (fun b5=>some ((b5.2.2.2.1.1,(b5.2.2.2.1.2.1,(b5.2.2.2.1.2.2.1,(b5.2.2.2.1.2.2.2.1,(b5.2.2.2.1.2.2.2.2.1,(b5.2.2.2.1.2.2.2.2.2.1,(b5.2.2.2.1.2.2.2.2.2.2.1,(b5.2.2.2.1.2.2.2.2.2.2.2.1,(b5.2.2.2.1.2.2.2.2.2.2.2.2.1,()))))))))),((b5.2.2.1.1,(b5.2.2.1.2.1,(b5.2.2.1.2.2.1,(b5.2.2.1.2.2.2.1,(b5.2.2.1.2.2.2.2.1,(b5.2.2.1.2.2.2.2.2.1,(b5.2.2.1.2.2.2.2.2.2.1,(b5.2.2.1.2.2.2.2.2.2.2.1,(b5.2.2.1.2.2.2.2.2.2.2.2.1,()))))))))),())))
def as5 (x0:bK) (x1 x2:Int) (x3:List qh) (x4 x5 x6:Int) (x7 x8:Bool) (x9:Int×Int×Int×Int×bK×(Bool×bK×jJ)) (x10:Int):Option taI:=bz (vS bP x10 x3 (bC x3) 0 x10 x10 [] 0 0 0 0 [] false [] 0 0 x9.1 x9.2.1 x9.2.2.1 x9.2.2.2.1 x9.2.2.2.2.1 x9.2.2.2.2.2.1 x9.2.2.2.2.2.2.1 x9.2.2.2.2.2.2.2.1 x9.2.2.2.2.2.2.2.2.1 x0 x1 x2 x3 x4 x5 x6 x7 x8) fun y0=>dL y0 (fun a1=>bif(fF (bC a1.2.2.2.2.2.1.1) a1.1.1 (bC a1.2.2.2.2.2.1.1))then bz (Qc (sub a1.2.2.2.2.2.1.1 a1.1.1 (bC a1.2.2.2.2.2.1.1))) fun y2=>bif y2.2.2.1 then bif(kC y2.1 [61])then bz (UG a1.2.2.2.2.2.1.1 a1.2.2.1) fun y3=>bif(eH (bT y3.1 [(6,((bT y2.1 [61]),(0,(0,()))))]) 40)then bz (nK (bT y3.1 [(6,((bT y2.1 [61]),(0,(0,()))))]) a1.2.2.2.1.1 a1.2.2.2.1.2.1 a1.2.2.2.1.2.2.1 a1.2.2.2.1.2.2.2.1 a1.2.2.2.1.2.2.2.2.1 a1.2.2.2.1.2.2.2.2.2.1 a1.2.2.2.1.2.2.2.2.2.2.1 a1.2.2.2.1.2.2.2.2.2.2.2.1 a1.2.2.2.1.2.2.2.2.2.2.2.2.1 a1.2.2.2.2.1.1 a1.2.2.2.2.1.2.1 a1.2.2.2.2.1.2.2.1 a1.2.2.2.2.1.2.2.2.1 a1.2.2.2.2.1.2.2.2.2.1 a1.2.2.2.2.1.2.2.2.2.2.1 a1.2.2.2.2.1.2.2.2.2.2.2.1 a1.2.2.2.2.1.2.2.2.2.2.2.2.1 a1.2.2.2.2.1.2.2.2.2.2.2.2.2.1 a1.2.2.2.2.2.1.1 a1.2.2.2.2.2.1.2.1 a1.2.2.2.2.2.1.2.2.1 a1.2.2.2.2.2.1.2.2.2.1 a1.2.2.2.2.2.1.2.2.2.2.1 a1.2.2.2.2.2.1.2.2.2.2.2.1 a1.2.2.2.2.2.1.2.2.2.2.2.2.1 a1.2.2.2.2.2.1.2.2.2.2.2.2.2.1 a1.2.2.2.2.2.1.2.2.2.2.2.2.2.2.1) fun y4=>adU y4 else none else none else bz (UG a1.2.2.2.2.2.1.1 a1.2.2.1) fun y3=>bif(eH (bT y3.1 [(6,([95],(0,(0,()))))]) 40)then bz (nK (bT y3.1 [(6,([95],(0,(0,()))))]) a1.2.2.2.1.1 a1.2.2.2.1.2.1 a1.2.2.2.1.2.2.1 a1.2.2.2.1.2.2.2.1 a1.2.2.2.1.2.2.2.2.1 a1.2.2.2.1.2.2.2.2.2.1 a1.2.2.2.1.2.2.2.2.2.2.1 a1.2.2.2.1.2.2.2.2.2.2.2.1 a1.2.2.2.1.2.2.2.2.2.2.2.2.1 a1.2.2.2.2.1.1 a1.2.2.2.2.1.2.1 a1.2.2.2.2.1.2.2.1 a1.2.2.2.2.1.2.2.2.1 a1.2.2.2.2.1.2.2.2.2.1 a1.2.2.2.2.1.2.2.2.2.2.1 a1.2.2.2.2.1.2.2.2.2.2.2.1 a1.2.2.2.2.1.2.2.2.2.2.2.2.1 a1.2.2.2.2.1.2.2.2.2.2.2.2.2.1 a1.2.2.2.2.2.1.1 a1.2.2.2.2.2.1.2.1 a1.2.2.2.2.2.1.2.2.1 a1.2.2.2.2.2.1.2.2.2.1 a1.2.2.2.2.2.1.2.2.2.2.1 a1.2.2.2.2.2.1.2.2.2.2.2.1 a1.2.2.2.2.2.1.2.2.2.2.2.2.1 a1.2.2.2.2.2.1.2.2.2.2.2.2.2.1 a1.2.2.2.2.2.1.2.2.2.2.2.2.2.2.1) fun y4=>adU y4 else none else none) (fun b1=>bz rV fun y2=>dL y2 (fun a3=>none) (fun b3=>none))
def awL:gY:=⟨52,tzB,[.pair cu tyF,cu],[.pair cu tyF],fun x y=>as5 x.1 x.2.1 x.2.2.1 x.2.2.2.1 x.2.2.2.2.1 x.2.2.2.2.2.1 x.2.2.2.2.2.2.1 x.2.2.2.2.2.2.2.1 x.2.2.2.2.2.2.2.2.1 y.1 y.2.1⟩
noncomputable def Ci:Env:=eu prog tt [(40,arE),(74,awT),(75,awU),(76,awV),(77,awW),(111,afp),(112,aqF)] [(73,3,aaZ),(41,800002,pJ),(41,600001,ayY)] [(73,3,U5),(41,800002,jK DK yL)] []
def Vy {γ:Type} (a:JS.den->Option γ) (b:LG.den->Option γ) (c:LK.den->Option γ) (v:JS.den):Option γ:=FP (fun v0 v1 v2 v3 v4 v5 v6 v7 v8 v9 v10 v11 v12 v13 v14 v15 v16 v17 v18 v19 v20 v21 v22 v23 v24 v25 v26 v27 v28 v29 v30 v31 v32 v33=>a ((v0,v1,v2,v3,()),((v4,v5,()),(),()),(v6,(v7,v8,v9,v10,v11,v12,v13,v14,v15,()),(v16,v17,v18,v19,v20,v21,v22,v23,v24,()),(v25,v26,v27,v28,v29,v30,v31,v32,v33,()),()))) (fun e0 e1 e2 e3 e4 e5 e6 e7 e8 e9 e10 e11 e12 e13 e14 e15 e16 e17 e18 e19 e20 e21 e22 e23 e24 e25 e26 e27 e28 e29 e30=>b ((e0,()),((e1,e2,()),(),()),(e3,(e4,e5,e6,e7,e8,e9,e10,e11,e12,()),(e13,e14,e15,e16,e17,e18,e19,e20,e21,()),(e22,e23,e24,e25,e26,e27,e28,e29,e30,()),()))) (fun r0 r1=>c ((),((r0,r1,()),(),()),())) v.1.1 v.1.2.1 v.1.2.2.1 v.1.2.2.2.1 v.2.1.1.1 v.2.1.1.2.1 v.2.2.1 v.2.2.2.1.1 v.2.2.2.1.2.1 v.2.2.2.1.2.2.1 v.2.2.2.1.2.2.2.1 v.2.2.2.1.2.2.2.2.1 v.2.2.2.1.2.2.2.2.2.1 v.2.2.2.1.2.2.2.2.2.2.1 v.2.2.2.1.2.2.2.2.2.2.2.1 v.2.2.2.1.2.2.2.2.2.2.2.2.1 v.2.2.2.2.1.1 v.2.2.2.2.1.2.1 v.2.2.2.2.1.2.2.1 v.2.2.2.2.1.2.2.2.1 v.2.2.2.2.1.2.2.2.2.1 v.2.2.2.2.1.2.2.2.2.2.1 v.2.2.2.2.1.2.2.2.2.2.2.1 v.2.2.2.2.1.2.2.2.2.2.2.2.1 v.2.2.2.2.1.2.2.2.2.2.2.2.2.1 v.2.2.2.2.2.1.1 v.2.2.2.2.2.1.2.1 v.2.2.2.2.2.1.2.2.1 v.2.2.2.2.2.1.2.2.2.1 v.2.2.2.2.2.1.2.2.2.2.1 v.2.2.2.2.2.1.2.2.2.2.2.1 v.2.2.2.2.2.1.2.2.2.2.2.2.1 v.2.2.2.2.2.1.2.2.2.2.2.2.2.1 v.2.2.2.2.2.1.2.2.2.2.2.2.2.2.1
theorem akR:eQ Ci 73 ZP U5:=oG (Vy) (h2:=by intros;simp only[Vy,FP,dm,dn,bu,dh,dw,jB])
theorem TY {R:Type} (d:Nat) (K:Ex->St->Option R) (v0:List gq) (v1:Int) (v2:Int) (v3:Int) (v4:Int) (v5:bK) (v6:Bool) (v7:bK) (v8:Int) (v9:Int) (v10:Int) (v11:Int) (v12:Int) (v13:Int) (v14:bK) (v15:Bool) (v16:bK) (v17:Int) (v18:Int) (v19:bK) (v20:Int) (v21:Int) (v22:List qh) (v23:Int) (v24:Int) (v25:Int) (v26:Bool) (v27:Bool):
  iter (some pJ) (yD (vz Ci (d+12) 41 nC)) 1 (ku Ia ((v0,()),((),()),((v1,v2,v3,v4,v5,v6,v7,v8,v9,()),(v10,v11,v12,v13,v14,v15,v16,v17,v18,()),(v19,v20,v21,v22,v23,v24,v25,v26,v27,()),()))) K=
   yu (K (.exit 0) (ku tX ((),((),()),()))) (fun r0 r1 r2 r3 r4 r5 r6 r7 r8 r9 r10 r11 r12 r13 r14 r15 r16 r17=>K .ret (ku tY ((),((),()),((r0,r1,r2,r3,r4,r5,r6,r7,r8,()),(r9,r10,r11,r12,r13,r14,r15,r16,r17,()),())))) v0 v1 v2 v3 v4 v5 v6 v7 v8 v9 v10 v11 v12 v13 v14 v15 v16 v17 v18 v19 v20 v21 v22 v23 v24 v25 v26 v27:=by kernel_rfl
theorem aaW {R:Type} (d:Nat) (K:Ex->St->Option R) (v0:List gq) (v1:Int) (v2:Int) (v3:Int) (v4:Int) (v5:bK) (v6:Bool) (v7:bK) (v8:Int) (v9:Int) (v10:Int) (v11:Int) (v12:Int) (v13:Int) (v14:bK) (v15:Bool) (v16:bK) (v17:Int) (v18:Int) (v19:bK) (v20:Int) (v21:Int) (v22:List qh) (v23:Int) (v24:Int) (v25:Int) (v26:Bool) (v27:Bool):
  iter (some pJ) (yD (vz Ci (d+12) 41 nC)) 1 (ku Ia ((v0,()),((),()),((v1,v2,v3,v4,v5,v6,v7,v8,v9,()),(v10,v11,v12,v13,v14,v15,v16,v17,v18,()),(v19,v20,v21,v22,v23,v24,v25,v26,v27,()),()))) K=bz (nK v0 v1 v2 v3 v4 v5 v6 v7 v8 v9 v10 v11 v12 v13 v14 v15 v16 v17 v18 v19 v20 v21 v22 v23 v24 v25 v26 v27) fun o=>dL o (fun a=>K (.exit 0) (ku tX a)) fun b=>K .ret (ku tY b):=by
  rw[TY];simp only[nK,yu,dm,dn,bu,dh,dw,sJ]
  try simp only[dL]
theorem ab2:qO Ci 41 nC DK:=Ux (by kernel_rfl) fun R d K v o h=>⟨1,(aaW d K (v.1.1) (v.2.2.1.1) (v.2.2.1.2.1) (v.2.2.1.2.2.1) (v.2.2.1.2.2.2.1) (v.2.2.1.2.2.2.2.1) (v.2.2.1.2.2.2.2.2.1) (v.2.2.1.2.2.2.2.2.2.1) (v.2.2.1.2.2.2.2.2.2.2.1) (v.2.2.1.2.2.2.2.2.2.2.2.1) (v.2.2.2.1.1) (v.2.2.2.1.2.1) (v.2.2.2.1.2.2.1) (v.2.2.2.1.2.2.2.1) (v.2.2.2.1.2.2.2.2.1) (v.2.2.2.1.2.2.2.2.2.1) (v.2.2.2.1.2.2.2.2.2.2.1) (v.2.2.2.1.2.2.2.2.2.2.2.1) (v.2.2.2.1.2.2.2.2.2.2.2.2.1) (v.2.2.2.2.1.1) (v.2.2.2.2.1.2.1) (v.2.2.2.2.1.2.2.1) (v.2.2.2.2.1.2.2.2.1) (v.2.2.2.2.1.2.2.2.2.1) (v.2.2.2.2.1.2.2.2.2.2.1) (v.2.2.2.2.1.2.2.2.2.2.2.1) (v.2.2.2.2.1.2.2.2.2.2.2.2.1) (v.2.2.2.2.1.2.2.2.2.2.2.2.2.1)).trans (congrArg (fun o=>bz o _) h)⟩
theorem Oa {R:Type} (d:Nat) (K:Ex->St->Option R):
  iter (some pJ) (yD (vz Ci (d+18) 41 nC)) 1 (ku Bv ((),((),()),())) K=
   zl (K (.exit 0) (ku rX ((),((),()),()))) (K .ret (ku rY ((),((),()),()))):=by kernel_rfl
theorem Tt {R:Type} (d:Nat) (K:Ex->St->Option R):
  iter (some pJ) (yD (vz Ci (d+18) 41 nC)) 1 (ku Bv ((),((),()),())) K=bz (rV) fun o=>dL o (fun a=>K (.exit 0) (ku rX a)) fun b=>K .ret (ku rY b):=by
  rw[Oa];simp only[rV,zl,dm,dn,bu,dh,dw]
  try simp only[dL]
theorem TP:qO Ci 41 nC yL:=Ux (by kernel_rfl) fun R d K v o h=>⟨1,(Tt d K).trans (congrArg (fun o=>bz o _) h)⟩
theorem aCr:jf b41=[]:=by kernel_rfl
theorem aA7:EZ Ci 41 b41=[nC]:=by kernel_rfl
theorem aCF:dO Ci 41 b41:=xN b41 (fun x _ hx=>absurd (show false=true from hx) (by decide)) (by rw[aCr];exact aN) (A7 (by rw[aA7];exact(aD (fun L h=>by rw[show(Ci).lp 41 (800000+cZ nC)=some (jK DK yL) by kernel_rfl]at h;cases h;exact amB ab2 TP) aN)))
theorem apd:dO Ci 73 adk:=wK [ZP] (aD (fM (akR)) aN)
theorem anb:dB Ci:=eB (aD acM (aD arQ (aD arR (aD arS (aD arT (aD VG (aD ak7 aN))))))) [41,73] (aD ⟨f41,b41,by kernel_rfl,by kernel_rfl,aCF⟩ (aD ⟨f73,adk,by kernel_rfl,by kernel_rfl,apd⟩ aN))
theorem arF:eX prog 41 awL:=sB anb
noncomputable def b19:Code:=(f19.body).getD .skip
noncomputable def avE:Code:=cA (cA (cB (cB (cA (cB (b19))))))
def av2:dM:=⟨[2,3,100002],[(3,.pair (.list .bool) .unit)],[],[],[2],[]⟩
def ayR:dM:=⟨[0,2],[],[],[],[],[]⟩
def atC:dM:=⟨[2,3,4,8],[],[],[],[],[]⟩
def ag7:SP:=⟨us [.u,.u,.ptr 1000002 0,.ptr 1800003 0] 103,[.box 1800003 52 [.v .str,.v cu,.v cu,.v (.list SS),.v cu,.v cu,.v cu,.v .bool,.v .bool],.box 1000002 25 [.v cu,.v cu,.v cu,.v cu,.v .str,.v .bool,.v .str,.v cu,.v cu]]⟩
def aeL:SP:=⟨[],[]⟩
def aeY:SP:=⟨us [.u,.u,.ptr 1000002 0] 104,[.box 1000002 25 [.v cu,.v cu,.v cu,.v cu,.v .str,.v .bool,.v .str,.v cu,.v cu]]⟩
def J6 {γ:Type} (y1:(taP×BZ)) (y4:(jJ×Bool×Unit)) (y3:BZ) (rec:bK->Int->Int->(List qh)->Int->Int->Int->Bool->Bool->Int->Int->Int->Int->bK->Bool->bK->Int->Int->Option γ) (v9 v10 v11 v12:Int) (v13:bK) (v14:Bool) (v15:bK) (v16 v17:Int):Option γ:=bif(fF (bC y1.1.1) (bU .i64 (bU .i64 y1.2.1 y4.1.2.1) 2) (bC y1.1.1))then bif(fF (bC y1.1.1) (bU .i64 (bU .i64 y1.2.1 y4.1.2.1) 2) (bC y1.1.1))then bz (as9 (sub y1.1.1 (bU .i64 (bU .i64 y1.2.1 y4.1.2.1) 2) (bC y1.1.1))) fun y5=>bif(gU y1.1.1 y1.1.1)then bif(bM (bU .i64 (bU .i64 y1.2.1 y4.1.2.1) 2) (bU .i64 (bU .i64 y1.2.1 y4.1.2.1) 2))then bif(fF (bC y1.1.1) (bU .i64 (bU .i64 y1.2.1 y4.1.2.1) 2) (bC y1.1.1))then bif(gU (sub y1.1.1 (bU .i64 (bU .i64 y1.2.1 y4.1.2.1) 2) (bC y1.1.1)) (sub y1.1.1 (bU .i64 (bU .i64 y1.2.1 y4.1.2.1) 2) (bC y1.1.1)))then bif(bM y1.1.2.1 y1.1.2.1)then bif(bM (bU .i64 (bU .i64 y1.2.1 y4.1.2.1) 2) (bU .i64 (bU .i64 y1.2.1 y4.1.2.1) 2))then bif(bM (bU .i64 y1.1.2.1 (bU .i64 (bU .i64 y1.2.1 y4.1.2.1) 2)) (bU .i64 y1.1.2.1 (bU .i64 (bU .i64 y1.2.1 y4.1.2.1) 2)))then bif(bM (bU .i64 y1.1.2.2.1 y3.1) (bU .i64 y1.1.2.2.1 y3.1))then bif(gU y1.1.1 y1.1.1)then bif(bM (bU .i64 (bU .i64 y1.2.1 y4.1.2.1) 2) (bU .i64 (bU .i64 y1.2.1 y4.1.2.1) 2))then bif(gU y1.1.1 y1.1.1)then bif(bM (bU .i64 (bU .i64 y1.2.1 y4.1.2.1) 2) (bU .i64 (bU .i64 y1.2.1 y4.1.2.1) 2))then bif(fF (bC y1.1.1) (bU .i64 (bU .i64 y1.2.1 y4.1.2.1) 2) (bC y1.1.1))then bif(gU (sub y1.1.1 (bU .i64 (bU .i64 y1.2.1 y4.1.2.1) 2) (bC y1.1.1)) (sub y1.1.1 (bU .i64 (bU .i64 y1.2.1 y4.1.2.1) 2) (bC y1.1.1)))then bif(bM y1.1.2.1 y1.1.2.1)then bif(bM (bU .i64 (bU .i64 y1.2.1 y4.1.2.1) 2) (bU .i64 (bU .i64 y1.2.1 y4.1.2.1) 2))then bif(bM (bU .i64 y1.1.2.1 (bU .i64 (bU .i64 y1.2.1 y4.1.2.1) 2)) (bU .i64 y1.1.2.1 (bU .i64 (bU .i64 y1.2.1 y4.1.2.1) 2)))then bif(bM (bU .i64 y1.1.2.2.1 y3.1) (bU .i64 y1.1.2.2.1 y3.1))then bif(gU y1.1.1 y1.1.1)then bif(bM (bU .i64 (bU .i64 y1.2.1 y4.1.2.1) 2) (bU .i64 (bU .i64 y1.2.1 y4.1.2.1) 2))then bif(fF (bC y1.1.1) (bU .i64 (bU .i64 y1.2.1 y4.1.2.1) 2) (bC y1.1.1))then bif(gU (sub y1.1.1 (bU .i64 (bU .i64 y1.2.1 y4.1.2.1) 2) (bC y1.1.1)) (sub y1.1.1 (bU .i64 (bU .i64 y1.2.1 y4.1.2.1) 2) (bC y1.1.1)))then bz (ake (sub y1.1.1 (bU .i64 (bU .i64 y1.2.1 y4.1.2.1) 2) (bC y1.1.1)) (bU .i64 y1.1.2.1 (bU .i64 (bU .i64 y1.2.1 y4.1.2.1) 2)) (bU .i64 y1.1.2.2.1 y3.1) y5.1 0 0 0 false false) fun y6=>rec y6.1.1 y6.1.2.1 y6.1.2.2.1 y6.1.2.2.2.1 y6.1.2.2.2.2.1 y6.1.2.2.2.2.2.1 y6.1.2.2.2.2.2.2.1 y6.1.2.2.2.2.2.2.2.1 y6.1.2.2.2.2.2.2.2.2.1 v9 v10 v11 v12 v13 v14 v15 v16 v17 else none else none else none else none else none else none else none else none else none else none else none else none else none else none else none else none else none else none else none else none else none else none else none else none
def J7 {γ:Type} (y4:(jJ×Bool×Unit)) (y1:(taP×BZ)) (y3:BZ) (kR:Int->Int->Int->Int->bK->Bool->bK->Int->Int->Option γ) (y2:((List jJ)×Bool×Unit)):Option γ:=bif y4.2.1 then bz (as2 y1.1.1 y1.1.2.1 (bU .i64 y1.1.2.2.1 y3.1) y1.1.2.2.2.1 y1.1.2.2.2.2.1 y1.1.2.2.2.2.2.1 y1.1.2.2.2.2.2.2.1 y1.1.2.2.2.2.2.2.2.1 y1.1.2.2.2.2.2.2.2.2.1 (y4.1.1,(y4.1.2.1,())) (sub y1.1.1 y1.2.1 (bC y1.1.1))) fun y5=>kR y5.2.1.1 y5.2.1.2.1 y5.2.1.2.2.1 y5.2.1.2.2.2.1 y5.2.1.2.2.2.2.1 y5.2.1.2.2.2.2.2.1 y5.2.1.2.2.2.2.2.2.1 y5.2.1.2.2.2.2.2.2.2.1 y5.2.1.2.2.2.2.2.2.2.2.1 else bz (as3 (sub y1.1.1 y1.2.1 (bC y1.1.1))) fun y5=>bif(!(gU y5.1 []))then bz (aaD y1.1.1 y1.1.2.1 (bU .i64 y1.1.2.2.1 y3.1) y1.1.2.2.2.1 y1.1.2.2.2.2.1 y1.1.2.2.2.2.2.1 y1.1.2.2.2.2.2.2.1 y1.1.2.2.2.2.2.2.2.1 y1.1.2.2.2.2.2.2.2.2.1 y5.1) fun y6=>kR y6.2.1.1 y6.2.1.2.1 y6.2.1.2.2.1 y6.2.1.2.2.2.1 y6.2.1.2.2.2.2.1 y6.2.1.2.2.2.2.2.1 y6.2.1.2.2.2.2.2.2.1 y6.2.1.2.2.2.2.2.2.2.1 y6.2.1.2.2.2.2.2.2.2.2.1 else bz (as4 y2.1) fun y6=>bif(bM y1.1.2.1 y1.1.2.1)then bif(bM y1.2.1 y1.2.1)then bif(bM (bU .i64 y1.1.2.1 y1.2.1) (bU .i64 y1.1.2.1 y1.2.1))then bif(PW EG y2.1 y2.1)then bif(bM (bU .i64 y1.1.2.2.1 y3.1) (bU .i64 y1.1.2.2.1 y3.1))then bif(((PW EG y2.1 y2.1)&&true)&&((bM y6.1 y6.1)&&true))then bif((bM 1 1)&&((bM 0 0)&&((bM (bU .i64 y1.1.2.1 y1.2.1) (bU .i64 y1.1.2.1 y1.2.1))&&((bM y6.1 y6.1)&&((gU [] [])&&((Oc false false)&&((gU [] [])&&((bM 0 0)&&((bM (bU .i64 y1.1.2.2.1 y3.1) (bU .i64 y1.1.2.2.1 y3.1))&&true)))))))))then bz (NW (sub y1.1.1 y1.2.1 (bC y1.1.1))) fun y7=>bz (as5 y1.1.1 y1.1.2.1 (bU .i64 y1.1.2.2.1 y3.1) y1.1.2.2.2.1 y1.1.2.2.2.2.1 y1.1.2.2.2.2.2.1 y1.1.2.2.2.2.2.2.1 y1.1.2.2.2.2.2.2.2.1 y1.1.2.2.2.2.2.2.2.2.1 (1,(0,((bU .i64 y1.1.2.1 y1.2.1),(y6.1,(y7.1,(y7.2.1,([],(0,((bU .i64 y1.1.2.2.1 y3.1),()))))))))) y1.2.1) fun y8=>kR y8.2.1.1 y8.2.1.2.1 y8.2.1.2.2.1 y8.2.1.2.2.2.1 y8.2.1.2.2.2.2.1 y8.2.1.2.2.2.2.2.1 y8.2.1.2.2.2.2.2.2.1 y8.2.1.2.2.2.2.2.2.2.1 y8.2.1.2.2.2.2.2.2.2.2.1 else none else none else none else none else none else none else none
def Y1 {γ:Type} (rec:bK->Int->Int->(List qh)->Int->Int->Int->Bool->Bool->Int->Int->Int->Int->bK->Bool->bK->Int->Int->Option γ) (kE:Option γ) (kR:Int->Int->Int->Int->bK->Bool->bK->Int->Int->Option γ) (v0:bK) (v1 v2:Int) (v3:List qh) (v4 v5 v6:Int) (v7 v8:Bool) (v9 v10 v11 v12:Int) (v13:bK) (v14:Bool) (v15:bK) (v16 v17:Int):Option γ:=bz (aol v0 v1 v2 v3 v4 v5 v6 v7 v8) fun y0=>bif y0.2.1 then bz (adR y0.1.1 y0.1.2.1 y0.1.2.2.1 y0.1.2.2.2.1 y0.1.2.2.2.2.1 y0.1.2.2.2.2.2.1 y0.1.2.2.2.2.2.2.1 y0.1.2.2.2.2.2.2.2.1 y0.1.2.2.2.2.2.2.2.2.1 4) fun y1=>kR y1.2.1.1 y1.2.1.2.1 y1.2.1.2.2.1 y1.2.1.2.2.2.1 y1.2.1.2.2.2.2.1 y1.2.1.2.2.2.2.2.1 y1.2.1.2.2.2.2.2.2.1 y1.2.1.2.2.2.2.2.2.2.1 y1.2.1.2.2.2.2.2.2.2.2.1 else bif(bM y0.1.2.2.2.2.1 3)then bz (adR y0.1.1 y0.1.2.1 y0.1.2.2.1 y0.1.2.2.2.1 y0.1.2.2.2.2.1 y0.1.2.2.2.2.2.1 y0.1.2.2.2.2.2.2.1 y0.1.2.2.2.2.2.2.2.1 y0.1.2.2.2.2.2.2.2.2.1 3) fun y1=>kR y1.2.1.1 y1.2.1.2.1 y1.2.1.2.2.1 y1.2.1.2.2.2.1 y1.2.1.2.2.2.2.1 y1.2.1.2.2.2.2.2.1 y1.2.1.2.2.2.2.2.2.1 y1.2.1.2.2.2.2.2.2.2.1 y1.2.1.2.2.2.2.2.2.2.2.1 else bz (aom y0.1.1 y0.1.2.1 y0.1.2.2.1 y0.1.2.2.2.1 y0.1.2.2.2.2.1 y0.1.2.2.2.2.2.1 y0.1.2.2.2.2.2.2.1 y0.1.2.2.2.2.2.2.2.1 y0.1.2.2.2.2.2.2.2.2.1) fun y1=>bif(fF (bC y1.1.1) y1.2.1 (bC y1.1.1))then bz (akc (sub y1.1.1 y1.2.1 (bC y1.1.1))) fun y2=>bz (asZ y2.1) fun y3=>bz (as1 y2.1) fun y4=>bif y4.2.1 then bif(bM y4.1.1 1)then J6 y1 y4 y3 rec v9 v10 v11 v12 v13 v14 v15 v16 v17 else bif(bM y4.1.1 3)then J6 y1 y4 y3 rec v9 v10 v11 v12 v13 v14 v15 v16 v17 else J7 y4 y1 y3 kR y2 else J7 y4 y1 y3 kR y2 else none
def KT:Nat->bK->Int->Int->(List qh)->Int->Int->Int->Bool->Bool->Int->Int->Int->Int->bK->Bool->bK->Int->Int->Option (aeL.den⊕aeY.den)
 |0,_,_,_,_,_,_,_,_,_,_,_,_,_,_,_,_,_,_=>none
 |n+1,v0,v1,v2,v3,v4,v5,v6,v7,v8,v9,v10,v11,v12,v13,v14,v15,v16,v17=>Y1 (KT n) (some (.inl ((),()))) (fun r0 r1 r2 r3 r4 r5 r6 r7 r8=>some (.inr ((),((r0,r1,r2,r3,r4,r5,r6,r7,r8,()),())))) v0 v1 v2 v3 v4 v5 v6 v7 v8 v9 v10 v11 v12 v13 v14 v15 v16 v17
def azD (n:Nat) (v:ag7.den):=KT n v.2.1.1 v.2.1.2.1 v.2.1.2.2.1 v.2.1.2.2.2.1 v.2.1.2.2.2.2.1 v.2.1.2.2.2.2.2.1 v.2.1.2.2.2.2.2.2.1 v.2.1.2.2.2.2.2.2.2.1 v.2.1.2.2.2.2.2.2.2.2.1 v.2.2.1.1 v.2.2.1.2.1 v.2.2.1.2.2.1 v.2.2.1.2.2.2.1 v.2.2.1.2.2.2.2.1 v.2.2.1.2.2.2.2.2.1 v.2.2.1.2.2.2.2.2.2.1 v.2.2.1.2.2.2.2.2.2.2.1 v.2.2.1.2.2.2.2.2.2.2.2.1
noncomputable def apg:dC:=iD av2 ag7 aeL aeY (.exit 0) (azD bP) 6
def asW (x0:bK):Option ((Int×Int×Int×Int×bK×(Bool×bK×jJ))×Unit):=bz (aoo x0) fun y0=>bz (ake x0 0 0 y0.1 0 0 0 false y0.2.1.2.2.1) fun y1=>bz (KT bP y1.1.1 y1.1.2.1 y1.1.2.2.1 y1.1.2.2.2.1 y1.1.2.2.2.2.1 y1.1.2.2.2.2.2.1 y1.1.2.2.2.2.2.2.1 y1.1.2.2.2.2.2.2.2.1 y1.1.2.2.2.2.2.2.2.2.1 0 0 0 0 [] false [] 0 0) fun y2=>dL y2 (fun a3=>none) (fun b3=>some ((b3.2.1.1,(b3.2.1.2.1,(b3.2.1.2.2.1,(b3.2.1.2.2.2.1,(b3.2.1.2.2.2.2.1,(b3.2.1.2.2.2.2.2.1,(b3.2.1.2.2.2.2.2.2.1,(b3.2.1.2.2.2.2.2.2.2.1,(b3.2.1.2.2.2.2.2.2.2.2.1,()))))))))),()))
def awy:Sum:=⟨[.str],[(.pair cu tyF,false)],fun x=>asW x.1⟩
noncomputable def amP:Env:=eu prog tt [(22,ah6),(33,awG),(34,awH),(37,awJ),(39,awK),(40,arE),(42,arG),(66,awS)] [(19,2,av2),(19,600001,ayR),(19,600012,atC)] [(19,2,apg)] [] [(21,arb),(23,ark),(32,arx),(36,awI),(38,arC),(41,awL),(43,arH)]
def ap6 {γ:Type} (a:ag7.den->Option γ) (b:aeL.den->Option γ) (c:aeY.den->Option γ) (v:ag7.den):Option γ:=Y1 (fun v0 v1 v2 v3 v4 v5 v6 v7 v8 v9 v10 v11 v12 v13 v14 v15 v16 v17=>a ((),((v0,v1,v2,v3,v4,v5,v6,v7,v8,()),(v9,v10,v11,v12,v13,v14,v15,v16,v17,()),()))) (b ((),())) (fun r0 r1 r2 r3 r4 r5 r6 r7 r8=>c ((),((r0,r1,r2,r3,r4,r5,r6,r7,r8,()),()))) v.2.1.1 v.2.1.2.1 v.2.1.2.2.1 v.2.1.2.2.2.1 v.2.1.2.2.2.2.1 v.2.1.2.2.2.2.2.1 v.2.1.2.2.2.2.2.2.1 v.2.1.2.2.2.2.2.2.2.1 v.2.1.2.2.2.2.2.2.2.2.1 v.2.2.1.1 v.2.2.1.2.1 v.2.2.1.2.2.1 v.2.2.1.2.2.2.1 v.2.2.1.2.2.2.2.1 v.2.2.1.2.2.2.2.2.1 v.2.2.1.2.2.2.2.2.2.1 v.2.2.1.2.2.2.2.2.2.2.1 v.2.2.1.2.2.2.2.2.2.2.2.1
theorem az2:eQ amP 19 avE apg:=QF (ap6) (h2:=by intros;simp only[ap6,Y1,dm,dn,bu,dh,dw,J6,J7])
theorem aCy:dO amP 19 b19:=wK [avE] (aD (fM (az2)) aN)
theorem amQ:dB amP:=eB (aD Sj (aD ary (aD arz (aD arB (aD arD (aD acM (aD acN (aD arP aN)))))))) [19] (aD ⟨f19,b19,by kernel_rfl,by kernel_rfl,aCy⟩ aN) (hx:=(aD acI (aD acJ (aD acK (aD arA (aD acL (aD arF (aD acO aN))))))))
theorem ara:dU prog 19 awy:=sA amQ
def WI (x0:bK) (x1:Int):Option ((Int×Int×Int×Int×bK×(Bool×bK×jJ))×Int×Unit):=bif(iw x1 0)then some ((0,(0,(0,(0,([],(false,([],(0,(0,()))))))))),(1,()))else bif(iw (bC x0) x1)then some ((0,(0,(0,(0,([],(false,([],(0,(0,()))))))))),(1,()))else bif(fF (bC x0) 0 x1)then bz (asW (sub x0 0 x1)) fun y0=>some ((y0.1.1,(y0.1.2.1,(y0.1.2.2.1,(y0.1.2.2.2.1,(y0.1.2.2.2.2.1,(y0.1.2.2.2.2.2.1,(y0.1.2.2.2.2.2.2.1,(y0.1.2.2.2.2.2.2.2.1,(y0.1.2.2.2.2.2.2.2.2.1,()))))))))),(0,()))else none
def VC:Sum:=⟨[.str,cu],[(.pair cu tyF,false),(.int .i64,false)],fun x=>WI x.1 x.2.1⟩
noncomputable def aBd:Env:=fZ prog tt 10 [(19,awy)] [] []
theorem amJ:dB aBd:=eA f10 (aD ara aN)
theorem Ew:dU prog 10 VC:=sA amJ
noncomputable def b24:Code:=(f24.body).getD .skip
noncomputable def avG:Code:=cA (cA (cB (cA (cB (cB (b24))))))
def av4:dM:=⟨[3,9,10,11,100003],[],[3],[],[2],[]⟩
def ag9:SP:=⟨us [.u,.u,.u,.slc 1000008,.u,.u,.u,.u,.u,.v (.list EG),.v cu,.v cu] 23,[.arr 1000008 (.int .u8)]⟩
def aeN:SP:=⟨us [.u,.u,.u,.slc 1000008] 31,[.arr 1000008 (.int .u8)]⟩
def ae0:SP:=⟨us [.u,.u,.v .str] 32,[]⟩
def Y3 {γ:Type} (rec:(List jJ)->Int->Int->gW->Option γ) (kE:gW->Option γ) (kR:bK->Option γ) (v0:List jJ) (v1 v2:Int) (v3:gW):Option γ:=bif(iw v2 v1)then bif(gI v0 v2)then bif(iw (dN v0 (0,(0,())) v2).1 0)then bif(eH (bT v3 [63]) 1)then rec v0 v1 (bU .i64 v2 1) (bT v3 [63])else none else bif(leI 15 (dN v0 (0,(0,())) v2).1)then bif(eH (bT v3 [63]) 1)then rec v0 v1 (bU .i64 v2 1) (bT v3 [63])else none else bif(gI [84,67,80,79,83,68,66,86,73,65,82,69,76,88,35] (dN v0 (0,(0,())) v2).1)then bif(eH (bT v3 [(bV [84,67,80,79,83,68,66,86,73,65,82,69,76,88,35] (dN v0 (0,(0,())) v2).1)]) 1)then rec v0 v1 (bU .i64 v2 1) (bT v3 [(bV [84,67,80,79,83,68,66,86,73,65,82,69,76,88,35] (dN v0 (0,(0,())) v2).1)])else none else none else none else kE v3
def KU:Nat->(List jJ)->Int->Int->gW->Option (aeN.den⊕ae0.den)
 |0,_,_,_,_=>none
 |n+1,v0,v1,v2,v3=>Y3 (KU n) (fun e0=>some (.inl ((),(e0,())))) (fun r0=>some (.inr ((r0,()),()))) v0 v1 v2 v3
def azF (n:Nat) (v:ag9.den):=KU n v.1.1 v.1.2.1 v.1.2.2.1 v.2.1
noncomputable def api:dC:=iD av4 ag9 aeN ae0 (.exit 0) (azF bP) 6
def asX (x0:List jJ):Option Zv:=bif((leI 0 0)&&((leI 0 (bC x0))&&(ap2 (bC x0) 1)))then bz (KU bP x0 (bC x0) 0 (aCZ (dA 0) 0)) fun y0=>dL y0 (fun a1=>some ((ofBytes a1.2.1),())) (fun b1=>some (b1.1.1,()))else none
def awz:Sum:=⟨[.list EG],tzF,fun x=>asX x.1⟩
noncomputable def amV:Env:=fZ prog tt 24 [] [(3,av4)] [(3,api)]
def ap8 {γ:Type} (a:ag9.den->Option γ) (b:aeN.den->Option γ) (c:ae0.den->Option γ) (v:ag9.den):Option γ:=Y3 (fun v0 v1 v2 v3=>a ((v0,v1,v2,()),(v3,()))) (fun e0=>b ((),(e0,()))) (fun r0=>c ((r0,()),())) v.1.1 v.1.2.1 v.1.2.2.1 v.2.1
theorem az4:eQ amV 24 avG api:=QF (ap8) (h2:=by intros;simp only[ap8,Y3,dm,dn,bu,dh,dw])
theorem aCA:dO amV 24 b24:=wK [avG] (aD (fM (az4)) aN)
theorem amW:dB amV:=eA f24 aN (aCA)
theorem arq:dU prog 24 awz:=sA amW
def ayQ:dM:=⟨[0,1],[],[],[],[],[]⟩
def aoh (x0:bK) (x1:Int):Option (bK×Int×Unit):=bif(iw x1 0)then some ([],(1,()))else bif(iw (bC x0) x1)then some ([],(1,()))else bif(fF (bC x0) 0 x1)then bz (aoo (sub x0 0 x1)) fun y0=>bz (ake (sub x0 0 x1) 0 0 y0.1 0 0 0 false y0.2.1.2.2.1) fun y1=>bz (aol y1.1.1 y1.1.2.1 y1.1.2.2.1 y1.1.2.2.2.1 y1.1.2.2.2.2.1 y1.1.2.2.2.2.2.1 y1.1.2.2.2.2.2.2.1 y1.1.2.2.2.2.2.2.2.1 y1.1.2.2.2.2.2.2.2.2.1) fun y2=>bif y2.2.1 then some ([72],(0,()))else bif(bM y2.1.2.2.2.2.1 3)then some ([84,35],(0,()))else bz (aom y2.1.1 y2.1.2.1 y2.1.2.2.1 y2.1.2.2.2.1 y2.1.2.2.2.2.1 y2.1.2.2.2.2.2.1 y2.1.2.2.2.2.2.2.1 y2.1.2.2.2.2.2.2.2.1 y2.1.2.2.2.2.2.2.2.2.1) fun y3=>bif(gU y3.1.1 y2.1.1)then bif(fF (bC y2.1.1) y3.2.1 (bC y2.1.1))then bz (akc (sub y2.1.1 y3.2.1 (bC y2.1.1))) fun y4=>bif(gU y3.1.1 y2.1.1)then bz (asX y4.1) fun y5=>some (y5.1,(0,()))else none else none else none else none
def awv:Sum:=⟨[.str,cu],[(.str,false),(.int .i64,false)],fun x=>aoh x.1 x.2.1⟩
noncomputable def aBe:Env:=eu prog tt [(22,ah6),(24,awz),(42,arG)] [(11,600003,ayQ)] [] [] [(21,arb),(23,ark),(43,arH)]
theorem amK:dB aBe:=eB (aD Sj (aD arq (aD acN aN))) [] aN (hx:=(aD acI (aD acJ (aD acO aN))))
theorem aqK:dU prog 11 awv:=sA amK
end
section
open Bool renaming not_true → au
open Int renaming eq_ofNat_of_zero_le → bi
open List renaming length_append → ag, length_singleton → ay, length_cons → aB, drop_eq_getElem_cons → aF, nil_append → aH, drop_of_length_le → aJ, length_map → aK, drop_zero → aS, getElem_mem → aU, length_drop → aX
open Nat renaming le_trans → aO
open Go.RowKit
def Rz (c:Ctx) (r:Int):Ctx:=(c.1,(r,(c.2.2.1,(c.2.2.2.1,(c.2.2.2.2.1,(c.2.2.2.2.2.1,(c.2.2.2.2.2.2.1,(c.2.2.2.2.2.2.2.1,(c.2.2.2.2.2.2.2.2.1,())))))))))
def aC2 (c:Ctx) (t:bK) (n:Int):Ctx:=(c.1,(2,(c.2.2.1,(c.2.2.2.1,(c.2.2.2.2.1,(c.2.2.2.2.2.1,(t,(n,(c.2.2.2.2.2.2.2.2.1,())))))))))
def Vu (V:bK->bK) (c:Ctx) (f:List Lf) (l:List Nd):Ctx:=
 let i:=um l (bC f-1) l.length
 let n:=dN l Aq i
 if n.1=6 then Rz c 5 else if n.1≠7 then Rz c 9 else
 let a:=CX l i (AZ n.2.2.2.1 l 0) 0 i
 let u:=dN l Aq n.2.2.2.1
 if u.1=5 then(if 0<a.1 then aC2 c (V (dN f dLf (dN l Aq a.2).2.1).2.1) a.1 else Rz c 1)
 else if u.1=8 then(if aeK (sub f u.2.1 u.2.2.1)=4\/aeK (sub f u.2.1 u.2.2.1)=5 then Rz c 4 else Rz c 3)
 else if u.1=13 then(if a.1=0 then Rz c 6 else Rz c 7)
 else if u.1=14 then Rz c 7 else if u.1=15 then Rz c 8 else Rz c 9
abbrev Plc:=bK×Int×Int×(List Tok)×Int×Int×Int×Bool×Bool×Unit
theorem aaO {α:Type} {l:List α} {d:α} {i:Int} (h0:0<=i) (h1:i<l.length):dN l d i∈l:=by
 obtain⟨k,rfl⟩:=bi h0;rw[wF (by omega)];exact aU _
structure RT (f:List Lf) (l:List Nd):Prop where
 len:l.length<1000000
 hd: ∃m,l=(1,0,(f.length:Int),-1,())::m/\Tr 0 f.length 0 1 m
theorem RT.node {f:List Lf} {l:List Nd} (h:RT f l) {i:Int} (h0:0<=i) (h1:i<l.length):0<=(dN l Aq i).2.1/\(dN l Aq i).2.1<=(dN l Aq i).2.2.1/\(dN l Aq i).2.2.1<=f.length/\
  ((dN l Aq i).1=7->(dN l Aq i).2.2.1=(dN l Aq i).2.1+1/\0<=(dN l Aq i).2.2.2.1/\(dN l Aq i).2.2.2.1<l.length):=by
 obtain⟨hl,m,e,hT⟩:=h;have hm:=aaO (d:=Aq) h0 h1;generalize dN l Aq i=n at hm;subst e;rcases List.mem_cons.1 hm with e|hm
 ·subst e;refine⟨by simp,by simp,by simp,fun h=> ?_⟩;simp only at h;omega
 ·have:=hT.all (by omega) (by omega) n hm;have a:=this.f0;have b:=this.ft;have c:=this.t1;have d:=this.u0;have e:=this.u1;exact⟨by omega,b,c,fun h7=>⟨this.wd h7,d,by rw[aB];omega⟩⟩
theorem RT.cov {f:List Lf} {l:List Nd} (h:RT f l) (hf:f≠[]):0<=um l (bC f-1) l.length/\um l (bC f-1) l.length<l.length:=by
 obtain⟨hl,m,e,hT⟩:=h;have hp:0<f.length:=List.length_pos_iff.2 hf;rcases afL l (bC f-1) l.length with h|h
 ·exfalso;have: ∀k,0<k->k<=l.length->um l (bC f-1) k≠ -1:=by
   intro k
   induction k with
   |zero=>intro h;omega
   |succ k ih=>
    intro _ hk;rw[um];split
    ·omega
    ·rename_i hn
     by_cases hk0:k=0
     ·exfalso;apply hn;subst hk0;rw[show((0:Nat):Int)=0 from rfl,e,show dN ((1,0,(f.length:Int),-1,())::m) Aq 0=(1,0,(f.length:Int),-1,()) from rfl];simp only[bD];omega
     ·exact ih (by omega) (by omega)
  exact this l.length (by rw[e,aB];omega) (by omega) h
 ·exact⟨h.1,h.2.1⟩
theorem ap1 {f:List Lf} (hF:Zr f) (hf:f≠[]) {l:List Nd} (hp:aaF f=some (l,())) (hT:RT f l) {V:bK->List UInt8} (hV: ∀x∈f,∃b,NW x.2.1=some (V x.2.1,(b,()))) (c d:Ctx) (p:Plc):
  nK f d.1 d.2.1 d.2.2.1 d.2.2.2.1 d.2.2.2.2.1 d.2.2.2.2.2.1 d.2.2.2.2.2.2.1 d.2.2.2.2.2.2.2.1 d.2.2.2.2.2.2.2.2.1 c.1 c.2.1 c.2.2.1 c.2.2.2.1 c.2.2.2.2.1 c.2.2.2.2.2.1 c.2.2.2.2.2.2.1 c.2.2.2.2.2.2.2.1 c.2.2.2.2.2.2.2.2.1
   p.1 p.2.1 p.2.2.1 p.2.2.2.1 p.2.2.2.2.1 p.2.2.2.2.2.1 p.2.2.2.2.2.2.1 p.2.2.2.2.2.2.2.1 p.2.2.2.2.2.2.2.2.1=
   some (.inr ((),((),()),(Vu V c f l,p,()))):=by
 have hfl:=hF.len;have hL:ed .i64 (bC f) 1=bC f-1:=gG (by rw[bD];omega) (by rw[bD];omega);obtain⟨i0,i1⟩:=hT.cov hf;have hnd:=hT.node i0 i1
 (rewrite [nK,yu];delta sJ;rw[hp,bu])
 unfold Vu;simp only;rw[asi hT.len,bu,hL];simp only[show((0:Int),((0:Int),((0:Int),((0:Int),()))))=Aq from rfl];generalize um l (bC f-1) l.length=i at*;have hi:gI l i=true:=eP i0 i1;generalize hn:dN l Aq i=n at*;simp only[hi,cond_true];by_cases h6:n.1=6
 ·rw[bH (dQ h6),if_pos h6,dK (show n.1≠7 by omega)];rfl
 rw[cO (dK h6),if_neg h6];by_cases h7:n.1=7
 ·obtain⟨w1,u0,u1⟩:=hnd.2.2.2 h7;rw[dQ h7,if_neg (by simp[h7])];simp only[au,cond_false];have hk:=Xm n.2.2.2.1 l l 0 rfl (by omega);have ha:=VX l i (AZ n.2.2.2.1 l 0) 0 i (by omega) hk (by omega);rw[ash hT.len u0 u1,bu];simp only;generalize CX l i (AZ n.2.2.2.1 l 0) 0 i=a at*;have hun:=hT.node u0 u1;have hui:gI l n.2.2.2.1=true:=eP u0 u1;generalize dN l Aq n.2.2.2.1=u at*;simp only[hui,cond_true];by_cases h5:u.1=5
  ·rw[bH (dQ h5),if_pos h5];by_cases h0:0<a.1
   ·obtain⟨j,e,hj,hj7⟩:=ha.2.2 h0;have hjn:=hT.node (i:=a.2) (by omega) (by omega);have hw:=hjn.2.2.2 hj7;have hji:gI l a.2=true:=eP (by omega) (by omega);rw[bH (fJ h0),if_pos h0,bH hji];have hfi:gI f (dN l Aq a.2).2.1=true:=eP hjn.1 (by omega);rw[bH hfi];have hmem:=aaO (l:=f) (d:=dLf) (i:=(dN l Aq a.2).2.1) hjn.1 (by omega);obtain⟨b,hb⟩:=hV _ hmem;rw[show((0:Int),(([]:bK),((0:Int),((0:Int),()))))=dLf from rfl,hb,bu];rfl
   ·rw[cO (ig h0),if_neg h0];rfl
  rw[cO (dK h5),if_neg h5];by_cases h8:u.1=8
  ·rw[bH (dQ h8),if_pos h8,aAW (by omega) hun.1 hun.2.1 hun.2.2.1,bu];simp only;generalize aeK (sub f u.2.1 u.2.2.1)=o;by_cases o4:o=4
   ·rw[bH (dQ o4),if_pos (.inl o4)];rfl
   rw[cO (dK o4)];by_cases o5:o=5
   ·rw[bH (dQ o5),if_pos (.inr o5)];rfl
   rw[cO (dK o5),if_neg (by omega)];rfl
  rw[cO (dK h8),if_neg h8];by_cases h13:u.1=13
  ·rw[bH (dQ h13),if_pos h13];by_cases h0:a.1=0
   ·rw[bH (dQ h0),if_pos h0];rfl
   ·rw[cO (dK h0),if_neg h0];rfl
  rw[cO (dK h13),if_neg h13];by_cases h14:u.1=14
  ·rw[bH (dQ h14),if_pos h14];rfl
  rw[cO (dK h14),if_neg h14];by_cases h15:u.1=15
  ·rw[bH (dQ h15),if_pos h15];rfl
  rw[cO (dK h15),if_neg h15];rfl
 ·rw[dK h7,if_pos h7];rfl
theorem aiu {s:List UInt8} (hs:s.length<1000000): ∃y,Qc s=some (if iY s=true then sub s 0 (nl s:Int)else [],(y,(iY s,()))):=by
 have hle:nl s<=s.length:=by unfold nl;split;omega;exact CG EX s
 rw[Qc,QP hs,bu];simp only;by_cases h0:nl s=0
 ·exact⟨[],by rw[bH (dQ (by omega)),iY,decide_eq_false (fun h=>h.1 h0)];rfl⟩
 rw[cO (dK (by omega))];by_cases h1:nl s=s.length
 ·exact⟨[],by rw[bH (dQ (by rw[bD];omega)),iY,decide_eq_false (fun h=>by omega)];rfl⟩
 have h2:nl s<s.length:=by omega
 rw[cO (dK (by rw[bD];omega)),bH (eP (by omega) (by omega)),byte_at h2];have hg:s.getD (nl s) 0=s[nl s]:=by rw[List.getD_eq_getElem?_getD,List.getElem?_eq_getElem h2];rfl
 by_cases h3:s[nl s]=61
 ·rw[h3,show bM ((61:UInt8).toNat:Int) 61=true from rfl];simp only[au,cond_false];rw[bY (by omega) (by omega),bH (fK (by omega) (by omega) (by rw[bD];omega)),bH (fK (by omega) (by rw[bD];omega) (by omega))];exact⟨_,by rw[iY,decide_eq_true ⟨h0,h2⟩,hg,decide_eq_true h3];rfl⟩
 ·rw[dK (fun h=>h3 (UInt8.toNat_inj.1 (by have:((61:UInt8).toNat:Int)=61:=rfl;omega)))];exact⟨[],by rw[iY,hg,decide_eq_false h3,Bool.and_false];rfl⟩
def wTx (w:bK):bK:=if iY w=true then sub w 0 (nl w:Int)++[61]else [95]
def Zt (s:bK) (tk:List Tok) (b:Int):List Lf:=kM s (tk.filter fun t=>decide (t.2.2.1<=b))++[(6,(wTx (sub s b (bC s)),(0,(0,()))))]
theorem avx (w:bK):(wTx w).length<=w.length+1:=by
 unfold wTx;split
 ·have:=kW w 0 (nl w:Int);have hle:nl w<=w.length:=by unfold nl;split;omega;exact CG EX w
  rw[ag,ay];omega
 ·simp
theorem azR {s:List UInt8} (hs:s.length<=9000) {tk:List Tok} (ht:tk.length<=s.length) (b:Int) (h0:0<=b):Zr (Zt s tk b):=by
 refine⟨?_,fun f hf=> ?_⟩
 ·unfold Zt kM;rw[ag,aK,ay];have h1:=List.length_filter_le akr (tk.filter fun t=>decide (t.2.2.1<=b));have h2:=List.length_filter_le (fun t:Tok=>decide (t.2.2.1<=b)) tk;omega
 ·rcases List.mem_append.1 hf with h|h
  ·unfold kM at h;obtain⟨t,_,rfl⟩:=List.mem_map.1 h;have:=kW s t.2.1 t.2.2.1;unfold awh sub;simp only[List.length_take,aX];omega
  ·rw[List.mem_singleton.1 h];have h1:=avx (sub s b (bC s));have h2:=kW s b (bC s);rw[bD]at h2;simp only;rw[bD]at h1 ⊢;omega
theorem QL (tk:List Tok) (hk:tk.length<1000000) (b v4 v5 v7 v8 v9 v10:Int) (v11:bK) (v12:Bool) (v13:bK) (v14 v15:Int) (c:Ctx) (p:Plc): ∀(N k:Nat) (o:List Tok),tk.length-k<N->k<=tk.length->o.length<=k->
  vS N b tk (bC tk) (k:Int) v4 v5 o v7 v8 v9 v10 v11 v12 v13 v14 v15 c.1 c.2.1 c.2.2.1 c.2.2.2.1 c.2.2.2.2.1 c.2.2.2.2.2.1 c.2.2.2.2.2.2.1 c.2.2.2.2.2.2.2.1 c.2.2.2.2.2.2.2.2.1
   p.1 p.2.1 p.2.2.1 p.2.2.2.1 p.2.2.2.2.1 p.2.2.2.2.2.1 p.2.2.2.2.2.2.1 p.2.2.2.2.2.2.2.1 p.2.2.2.2.2.2.2.2.1=
  some (.inl ((b,()),((v4,v5,()),(),()),(o++(tk.drop k).filter (fun t=>decide (t.2.2.1<=b)),(v7,v8,v9,v10,v11,v12,v13,v14,v15,()),c,p,())))
 |0,k,o,h,_,_=>by omega
 |N+1,k,o,h,hk2,ho=>by
  (rewrite [vS,FP];delta jB)
  by_cases e:k<tk.length
  ·have ha:bU .i64 (k:Int) 1=((k+1:Nat):Int):=by rw[bY (by omega) (by omega)];omega
   rw[bH (fJ (by rw[bD];omega)),bH (eP (by omega) (by omega))];simp only[wF e,ha];rw[aF e,List.filter_cons];by_cases h1:tk[k].2.2.1<=b
   ·rw[bH (ou h1),if_pos (by simpa using h1),bH (Jd (by simp only[bT,ag,ay];omega))];have ih:=QL tk hk b v4 v5 v7 v8 v9 v10 v11 v12 v13 v14 v15 c p N (k+1) (bT o [tk[k]]) (by omega) (by omega) (by simp only[bT,ag,ay];omega);refine Eq.trans ih ?_;simp[bT]
   ·rw[cO (CB h1),if_neg (by simpa using h1)];exact QL tk hk b v4 v5 v7 v8 v9 v10 v11 v12 v13 v14 v15 c p N (k+1) o (by omega) (by omega) (by omega)
  ·rw[cO (ig (by rw[bD];omega)),aJ (by omega)];simp only[List.filter_nil,List.append_nil];rfl
theorem oEq {α β:Type} {o o':Option α} {k:α->Option β} (h:o=o'):bz o k=bz o' k:=by rw[h]
theorem Zy {s:List UInt8} (hs:s.length<=10000) {l:List Tok} (hl:l.length<=10000) (hok: ∀t∈l,OkT s t):UG s l=some (kM s l,()):=by
 have h:=Jo hs l hl hok bP 0 (dJ (by omega)) (by omega);rw[UG,show xO bP s l (bC l) 0 []=_ from h,bu];rfl
theorem axi {s:List UInt8} (hs:s.length<=9000) {tk:List Tok} (ht:tk.length<=s.length) (hok: ∀t∈tk,OkT s t) {b:Int} (h0:0<=b) (h1:b<=bC s) {V:bK->List UInt8} (hV: ∀w:bK,w.length<=10000-> ∃q,NW w=some (V w,(q,())))
  (x1 x2 x4 x5 x6:Int) (x7 x8:Bool) (c:Ctx): ∃l,aaF (Zt s tk b)=some (l,())/\RT (Zt s tk b) l/\
  as5 s x1 x2 tk x4 x5 x6 x7 x8 c b=some ((s,(x1,(x2,(tk,(x4,(x5,(x6,(x7,(x8,()))))))))),(Vu V c (Zt s tk b) l,())):=by
 have hF:=azR hs ht b h0;obtain⟨l,hp,hll,m,hm,hT⟩: ∃l,aaF (Zt s tk b)=some (l,())/\l.length<=16*(Zt s tk b).length+1/\ ∃m,l=(1,0,((Zt s tk b).length:Int),-1,())::m/\Tr 0 (Zt s tk b).length 0 1 m:=by
  obtain⟨l,a1,_,a3,a4⟩:=apK hF;exact⟨l,a1,a3,a4⟩
 have hFl:=hF.len;have hRT:RT (Zt s tk b) l:=⟨by omega,m,hm,hT⟩;refine⟨l,hp,hRT, ?_⟩;have hne:Zt s tk b≠[]:=by unfold Zt;simp
 have hVf: ∀x∈Zt s tk b,∃q,NW x.2.1=some (V x.2.1,(q,())):=fun x hx=>hV _ (hF.txt x hx);have hlv:=QL tk (by omega) b b b 0 0 0 0 [] false [] 0 0 c (s,x1,x2,tk,x4,x5,x6,x7,x8,()) bP 0 [] (dJ (by omega)) (by omega) (by simp)
 (rewrite [as5];delta adU;rw[show vS bP b tk (bC tk) 0 b b [] 0 0 0 0 [] false [] 0 0 c.1 c.2.1 c.2.2.1 c.2.2.2.1 c.2.2.2.2.1 c.2.2.2.2.2.1 c.2.2.2.2.2.2.1 c.2.2.2.2.2.2.2.1 c.2.2.2.2.2.2.2.2.1 s x1 x2 tk x4 x5 x6 x7 x8=_ from hlv,bu])
 simp only[dL,aS,aH];rw[bH (fK h0 h1 (by omega))];have hwl:=kW s b (bC s);rw[bD]at hwl;obtain⟨y,hy⟩:=aiu (s:=sub s b (bC s)) (by rw[bD];omega);rw[hy,bu];simp only;have hfl:=List.length_filter_le (fun t:Tok=>decide (t.2.2.1<=b)) tk;have hlf:UG s (tk.filter fun t=>decide (t.2.2.1<=b))=some (kM s (tk.filter fun t=>decide (t.2.2.1<=b)),()):=Zy (by omega) (aO (List.length_filter_le _ _) (by omega)) fun t h=>hok t (List.mem_filter.1 h).1;have hcut:=ap1 hF hne hp hRT hVf;have hfit:eH (Zt s tk b) 40=true:=Jd (by omega);have hlv2:kM s (tk.filter fun t=>decide (t.2.2.1<=b))++[(6,(wTx (sub s b (bC s)),(0,(0,()))))]=Zt s tk b:=rfl;unfold wTx at hlv2;by_cases ha:iY (sub s b (bC s))=true
 ·have hsl:=kW (sub s b (bC s)) 0 (nl (sub s b (bC s)):Int);have hle:nl (sub s b (bC s))<=(sub s b (bC s)).length:=by unfold nl;split;omega;exact CG EX _
  rw[if_pos ha]at hlv2 ⊢;rw[bH ha,bH (zh (by simp only[ay];rw[bD]at*;omega)),hlf,bu];simp only[bT]at hlv2 ⊢;rw[hlv2,bH hfit];exact(oEq (hcut c (0,0,0,0,[],false,[],0,0,()) (s,x1,x2,tk,x4,x5,x6,x7,x8,()))).trans rfl
 ·rw[if_neg ha]at hlv2 ⊢;rw[cO (by simpa using ha),hlf,bu];simp only[bT]at hlv2 ⊢;rw[hlv2,bH hfit];exact(oEq (hcut c (0,0,0,0,[],false,[],0,0,()) (s,x1,x2,tk,x4,x5,x6,x7,x8,()))).trans rfl
end
section
open Int renaming toNat_natCast → aQ
open List renaming length_append → ag, append_assoc → ai, map_cons → ax, length_singleton → ay, length_cons → aB, drop_eq_getElem_cons → aF, nil_append → aH, drop_of_length_le → aJ, drop_zero → aS, getElem_mem → aU, map_nil → aV
open Nat renaming le_trans → aO
open Go.RowKit
def Qk (u:bK) (k:Int) (op b:Bool):Bool:=b||(decide (k=7)&&(op|| !(bM (bV u (bC u-1)) 10)))
def gJ (u:bK) (t:Tok):Int:=if t.1=6 then t.2.1 else bC u
theorem ado (u:bK) (f d:Int) (l:List Tok) (hl:l.length<1000000) (b:Bool):
  ake u f d l 0 0 0 false b=some ((u,(f,(d,(l,((eF l).1,((eF l).2.1,((eF l).2.2.1,((eF l).2.2.2.1,(b,()))))))))),()):=by
 rw[ake];rcases List.eq_nil_or_concat l with h|⟨r,t,h⟩
 ·subst h;rfl
 ·rw[List.concat_eq_append]at h;subst h;obtain⟨h1,h2,h3⟩:=ao6 r t (by rw[ag]at hl;omega);rw[h1,cond_true,h2,cond_true];simp only[h3,Qw]
theorem agu (u:bK) (hu:u.length<1000000) (f d:Int) (l:List Tok) (k fr to_:Int) (op b:Bool) (h7:k=7->u≠[]):
  aol u f d l k fr to_ op b=some ((u,(f,(d,(l,(k,(fr,(to_,(op,(b,()))))))))),(Qk u k op b,())):=by
 rw[aol];unfold Qk;cases b with
 |true=>rfl
 |false=>
  rw[cond_false];by_cases h:k=7
  ·have hne:0<u.length:=List.length_pos_iff.2 (h7 h);rw[bH (dQ h)];cases op with
   |true=>simp[h]
   |false=>
    have hs:ed .i64 (bC u) 1=bC u-1:=gG (by rw[bD];omega) (by rw[bD];omega);rw[cond_false,hs,bH (eP (by rw[bD];omega) (by rw[bD];omega))];simp[h]
  ·rw[cO (dK h)];simp[h]
theorem aiq (u:bK) (f d:Int) (l:List Tok) (k fr to_:Int) (op b:Bool):
  aom u f d l k fr to_ op b=some ((u,(f,(d,(l,(k,(fr,(to_,(op,(b,()))))))))),(if k=6 then fr else bC u,())):=by
 rw[aom];by_cases h:k=6
 ·rw[bH (dQ h),if_pos h]
 ·rw[cO (dK h),if_neg h]
theorem asb {u:List UInt8} (hu:u.length<=10000):0<=gJ u (eF (lG u).1)/\gJ u (eF (lG u).1)<=bC u:=by
 unfold gJ;split
 ·rename_i h
  have:=UX hu (by omega);rw[bD];omega
 ·rw[bD];omega
theorem Ue (F:List uw) (hF:F.length<1000000) (hm: ∀f∈F,0<=f.1/\f.1<=14): ∀(N k:Nat) (t:bK),F.length-k<N->k<=F.length->t.length<=k->
  KU N F (bC F) (k:Int) (bI t)=some (.inl ((),(bI (t++(F.drop k).map fun f=>letter f.1),())))
 |0,k,t,h,_,_=>by omega
 |N+1,k,t,h,hk,ht=>by
  rw[KU,Y3];by_cases e:k<F.length
  ·have hg:dN F (0,(0,())) (k:Int)=F[k]:=by
    unfold dN;rw[aQ,List.getD_eq_getElem?_getD,List.getElem?_eq_getElem e];rfl
   obtain⟨m0,m1⟩:=hm _ (aU e);rw[bH (fJ (by rw[bD];omega)),bH (eP (by omega) (by omega)),hg,cO (iP m0),cO (Jm (by omega)),
    bH (eP m0 (by simp only[aB,List.length_nil];omega))]
   have hb:([bV [84,67,80,79,83,68,66,86,73,65,82,69,76,88,35] F[k].1]:List Int)=bI [letter F[k].1]:=rfl;rw[hb,jH,bH (pR (by rw[ag,ay];omega)),bY (by omega) (by omega),show(k:Int)+1=((k+1:Nat):Int) by omega,
    Ue F hF hm N (k+1) _ (by omega) (by omega) (by rw[ag,ay];omega),aF e,ax,ai]
   rfl
  ·rw[cO (ig (by rw[bD];omega)),aJ (by omega),aV,List.append_nil]
theorem axj {F:List uw} (hF:F.length<1000000) (hm: ∀f∈F,0<=f.1/\f.1<=14):asX F=some (F.map fun f=>letter f.1,()):=by
 have h:=Ue F hF hm bP 0 [] (dJ (by omega)) (by omega) (by simp);have hc:ap2 (bC F) 1=true:=by
  unfold ap2 ni bC;rw[aQ];exact decide_eq_true (by omega)
 rw[asX,hc,show(leI 0 0&&(leI 0 (bC F)&&true))=true by rw[ou (show(0:Int)<=bC F by rw[bD];omega)];rfl,cond_true,
  show KU bP F (bC F) 0 (aCZ (dA 0) 0)=_ from h,bu]
 simp only[dL,qB,aS,aH]
theorem aC5 (s:gm):(lo s).map (fun f=>letter f.1)=so s:=by
 unfold lo so;rw[List.map_reverse,List.map_map];rfl
def aqA (u:bK):bK:=if Qk u (eF (lG u).1).1 (eF (lG u).1).2.2.2.1 (lG u).2.2.2.1=true then [72]else if bM (eF (lG u).1).1 3=true then [84,35]else so (iG (sub u (gJ u (eF (lG u).1)) (bC u)) 0 dR).1
theorem afD {s:List UInt8} (hs:s.length<=10000) {c:Int} (h0:0<=c) (hc:c<=s.length):aoh s c=some (aqA (sub s 0 c),(0,())):=by
 have hu:(sub s 0 c).length<=10000:=aO (wX s 0 c) hs;rw[aoh,cO (iP h0),cO (iP (by rw[bD];omega)),bH (fK (by omega) h0 (by rw[bD];omega))];generalize sub s 0 c=u at hu;have hw:=asb hu;have hl:=wX u (gJ u (eF (lG u).1)) (bC u);have hk:=UX hu;have hlen:=(Om hu).2.2;rw[avD hu,bu];simp only;rw[ado u 0 0 _ (by omega),bu];simp only;rw[agu u (by omega) 0 0 _ _ _ _ _ _ (fun h=>(hk (by omega)).2.2),bu];unfold aqA;simp only;cases Qk u (eF (lG u).1).1 (eF (lG u).1).2.2.2.1 (lG u).2.2.2.1 with
 |true=>rfl
 |false=>
  rw[cond_false,if_neg (by simp)];cases bM (eF (lG u).1).1 3 with
  |true=>rfl
  |false=>
   have hww:(if(eF (lG u).1).1=6 then(eF (lG u).1).2.1 else bC u)=gJ u (eF (lG u).1):=rfl;rw[cond_false,if_neg (by simp),aiq,bu,hww];simp only;rw[lL,cond_true,bH (fK hw.1 hw.2 (by omega)),alX _ (by omega),bu,cond_true];have hg:=Dv (sub u (gJ u (eF (lG u).1)) (bC u)) 0 dR lZ;have hfl:dR.1.length=1:=rfl;have hm:=Hr hg.1;simp only;rw[axj (by rw[mf];omega) (fun f hf=>by
    unfold lo at hf;rw[List.mem_reverse,List.mem_map]at hf;obtain⟨g,hg1,rfl⟩:=hf;exact hm g hg1),bu,aC5]
end
section
open Bool renaming and_true → az
open Int renaming toNat_natCast → aQ
open List renaming length_append → ag, length_singleton → ay, eq_nil_of_length_eq_zero → bg
open Go.RowKit
def ar5 (f:List Lf):List Nd:=((aaF f).getD ([],())).1
def NV (V:bK->bK×Bool):Nat->bK->Int->Int->List Tok->Bool->Ctx
 |0,_,_,_,_,_=>(0,0,0,0,[],false,[],0,0,())
 |n+1,s,fr,dp,tk,bd=>
  if Qk s (eF tk).1 (eF tk).2.2.2.1 bd=true then LM s fr dp 4
  else if(eF tk).1=3 then LM s fr dp 3
  else match F8 (lo (iG (sub s (gJ s (eF tk)) (bC s)) 0 dR).1)with
   |some f=>if f.1=1\/f.1=3 then NV V n (sub s (gJ s (eF tk)+f.2.1+2) (bC s)) (fr+(gJ s (eF tk)+f.2.1+2)) (dp+xh (lo (iG (sub s (gJ s (eF tk)) (bC s)) 0 dR).1)) (abD (sub s (gJ s (eF tk)+f.2.1+2) (bC s))) false
    else MO s fr (dp+xh (lo (iG (sub s (gJ s (eF tk)) (bC s)) 0 dR).1)) f (sub s (gJ s (eF tk)) (bC s))
   |none=>if PQ (sub s (gJ s (eF tk)) (bC s))≠[]then Nq s fr (dp+xh (lo (iG (sub s (gJ s (eF tk)) (bC s)) 0 dR).1)) (PQ (sub s (gJ s (eF tk)) (bC s)))
    else Vu (fun x=>(V x).1) (1,0,fr+gJ s (eF tk),stF (lo (iG (sub s (gJ s (eF tk)) (bC s)) 0 dR).1),(V (sub s (gJ s (eF tk)) (bC s))).1,(V (sub s (gJ s (eF tk)) (bC s))).2,[],0,dp+xh (lo (iG (sub s (gJ s (eF tk)) (bC s)) 0 dR).1),())
     (Zt s tk (gJ s (eF tk))) (ar5 (Zt s tk (gJ s (eF tk))))
theorem agD {s:List UInt8} (hs:s.length<=10000) (v3 v4 v5:Int) (v6:Bool): ∀(N a:Nat) (l:List Tok),s.length-a<N->a<=s.length->l.length<=a->
  ∃r,KX N s (a:Int) l=some (.inl r)/\r=((),(DC s N a l,()))
 |0,a,l,h,_,_=>by omega
 |N+1,a,l,h,ha,hl=>by
  rw[KX,Y8,DC];by_cases e:a<s.length
  ·have hto:=wV hs e (0,[],false,());rw[bH (fJ (by rw[bD];omega)),alZ hs e (0,[],false,()) (fun h=>by cases h) (by simp),bu,if_pos e];simp only[fD,nD,Bool.and_self,az,cond_true];obtain⟨b,hb⟩: ∃b:Nat,(kV s a (0,[],false,())).1.2.2.1=(b:Int):=⟨(kV s a (0,[],false,())).1.2.2.1.toNat,by omega⟩;rw[bH (Jd (by simp only[bT,ag,ay];omega))];have ih:=agD hs v3 v4 v5 v6 N b (l++[(kV s a (0,[],false,())).1]) (by omega) (by omega) (by simp only[ag,ay];omega);rw[hb,aQ];obtain⟨r,e1,e2⟩:=ih;refine⟨r, ?_,e2⟩;rw[<-e1,<-hb];rfl
  ·rw[cO (ig (by rw[bD];omega)),if_neg e];exact⟨_,rfl,rfl⟩
theorem axe {s:List UInt8} (hs:s.length<=10000):as9 s=some (abD s,()):=by
 obtain⟨r,e1,e2⟩:=agD hs 0 0 0 false bP 0 [] (dJ (by omega)) (by omega) (by simp);rw[as9,show KX bP s 0 []=_ from e1,bu,e2];have hm:DC s bP 0 []=abD s:=UZ hs _ _ _ _ (by have:=dJ (n:=s.length) (by omega);omega) (by omega);rw[hm];rfl
theorem abB {l:List Tok} (h:(eF l).1≠0):eF l∈l:=by
 rcases List.eq_nil_or_concat l with e|⟨r,t,e⟩
 ·rw[e]at h;exact absurd rfl h
 ·rw[List.concat_eq_append]at e;rw[e,Qw];simp
theorem Zp {s:List UInt8} {tk:List Tok} (hok: ∀t∈tk,OkT s t):0<=gJ s (eF tk)/\gJ s (eF tk)<=bC s:=by
 unfold gJ;split
 ·rename_i h
  have:=hok _ (abB (by omega));have a:=this.f0;have b:=this.ft;have c:=this.t1;rw[bD];omega
 ·rw[bD];omega
theorem asA (l:List uw):xh l<=l.length:=List.countP_le_length
theorem ael {w:List UInt8} {f:uw} (h:f∈lo (iG w 0 dR).1):IE w.length (f.1,f.2.1):=by
 unfold lo at h;rw[List.mem_reverse,List.mem_map]at h;obtain⟨g,hg,rfl⟩:=h;exact aot w g hg
theorem PP {l:List uw} {f:uw} (h:F8 l=some f):f∈l/\zD f=true:=by
 unfold F8 at h;exact⟨List.mem_reverse.1 (List.mem_of_find?_eq_some h),List.find?_some h⟩
theorem aaV {s:List UInt8} (hs:s.length<1000000):Qg s=some (Tq s,()):=Dz hs
theorem ZF {V:bK->bK×Bool} (hV: ∀w:bK,w.length<=10000->NW w=some ((V w).1,((V w).2,()))) (e:Ctx): ∀(N:Nat) (s:bK) (fr dp:Int) (tk:List Tok) (bd:Bool),s.length<N->s.length<=1000->0<=fr->fr+s.length<=1000->0<=dp->dp+1002*s.length<=10000000->
  tk.length<=s.length->(∀t∈tk,OkT s t)->
  KT N s fr dp tk (eF tk).1 (eF tk).2.1 (eF tk).2.2.1 (eF tk).2.2.2.1 bd e.1 e.2.1 e.2.2.1 e.2.2.2.1 e.2.2.2.2.1 e.2.2.2.2.2.1 e.2.2.2.2.2.2.1 e.2.2.2.2.2.2.2.1 e.2.2.2.2.2.2.2.2.1=
   some (.inr ((),(NV V N s fr dp tk bd,())))
 |0,s,fr,dp,tk,bd,h,_,_,_,_,_,_,_=>by omega
 |N+1,s,fr,dp,tk,bd,h,hs,h0,h1,d0,d1,htl,hok=>by
  (rewrite [KT,Y1];delta J7 J6;rw[NV])
  have h7:(eF tk).1=7->s≠[]:=fun h7=>by
   have:=hok _ (abB (by omega));have a:=this.f0;have b:=this.ft;have c:=this.t1;rintro rfl;simp only[List.length_nil]at c;omega
  rw[agu s (by omega) fr dp tk _ _ _ _ bd h7,bu];simp only;by_cases hh:Qk s (eF tk).1 (eF tk).2.2.2.1 bd=true
  ·rw[bH hh,if_pos hh,YL 4 (by omega) h0 (by omega),bu];rfl
  rw[cO (by simpa using hh),if_neg hh];by_cases h3:(eF tk).1=3
  ·rw[bH (dQ h3),if_pos h3,YL 3 (by omega) h0 (by omega),bu];rfl
  rw[cO (dK h3),if_neg h3,aiq,bu];obtain⟨b0,b1⟩:=Zp hok;have hwB:(if(eF tk).1=6 then(eF tk).2.1 else bC s)=gJ s (eF tk):=rfl;simp only[hwB];generalize hb:gJ s (eF tk)=b at*;have hpw:fF (bC s) b (bC s)=true:=fK b0 b1 (by omega);have hwl:((sub s b (bC s)).length:Int)=bC s-b:=nZ b0 b1 (by rw[bD];omega);rw[bD]at b1;generalize hw:sub s b (bC s)=w at*;have hwle:w.length<=s.length:=by rw[bD]at hwl;omega
  have hg:=Dv w 0 dR lZ;have hfl:dR.1.length=1:=rfl;have hFl:(lo (iG w 0 dR).1).length<=w.length+1:=by rw[mf];omega
  have hF0:lo (iG w 0 dR).1≠[]:=by
   intro hnil;have:(iG w 0 dR).1.length=0:=by rw[<-mf,hnil];rfl
   have hgood:=hg.1;rw[bg this]at hgood;exact hgood
  rw[hpw,cond_true,alX w (by omega),bu];simp only;have hfrm: ∀f∈lo (iG w 0 dR).1,IE w.length (f.1,f.2.1):=fun f hf=>ael hf;have hcnt:=asA (lo (iG w 0 dR).1);have hdec: ∀f,F8 (lo (iG w 0 dR).1)=some f->f∈lo (iG w 0 dR).1/\zD f=true:=fun f h=>PP h;generalize hF:lo (iG w 0 dR).1=F at*;rw[aAG (by omega),bu,aiF (by omega),bu];simp only;have hdp:bU .i64 dp (xh F:Int)=dp+(xh F:Int):=bY (by omega) (by omega);rw[hdp];cases hd:F8 F with
  |some f=>
   obtain⟨hfF,hfd⟩:=hdec f hd;have hfo:=hfrm f hfF;simp only[IE]at hfo;simp only[Option.getD_some,Option.isSome_some,cond_true];have h0d:f.1≠0:=fun h=>by simp[zD,h]at hfd
   have hp0:0<=f.2.1/\f.2.1+1<=w.length:=by omega
   by_cases h13:f.1=1\/f.1=3
   ·have hp2:f.2.1+2<=w.length:=by omega
    have a1:bU .i64 b f.2.1=b+f.2.1:=bY (by omega) (by omega);have a2:bU .i64 (b+f.2.1) 2=b+f.2.1+2:=bY (by omega) (by omega);have a3:bU .i64 fr (b+f.2.1+2)=fr+(b+f.2.1+2):=bY (by omega) (by omega);have hq:fF (bC s) (b+f.2.1+2) (bC s)=true:=fK (by omega) (by rw[bD]at hwl ⊢;omega) (by omega);have hul:((sub s (b+f.2.1+2) (bC s)).length:Int)=bC s-(b+f.2.1+2):=nZ (by omega) (by rw[bD]at hwl ⊢;omega) (by rw[bD];omega);rw[if_pos h13];generalize hu:sub s (b+f.2.1+2) (bC s)=u at*;have hule:u.length+2<=s.length:=by rw[bD]at hul;omega
    have hx:=Xo (s:=u) (by omega);have ih:=ZF hV e N u (fr+(b+f.2.1+2)) (dp+(xh F:Int)) (abD u) false (by omega) (by omega) (by omega) (by rw[bD]at hul;omega) (by omega) (by omega) hx.2 (fun t ht=>(hx.1 t ht).1);have hend:=ado u (fr+(b+f.2.1+2)) (dp+(xh F:Int)) (abD u) (by omega) false;simp only[a1,a2,a3,hq,hu,fD,lL,cond_true,axe (show u.length<=10000 by omega),bu,hend];rcases h13 with h|h
    ·rw[bH (dQ h)];exact ih
    ·rw[cO (dK (by omega)),bH (dQ h)];exact ih
   ·rw[if_neg h13,cO (dK (fun h=>h13 (.inl h))),cO (dK (fun h=>h13 (.inr h)))];rw[aiE (by omega) h0 (by omega) (by omega) (fun h=>⟨hp0.1,by omega⟩) (fun s h=>aaV h),bu];rfl
  |none=>
   simp only[Option.getD_none,Option.isSome_none,cond_false];rw[amC (by omega) (fun s h=>aaV h),bu];simp only;by_cases hdl:PQ w=[]
   ·have a0:bU .i64 fr b=fr+b:=bY (by omega) (by omega);obtain⟨l,p1,p2,p3⟩:=axi (s:=s) (tk:=tk) (by omega) htl hok (b:=b) b0 (by rw[bD];exact b1) (V:=fun x=>(V x).1) (fun w hw=>⟨_,hV w hw⟩) fr (dp+(xh F:Int)) (eF tk).1 (eF tk).2.1 (eF tk).2.2.1 (eF tk).2.2.2.1 bd
     (1,0,fr+b,stF F,(V w).1,(V w).2,[],0,dp+(xh F:Int),())
    have ht:ar5 (Zt s tk b)=l:=by unfold ar5;rw[p1];rfl
    rw[cO (by rw[hdl];rfl),if_neg (by simp[hdl]),avr hF0 (by omega),bu];simp only[fD,lL,nD,mF,Bool.and_self,az,cond_true,a0,hV w (by omega),bu];rw[p3,bu,ht];rfl
   ·rw[bH (by simp[gU,hdl]),if_pos hdl,Xu (by omega) h0 (by omega) (by
     have:=aab w;omega),bu]
    rfl
def Ha (V:bK->bK×Bool) (s:bK):Ctx:=NV V (s.length+1) s 0 0 (lG s).1 (lG s).2.2.2.1
theorem Uu {V:bK->bK×Bool}: ∀(n m:Nat) (s:bK) (fr dp:Int) (tk:List Tok) (bd:Bool),s.length<n->s.length<m->(∀t∈tk,OkT s t)->s.length<=10000->NV V n s fr dp tk bd=NV V m s fr dp tk bd
 |0,_,_,_,_,_,_,h,_,_,_=>by omega
 |_+1,0,_,_,_,_,_,_,h,_,_=>by omega
 |n+1,m+1,s,fr,dp,tk,bd,h1,h2,hok,hs=>by
  rw[NV,NV];obtain⟨b0,b1⟩:=Zp hok;have hwl:((sub s (gJ s (eF tk)) (bC s)).length:Int)=bC s-gJ s (eF tk):=nZ b0 b1 (by rw[bD];omega);split
  ·rfl
  split
  ·rfl
  cases hd:F8 (lo (iG (sub s (gJ s (eF tk)) (bC s)) 0 dR).1)with
  |none=>rfl
  |some f=>
   simp only;split
   ·rename_i h13
    have hfo:=ael (PP hd).1;simp only[IE]at hfo;have hul:=kW s (gJ s (eF tk)+f.2.1+2) (bC s);have hle:bC s=(s.length:Int):=rfl;have hx:=Xo (s:=sub s (gJ s (eF tk)+f.2.1+2) (bC s)) (by omega);exact Uu n m _ _ _ _ _ (by omega) (by omega) (fun t ht=>(hx.1 t ht).1) (by omega)
   ·rfl
theorem aAZ {V:bK->bK×Bool} (hV: ∀w:bK,w.length<=10000->NW w=some ((V w).1,((V w).2,()))) {s:List UInt8} (hs:s.length<=1000):asW s=some (Ha V s,()):=by
 obtain⟨x1,x2,x3⟩:=Om (s:=s) (by omega);have h:=ZF hV (0,0,0,0,[],false,[],0,0,()) bP s 0 0 (lG s).1 (lG s).2.2.2.1 (dJ (by omega)) hs (by omega) (by omega) (by omega) (by omega) x3 x1;rw[asW,avD (by omega),bu];simp only;rw[ado s 0 0 _ (by omega) _,bu];simp only;rw[show KT bP s 0 0 (lG s).1 (eF (lG s).1).1 (eF (lG s).1).2.1 (eF (lG s).1).2.2.1 (eF (lG s).1).2.2.2.1 (lG s).2.2.2.1 0 0 0 0 [] false [] 0 0=_ from h,bu];rw[Uu bP (s.length+1) s 0 0 (lG s).1 (lG s).2.2.2.1 (dJ (by omega)) (by omega) x1 (by omega)];rfl
theorem asj {V:bK->bK×Bool} (hV: ∀w:bK,w.length<=10000->NW w=some ((V w).1,((V w).2,()))) {s:List UInt8} {c:Int} (hs:s.length<=1000) (h0:0<=c) (h1:c<=s.length):WI s c=some (Ha V (sub s 0 c),(0,())):=by
 have hl:=kW s 0 c;rw[WI,cO (iP h0),cO (iP (by rw[bD];omega)),bH (fK (by omega) h0 (by rw[bD];omega)),aAZ hV (by omega),bu]
end
section
open Bool renaming not_true → au, not_false → aA
open Int renaming toNat_natCast → aQ, eq_ofNat_of_zero_le → bi
open List renaming length_append → ag, append_assoc → ai, drop_eq_getElem_cons → aF, nil_append → aH, drop_of_length_le → aJ, drop_zero → aS
open Go.RowKit
def CO (s:bK) (L:List kH) (to_:Int):Nat->Int->Bool
 |0,_=>false
 |n+1,at_=>if at_<to_ then(iC s L at_).2.2||CO s L to_ n (iC s L at_).1 else false
def oV (s:bK) (L:List kH) (at_:Int):Bool:=
 match xA L at_ with
 |none=>false
 |some p=>if lone p=true\/p.1=14 then false else if p.1=13 then false else if p.1=4 then false
  else if p.1=5 then CO s L (pF p) s.length (p.2.1+1)else true
def zJ (s:bK) (L:List kH):Nat->Int->Bool
 |0,_=>false
 |n+1,at_=>if at_<s.length then oV s L at_||zJ s L n (stepT s L at_).1 else false
def ayG (s:bK):Bool:=zJ s (bQ s) s.length 0
def Iy (s:bK):bK×Bool:=if ayG s=true then([],false)else(ZH s,true)
theorem Uz (s:bK) (to_:Int): ∀(n m:Nat) (at_:Int),to_-at_<=n->to_-at_<=m->CO s (bQ s) to_ n at_=CO s (bQ s) to_ m at_
 |0,0,_,_,_=>rfl
 |0,m+1,at_,h,_=>by rw[CO,CO,if_neg (by omega)]
 |n+1,0,at_,_,h=>by rw[CO,CO,if_neg (by omega)]
 |n+1,m+1,at_,h1,h2=>by
  rw[CO,CO];split
  ·have:= @J9 s at_;rw[Uz s to_ n m _ (by omega) (by omega)]
  ·rfl
theorem UE (s:bK): ∀(n m:Nat) (at_:Int),(s.length:Int)-at_<=n->(s.length:Int)-at_<=m->zJ s (bQ s) n at_=zJ s (bQ s) m at_
 |0,0,_,_,_=>rfl
 |0,m+1,at_,h,_=>by rw[zJ,zJ,if_neg (by omega)]
 |n+1,0,at_,_,h=>by rw[zJ,zJ,if_neg (by omega)]
 |n+1,m+1,at_,h1,h2=>by
  rw[zJ,zJ];split
  ·have:= @Ko s at_;rw[UE s n m _ (by omega) (by omega)]
  ·rfl
theorem Rf (L:List kH) (hl:L.length<1000000) (a b c:bK) (e:List kH) (f:List Int) (g:Bool) (t:bK): ∀(N k:Nat) (M:List lH),L.length-k<N->k<=L.length->
  vP N L (bC L) (k:Int) a b c e M f g t=some (.inl ((),((a,b,()),(),()),((c,e,()),En M k (L.drop k),(),f,(g,()),(t,()),())))
 |0,k,M,h,_=>by omega
 |N+1,k,M,h,hk=>by
  rw[vP,FO];by_cases e1:k<L.length
  ·have hg:dN L (0,(0,(0,(0,(false,()))))) (k:Int)=L[k]:=by
    simp_all [dN]
   rw[bH (fJ (by rw[bD];omega)),bH (eP (by omega) (by omega)),hg,bY (by omega) (by omega),show(k:Int)+1=((k+1:Nat):Int) by omega,
    Rf L hl a b c e f g t N (k+1) _ (by omega) (by omega),aF e1,En]
  ·rw[cO (ig (by rw[bD];omega)),aJ (by omega)];rfl
theorem UA (s:bK) (hs:s.length<=10000) {to_:Int} (hto:to_<=s.length) (B:Int) (hB:B<=10000000000000) (w3:Int) (w6:kH) (w9 w10 w11 w12:Int) (w13:Bool) (w14:List Int) (wb:Bool) (wt:bK) (ex:Bool):
  ∀(N:Nat) (at_:Int) (h o:bK),0<N->to_-at_<N->0<=at_->at_<=s.length->(o.length:Int)+h.length<=B+10000*at_->
  ∃o',nJ N to_ ex at_ w3 w6 (bI h) w9 w10 w11 w12 w13 w14 s (bQ s) (CQ s) (bI o) wb wt=
   some (if CO s (bQ s) to_ N at_=true then .inr ((),((w3,w6,()),(),(),(),()),((w9,w10,w11,w12,w13,()),w14,(),(),(s,bQ s,()),CQ s,(),(),bI o',(),(),([],()),()))
    else .inl ((ex,()),((w3,w6,()),(),(),(),()),(bI (h++uo s (bQ s) to_ N at_),(w9,w10,w11,w12,w13,()),w14,(),(),(s,bQ s,()),CQ s,(),(),bI o,(),(wb,()),(wt,()),())))/\
   (CO s (bQ s) to_ N at_=false->(o.length:Int)+(h++uo s (bQ s) to_ N at_).length<=B+10000*s.length)
 |0,at_,h,o,hN,_,_,_,_=>by omega
 |N+1,at_,h,o,hN,hlt,h0,h1,hh=>by
  (rewrite [nJ,BR];delta nY nX iR fB;rw[uo,CO])
  by_cases e:at_<to_
  ·have hup:= @J9 s at_;have hsl:=LZ s (bQ s) at_;have keep: ∀(c:bK) (nx:Int),c=(iC s (bQ s) at_).2.1->nx=(iC s (bQ s) at_).1->nx<=s.length->(iC s (bQ s) at_).2.2=false->
     ∃o',(bif eH (bI (h++c)) 1 then nJ N to_ ex nx w3 w6 (bI (h++c)) w9 w10 w11 w12 w13 w14 s (bQ s) (CQ s) (bI o) wb wt else none)=
      some (if((iC s (bQ s) at_).2.2||CO s (bQ s) to_ N (iC s (bQ s) at_).1)=true then .inr ((),((w3,w6,()),(),(),(),()),((w9,w10,w11,w12,w13,()),w14,(),(),(s,bQ s,()),CQ s,(),(),bI o',(),(),([],()),()))
       else .inl ((ex,()),((w3,w6,()),(),(),(),()),(bI (h++((iC s (bQ s) at_).2.1++uo s (bQ s) to_ N (iC s (bQ s) at_).1)),(w9,w10,w11,w12,w13,()),w14,(),(),(s,bQ s,()),CQ s,(),(),bI o,(),(wb,()),(wt,()),())))/\
      (((iC s (bQ s) at_).2.2||CO s (bQ s) to_ N (iC s (bQ s) at_).1)=false->(o.length:Int)+(h++((iC s (bQ s) at_).2.1++uo s (bQ s) to_ N (iC s (bQ s) at_).1)).length<=B+10000*s.length):=by
    intro c nx hc hnx hle hx;subst hc hnx;rw[bH (pR (by grind)),hx,Bool.false_or];obtain⟨o',r1,r2⟩:=UA s hs hto B hB w3 w6 w9 w10 w11 w12 w13 w14 wb wt ex N (iC s (bQ s) at_).1 (h++(iC s (bQ s) at_).2.1) o (by omega) (by omega) (by omega) hle (by grind);rw[ai]at r1 r2;exact⟨o',r1,r2⟩
   have ha1:bU .i64 at_ 1=at_+1:=bY (by omega) (by omega);rw[bH (fJ e),if_pos e,if_pos e];cases hf:xA (bQ s) at_ with
   |none=>
    have hst:iC s (bQ s) at_=(at_+1,sub s at_ (at_+1),false):=by unfold iC;rw[hf]
    rw[JL hf,show bM 0 0=true from rfl,cond_true,bH (eP h0 (by omega)),EF h0 (by omega),jH,ha1];exact keep _ _ (by rw[hst]) (by rw[hst]) (by omega) (by rw[hst])
   |some p=>
    obtain⟨pf,hpe⟩:=wC hf;have t0:=pf.t0;have t1:=pf.t1;obtain⟨m1,m2,m3⟩:=JM hs hf;rw[m1,cond_false,m2,cond_true];simp only[m3];rw[Xp pf.f0 (by omega),bu];by_cases hlone:lone p=true
    ·have hst:iC s (bQ s) at_=(at_+1,sub s at_ (at_+1),false):=by simp_all [iC]
     rw[hlone,cond_true,bH (eP h0 (by omega)),EF h0 (by omega),jH,ha1];exact keep _ _ (by rw[hst]) (by rw[hst]) (by omega) (by rw[hst])
    ·rw[show lone p=false by simpa using hlone,cond_false];have hs2:ed .i64 p.2.2.1 p.2.1=p.2.2.1-p.2.1:=gG (by omega) (by omega);have ha2:bU .i64 p.2.1 1=p.2.1+1:=bY (by omega) (by omega);simp only[hs2,ha2,jH];by_cases h13:p.1=13
     ·have hes:=pf.es h13;have hst:iC s (bQ s) at_=(p.2.2.1,Tj s p,false):=by simp_all [iC]
      rw[bH (dQ h13)];by_cases hto2:p.2.2.1=p.2.1+2
      ·rw[cO (iP (by omega)),bH (eP (by omega) (by omega))];have hesc:Tj s p=(if bV s (p.2.1+1)=36\/bV s (p.2.1+1)=96\/bV s (p.2.1+1)=34\/bV s (p.2.1+1)=92 then sub s (p.2.1+1) p.2.2.1
         else if bV s (p.2.1+1)=10 then []else ul s p):=by
        simp_all [Tj]
       have hone:ofBytes [bV s (p.2.1+1)]=sub s (p.2.1+1) p.2.2.1:=by
        grind [EF,qB]
       simp only[hone];by_cases b1:bV s (p.2.1+1)=36
       ·rw[bH (dQ b1),bH (dQ b1)];exact keep _ _ (by rw[hst,hesc,if_pos (by omega)]) (by rw[hst]) (by omega) (by rw[hst])
       ·rw[cO (dK b1)];by_cases b2:bV s (p.2.1+1)=96
        ·rw[bH (dQ b2),bH (dQ b2)];exact keep _ _ (by rw[hst,hesc,if_pos (by omega)]) (by rw[hst]) (by omega) (by rw[hst])
        ·rw[cO (dK b2)];by_cases b3:bV s (p.2.1+1)=34
         ·rw[bH (dQ b3),bH (dQ b3)];exact keep _ _ (by rw[hst,hesc,if_pos (by omega)]) (by rw[hst]) (by omega) (by rw[hst])
         ·rw[cO (dK b3)];by_cases b4:bV s (p.2.1+1)=92
          ·rw[bH (dQ b4)];exact keep _ _ (by rw[hst,hesc,if_pos (by omega)]) (by rw[hst]) (by omega) (by rw[hst])
          ·rw[cO (dK b4)];have hno: ¬(bV s (p.2.1+1)=36\/bV s (p.2.1+1)=96\/bV s (p.2.1+1)=34\/bV s (p.2.1+1)=92):=by omega
           by_cases b5:bV s (p.2.1+1)=10
           ·rw[bH (dQ b5)];exact keep [] _ (by rw[hst,hesc,if_neg hno,if_pos b5]) (by rw[hst]) (by omega) (by rw[hst])
           ·rw[cO (dK b5),bH (fK pf.f0 (by omega) (by rw[bD];omega))];exact keep _ _ (by rw[hst,hesc,if_neg hno,if_neg b5];rfl) (by rw[hst]) (by omega) (by rw[hst])
      ·rw[bH (fJ (by omega))];exact keep _ _ (by simp_all [Tj]) (by rw[hst]) (by omega) (by rw[hst])
     ·have hst:iC s (bQ s) at_=(p.2.2.1,ul s p,true):=by simp_all [iC]
      have hpt:fF (bC s) p.2.1 p.2.2.1=true:=fK pf.f0 (by omega) (by rw[bD];omega);rw[cO (dK h13)];simp only[qB,jH,hpt,cond_true,hst,Bool.true_or,if_true];rcases Lp h with ⟨he,hl⟩|⟨he,hl⟩
      ·rw[cO (iP (by omega))];exact⟨o,rfl,fun h=>by cases h⟩
      ·rw[bH (fJ hl),bH (pR (by grind))];exact⟨o++h,rfl,fun h=>by cases h⟩
  ·rw[cO (ig e),if_neg e,if_neg e];exact⟨o,by simp,fun _=>by grind⟩
def evR (s:bK) (wb:Bool) (wt:bK) (E:Bool) (h' o':bK):Option (Bz.den⊕BC.den):=some (if E=true then .inr ((),((),(),(),()),((s,bQ s,()),CQ s,(),(),bI o',(),(false,()),([],()),()))else .inl ((),((),(),(),()),(bI h',(),(),(s,bQ s,()),CQ s,(),(),bI o',(),(wb,()),(wt,()),())))
theorem PT (s:bK) (hs:s.length<=10000) (wb:Bool) (wt:bK): ∀(N:Nat) (at_:Int) (h o:bK),(s.length:Int)-at_<N->0<=at_->at_<=s.length->(o.length:Int)+h.length<=200000000*at_->
  ∃h' o',jI N at_ (bI h) s (bQ s) (CQ s) (bI o) wb wt=evR s wb wt (zJ s (bQ s) N at_) h' o'/\
   (zJ s (bQ s) N at_=false->o'++h'=o++h++oq s (bQ s) N at_/\(o'.length:Int)+h'.length<=200000000*s.length)
 |0,at_,h,o,hN,_,_,_=>by omega
 |N+1,at_,h,o,hN,h0,h1,hh=>by
  (rewrite [jI,BQ];delta vJ vI vH vG vF kU qL bZ;rw[oq,zJ])
  by_cases e:at_<s.length
  ·have hup:= @Ko s at_;have hle:=acE (s:=s) e;have hsl:(stepT s (bQ s) at_).2.length<=100010000:=by
    have h1:=VB s (bQ s) at_;have h2:s.length*s.length<=10000*10000:=Nat.mul_le_mul hs hs;omega
   have go: ∀(g l:bK) (nx:Int),l++g=o++h++(stepT s (bQ s) at_).2->nx=(stepT s (bQ s) at_).1->oV s (bQ s) at_=false->
     ∃h' o',jI N nx (bI g) s (bQ s) (CQ s) (bI l) wb wt=evR s wb wt (oV s (bQ s) at_||zJ s (bQ s) N (stepT s (bQ s) at_).1) h' o'/\
      ((oV s (bQ s) at_||zJ s (bQ s) N (stepT s (bQ s) at_).1)=false->o'++h'=o++h++((stepT s (bQ s) at_).2++oq s (bQ s) N (stepT s (bQ s) at_).1)/\(o'.length:Int)+h'.length<=200000000*s.length):=by
    intro g l nx hl hnx hE;subst hnx;have hlen:=congrArg List.length hl;simp only[ag]at hlen;obtain⟨h',o',r1,r2⟩:=PT s hs wb wt N (stepT s (bQ s) at_).1 g l (by omega) (by omega) hle (by omega);rw[hE,Bool.false_or];refine⟨h',o',r1,fun hx=> ?_⟩;have:=r2 hx
    grind
   have hb1: ∀x:bK,x.length<=200000000->eH (bI (h++x)) 1=true:=fun x hx=>pR (by grind);have hb2: ∀x:bK,x.length<=200000000->eH (bI (o++x)) 1=true:=fun x hx=>pR (by grind);have hb4:eH (bI (o++h)) 1=true:=pR (by grind);have hb3: ∀x:bK,x.length<=200000000->eH (bI (o++h++x)) 1=true:=fun x hx=>pR (by grind);have ha1:bU .i64 at_ 1=at_+1:=bY (by omega) (by omega);have hsub: ∀a b,(sub s a b).length<=200000000:=fun a b=>by grind [wX]
   rw[bH (fJ (b:=bC s) e),if_pos e,if_pos e];cases hf:xA (bQ s) at_ with
   |none=>
    have hst:stepT s (bQ s) at_=(at_+1,sub s at_ (at_+1)):=by unfold stepT;rw[hf]
    have hE:oV s (bQ s) at_=false:=by unfold oV;rw[hf]
    rw[JL hf,show bM 0 0=true from rfl,cond_true];simp only[EF h0 e,jH,show gI s at_=true from eP h0 e,lL,fD,cond_true,hb1 _ (hsub _ _),ha1];exact go (h++sub s at_ (at_+1)) o _ (by rw[hst,ai]) (by rw[hst]) hE
   |some p=>
    obtain⟨pf,hpe⟩:=wC hf;have t0:=pf.t0;have t1:=pf.t1;obtain⟨m1,m2,m3⟩:=JM hs hf;have hpt:fF (bC s) p.2.1 p.2.2.1=true:=fK pf.f0 (by omega) (by rw[bD];omega);have hpt1:fF (bC s) (p.2.1+1) p.2.2.1=true:=fK (by omega) (by omega) (by rw[bD];omega);have ha2:bU .i64 p.2.1 1=p.2.1+1:=bY (by omega) (by omega);rw[m1,cond_false,m2,cond_true];simp only[m3];rw[Xp pf.f0 (by omega),bu];simp only[ha2,hpt,hpt1,qB,jH,cond_true,hb1 _ (hsub _ _),hb2 _ (hsub _ _),hb3 _ (hsub _ _),hb4];have flush: ∀(x:bK),x.length<=200000000->x=(stepT s (bQ s) at_).2->p.2.2.1=(stepT s (bQ s) at_).1->oV s (bQ s) at_=false->
     ∃h' o',(bif gU h []then jI N p.2.2.1 [] s (bQ s) (CQ s) (bI (o++x)) wb wt
      else jI N p.2.2.1 [] s (bQ s) (CQ s) (bI (o++h++x)) wb wt)=evR s wb wt (oV s (bQ s) at_||zJ s (bQ s) N (stepT s (bQ s) at_).1) h' o'/\
      ((oV s (bQ s) at_||zJ s (bQ s) N (stepT s (bQ s) at_).1)=false->o'++h'=o++h++((stepT s (bQ s) at_).2++oq s (bQ s) N (stepT s (bQ s) at_).1)/\(o'.length:Int)+h'.length<=200000000*s.length):=by
     intro x hx hxe hnx hE;by_cases he:h=[]
     ·subst he;rw[bH (by rfl)];exact go [] _ _ (by rw[<-hxe];simp) hnx hE
     ·rw[cO (by simpa [gU] using he)];exact go [] _ _ (by rw[<-hxe];simp) hnx hE
    by_cases hpl':lone p=true\/p.1=14
    ·have hst:stepT s (bQ s) at_=(p.2.2.1,ul s p):=by simp_all [stepT]
     have hE:oV s (bQ s) at_=false:=by unfold oV;rw[hf];simp only;rw[if_pos hpl']
     have:=go (h++sub s p.2.1 p.2.2.1) o p.2.2.1 (by rw[hst,ai];rfl) (by rw[hst]) hE;by_cases hlone:lone p=true
     ·simp only[hlone,cond_true];exact this
     ·have h14:p.1=14:=hpl'.resolve_left hlone;simp only[show lone p=false by simpa using hlone,h14,show bM 14 14=true from rfl,cond_true,cond_false];exact this
    ·have hlone:lone p=false:=by
      simp_all
     have h14:p.1≠14:=fun h=>hpl' (.inr h);simp only[hlone,dK h14,cond_false];have hE0:oV s (bQ s) at_=(if p.1=13 then false else if p.1=4 then false else if p.1=5 then CO s (bQ s) (pF p) s.length (p.2.1+1)else true):=by
      unfold oV;rw[hf];simp only;rw[if_neg hpl']
     by_cases h13:p.1=13
     ·have hes:=pf.es h13;have hst:stepT s (bQ s) at_=(p.2.2.1,Tm s p):=by simp_all [stepT]
      have hE:oV s (bQ s) at_=false:=by rw[hE0,if_pos h13]
      simp only[dQ h13,dK (show p.1≠4 by omega),cond_true,cond_false];by_cases hto2:p.2.2.1=p.2.1+2
      ·have hone:sub s (p.2.1+1) p.2.2.1=[s.getD (p.2.1+1).toNat 0]:=by
        obtain⟨n,hn⟩:=bi (show 0<=p.2.1+1 by omega);have hn2:n<s.length:=by omega
        rw[hn,show p.2.2.1=((n+1:Nat):Int) by omega,Ai,aF hn2,List.take_succ_cons,List.take_zero,aQ,List.getD_eq_getElem?_getD,List.getElem?_eq_getElem hn2];rfl
       have hne:gU (sub s (p.2.1+1) p.2.2.1) []=false:=by rw[hone];simp[gU]
       rw[hne,aA,cond_true];by_cases b5:bV s (p.2.1+1)=10
       ·have h10e:gU (sub s (p.2.1+1) p.2.2.1) [10]=true:=by
         rw[hone];unfold bV at b5;have h10:s.getD (p.2.1+1).toNat 0=10:=UInt8.toNat_inj.1 (by show _=10;omega);rw[h10];rfl
        rw[h10e,au,cond_false];exact go h o _ (by rw[hst];simp_all [Tm]) (by rw[hst]) hE
       ·have:gU (sub s (p.2.1+1) p.2.2.1) [10]=false:=by
         rw[hone];have hq:s.getD (p.2.1+1).toNat 0≠10:=fun h=>b5 (by unfold bV;rw[h];rfl);simpa [gU] using hq
        rw[this,aA,cond_true];exact flush _ (hsub _ _) (by simp_all [Tm]) (by rw[hst]) hE
      ·have hnil:sub s (p.2.1+1) p.2.2.1=[]:=by
        grind [sub]
       rw[hnil,show(!gU ([]:bK) [])=false from rfl,cond_false];exact go h o _ (by rw[hst];simp_all [Tm]) (by rw[hst]) hE
     ·simp only[dK h13,cond_false];by_cases h4:p.1=4
      ·have hst:stepT s (bQ s) at_=(p.2.2.1,sub s (p.2.1+1) (pF p)):=by simp_all [stepT]
       have hE:oV s (bQ s) at_=false:=by rw[hE0,if_neg h13,if_pos h4]
       have hen:p.2.1+1<=pF p/\pF p<=p.2.2.1:=by
        unfold pF;by_cases ho:p.2.2.2.2.1=true
        ·grind
        ·rw[if_neg ho];have:=pf.sh (by simpa using ho) (by omega);omega
       simp only[dQ h4,cond_true];rw[Jl hs pf (.inl h4),bu];simp only[fK (n:=bC s) (lo:=p.2.1+1) (hi:=pF p) (by omega) hen.1 (by rw[bD];omega),cond_true,hb2 _ (hsub _ _),hb3 _ (hsub _ _)];exact flush _ (hsub _ _) (by rw[hst]) (by rw[hst]) hE
      ·simp only[dK h4,cond_false];by_cases h5:p.1=5
       ·have hst:stepT s (bQ s) at_=(p.2.2.1,uo s (bQ s) (pF p) s.length (p.2.1+1)):=by simp_all [stepT]
        have hE:oV s (bQ s) at_=CO s (bQ s) (pF p) s.length (p.2.1+1):=by rw[hE0,if_neg h13,if_neg h4,if_pos h5]
        have hen:p.2.1+1<=pF p/\pF p<=p.2.2.1:=by
         unfold pF;by_cases ho:p.2.2.2.2.1=true
         ·grind
         ·rw[if_neg ho];have:=pf.sh (by simpa using ho) (by omega);omega
        simp only[dQ h5,cond_true,Jl hs pf (.inr h5),bu];have dE:CO s (bQ s) (pF p) bP (p.2.1+1)=oV s (bQ s) at_:=by
         rw[hE];exact Uz s _ _ _ _ (by have:=dJ (n:=s.length) (by omega);omega) (by omega)
        have dT:uo s (bQ s) (pF p) bP (p.2.1+1)=(stepT s (bQ s) at_).2:=by
         rw[hst];exact KE s _ _ _ _ (by have:=dJ (n:=s.length) (by omega);omega) (by omega)
        have dbl: ∀(q:bK),q=o++h->
          ∃h' o',(bz (nJ bP (pF p) false (p.2.1+1) p.2.2.1 (p.1,(p.2.1,(p.2.2.1,(p.2.2.2.1,(p.2.2.2.2.1,()))))) [] p.1 p.2.1 p.2.2.1 p.2.2.2.1 p.2.2.2.2.1 (bI h) s (bQ s) (CQ s) (bI q) wb wt) fun y2=>
           dL y2 (fun a3=>
            bif(bM (bC a3.2.2.1) 0)then
             bif a3.1.1 then jI N a3.2.1.1.1 [] a3.2.2.2.2.2.2.2.1.1 a3.2.2.2.2.2.2.2.1.2.1 a3.2.2.2.2.2.2.2.2.1 a3.2.2.2.2.2.2.2.2.2.2.2.1 a3.2.2.2.2.2.2.2.2.2.2.2.2.2.1.1 a3.2.2.2.2.2.2.2.2.2.2.2.2.2.2.1.1
             else bif(eH (bT a3.2.2.2.2.2.2.2.2.2.2.2.1 (bI (ofBytes a3.2.2.1))) 1)then
              jI N a3.2.1.1.1 [] a3.2.2.2.2.2.2.2.1.1 a3.2.2.2.2.2.2.2.1.2.1 a3.2.2.2.2.2.2.2.2.1 (bT a3.2.2.2.2.2.2.2.2.2.2.2.1 (bI (ofBytes a3.2.2.1))) a3.2.2.2.2.2.2.2.2.2.2.2.2.2.1.1 a3.2.2.2.2.2.2.2.2.2.2.2.2.2.2.1.1
             else none
            else bif(eH (bT a3.2.2.2.2.2.2.2.2.2.2.2.1 (bI (ofBytes a3.2.2.1))) 1)then
             jI N a3.2.1.1.1 [] a3.2.2.2.2.2.2.2.1.1 a3.2.2.2.2.2.2.2.1.2.1 a3.2.2.2.2.2.2.2.2.1 (bT a3.2.2.2.2.2.2.2.2.2.2.2.1 (bI (ofBytes a3.2.2.1))) a3.2.2.2.2.2.2.2.2.2.2.2.2.2.1.1 a3.2.2.2.2.2.2.2.2.2.2.2.2.2.2.1.1
            else none) (fun b3=>some (.inr ((),((),(),(),()),((b3.2.2.2.2.2.2.1.1,b3.2.2.2.2.2.2.1.2.1,()),b3.2.2.2.2.2.2.2.1,(),(),b3.2.2.2.2.2.2.2.2.2.2.1,(),(false,()),(b3.2.2.2.2.2.2.2.2.2.2.2.2.2.1.1,()),())))))=
           evR s wb wt (oV s (bQ s) at_||zJ s (bQ s) N (stepT s (bQ s) at_).1) h' o'/\
          ((oV s (bQ s) at_||zJ s (bQ s) N (stepT s (bQ s) at_).1)=false->o'++h'=o++h++((stepT s (bQ s) at_).2++oq s (bQ s) N (stepT s (bQ s) at_).1)/\(o'.length:Int)+h'.length<=200000000*s.length):=by
         intro q hq;obtain⟨o',r1,r2⟩:=UA s hs (to_:=pF p) (by omega) 10000000000000 (by omega) p.2.2.1 (p.1,(p.2.1,(p.2.2.1,(p.2.2.2.1,(p.2.2.2.2.1,()))))) p.1 p.2.1 p.2.2.1 p.2.2.2.1 p.2.2.2.2.1 (bI h) wb wt false bP (p.2.1+1) [] q (by unfold bP;omega) (by have:=dJ (n:=s.length) (by omega);omega) (by omega) (by omega) (by grind);rw[show([]:List Int)=bI [] from rfl,r1,bu];rw[dE]at r2 ⊢;rw[dT]at r2 ⊢;cases hE1:oV s (bQ s) at_ with
         |true=>
          rw[if_pos rfl,Bool.true_or];exact⟨[],o',rfl,fun h=>by cases h⟩
         |false=>
          have g1:=go [] (q++(stepT s (bQ s) at_).2) p.2.2.1 (by rw[hq];simp) (by rw[hst]) hE1;have r3:=r2 hE1;have hfit:eH (bI (q++(stepT s (bQ s) at_).2)) 1=true:=pR (by grind);rw[hE1]at g1;rw[if_neg (by simp)];simp only[dL,qB,jH,aH,hfit,cond_true,cond_false,Bool.cond_self];exact g1
        by_cases he:h=[]
        ·rw[bH (by rw[he];rfl)];exact dbl o (by rw[he];simp)
        ·rw[cO (by simpa [gU] using he)];exact dbl (o++h) rfl
       ·have hE:oV s (bQ s) at_=true:=by rw[hE0,if_neg h13,if_neg h4,if_neg h5]
        simp only[dK h5,cond_false];rw[hE,Bool.true_or];by_cases he:h=[]
        ·rw[bH (by rw[he];rfl)];exact⟨[],o,rfl,fun h=>by cases h⟩
        ·rw[cO (by simpa [gU] using he)];exact⟨[],o++h,rfl,fun h=>by cases h⟩
  ·rw[cO (ig (by rw[bD];omega)),if_neg e,if_neg e];exact⟨h,o,rfl,fun _=>by grind⟩
theorem asn (s:bK) (hs:s.length<=10000):NW s=some ((Iy s).1,((Iy s).2,())):=by
 have hl:=BB s;rw[NW,axg s (by omega),bu];simp only;have h1:=Rf (bQ s) (by omega) s s s (bQ s) [] false [] bP 0 [] (dJ (by omega)) (by omega);rw[show vP bP (bQ s) (bC (bQ s)) 0 s s s (bQ s) [] [] false []=_ from h1,bu];simp only[dL,aS];obtain⟨h',o',r1,r2⟩:=PT s hs false [] bP 0 [] [] (by have:=dJ (n:=s.length) (by omega);omega) (by omega) (by omega) (by simp);rw[show jI bP 0 [] s (bQ s) (En [] 0 (bQ s)) [] false []=_ from r1,evR,bu];have hm:oq s (bQ s) bP 0=ZH s:=GZ s _ _ _ (by have:=dJ (n:=s.length) (by omega);omega) (by omega);have hx:zJ s (bQ s) bP 0=ayG s:=UE s _ _ _ (by have:=dJ (n:=s.length) (by omega);omega) (by omega);rw[hx]at r2 ⊢;unfold Iy;cases hE:ayG s with
 |true=>rfl
 |false=>
  obtain⟨r3,r4⟩:=r2 hE;rw[hm,aH,aH]at r3;rw[if_neg (by simp),if_neg (by simp)];simp only[dL,qB,jH,fD,cond_true];by_cases he:h'=[]
  ·rw[bH (by rw[he];rfl),<-r3,he,List.append_nil]
  ·rw[cO (by simpa [gU] using he),bH (pR (by grind)),r3]
end
section
open Go.RowKit
theorem Z5 {s:List UInt8} {c:Int} (hs:s.length<=1000) (h0:0<=c) (h1:c<=s.length):WI s c=some (Ha Iy (sub s 0 c),(0,())):=
 asj (fun w hw=>asn w hw) hs h0 h1
theorem aqB (s a:bK):sub (s++a) 0 (bC s)=s:=by
 rw[bD];simp[sub]
end
section
open Nat renaming eq_of_beq_eq_true → ak
open Tryz
open Go.RowKit
noncomputable def aBL (sg:FuncId->Option Sum):Env:={P:=prog,T:=tt,cl:=true,kp:=fun _ _=>none,sg:=sg,lp:=fun _ _=>none,bf:=Gq}
theorem asK {sg:FuncId->Option Sum} (h: ∀g s,sg g=some s->dU prog g s):dB (aBL sg):=⟨tok,mixed,Nu,h,fun f fn c _ _=>ja (fun _=>rfl) (fun _=>rfl) c,Vt _ fun f fn c _ _=>ja (fun _=>rfl) (fun _=>rfl) c,KC,fun _ _ h=>by cases h⟩
theorem aC4 {sg:FuncId->Option Sum} (h: ∀g s,sg g=some s->dU prog g s) {f:FuncId} {s0:Sum} (h0:dU prog f s0): ∀g s,(bif Nat.beq g f then some s0 else sg g)=some s->dU prog g s:=fun g s e=>by
 rw[cond_eq_ite]at e;split at e
 ·rename_i hg
  obtain rfl:g=f:=ak hg;cases e;exact h0
 ·exact h g s e
noncomputable def awp (g:FuncId):Option Sum:=bif Nat.beq g 10 then some VC else sg1 g
theorem aqo: ∀g s,awp g=some s->dU prog g s:=aC4 YV Ew
theorem aiw:N9 (aBL awp) 8 [] NT ()=some (true,()):=by kernel_rfl
def Iu:Sum:=⟨[],NT,fun _=>some (true,())⟩
theorem GN:dU prog 8 Iu:=Iw (asK aqo) (by decide) fun x y h=>by
 cases h;exact aiw
end
section
open Tryz
open Go.RowKit
def fn4 (x0 x1 x2:bK):Option oW:=bif(iw 80 (bC x0))then some (true,())else bif(iw 80 (bC x1))then some (true,())else bif(iw 80 (bC x2))then some (true,())else bif(kC x0 x1)then bz (WI (bT x0 x1) (bC x0)) fun y0=>bif(kC x0 x2)then bz (WI (bT x0 x2) (bC x0)) fun y1=>bif(kC x0 x1)then bz (aoh (bT x0 x1) (bC x0)) fun y2=>bif(kC x0 x2)then bz (aoh (bT x0 x2) (bC x0)) fun y3=>bif(bM y0.2.1 0)then bif(bM y1.2.1 0)then bif(bM y2.2.1 0)then bif(bM y3.2.1 0)then bif((bM y0.1.1 y1.1.1)&&((bM y0.1.2.1 y1.1.2.1)&&((bM y0.1.2.2.1 y1.1.2.2.1)&&((bM y0.1.2.2.2.1 y1.1.2.2.2.1)&&((gU y0.1.2.2.2.2.1 y1.1.2.2.2.2.1)&&((Oc y0.1.2.2.2.2.2.1 y1.1.2.2.2.2.2.1)&&((gU y0.1.2.2.2.2.2.2.1 y1.1.2.2.2.2.2.2.1)&&((bM y0.1.2.2.2.2.2.2.2.1 y1.1.2.2.2.2.2.2.2.1)&&((bM y0.1.2.2.2.2.2.2.2.2.1 y1.1.2.2.2.2.2.2.2.2.1)&&true)))))))))then some ((gU y2.1 y3.1),())else some (false,())else some (false,())else some (false,())else some (false,())else some (false,())else none else none else none else none
def aC7:Sum:=⟨[.str,.str,.str],NT,fun x=>fn4 x.1 x.2.1 x.2.2.1⟩
noncomputable def aBt:Env:=fZ prog tt 4 [(8,Iu),(10,VC),(11,awv)] [] []
theorem asH:dB aBt:=eA Tryz.f4 (aD GN (aD Ew (aD aqK aN)))
end
section
open Bool renaming and_true → az
open List renaming length_append → ag
open Go.RowKit
theorem aky (s a b:bK):fn4 s a b=some (true,()):=by
 rw[fn4];by_cases h:s.length<=80
 ·rw[cO (iP (by rw[bD];omega))];by_cases ha:a.length<=80
  ·rw[cO (iP (by rw[bD];omega))];by_cases hb:b.length<=80
   ·have ra:kC s a=true:=zh (by omega);have rb:kC s b=true:=zh (by omega);have e1:=Z5 (s:=s++a) (c:=bC s) (by rw[ag];omega) (by rw[bD];omega) (by rw[bD,ag];omega);have e2:=Z5 (s:=s++b) (c:=bC s) (by rw[ag];omega) (by rw[bD];omega) (by rw[bD,ag];omega);have e3:=afD (s:=s++a) (c:=bC s) (by rw[ag];omega) (by rw[bD];omega) (by rw[bD,ag];omega);have e4:=afD (s:=s++b) (c:=bC s) (by rw[ag];omega) (by rw[bD];omega) (by rw[bD,ag];omega);rw[aqB]at e1 e2 e3 e4;rw[cO (iP (by rw[bD];omega)),ra,rb];simp only[cond_true,bT,e1,e2,e3,e4,bu,fD,lL,nD,Bool.and_self,az]
   ·rw[bH (fJ (by rw[bD];omega))]
  ·rw[bH (fJ (by rw[bD];omega))]
 ·rw[bH (fJ (by rw[bD];omega))]
end
section
open Bool renaming and_eq_true → af, not_eq_true' → aW
open List renaming length_append → ag, mem_cons_of_mem → aj, length_cons → aB, mem_cons_self → aG
open Go.RowKit
def H8 (c:UInt8):Bool:= !Cf (gX c)&& !decide (gX c=92)&& !decide (gX c=36)&& !decide (gX c=96)&& !decide (gX c=34)&& !decide (gX c=125)&& !decide (gX c=39)&& !decide (gX c=40)&& !decide (gX c=41)&& !decide (gX c=35)&& !decide (gX c=123)
theorem azX: ∀n:Fin 256,EX (UInt8.ofNat n.val)=true->H8 (UInt8.ofNat n.val)=true:=by decide+kernel
theorem awj {c:UInt8} (h:EX c=true):H8 c=true:=by
 have:=azX ⟨c.toNat,c.toNat_lt⟩;simp only[UInt8.ofNat_toNat]at this;exact this h
def wR (m:Int):Prop:=m=0\/m=5\/m=7\/m=8
theorem ah2 {f:Int×Int} {r:gm} (hm:wR f.1) (fr:Bool) {c:UInt8} (h:H8 c=true) (a:Int): ∃fr',je f.1 (f::r) fr (gX c) a=(f::r,fr'):=by
 simp only[H8,af,aW,decide_eq_false_iff_not]at h;unfold je Gv yE;rcases hm with e|e|e|e<;>simp[e,h]
theorem RY {f:Int×Int} {r:gm} (hm:wR f.1) (fr:Bool) {c:UInt8} (h:H8 c=true) (a:Int): ∃fr',gu (f::r) fr (gX c) a=(f::r,fr'):=by
 obtain⟨fr',e⟩:=ah2 (r:=r) hm fr h a;refine⟨fr', ?_⟩;unfold gu;simp only;rw[if_neg (by unfold wR at hm;omega),if_neg (by unfold wR at hm;omega),if_neg (by unfold wR at hm;omega),e]
theorem L6 {p:Int} {f:Int×Int} {r:gm} (hm:wR f.1) (fr:Bool) {c:UInt8} (h:H8 c=true) (a:Int): ∃fr',gu ((12,p)::f::r) fr (gX c) a=(f::r,fr'):=by
 obtain⟨fr',e⟩:=ah2 (r:=r) hm fr h a;refine⟨fr', ?_⟩;simp only[H8,af,aW,decide_eq_false_iff_not]at h;unfold gu;simp only[List.headD_cons,if_true];rw[if_neg (by simp[h]),if_neg (by simp[h]),if_neg (by simp[h]),e]
theorem afN {s:gm} {b:Int} (h:Cf b=false):xy s b=false:=by unfold xy;rw[h];rfl
theorem YR {f:Int×Int} {r:gm} (hm:wR f.1): ∀(l:bK) (a:Int) (fr:Bool),(∀c∈l,H8 c=true)->(iG l a (f::r,fr)).1=f::r/\qm l a (f::r,fr)=l.length
 |[],a,fr,_=>⟨rfl,rfl⟩
 |c::l,a,fr,h=>by
  have hc:=h c (aG ..);obtain⟨fr',e⟩:=RY (r:=r) hm fr hc a;have ih:=YR (r:=r) hm l (a+1) fr' fun x hx=>h x (aj _ hx);have he:Cf (gX c)=false:=by simp only[H8,af,aW]at hc;exact hc.1.1.1.1.1.1.1.1.1.1
  rw[iG,qm,e,ih.2];refine⟨ih.1, ?_⟩;rw[afN he];simp
theorem acr {p:Int} {f:Int×Int} {r:gm} (hm:wR f.1) (c:UInt8) (l:bK) (a:Int) (fr:Bool) (h: ∀x∈c::l,H8 x=true):
  (iG (c::l) a ((12,p)::f::r,fr)).1=f::r/\qm (c::l) a ((12,p)::f::r,fr)=(c::l).length:=by
 have hc:=h c (aG ..);obtain⟨fr',e⟩:=L6 (p:=p) (r:=r) hm fr hc a;have ih:=YR (r:=r) hm l (a+1) fr' fun x hx=>h x (aj _ hx);have he:Cf (gX c)=false:=by simp only[H8,af,aW]at hc;exact hc.1.1.1.1.1.1.1.1.1.1
 rw[iG,qm,e,ih.2];refine⟨ih.1, ?_⟩;rw[afN he];simp
theorem aae: ∀(l m:bK) (a:Int) (x:gm×Bool),qm l a x=l.length->qm (l++m) a x=l.length+qm m (a+l.length) (iG l a x)
 |[],m,a,x,_=>by simp[iG]
 |b::l,m,a,x,h=>by
  rw[qm]at h;split at h
  ·simp at h
  ·rename_i hb
   have ih:=aae l m (a+1) (gu x.1 x.2 (gX b) a) (by simpa using h);rw[List.cons_append,qm,if_neg hb,ih,iG,aB,show a+((l.length+1:Nat):Int)=a+1+(l.length:Int) by omega];omega
def jm (q br:Bool):bK:=(if q=true then [34,97,32,98]else [])++36::(if br=true then [123]else [])
def Gg (q br:Bool):bK:=[108,115,32,45,108,32]++jm q br
def qN (q br:Bool):gm:=((if br=true then(if q=true then 8 else 7)else 12),(if q=true then 4 else 0))::(if q=true then [(5,0),(0,0)]else [(0,0)])
def Ob (q br:Bool) (nm:bK):gm:=if br=false/\nm≠[]then(qN q br).tail else qN q br
theorem ahx (q br:Bool):(iG (jm q br) 0 dR).1=qN q br/\qm (jm q br) 0 dR=(jm q br).length/\qm (jm q br) 6 dR=(jm q br).length:=by
 cases q<;>cases br<;>decide+kernel
theorem awm (q br:Bool) {nm:List UInt8} (h: ∀c∈nm,EX c=true):
  (iG (jm q br++nm) 0 dR).1=Ob q br nm/\qm (jm q br++nm) 6 dR=(jm q br++nm).length:=by
 obtain⟨h1,h2,h3⟩:=ahx q br;have hn: ∀c∈nm,H8 c=true:=fun c hc=>awj (h c hc);have hmd:md (iG (jm q br) 6 dR).1=md (qN q br):=by cases q<;>cases br<;>decide+kernel
 rw[acp,aae _ _ _ _ h3,ag];have key: ∀(a:Int) (x:gm×Bool),x.1=qN q br->(iG nm a x).1=Ob q br nm/\qm nm a x=nm.length:=by
  intro a x hx;obtain⟨s,fr⟩:=x;simp only at hx;subst hx;cases nm with
  |nil=>simp[Ob,iG,qm]
  |cons c l=>
   cases br with
   |true=>
    have:=YR (f:=((if q=true then 8 else 7),(if q=true then 4 else 0))) (r:=if q=true then [(5,0),(0,0)]else [(0,0)]) (by unfold wR;cases q<;>simp) (c::l) a fr hn;simpa [Ob,qN] using this
   |false=>
    cases q with
    |true=>simpa [Ob,qN] using acr (p:=4) (f:=(5,0)) (r:=[(0,0)]) (by unfold wR;simp) c l a fr hn
    |false=>simpa [Ob,qN] using acr (p:=0) (f:=(0,0)) (r:=[]) (by unfold wR;simp) c l a fr hn
 refine⟨(key _ _ h1).1, ?_⟩;congr 1;rw[Wx nm _ ((jm q br).length:Int) (iG (jm q br) 6 dR) (qN q br,(iG (jm q br) 6 dR).2) hmd rfl];exact(key _ _ rfl).2
end
section
open Bool renaming false_eq_true → ah
open Int renaming toNat_natCast → aQ
open List renaming mem_cons_of_mem → aj, map_cons → ax, length_cons → aB, drop_eq_getElem_cons → aF, mem_cons_self → aG, drop_zero → aS, map_nil → aV, takeWhile_cons → aY
open Go.RowKit
theorem aiA {s:List UInt8} {a:Nat} {c:UInt8} {t:List UInt8} (h:s.drop a=c::t):bV s (a:Int)=gX c/\a<s.length:=by
 have hl:a<s.length:=by
  have:=congrArg List.length h;simp at this;omega
 rw[aF hl]at h;injection h with h1 h2
 rw[byte_at hl,h1];exact⟨rfl,hl⟩
def al3 (c:UInt8):Bool:=decide (c=108)||decide (c=45)||decide (c=34)||decide (c=36)
theorem Zo {s:List UInt8} {a:Nat} {c:UInt8} {t:List UInt8} (h:s.drop a=c::t) (hc:al3 c=true) (P:List Dlm):
  kV s a (0,P,false,())=(((6,(a:Int),((qg s a:Nat):Int), !NR (IU s a (qg s a)),()):Tok),((0,P,false,()):Zz)):=by
 obtain⟨hb,hl⟩:=aiA h;have hcc:c=108\/c=45\/c=34\/c=36:=by simpa [al3,or_assoc] using hc
 have h1:uk (c.toNat:Int)=false:=by rcases hcc with e|e|e|e<;>subst e<;>rfl
 have h2:DN (c.toNat:Int)=false:=by rcases hcc with e|e|e|e<;>subst e<;>rfl
 have h3:isD c=false:=by rcases hcc with e|e|e|e<;>subst e<;>rfl
 have h4:gX c≠10/\gX c≠35:=by rcases hcc with e|e|e|e<;>subst e<;>decide
 have hbk:yC (c::t)=0:=by
  rw[zy,if_neg (by simp[h1]),if_neg];cases t with
  |nil=>simp[Ce]
  |cons d t=>rcases hcc with e|e|e|e<;>subst e<;>simp[Ce]
 have hop:(Ou (c::t)).2=0:=by unfold Ou;rw[VZ h2]
 have hnm:QX (c::t)=0:=by
  have:oL (c::t)=0:=by unfold oL;rw[aY,h3];rfl
  unfold QX;simp[this]
 unfold kV oH AA;simp only[h,hbk,hop,hnm,hb,h4.1,h4.2,ne_eq,not_true_eq_false,if_false,ah,if_true]
theorem ZL {s:List UInt8} {a:Nat} {c:UInt8} {t:List UInt8} (h:s.drop a=32::c::t) (hc:al3 c=true) (P:List Dlm):
  kV s a (0,P,false,())=(((1,(a:Int),((a+1:Nat):Int),false,()):Tok),((0,P,false,()):Zz)):=by
 have hcc:c=108\/c=45\/c=34\/c=36:=by simpa [al3,or_assoc] using hc
 have h1:uk (c.toNat:Int)=false:=by rcases hcc with e|e|e|e<;>subst e<;>rfl
 have hbk:yC (c::t)=0:=by
  rw[zy,if_neg (by simp[h1]),if_neg];cases t with
  |nil=>simp[Ce]
  |cons d t=>rcases hcc with e|e|e|e<;>subst e<;>simp[Ce]
 have hb1:yC (32::c::t)=1:=by rw[zy,if_pos (by decide),hbk]
 unfold kV oH AA;simp[h,hb1]
theorem aCt (q br:Bool) {nm:List UInt8} (h: ∀c∈nm,EX c=true):
  lG (Gg q br++nm)=([(6,0,2,false,()),(1,2,3,false,()),(6,3,5,false,()),(1,5,6,false,()),(6,6,((6+(jm q br++nm).length:Nat):Int), !NR (jm q br++nm),())],(0,[],false,())):=by
 obtain⟨h1,h2⟩:=awm q br h;have hT:Gg q br++nm=108::115::32::45::108::32::(jm q br++nm):=by unfold Gg;rfl
 obtain⟨w,W,hW,hw⟩: ∃w W,jm q br++nm=w::W/\al3 w=true:=by
  unfold jm;cases q
  ·exact⟨36,_,rfl,by decide⟩
  ·exact⟨34,_,rfl,by decide⟩
 rw[hT];generalize hX:jm q br++nm=X at*;have e0: ∀Y:bK,qm (108::115::32::Y) 0 dR=2:=fun Y=>by rfl
 have e3: ∀Y:bK,qm (45::108::32::Y) 3 dR=2:=fun Y=>by rfl
 have w0:qg (108::115::32::45::108::32::X) 0=2:=by unfold qg;rw[aS,show((0:Nat):Int)=0 from rfl,e0]
 have w3:qg (108::115::32::45::108::32::X) 3=5:=by unfold qg;rw[show List.drop 3 (108::115::32::45::108::32::X)=45::108::32::X from rfl,show((3:Nat):Int)=3 from rfl,e3]
 have w6:qg (108::115::32::45::108::32::X) 6=6+X.length:=by unfold qg;rw[show List.drop 6 (108::115::32::45::108::32::X)=X from rfl,show((6:Nat):Int)=6 from rfl,h2]
 have c0:IU (108::115::32::45::108::32::X) 0 2=[108,115]:=by simp[IU]
 have c3:IU (108::115::32::45::108::32::X) 3 5=[45,108]:=by simp[IU]
 have c6:IU (108::115::32::45::108::32::X) 6 (6+X.length)=X:=by
  unfold IU;rw[List.take_of_length_le (by simp;omega)];rfl
 have s0:=Zo (s:=108::115::32::45::108::32::X) (a:=0) rfl (by decide) [];have s2:=ZL (s:=108::115::32::45::108::32::X) (a:=2) rfl (by decide) [];have s3:=Zo (s:=108::115::32::45::108::32::X) (a:=3) rfl (by decide) [];have s5:=ZL (s:=108::115::32::45::108::32::X) (a:=5) (c:=w) (t:=W) (by rw[hW];rfl) hw [];have s6:=Zo (s:=108::115::32::45::108::32::X) (a:=6) (c:=w) (t:=W) (by rw[hW];rfl) hw [];rw[w0,c0]at s0;rw[w3,c3]at s3;rw[w6,c6]at s6;have hp:0<X.length:=by rw[hW];simp
 obtain⟨k,hk⟩: ∃k,(108::115::32::45::108::32::X).length+1=k+6:=⟨X.length+1,by simp⟩;have hl:(108::115::32::45::108::32::X).length=6+X.length:=by simp;omega
 unfold lG;rw[hk,qY,if_pos (by omega),s0];simp only[aQ];rw[qY,if_pos (by omega),s2];simp only[aQ];rw[qY,if_pos (by omega),s3];simp only[aQ];rw[qY,if_pos (by omega),s5];simp only[aQ];rw[qY,if_pos (by omega),s6];simp only[aQ];rw[qY,if_neg (by omega)];have q0:NR [108,115]=true:=by decide
 have q3:NR [45,108]=true:=by decide
 simp[q0,q3]
theorem Q7: ∀(l m:bK) (a:Int) (x:gm×Bool) (L:List kH),jM (l++m) a x L=jM m (a+l.length) (iG l a x) (jM l a x L)
 |[],m,a,x,L=>by simp[jM,iG]
 |b::l,m,a,x,L=>by
  rw[List.cons_append,jM,Q7 l m,jM,iG,aB,show a+((l.length+1:Nat):Int)=a+1+(l.length:Int) by omega]
def G5 (q:Bool):gm:=if q=true then [(5,0),(0,0)]else [(0,0)]
def Ie (q:Bool) (v:Int):List kH:=if q=true then [(5,0,0,-1,true,()),(12,4,v,0,false,())]else [(12,0,v,-1,false,())]
def akV (q:Bool):List kH:=if q=true then [(5,0,0,-1,true,()),(12,4,0,0,true,())]else [(12,0,0,-1,true,())]
theorem aca (q:Bool) (v:Int): ∀(l:bK) (a:Int) (fr:Bool),0<a->(∀c∈l,H8 c=true)->jM l a (G5 q,fr) (Ie q v)=Ie q v
 |[],_,_,_,_=>rfl
 |c::l,a,fr,ha,h=>by
  have hc:=h c (aG ..);have ih:=fun fr'=>aca q v l (a+1) fr' (by omega) fun x hx=>h x (aj _ hx);rw[jM];cases q with
  |true=>
   obtain⟨fr',e⟩:=RY (f:=(5,0)) (r:=[(0,0)]) (by unfold wR;simp) fr hc a;have e':gu (G5 true) fr (gX c) a=(G5 true,fr'):=e;simp only[e'];have g:uB (Hq (G5 true)) a (Ie true v)=Ie true v:=by
    simp[uB,Hq,G5,Ie,og,Cj,counts,QS];omega
   rw[g];exact ih fr'
  |false=>
   obtain⟨fr',e⟩:=RY (f:=(0,0)) (r:=[]) (by unfold wR;simp) fr hc a;have e':gu (G5 false) fr (gX c) a=(G5 false,fr'):=e;simp only[e'];have g:uB (Hq (G5 false)) a (Ie false v)=Ie false v:=by
    simp[uB,Hq,G5,Ie,og,Cj,counts,QS]
   rw[g];exact ih fr'
theorem akX (q:Bool) (c:UInt8) (l:bK) (a:Int) (fr:Bool) (ha:0<a) (h: ∀x∈c::l,H8 x=true): ∃v,jM (c::l) a (qN q false,fr) (akV q)=Ie q v:=by
 have hc:=h c (aG ..);refine⟨a+1, ?_⟩;rw[jM];have ht:=fun fr'=>aca q (a+1) l (a+1) fr' (by omega) fun x hx=>h x (aj _ hx);cases q with
 |true=>
  obtain⟨fr',e⟩:=L6 (p:=4) (f:=(5,0)) (r:=[(0,0)]) (by unfold wR;simp) fr hc a;have e':gu (qN true false) fr (gX c) a=(G5 true,fr'):=e;simp only[e'];have g:uB (Hq (G5 true)) a (akV true)=Ie true (a+1):=by
   simp[uB,Hq,G5,Ie,akV,og,Cj,counts,QS,J3];omega
  rw[g];exact ht fr'
 |false=>
  obtain⟨fr',e⟩:=L6 (p:=0) (f:=(0,0)) (r:=[]) (by unfold wR;simp) fr hc a;have e':gu (qN false false) fr (gX c) a=(G5 false,fr'):=e;simp only[e'];have g:uB (Hq (G5 false)) a (akV false)=Ie false (a+1):=by
   simp[uB,Hq,G5,Ie,akV,og,Cj,counts,QS,J3]
  rw[g];exact ht fr'
theorem ar7 (p:UInt8->Bool): ∀l:bK,(∀c∈l,p c=true)->l.takeWhile p=l
 |[],_=>rfl
 |c::l,h=>by rw[aY,if_pos (h c (aG ..)),ar7 p l fun x hx=>h x (aj _ hx)]
theorem ag4 {nm:List UInt8} (h: ∀c∈nm,EX c=true) (h0:nm≠[]) (h1:Oi (nm.headD 0)=true):nl nm=nm.length:=by
 have hL:Ep nm≠0:=fun e=>by rw[WW h0]at e;rw[h1]at e;cases e
 have hN:runN nm=nm.length:=by
  unfold runN;congr 1;exact ar7 _ _ h
 unfold nl;rw[if_neg hL,hN]
theorem au3 (q:Bool) {nm:List UInt8} (h: ∀c∈nm,EX c=true) (h0:nm≠[]) (h1:Oi (nm.headD 0)=true):
  bQ (jm q false++nm)=(if q=true then [(5,0,(((jm q false++nm).length:Nat):Int),-1,true,()),(12,4,(((jm q false++nm).length:Nat):Int),0,false,())]else [(12,0,(((jm q false++nm).length:Nat):Int),-1,false,())]):=by
 obtain⟨r1,r2,r3⟩:=ahx q false;have hp:jM (jm q false) 0 dR []=akV q:=by cases q<;>decide+kernel
 have hn: ∀c∈nm,H8 c=true:=fun c hc=>awj (h c hc);have hlen:=ag4 h h0 h1;have hpos:0<nm.length:=List.length_pos_iff.2 h0;have hpr:prl nm=nm.length:=by unfold prl;rw[if_pos (by omega),hlen]
 unfold bQ;rw[Q7,hp];obtain⟨c,l,rfl⟩: ∃c l,nm=c::l:=by
  cases nm with
  |nil=>exact absurd rfl h0
  |cons c l=>exact⟨c,l,rfl⟩
 obtain⟨v,hv⟩:=akX q c l (0+(jm q false).length) (iG (jm q false) 0 dR).2 (by unfold jm;cases q<;>simp) hn;rw[show iG (jm q false) 0 dR=(qN q false,(iG (jm q false) 0 dR).2) from by rw[<-r1],hv];cases q with
 |true=>
  have hd:List.drop 5 (jm true false++c::l)=c::l:=rfl;simp only[Ie,if_true,ax,aV,F9];simp[hd,hpr];have:(jm true false).length=5:=rfl;omega
 |false=>
  have hd:List.drop 1 (jm false false++c::l)=c::l:=rfl;simp only[Ie,ah,if_false,ax,aV,F9];simp[hd,hpr];have:(jm false false).length=1:=rfl;omega
end
section
open Tryz
open Go.RowKit
noncomputable def b3:Code:=(Tryz.f3.body).getD .skip
noncomputable def avJ:Code:=cA (cA (cB (cA (cB (cB (cB (cB (cB (cB (cB (b3)))))))))))
def av7:dM:=⟨[0,7,8,100012],[],[],[],[6],[]⟩
def ahc:SP:=⟨us [.v .str,.u,.u,.u,.u,.u,.u,.v .str,.v cu] 51,[]⟩
def Yl:SP:=⟨us [] 60,[]⟩
def YH:SP:=⟨us [.u,.u,.u,.u,.u,.u,.v .bool] 53,[]⟩
def Y6 {γ:Type} (rec:bK->bK->Int->Option γ) (kE:Option γ) (kR:Bool->Option γ) (v0 v1:bK) (v2:Int):Option γ:=bif(leI v2 (bC v0))then bif(fF (bC v0) 0 v2)then bif(kC v1 (sub v0 0 v2))then bz (WI (bT v1 (sub v0 0 v2)) (bC (bT v1 (sub v0 0 v2)))) fun y0=>bif(!(bM y0.2.1 0))then kR false else bif(fF (bC v0) 0 v2)then bif(!((bM y0.1.1 2)&&((bM y0.1.2.1 0)&&((bM y0.1.2.2.1 (bC v1))&&((bM y0.1.2.2.2.1 0)&&((gU y0.1.2.2.2.2.1 (sub v0 0 v2))&&((Oc y0.1.2.2.2.2.2.1 false)&&((gU y0.1.2.2.2.2.2.2.1 [])&&((bM y0.1.2.2.2.2.2.2.2.1 0)&&((bM y0.1.2.2.2.2.2.2.2.2.1 0)&&true))))))))))then kR false else rec v0 v1 (bU .i64 v2 1)else none else none else none else kE
def ut:Nat->bK->bK->Int->Option (Yl.den⊕YH.den)
 |0,_,_,_=>none
 |n+1,v0,v1,v2=>Y6 (ut n) (some (.inl ((),()))) (fun r0=>some (.inr ((r0,()),()))) v0 v1 v2
def azI (n:Nat) (v:ahc.den):=ut n v.1.1 v.1.2.1 v.1.2.2.1
noncomputable def apl:dC:=iD av7 ahc Yl YH (.exit 0) (azI bP) 6
def aaE (y1:Yl.den⊕YH.den):Option oW:=dL y1 (fun a2=>some (true,())) (fun b2=>some (b2.1.1,()))
def fn3 (x0:bK) (x1 x2:Bool):Option oW:=bif(iw 20 (bC x0))then some (true,())else bz (fn9 x0) fun y0=>bif(!y0.1)then some (true,())else bif x2 then bif(kC [108,115,32,45,108,32] [34,97,32,98])then bif(kC (bT [108,115,32,45,108,32] [34,97,32,98]) [36])then bif x1 then bif(kC (bT (bT [108,115,32,45,108,32] [34,97,32,98]) [36]) [123])then bz (ut bP x0 (bT (bT (bT [108,115,32,45,108,32] [34,97,32,98]) [36]) [123]) 0) fun y1=>aaE y1 else none else bz (ut bP x0 (bT (bT [108,115,32,45,108,32] [34,97,32,98]) [36]) 0) fun y1=>aaE y1 else none else none else bif(kC [108,115,32,45,108,32] [36])then bif x1 then bif(kC (bT [108,115,32,45,108,32] [36]) [123])then bz (ut bP x0 (bT (bT [108,115,32,45,108,32] [36]) [123]) 0) fun y1=>aaE y1 else none else bz (ut bP x0 (bT [108,115,32,45,108,32] [36]) 0) fun y1=>aaE y1 else none
def aC6:Sum:=⟨[.str,.bool,.bool],NT,fun x=>fn3 x.1 x.2.1 x.2.2.1⟩
noncomputable def asF:Env:=fZ prog tt 3 [(8,Iu),(9,aC9),(10,VC)] [(12,av7)] [(12,apl)]
def aqb {γ:Type} (a:ahc.den->Option γ) (b:Yl.den->Option γ) (c:YH.den->Option γ) (v:ahc.den):Option γ:=Y6 (fun v0 v1 v2=>a ((v0,v1,v2,()),())) (b ((),())) (fun r0=>c ((r0,()),())) v.1.1 v.1.2.1 v.1.2.2.1
theorem az7:eQ asF 3 avJ apl:=QF (aqb) (h2:=by intros;simp only[aqb,Y6,dm,dn,bu,dh,dw])
theorem aD7:dO asF 3 b3:=wK [avJ] (aD (fM (az7)) aN)
theorem asG:dB asF:=eA Tryz.f3 (aD GN (aD avt (aD Ew aN))) (aD7)
end
section
open Bool renaming false_eq_true → ah, not_true → au, and_true → az, not_false → aA
open Int renaming toNat_natCast → aQ
open List renaming length_append → ag, append_assoc → ai, takeWhile_cons → aY
open Go.RowKit
theorem wW (a m:bK):sub (a++m) (a.length:Int) (bC (a++m))=m:=by
 simp only[sub,bD,aQ,List.take_length,List.drop_left]
theorem avs (m:bK):sub m 0 (bC m)=m:=by
 rw[bD];simp[sub]
theorem Fp {m:List UInt8} (h: ∀c∈m,EX c=true) (h0:m≠[]) (h1:Oi (m.headD 0)=true):Tq m=true:=by
 have:=ag4 h h0 h1;have hp:0<m.length:=List.length_pos_iff.2 h0;unfold Tq;rw[this];exact decide_eq_true ⟨by omega,rfl⟩
theorem apv (q br:Bool) {m:List UInt8} (h: ∀c∈m,EX c=true) (h1:m≠[]->Oi (m.headD 0)=true):
  Ha Iy (Gg q br++m)=Nq (Gg q br++m) 0 0 m:=by
 obtain⟨r1,r2⟩:=awm q br h;have hw:sub (Gg q br++m) 6 (bC (Gg q br++m))=jm q br++m:=by
  have e:Gg q br++m=[108,115,32,45,108,32]++(jm q br++m):=by unfold Gg;rw[ai]
  rw[e];exact wW [108,115,32,45,108,32] (jm q br++m)
 rw[Ha,aCt q br h];simp only;rw[NV];simp only[show eF [((6:Int),(0:Int),(2:Int),false,()),(1,2,3,false,()),(6,3,5,false,()),(1,5,6,false,()),(6,6,((6+(jm q br++m).length:Nat):Int), !NR (jm q br++m),())]=(6,6,((6+(jm q br++m).length:Nat):Int), !NR (jm q br++m),()) from rfl];rw[if_neg (by simp[Qk]),if_neg (by simp),show gJ (Gg q br++m) (6,6,((6+(jm q br++m).length:Nat):Int), !NR (jm q br++m),())=6 by simp[gJ],hw,r1];cases br with
 |true=>
  have hs:Ob q true m=qN q true:=by simp[Ob]
  rw[hs];cases q with
  |true=>
   rw[show F8 (lo (qN true true))=some (8,(4,())) by rfl,show xh (lo (qN true true))=0 by rfl];simp only;rw[if_neg (by decide)];unfold MO;have hs2:sub (jm true true++m) (4+2) (bC (jm true true++m))=m:=wW (jm true true) m;rw[if_neg (by decide),hs2,if_pos ⟨.inr rfl,by
    by_cases h0:m=[]
    ·exact .inl h0
    ·exact .inr (Fp h h0 (h1 h0))⟩]
   rfl
  |false=>
   rw[show F8 (lo (qN false true))=some (7,(0,())) by rfl,show xh (lo (qN false true))=0 by rfl];simp only;rw[if_neg (by decide)];unfold MO;have hs2:sub (jm false true++m) (0+2) (bC (jm false true++m))=m:=wW (jm false true) m;rw[if_neg (by decide),hs2,if_pos ⟨.inl rfl,by
    by_cases h0:m=[]
    ·exact .inl h0
    ·exact .inr (Fp h h0 (h1 h0))⟩]
   rfl
 |false=>
  by_cases h0:m=[]
  ·subst h0;have hs:Ob q false []=qN q false:=by simp[Ob]
   rw[hs];cases q with
   |true=>
    rw[show F8 (lo (qN true false))=some (12,(4,())) by rfl,show xh (lo (qN true false))=0 by rfl];simp only;rw[if_neg (by decide)];unfold MO;rw[if_pos rfl];rfl
   |false=>
    rw[show F8 (lo (qN false false))=some (12,(0,())) by rfl,show xh (lo (qN false false))=0 by rfl];simp only;rw[if_neg (by decide)];unfold MO;rw[if_pos rfl];rfl
  ·have hs:Ob q false m=(qN q false).tail:=by simp[Ob,h0]
   rw[hs];have hp:=au3 q h h0 (h1 h0);have hd:PQ (jm q false++m)=m:=by
    unfold PQ;rw[hp];cases q with
    |true=>
     simp only[if_true,List.getLast?_cons_cons,List.getLast?_singleton];have hs2:sub (jm true false++m) (4+1) (bC (jm true false++m))=m:=wW (jm true false) m;rw[hs2,if_pos ⟨trivial,by rw[bD],Fp h h0 (h1 h0)⟩]
    |false=>
     simp only[ah,if_false,List.getLast?_singleton];have hs2:sub (jm false false++m) (0+1) (bC (jm false false++m))=m:=wW (jm false false) m;rw[hs2,if_pos ⟨trivial,by rw[bD],Fp h h0 (h1 h0)⟩]
   rw[hd];cases q with
   |true=>
    rw[show F8 (lo (qN true false).tail)=none by rfl,show xh (lo (qN true false).tail)=0 by rfl];simp only;rw[if_pos h0];rfl
   |false=>
    rw[show F8 (lo (qN false false).tail)=none by rfl,show xh (lo (qN false false).tail)=0 by rfl];simp only;rw[if_pos h0];rfl
theorem aim (p:UInt8->Bool): ∀l:bK,(l.takeWhile p).length=l.length-> ∀c∈l,p c=true
 |[],_,c,hc=>by cases hc
 |a::l,h,c,hc=>by
  rw[aY]at h;split at h
  ·rename_i ha
   rcases List.mem_cons.1 hc with e|e
   ·rw[e];exact ha
   ·exact aim p l (by simpa using h) c e
  ·simp at h
theorem azW {nm:List UInt8} (h0:nl nm≠0) (h:nl nm=nm.length):(∀c∈nm,EX c=true)/\Oi (nm.headD 0)=true:=by
 have hL:Ep nm≠0:=fun e=>h0 (by unfold nl;rw[if_pos e]);have hN:runN nm=nm.length:=by
  unfold nl at h;rw[if_neg hL]at h;exact h
 have hne:nm≠[]:=by rintro rfl;exact hL rfl
 refine⟨aim EX nm hN, ?_⟩;cases hx:Oi (nm.headD 0)with
 |true=>rfl
 |false=>exact absurd ((WW hne).2 hx) hL
theorem QQ (q br:Bool) {nm:List UInt8} (hl:nm.length<=20) (h: ∀c∈nm,EX c=true) (h1:Oi (nm.headD 0)=true): ∀(N k:Nat),nm.length+1-k<N->k<=nm.length+1->
  ut N nm (Gg q br) (k:Int)=some (.inl ((),()))
 |0,k,hk,_=>by omega
 |N+1,k,hk,hk1=>by
  rw[ut,Y6];by_cases e:k<=nm.length
  ·have hpl:(Gg q br).length<=12:=by cases q<;>cases br<;>decide
   have hsb:sub nm 0 (k:Int)=nm.take k:=by simp[sub]
   have htl:(nm.take k).length<=20:=by simp;omega
   have hT: ∀c∈nm.take k,EX c=true:=fun c hc=>h c (List.mem_of_mem_take hc);have hH:nm.take k≠[]->Oi ((nm.take k).headD 0)=true:=fun hne=>by
    cases nm with
    |nil=>simp at hne
    |cons a l=>
     cases k with
     |zero=>simp at hne
     |succ k=>simpa using h1
   have hctx:=Z5 (s:=Gg q br++nm.take k) (c:=bC (Gg q br++nm.take k)) (by rw[ag];omega) (by rw[bD];omega) (by rw[bD];omega);rw[avs,apv q br hT hH]at hctx;have hfrom:(0:Int)+bC (Gg q br++nm.take k)-bC (nm.take k)=bC (Gg q br):=by
    rw[bD,bD,bD,ag];omega
   have hp:fF (bC nm) 0 (k:Int)=true:=fK (by omega) (by omega) (by rw[bD];omega);have ha:bU .i64 (k:Int) 1=((k+1:Nat):Int):=by rw[bY (by omega) (by omega)];omega
   have ih:=QQ q br hl h h1 N (k+1) (by omega) (by omega);rw[bH (ou (by rw[bD];omega)),hp,cond_true,hsb,bH (zh (by omega))];simp only[bT,hctx,bu,Nq,hfrom,fD,lL,nD,Bool.and_self,az,au,cond_false,cond_true,ha];exact ih
  ·rw[cO (Jm (by rw[bD];omega))]
theorem akz (nm:bK) (br q:Bool):fn3 nm br q=some (true,()):=by
 (rewrite [fn3];delta aaE)
 by_cases hl:nm.length<=20
 ·rw[cO (iP (by rw[bD];omega)),wI (by omega),bu];by_cases hn:nl nm≠0/\nl nm=nm.length
  ·obtain⟨a1,a2⟩:=azW hn.1 hn.2;have hlp:=fun q br=>QQ q br hl a1 a2 bP 0 (dJ (by omega)) (by omega);have h1:=hlp true true;have h2:=hlp true false;have h3:=hlp false true;have h4:=hlp false false;simp only[decide_eq_true hn,au,cond_false];cases q with
   |true=>
    rw[cond_true,bH (by rfl),bH (by rfl)];cases br with
    |true=>rw[cond_true,bH (by rfl),show ut bP nm (bT (bT (bT [108,115,32,45,108,32] [34,97,32,98]) [36]) [123]) 0=_ from h1];rfl
    |false=>rw[cond_false,show ut bP nm (bT (bT [108,115,32,45,108,32] [34,97,32,98]) [36]) 0=_ from h2];rfl
   |false=>
    rw[cond_false,bH (by rfl)];cases br with
    |true=>rw[cond_true,bH (by rfl),show ut bP nm (bT (bT [108,115,32,45,108,32] [36]) [123]) 0=_ from h3];rfl
    |false=>rw[cond_false,show ut bP nm (bT [108,115,32,45,108,32] [36]) 0=_ from h4];rfl
  ·simp only[decide_eq_false hn,aA,cond_true]
 ·rw[bH (fJ (by rw[bD];omega))]
end
section
open Bool renaming and_eq_true → af
open Nat renaming le_refl → ae, eq_of_beq_eq_true → ak, le_trans → aO, le_mul_of_pos_right → bn
open Tryz
open Go.RowKit Go.Shelf Go.Lib
def Qy:Go.Shelf.Ren:=⟨fun|155=>87|154=>126|138=>165|165=>166|143=>167|166=>71|197=>168|169=>72|195=>199|218=>200|240=>110|241=>201|219=>202|260=>203|276=>155|277=>218|217=>219|225=>220|224=>221|267=>222|266=>234|314=>235|n=>n,fun|9=>9|3=>3|4=>4|72=>108|0=>0|76=>118|105=>206|21=>21|5=>5|70=>106|20=>20|37=>86|75=>117|127=>171|164=>200|46=>227|119=>228|139=>231|138=>230|146=>241|51=>240|80=>120|n=>n,fun|1=>0|3=>1|4=>2|n=>n⟩
theorem Qx:Go.Proofs.Lays.n155 prog Qy:={
 mixed:=by kernel_rfl
 f138:=func165.trans (congrArg some (by kernel_rfl))
 f143:=func167.trans (congrArg some (by kernel_rfl))
 f154:=func126.trans (congrArg some (by kernel_rfl))
 f155:=func87.trans (congrArg some (by kernel_rfl))
 f165:=func166.trans (congrArg some (by kernel_rfl))
 f166:=func71.trans (congrArg some (by kernel_rfl))
 f169:=func72.trans (congrArg some (by kernel_rfl))
 f195:=func199.trans (congrArg some (by kernel_rfl))
 f197:=func168.trans (congrArg some (by kernel_rfl))
 f217:=func219.trans (congrArg some (by kernel_rfl))
 f218:=func200.trans (congrArg some (by kernel_rfl))
 f219:=func202.trans (congrArg some (by kernel_rfl))
 f224:=func221.trans (congrArg some (by kernel_rfl))
 f225:=func220.trans (congrArg some (by kernel_rfl))
 f240:=func110.trans (congrArg some (by kernel_rfl))
 f241:=func201.trans (congrArg some (by kernel_rfl))
 f260:=func203.trans (congrArg some (by kernel_rfl))
 f266:=func234.trans (congrArg some (by kernel_rfl))
 f267:=func222.trans (congrArg some (by kernel_rfl))
 f276:=func155.trans (congrArg some (by kernel_rfl))
 f277:=func218.trans (congrArg some (by kernel_rfl))
 f314:=func235.trans (congrArg some (by kernel_rfl))
 t0:=underlying0
 a0:=isAgg0
 z0:=sizeOf0
 v0:=zeroValue0
 t3:=underlying3
 a3:=isAgg3
 z3:=sizeOf3
 v3:=zeroValue3
 t4:=underlying4
 a4:=isAgg4
 z4:=sizeOf4
 v4:=zeroValue4
 t5:=underlying5
 a5:=isAgg5
 z5:=sizeOf5
 v5:=zeroValue5
 t9:=underlying9
 a9:=isAgg9
 z9:=sizeOf9
 v9:=zeroValue9
 t20:=underlying20
 a20:=isAgg20
 z20:=sizeOf20
 v20:=zeroValue20
 t21:=underlying21
 a21:=isAgg21
 z21:=sizeOf21
 v21:=zeroValue21
 t37:=underlying86
 a37:=isAgg86
 z37:=sizeOf86
 v37:=zeroValue86
 t46:=underlying227
 a46:=isAgg227
 z46:=sizeOf227
 v46:=zeroValue227
 t51:=underlying240
 a51:=isAgg240
 z51:=sizeOf240
 v51:=zeroValue240
 t70:=underlying106
 a70:=isAgg106
 z70:=sizeOf106
 v70:=zeroValue106
 t72:=underlying108
 a72:=isAgg108
 z72:=sizeOf108
 v72:=zeroValue108
 t75:=underlying117
 a75:=isAgg117
 z75:=sizeOf117
 v75:=zeroValue117
 t76:=underlying118
 a76:=isAgg118
 z76:=sizeOf118
 v76:=zeroValue118
 t105:=underlying206
 a105:=isAgg206
 z105:=sizeOf206
 v105:=zeroValue206
 t119:=underlying228
 a119:=isAgg228
 z119:=sizeOf228
 t127:=underlying171
 a127:=isAgg171
 z127:=sizeOf171
 v127:=zeroValue171
 t138:=underlying230
 a138:=isAgg230
 z138:=sizeOf230
 v138:=zeroValue230
 t139:=underlying231
 a139:=isAgg231
 z139:=sizeOf231
 v139:=zeroValue231
 t146:=underlying241
 a146:=isAgg241
 z146:=sizeOf241
 v146:=zeroValue241
 t164:=underlying200
 a164:=isAgg200
 z164:=sizeOf200
 v164:=zeroValue200
 g1:=by kernel_rfl
 g3:=by kernel_rfl
 g4:=by kernel_rfl}
theorem asT:Builder.Extra prog Qy where
 sizeBuilder:=by kernel_rfl
 liesBuilder:=by kernel_rfl
 t5:=Qx.t5
 a5:=Qx.a5
 z5:=Qx.z5
 v5:=Qx.v5
 infoByte:=by kernel_rfl
 cellsByte:=by kernel_rfl
 sizeByte:=by kernel_rfl
 neB5:=by decide
def Vr (s old new:List UInt8):Option (List UInt8×Unit):=bif decide (s.length<4294967281)&&decide (1<=old.length)&&decide (s.length+s.length*new.length<=140737488355328)then some (Lib.replaceAll s old new,())else none
def aik:Sum:=⟨[.str,.str,.str],[(.str,false)],fun x=>Vr x.1 x.2.1 x.2.2.1⟩
theorem acU:dU prog 87 aik:=by
 intro w bar args' x y hphi hbar hdv hy;obtain⟨u,us1,e1,h1,u2,us2,e2,h2,u3,us3,e3,h3,h4⟩:=hdv;obtain rfl:us3=[]:=h4;subst e3 e2;have ha:args'= #[u,u2,u3]:=by
  apply Array.ext';simpa using e1
 subst ha;have e4:=h1.str_inv;have e5:=h2.str_inv;have e6:=h3.str_inv;subst e4 e5 e6;have hy:Vr x.1 x.2.1 x.2.2.1=some y:=hy;unfold Vr at hy;obtain⟨hb,hy⟩:=di hy;simp only[af,decide_eq_true_eq]at hb;cases hy;obtain⟨m,hm⟩:=hphi.2;have hsz: ∀l:List UInt8,(⟨l.toArray⟩:ByteArray).size=l.length:=fun l=>by simp[ByteArray.size]
 have hcb:Lib.countB ⟨x.1.toArray⟩ ⟨x.2.1.toArray⟩<=x.1.length:=by
  have:=Lib.countB_mul_le (⟨x.2.1.toArray⟩:ByteArray) (by rw[hsz];exact hb.1.2) (⟨x.1.toArray⟩:ByteArray).size ⟨x.1.toArray⟩ (ae _);rw[hsz,hsz]at this;exact aO (bn _ (by omega)) this
 have hc:=Any.strings_ReplaceAll Qx asT ⟨x.1.toArray⟩ ⟨x.2.1.toArray⟩ ⟨x.2.2.1.toArray⟩ m w (by rw[hsz];exact hb.1.1) hm (by rw[hsz];exact hb.1.2)
  (by rw[hsz,hsz];have:=Nat.mul_le_mul_right x.2.2.1.length hcb;omega)
 refine .inl ⟨AL Nu func87 (show f87.body=some ((f87.body).getD .skip) by kernel_rfl) _ _,hc.mono fun e w' ⟨he,hbel⟩=> ?_⟩;refine⟨(kJ w bar).at_ w',[.string ⟨(Lib.replaceAll x.1 x.2.1 x.2.2.1).toArray⟩],he,rfl,(ZI hphi hbar).ext hbel,rfl,rfl,rfl, ?_⟩;simp only[aik,oI,bF,bJ,and_true];exact VD.str_mk
noncomputable def sg2 (g:FuncId):Option Sum:=bif Nat.beq g 87 then some aik else sg1 g
theorem aEc: ∀g s,sg2 g=some s->dU prog g s:=fun g s h=>by
 unfold sg2 at h;rw[cond_eq_ite]at h;split at h
 ·rename_i hg
  obtain rfl:g=87:=ak hg;cases h;exact acU
 exact YV g s h
end
section
open Tryz
open Go.RowKit
def Dq (x0:Int):Option oW:=bz (Gj x0) fun y0=>bif(bM y0.1 5)then some (true,())else bif(bM y0.1 6)then some (true,())else some ((leI 128 x0),())
def atc (x0:Int):Option oW:=bif(bM x0 37)then bif(bM x0 37)then some (true,())else Dq x0 else bif(bM x0 43)then bif(bM x0 43)then some (true,())else Dq x0 else bif(bM x0 44)then bif(bM x0 44)then some (true,())else Dq x0 else bif(bM x0 45)then bif(bM x0 45)then some (true,())else Dq x0 else bif(bM x0 46)then bif(bM x0 46)then some (true,())else Dq x0 else bif(bM x0 47)then bif(bM x0 47)then some (true,())else Dq x0 else bif(bM x0 58)then bif(bM x0 58)then some (true,())else Dq x0 else bif(bM x0 64)then some (true,())else Dq x0
def awZ:Sum:=⟨[.int .u8],NT,fun x=>atc x.1⟩
noncomputable def aBH:Env:=fZ prog tt 84 [(123,Ey)] [] []
theorem anG:dB aBH:=eA f84 (aD rF aN)
theorem arW:dU prog 84 awZ:=sA anG
noncomputable def al1:Code:=(f124.body).getD .skip
noncomputable def xx:Code:=cB (cA (cB (cA (cB (al1)))))
def xK:dM:=⟨[4,900018],[],[],[],[2],[]⟩
def D5:SP:=⟨us [.u,.u,.u,.u,.v .bool] 16,[]⟩
def qF:SP:=⟨us [] 21,[]⟩
def qH:SP:=⟨us [.u,.u,.v .bool] 18,[]⟩
def BO {γ:Type} (kE:Option γ) (kR:Bool->Option γ) (v0:Bool):Option γ:=bif v0 then kR true else kE
def gy (v0:Bool):Option (qF.den⊕qH.den):=BO (some (.inl ((),()))) (fun r0=>some (.inr ((r0,()),()))) v0
noncomputable def JJ:dC:=iD xK D5 qF qH (.exit 999999) (fun v=>gy v.1.1) 6
def kL (y0:qF.den⊕qH.den):Option oW:=dL y0 (fun a1=>some (false,())) (fun b1=>some (b1.1.1,()))
def afY (x0:bK):Option oW:=bif(gU x0 [33])then bz (gy (gU x0 [33])) fun y0=>kL y0 else bif(gU x0 [123])then bz (gy (gU x0 [123])) fun y0=>kL y0 else bif(gU x0 [125])then bz (gy (gU x0 [125])) fun y0=>kL y0 else bif(gU x0 [99,97,115,101])then bz (gy (gU x0 [99,97,115,101])) fun y0=>kL y0 else bif(gU x0 [100,111])then bz (gy (gU x0 [100,111])) fun y0=>kL y0 else bif(gU x0 [100,111,110,101])then bz (gy (gU x0 [100,111,110,101])) fun y0=>kL y0 else bif(gU x0 [101,108,105,102])then bz (gy (gU x0 [101,108,105,102])) fun y0=>kL y0 else bif(gU x0 [101,108,115,101])then bz (gy (gU x0 [101,108,115,101])) fun y0=>kL y0 else bif(gU x0 [101,115,97,99])then bz (gy (gU x0 [101,115,97,99])) fun y0=>kL y0 else bif(gU x0 [102,105])then bz (gy (gU x0 [102,105])) fun y0=>kL y0 else bif(gU x0 [102,111,114])then bz (gy (gU x0 [102,111,114])) fun y0=>kL y0 else bif(gU x0 [105,102])then bz (gy (gU x0 [105,102])) fun y0=>kL y0 else bif(gU x0 [105,110])then bz (gy (gU x0 [105,110])) fun y0=>kL y0 else bif(gU x0 [116,104,101,110])then bz (gy (gU x0 [116,104,101,110])) fun y0=>kL y0 else bif(gU x0 [117,110,116,105,108])then bz (gy (gU x0 [117,110,116,105,108])) fun y0=>kL y0 else bz (gy (gU x0 [119,104,105,108,101])) fun y0=>kL y0
def aqN:Sum:=⟨[.str],NT,fun x=>afY x.1⟩
noncomputable def KG:Env:=fZ prog tt 124 [] [(800018,xK)] [(800018,JJ)]
theorem RX {R:Type} (d:Nat) (K:Ex->St->Option R) (v0:Bool):
  iter (some xK) (yD (vz KG (d+6) 124 xx)) 1 (jL D5 ((v0,()),())) K=
   BO (K (.exit 999999) (jL qF ((),()))) (fun r0=>K .ret (jL qH ((r0,()),()))) v0:=by kernel_rfl
theorem Xe {R:Type} (d:Nat) (K:Ex->St->Option R) (v0:Bool):
  iter (some xK) (yD (vz KG (d+6) 124 xx)) 1 (jL D5 ((v0,()),())) K=bz (gy v0) fun o=>dL o (fun a=>K (.exit 999999) (jL qF a)) fun b=>K .ret (jL qH b):=by
  rw[RX];simp only[gy,BO,dm,dn,bu,dh,dw]
  try simp only[dL]
theorem XB:qO KG 124 xx JJ:=Dh (by kernel_rfl) fun R d K v o h=>⟨1,(Xe d K (v.1.1)).trans (congrArg (fun o=>bz o _) h)⟩
theorem azb:jf al1=[]:=by kernel_rfl
theorem axz:EZ KG 124 al1=[xx]:=by kernel_rfl
theorem azm:dO KG 124 al1:=xN al1 (fun x _ hx=>absurd (show false=true from hx) (by decide)) (by rw[azb];exact aN) (A7 (by rw[axz];exact(aD (fC (by kernel_rfl) (XB)) aN)))
theorem aiX:dB KG:=eA f124 aN (azm)
theorem ale:dU prog 124 aqN:=sA aiX
def atd (x0:bK):Option oW:=bz (afY x0) fun y0=>bif y0.1 then some (true,())else bif(!(gU x0 []))then bz (zN x0 0) fun y1=>some ((bM y1.1 (bC x0)),())else some (false,())
def aw0:Sum:=⟨[.str],NT,fun x=>atd x.1⟩
noncomputable def aBI:Env:=fZ prog tt 85 [(124,aqN),(125,Ze)] [] []
theorem anH:dB aBI:=eA f85 (aD ale (aD Me aN))
theorem arX:dU prog 85 aw0:=sA anH
noncomputable def b48:Code:=(f48.body).getD .skip
noncomputable def avK:Code:=cA (cA (cB (cA (cB (cB (cB (b48)))))))
def av8:dM:=⟨[0,3,8,9,100005],[],[3],[],[2],[]⟩
def ay1:dM:=⟨[0,3,8,9],[],[],[],[],[]⟩
def atN:dM:=⟨[0,3,4,8,9],[],[],[],[],[]⟩
def atO:dM:=⟨[0,3,4,8,9],[],[],[],[],[]⟩
def atP:dM:=⟨[3],[],[],[],[],[]⟩
def akt:dM:=⟨[0,1],[],[],[],[],[]⟩
def aku:dM:=⟨[0,1],[],[],[],[],[]⟩
def ahe:SP:=⟨us [.v .str,.u,.u,.ptr 1000003 0,.u,.u,.u,.u,.v cu,.v cu] 27,[.box 1000003 108 [.slf 1000003,.slc 1500003],.arr 1500003 (.int .u8)]⟩
def aeR:SP:=⟨us [.u,.u,.u,.ptr 1000003 0] 33,[.box 1000003 108 [.slf 1000003,.slc 1500003],.arr 1500003 (.int .u8)]⟩
def ae4:SP:=⟨us [.u,.u,.v .str] 34,[]⟩
def Eu {γ:Type} (v3:gW) (v0:bK) (v2:Int) (rec:bK->Int->Int->gW->Option γ) (v1:Int):Option γ:=bif(eH (bT v3 [92]) 1)then bif(gI v0 v2)then bif(eH (bT (bT v3 [92]) [(bV v0 v2)]) 1)then rec v0 v1 (bU .i64 v2 1) (bT (bT v3 [92]) [(bV v0 v2)])else none else none else none
def Af {γ:Type} (v0:bK) (v2:Int) (v3:gW) (rec:bK->Int->Int->gW->Option γ) (v1:Int):Option γ:=bif(gI v0 v2)then bif(eH (bT v3 [(bV v0 v2)]) 1)then rec v0 v1 (bU .i64 v2 1) (bT v3 [(bV v0 v2)])else none else none
def RN {γ:Type} (rec:bK->Int->Int->gW->Option γ) (kE:gW->Option γ) (kR:bK->Option γ) (v0:bK) (v1 v2:Int) (v3:gW):Option γ:=bif(iw v2 v1)then bif(gI v0 v2)then bif(bM (bV v0 v2) 10)then bif(eH (bT v3 (bI [39,10,39])) 1)then rec v0 v1 (bU .i64 v2 1) (bT v3 (bI [39,10,39]))else none else bif(gI v0 v2)then bz (atc (bV v0 v2)) fun y0=>bif(!y0.1)then bif(!y0.1)then Eu v3 v0 v2 rec v1 else Af v0 v2 v3 rec v1 else bif(bM v2 0)then bz (atd v0) fun y1=>bif y1.1 then Eu v3 v0 v2 rec v1 else Af v0 v2 v3 rec v1 else Af v0 v2 v3 rec v1 else none else none else kE v3
def Be:Nat->bK->Int->Int->gW->Option (aeR.den⊕ae4.den)
 |0,_,_,_,_=>none
 |n+1,v0,v1,v2,v3=>RN (Be n) (fun e0=>some (.inl ((),((),e0,())))) (fun r0=>some (.inr ((r0,()),()))) v0 v1 v2 v3
def azK (n:Nat) (v:ahe.den):=Be n v.1.1 v.1.2.1 v.1.2.2.1 v.2.2.1
noncomputable def apm:dC:=iD av8 ahe aeR ae4 (.exit 0) (azK bP) 6
def as6 (x0:bK):Option Zv:=bif(gU x0 [])then some ([39,39],())else bz (Be bP x0 (bC x0) 0 []) fun y0=>dL y0 (fun a1=>bif(bM (bC a1.2.2.1) (bC a1.2.2.1))then some ((ofBytes a1.2.2.1),())else none) (fun b1=>some (b1.1.1,()))
def awN:Sum:=⟨[.str],tzF,fun x=>as6 x.1⟩
noncomputable def anh:Env:=eu prog tt [(84,awZ),(85,aw0)] [(48,5,av8),(48,600008,ay1),(48,600011,atN),(48,600012,atO),(48,600014,atP),(71,600001,akt),(86,600001,aku)] [(48,5,apm)] []
def aqd {γ:Type} (a:ahe.den->Option γ) (b:aeR.den->Option γ) (c:ae4.den->Option γ) (v:ahe.den):Option γ:=RN (fun v0 v1 v2 v3=>a ((v0,v1,v2,()),((),v3,()))) (fun e0=>b ((),((),e0,()))) (fun r0=>c ((r0,()),())) v.1.1 v.1.2.1 v.1.2.2.1 v.2.2.1
theorem az9:eQ anh 48 avK apm:=QF (aqd) (h2:=by intros;simp only[aqd,RN,dm,dn,bu,dh,dw,Eu,Af])
theorem aCI:dO anh 48 b48:=wK [avK] (aD (fM (az9)) aN)
theorem ani:dB anh:=eB (aD arW (aD arX aN)) [48] (aD ⟨f48,b48,by kernel_rfl,by kernel_rfl,aCI⟩ aN)
theorem arJ:dU prog 48 awN:=sA ani
def as7 (x0:bK):Option Zv:=bz (Vr x0 [39] [39,92,39,39]) fun y0=>bif(kC [39] y0.1)then some ((bT [39] y0.1),())else none
def awO:Sum:=⟨[.str],tzF,fun x=>as7 x.1⟩
noncomputable def aBw:Env:=fZ prog tt 49 [(87,aik)] [] []
theorem anj:dB aBw:=eA f49 (aD acU aN)
theorem arK:dU prog 49 awO:=sA anj
noncomputable def b50:Code:=(f50.body).getD .skip
noncomputable def avL:Code:=cA (cA (cB (cA (cB (cB (cB (b50)))))))
def av9:dM:=⟨[0,3,7,8,100004],[],[3],[],[2],[]⟩
def ay2:dM:=⟨[0,3],[],[],[],[],[]⟩
def atQ:dM:=⟨[0,3,4,7,8],[],[],[],[],[]⟩
def atS:dM:=⟨[0,3,4,7,8],[],[],[],[],[]⟩
def atT:dM:=⟨[3],[],[],[],[],[]⟩
def akv:dM:=⟨[0,1],[],[],[],[],[]⟩
def ahf:SP:=⟨us [.v .str,.u,.u,.ptr 1000003 0,.u,.u,.u,.v cu,.v cu] 17,[.box 1000003 108 [.slf 1000003,.slc 1500003],.arr 1500003 (.int .u8)]⟩
def aeS:SP:=⟨us [.u,.u,.u,.ptr 1000003 0] 22,[.box 1000003 108 [.slf 1000003,.slc 1500003],.arr 1500003 (.int .u8)]⟩
def ae5:SP:=⟨us [.u,.u,.v .str] 23,[]⟩
def Ag {γ:Type} (v3:gW) (v0:bK) (v2:Int) (rec:bK->Int->Int->gW->Option γ) (v1:Int):Option γ:=bif(eH (bT v3 [92]) 1)then bif(gI v0 v2)then bif(eH (bT (bT v3 [92]) [(bV v0 v2)]) 1)then rec v0 v1 (bU .i64 v2 1) (bT (bT v3 [92]) [(bV v0 v2)])else none else none else none
def Ah {γ:Type} (v0:bK) (v2:Int) (v3:gW) (rec:bK->Int->Int->gW->Option γ) (v1:Int):Option γ:=bif(gI v0 v2)then bif(eH (bT v3 [(bV v0 v2)]) 1)then rec v0 v1 (bU .i64 v2 1) (bT v3 [(bV v0 v2)])else none else none
def Y7 {γ:Type} (rec:bK->Int->Int->gW->Option γ) (kE:gW->Option γ) (kR:bK->Option γ) (v0:bK) (v1 v2:Int) (v3:gW):Option γ:=bif(iw v2 v1)then bif(gI v0 v2)then bif(bM (bV v0 v2) 36)then bif(bM (bV v0 v2) 36)then Ag v3 v0 v2 rec v1 else Ah v0 v2 v3 rec v1 else bif(bM (bV v0 v2) 96)then bif(bM (bV v0 v2) 96)then Ag v3 v0 v2 rec v1 else Ah v0 v2 v3 rec v1 else bif(bM (bV v0 v2) 34)then bif(bM (bV v0 v2) 34)then Ag v3 v0 v2 rec v1 else Ah v0 v2 v3 rec v1 else bif(bM (bV v0 v2) 92)then Ag v3 v0 v2 rec v1 else Ah v0 v2 v3 rec v1 else none else kE v3
def Hz:Nat->bK->Int->Int->gW->Option (aeS.den⊕ae5.den)
 |0,_,_,_,_=>none
 |n+1,v0,v1,v2,v3=>Y7 (Hz n) (fun e0=>some (.inl ((),((),e0,())))) (fun r0=>some (.inr ((r0,()),()))) v0 v1 v2 v3
def azL (n:Nat) (v:ahf.den):=Hz n v.1.1 v.1.2.1 v.1.2.2.1 v.2.2.1
noncomputable def apn:dC:=iD av9 ahf aeS ae5 (.exit 0) (azL bP) 6
def as8 (x0:bK):Option Zv:=bif(eH (bT [] [34]) 1)then bz (Hz bP x0 (bC x0) 0 (bT [] [34])) fun y0=>dL y0 (fun a1=>bif(bM (bC a1.2.2.1) (bC a1.2.2.1))then some ((ofBytes a1.2.2.1),())else none) (fun b1=>some (b1.1.1,()))else none
def awP:Sum:=⟨[.str],tzF,fun x=>as8 x.1⟩
noncomputable def ank:Env:=eu prog tt [] [(50,4,av9),(50,600002,ay2),(50,600011,atQ),(50,600012,atS),(50,600014,atT),(86,600001,akv)] [(50,4,apn)] []
def aqe {γ:Type} (a:ahf.den->Option γ) (b:aeS.den->Option γ) (c:ae5.den->Option γ) (v:ahf.den):Option γ:=Y7 (fun v0 v1 v2 v3=>a ((v0,v1,v2,()),((),v3,()))) (fun e0=>b ((),((),e0,()))) (fun r0=>c ((r0,()),())) v.1.1 v.1.2.1 v.1.2.2.1 v.2.2.1
theorem aAa:eQ ank 50 avL apn:=QF (aqe) (h2:=by intros;simp only[aqe,Y7,dm,dn,bu,dh,dw,Ag,Ah])
theorem aCJ:dO ank 50 b50:=wK [avL] (aD (fM (aAa)) aN)
theorem anl:dB ank:=eB aN [50] (aD ⟨f50,b50,by kernel_rfl,by kernel_rfl,aCJ⟩ aN)
theorem arL:dU prog 50 awP:=sA anl
def akd (x0:bK) (x1:Int) (x2:Bool):Option Zv:=bz (as6 x0) fun y0=>bif(bM x1 4)then bz (as7 x0) fun y1=>bif x2 then bif(kC y1.1 [39])then some ((bT y1.1 [39]),())else none else some (y1.1,())else bif(bM x1 5)then bz (as8 x0) fun y1=>bif x2 then bif(kC y1.1 [34])then some ((bT y1.1 [34]),())else none else some (y1.1,())else bif x2 then bif(kC y0.1 [])then some ((bT y0.1 []),())else none else some (y0.1,())
def awC:Sum:=⟨[.str,cu,.bool],tzF,fun x=>akd x.1 x.2.1 x.2.2.1⟩
noncomputable def aBl:Env:=fZ prog tt 25 [(48,awN),(49,awO),(50,awP)] [] []
theorem amX:dB aBl:=eA f25 (aD arJ (aD arK (aD arL aN)))
theorem ars:dU prog 25 awC:=sA amX
def ayJ (x0:Int):Option oW:=bz (aat x0) fun y0=>bif(bM y0.1 5)then some (true,())else bz (aat x0) fun y1=>bif(bM y1.1 6)then some (true,())else bif(iw 127 x0)then some (true,())else bz (Hl x0 [37,43,44,45,46,47,58,64]) fun y2=>some (y2.1,())
end
section
open Bool renaming and_eq_true → af, not_true → au, not_false → aA, true_and → aI
open List renaming append_assoc → ai, length_cons → aB, drop_of_length_le → aJ, drop_zero → aS, takeWhile_cons → aY
open Nat renaming le_refl → ae
open Go.RowKit
def acu (c:UInt8):Bool:=match ayJ (c.toNat:Int)with
 |some (b,_)=>b
 |none=>false
def aAD:Bool:=(List.range 256).all fun b=>match atc (b:Int),ayJ (b:Int),Hl (b:Int) [36,96,34,92]with
 |some (x,_),some (y,_),some (z,_)=>(x==y)&&(z==(bM b 36||(bM b 96||(bM b 34||bM b 92))))
 |_,_,_=>false
theorem avl:aAD=true:=by kernel_rfl
theorem avk (c:UInt8):atc (c.toNat:Int)=some (acu c,())/\ayJ (c.toNat:Int)=some (acu c,())/\Hl (c.toNat:Int) [36,96,34,92]=some ((bM (c.toNat:Int) 36||(bM (c.toNat:Int) 96||(bM (c.toNat:Int) 34||bM (c.toNat:Int) 92))),()):=by
 have h:=List.all_eq_true.1 avl c.toNat (List.mem_range.2 (by have:=c.toNat_lt;omega));split at h
 ·rename_i x u y v k w h1 h2 h3
  simp only[af,beq_iff_eq]at h;unfold acu;simp_all
 ·cases h
theorem aCv {c n:UInt8} (h:c=n):bM (c.toNat:Int) (n.toNat:Int)=true:=dQ (by rw[h])
theorem aCu {c n:UInt8} (h:c≠n):bM (c.toNat:Int) (n.toNat:Int)=false:=dK fun e=>h (UInt8.toNat_inj.1 (by omega))
def ap4 (s:bK):Bool:=Rl.contains s
theorem ac8 (s:bK):afY s=some (ap4 s,()):=by
 by_cases h:Rl.contains s=true
 ·unfold ap4;rw[h];rcases ag2 h with rfl|rfl|rfl|rfl|rfl|rfl|rfl|rfl|rfl|rfl|rfl|rfl|rfl|rfl|rfl|rfl<;>kernel_rfl
 ·have h':Rl.contains s=false:=by simpa using h
  have hne: ∀w∈Rl,gU s w=false:=fun w hw=>MS fun e=>by simp_all
  unfold ap4;(rewrite [h',afY];delta kL);simp only[hne [33] (by decide),hne [123] (by decide),hne [125] (by decide),hne [99,97,115,101] (by decide),hne [100,111] (by decide),hne [100,111,110,101] (by decide),hne [101,108,105,102] (by decide),hne [101,108,115,101] (by decide),hne [101,115,97,99] (by decide),hne [102,105] (by decide),hne [102,111,114] (by decide),hne [105,102] (by decide),hne [105,110] (by decide),hne [116,104,101,110] (by decide),hne [117,110,116,105,108] (by decide),hne [119,104,105,108,101] (by decide),cond_false];rfl
theorem ahw: ∀s:bK,bM ((oL s:Nat):Int) (bC s)=s.all isD
 |[]=>rfl
 |c::s=>by
  have ih:=ahw s;unfold oL at ih ⊢;rw[aY,List.all_cons];cases isD c with
  |true=>
   rw[aI,<-ih];simp only[if_true,aB,bD]
   grind [dQ,dK]
  |false=>rfl
def Rn (s:bK):Bool:=ap4 s||(!s.isEmpty&&s.all isD)
theorem avi {s:List UInt8} (hs:s.length<4000000):atd s=some (Rn s,()):=by
 rw[atd,ac8,bu];unfold Rn;cases ap4 s with
 |true=>rfl
 |false=>
  cases s with
  |nil=>rfl
  |cons c r=>
   simp only[cond_false,Bool.false_or,List.isEmpty_cons,aA,aI];rw[bH (by rfl),show zN (c::r) 0=_ from O4 hs (Nat.zero_le _),bu,aS]
   grind [ahw]
def pl1 (risk:Bool) (c:UInt8):bK:=if c=10 then [39,10,39]else if acu c=false\/risk=true then [92,c]else [c]
def Ul (s:bK):bK:=s.flatMap (pl1 false)
def YK (s:bK):bK:=match s with
 |[]=>[39,39]
 |c::r=>pl1 (Rn s) c++Ul r
theorem OB (b:Bool) (c:UInt8):(pl1 b c).length<=3:=by grind [pl1]
theorem Px (c:UInt8) (r:bK):Ul (c::r)=pl1 false c++Ul r:=rfl
theorem Um: ∀s:bK,(Ul s).length<=3*s.length
 |[]=>ae _
 |c::r=>by have:=Um r;grind [OB,Px]
theorem Nz {s:List UInt8} (hs:s.length<=2000000) (N k:Nat) (out:bK) (e:k<s.length) (ho:out.length<=3*k):
  Be (N+1) s (bC s) (k:Int) (bI out)=Be N s (bC s) ((k+1:Nat):Int) (bI (out++pl1 (decide (k=0)&&Rn s) s[k])):=by
 (rewrite [Be,RN];delta Af Eu)
 have hin:gI s (k:Int)=true:=eP (by omega) (by omega);have hk:bU .i64 (k:Int) 1=((k+1:Nat):Int):=by grind [bY]
 have hc:[((s[k].toNat:Nat):Int)]=bI [s[k]]:=rfl;have h92:[(92:Int)]=bI [92]:=rfl;have f1: ∀x:bK,x.length<=3->eH (bI (out++x)) 1=true:=fun x hx=>pR (by grind);rw[bH (fJ (by rw[bD];omega))];simp only[hin,cond_true,byte_at e,hk,(avk s[k]).1,bu,hc,h92,jH,ai,f1 _ (show([39,10,39]:bK).length<=3 by decide),f1 _ (show([92]:bK).length<=3 by decide),f1 _ (show([s[k]]:bK).length<=3 by simp),f1 _ (show(([92]:bK)++[s[k]]).length<=3 by simp)];unfold pl1;by_cases h:s[k]=10
 ·rw[show(10:Int)=(((10:UInt8).toNat:Nat):Int) from rfl,aCv h,if_pos h];rfl
 ·rw[show(10:Int)=(((10:UInt8).toNat:Nat):Int) from rfl,aCu h,if_neg h,cond_false];cases hsf:acu s[k]with
  |false=>rfl
  |true=>
   simp only[au,cond_false];by_cases h0:k=0
   ·subst h0;rw[bH (b:=bM ((0:Nat):Int) 0) (dQ rfl),avi (by omega),bu,decide_eq_true rfl,aI]
    grind
   simp_all [dK]
theorem Ny {s:List UInt8} (hs:s.length<=2000000): ∀(N k:Nat) (out:bK),s.length-k<N->1<=k->k<=s.length->out.length<=3*k->
  Be N s (bC s) (k:Int) (bI out)=some (.inl ((),((),bI (out++Ul (s.drop k)),())))
 |0,k,out,h,_,_,_=>by omega
 |N+1,k,out,h,h1,hk,ho=>by
  by_cases e:k<s.length
  ·have hp:=OB (decide (k=0)&&Rn s) s[k];rw[Nz hs N k out e ho,Ny hs N (k+1) _ (by omega) (by omega) (by omega) (by grind),EN e,Px,ai,decide_eq_false (by omega),Bool.false_and]
  ·(rewrite [Be,RN];delta Af Eu;rw[cO (ig (by rw[bD];omega)),aJ (by omega)])
   simp[Ul]
theorem apQ {s:List UInt8} (hs:s.length<=2000000):as6 s=some (YK s,()):=by
 rw[as6];cases s with
 |nil=>rfl
 |cons c r=>
  have h1:=Nz (s:=c::r) hs (bP-1) 0 [] (by simp) (by simp);rw[show bP-1+1=bP by unfold bP;omega]at h1;have hp:=OB (Rn (c::r)) c;rw[aB]at hs;have h2:=Ny (s:=c::r) (by assumption) (bP-1) 1 (pl1 (Rn (c::r)) c) (by grind [bP]) (ae _) (by simp) (by omega);rw[cO (MS (by simp)),show Be bP (c::r) (bC (c::r)) 0 []=_ from h1.trans h2,bu];simp only[dL,fD,cond_true,qB];rfl
end
section
open Bool renaming false_eq_true → ah
open List renaming append_assoc → ai, length_singleton → ay, length_cons → aB, nil_append → aH, drop_of_length_le → aJ, drop_zero → aS
open Nat renaming le_refl → ae
open Go.RowKit
def aC3 (c:UInt8):bK:=if c=39 then [39,92,39,39]else [c]
def ak4 (s:bK):bK:=s.flatMap aC3
def db1 (c:UInt8):bK:=if(bM (c.toNat:Int) 36||(bM (c.toNat:Int) 96||(bM (c.toNat:Int) 34||bM (c.toNat:Int) 92)))=true then [92,c]else [c]
def Wv (s:bK):bK:=s.flatMap db1
theorem ap0 (new:bK) (b:UInt8) (hb:b≠39) (l:bK): ∀k,Lib.replaceK [39] new k (b::l)=b::Lib.replaceK [39] new k l
 |0=>rfl
 |k+1=>by
  have hp:List.isPrefixOf [39] (b::l)=false:=by grind
  have hi:Lib.index (b::l) [39]=if Lib.index l [39]== -1 then-1 else Lib.index l [39]+1:=by rw[Lib.index,hp];rfl
  rw[Lib.replaceK,Lib.replaceK,hi];have hge:=Lib.index_ge l [39];by_cases h:Lib.index l [39]= -1
  ·simp[h]
  ·have e1:(Lib.index l [39]== -1)=false:=by simpa using h
   have e2:(Lib.index l [39]+1== -1)=false:=by simp;omega
   have e3:(Lib.index l [39]+1).toNat=(Lib.index l [39]).toNat+1:=by omega
   simp_all
theorem amx (b:UInt8) (hb:b≠39) (l:bK): ∀f,Lib.countFrom [39] f (b::l)=Lib.countFrom [39] f l
 |0=>rfl
 |f+1=>by
  have hp:List.isPrefixOf [39] (b::l)=false:=by grind
  have hi:Lib.index (b::l) [39]=if Lib.index l [39]== -1 then-1 else Lib.index l [39]+1:=by rw[Lib.index,hp];rfl
  rw[Lib.countFrom,Lib.countFrom,hi];have hge:=Lib.index_ge l [39];by_cases h:Lib.index l [39]= -1
  ·simp[h]
  ·have e1:(Lib.index l [39]== -1)=false:=by simpa using h
   have e2:(Lib.index l [39]+1== -1)=false:=by simp;omega
   have e3:(Lib.index l [39]+1).toNat=(Lib.index l [39]).toNat+1:=by omega
   simp_all
theorem afg (new:bK): ∀(s:bK) (f:Nat),s.length<f->Lib.replaceK [39] new (Lib.countFrom [39] f s) s=s.flatMap fun c=>if c=39 then new else [c]
 |[],f,h=>by
  obtain⟨f,rfl⟩: ∃g,f=g+1:=⟨f-1,by simp at h;omega⟩;rfl
 |c::s,f,h=>by
  rw[aB]at h;by_cases hc:c=39
  ·subst hc;obtain⟨f,rfl⟩: ∃g,f=g+1:=⟨f-1,by omega⟩;have hi:Lib.index (39::s) [39]=0:=by rfl
   rw[Lib.countFrom,hi];simp only[show((0:Int)== -1)=false from rfl,ah,if_false,Int.toNat_zero,Nat.zero_add,ay,List.drop_succ_cons,aS];rw[Nat.add_comm 1,Lib.replaceK,hi];simp only[show((0:Int)== -1)=false from rfl,ah,if_false,Int.toNat_zero,Nat.zero_add,ay,List.drop_succ_cons,aS,List.take_zero,aH];rw[afg new s f (by omega),List.flatMap_cons,if_pos rfl]
  ·rw[amx c hc,ap0 new c hc,afg new s f (by omega),List.flatMap_cons,if_neg hc];rfl
theorem J4: ∀s:bK,(ak4 s).length<=4*s.length
 |[]=>ae _
 |c::r=>by have:=J4 r;grind [aC3,ak4]
theorem PO: ∀s:bK,(Wv s).length<=2*s.length
 |[]=>ae _
 |c::r=>by have:=PO r;grind [db1,Wv]
theorem aqu {s:List UInt8} (hs:s.length<=2000000):as7 s=some ([39]++ak4 s,()):=by
 have h1:=J4 s;have h2:Lib.replaceAll s [39] [39,92,39,39]=ak4 s:=afg [39,92,39,39] s (s.length+1) (by omega);have h3:Vr s [39] [39,92,39,39]=some (ak4 s,()):=by
  grind [Vr]
 rw[as7,h3,bu,bH (zh (by simp;omega))];rfl
theorem MP {s:List UInt8} (hs:s.length<=2000000): ∀(N k:Nat) (out:bK),s.length-k<N->k<=s.length->out.length<=2*k+1->
  Hz N s (bC s) (k:Int) (bI out)=some (.inl ((),((),bI (out++Wv (s.drop k)),())))
 |0,k,out,h,_,_=>by omega
 |N+1,k,out,h,hk,ho=>by
  (rewrite [Hz,Y7];delta Ah Ag)
  by_cases e:k<s.length
  ·have hin:gI s (k:Int)=true:=eP (by omega) (by omega);have hadd:bU .i64 (k:Int) 1=((k+1:Nat):Int):=by grind [bY]
   have hc:[((s[k].toNat:Nat):Int)]=bI [s[k]]:=rfl;have h92:[(92:Int)]=bI [92]:=rfl;have f1: ∀x:bK,x.length<=2->eH (bI (out++x)) 1=true:=fun x hx=>pR (by grind);have ih: ∀x:bK,x.length<=2->Hz N s (bC s) ((k+1:Nat):Int) (bI (out++x))=some (.inl ((),((),bI (out++x++Wv (s.drop (k+1))),()))):=fun x hx=>MP hs N (k+1) _ (by omega) (by omega) (by grind);have hd:Wv (s.drop k)=db1 s[k]++Wv (s.drop (k+1)):=by rw[EN e];rfl
   rw[bH (fJ (by rw[bD];omega)),hd];simp only[hin,cond_true,byte_at e,hadd,hc,h92,jH,ai out [92],f1 _ (show([92]:bK).length<=2 by decide),f1 _ (show([s[k]]:bK).length<=2 by simp),f1 _ (show(([92]:bK)++[s[k]]).length<=2 by simp),ih _ (show([s[k]]:bK).length<=2 by simp),ih _ (show(([92]:bK)++[s[k]]).length<=2 by simp)]
   grind [db1]
  simp_all [ig,bD,aJ,Wv]
theorem amD {s:List UInt8} (hs:s.length<=2000000):as8 s=some ([34]++Wv s,()):=by
 rw[as8];refine(bH (show eH (bT ([]:List Int) [34]) 1=true by kernel_rfl)).trans ?_;rw[show Hz bP s (bC s) 0 (bT [] [34])=_ from MP hs bP 0 [34] (dJ (by omega)) (by omega) (by simp),bu];simp_all [dL,fD,qB]
end
section
open Tryz
open Go.RowKit
def adP (x0:Int×Int×Int×Int×bK×(Bool×bK×jJ)):Option oW:=bif(bM x0.1 2)then some (true,())else bif(bM x0.1 1)then bif(bM x0.2.1 1)then bif(bM x0.2.1 1)then some (x0.2.2.2.2.2.1,())else some (false,())else bif(bM x0.2.1 2)then bif(bM x0.2.1 2)then some (x0.2.2.2.2.2.1,())else some (false,())else bif(bM x0.2.1 3)then bif(bM x0.2.1 3)then some (x0.2.2.2.2.2.1,())else some (false,())else bif(bM x0.2.1 7)then some (x0.2.2.2.2.2.1,())else some (false,())else some (false,())
def aq0:Sum:=⟨[.pair cu tyF],NT,fun x=>adP x.1⟩
noncomputable def aBh:Env:=fZ prog tt 17 [] [] []
theorem amN:dB aBh:=eA f17 aN
theorem acH:dU prog 17 aq0:=sA amN
def ayK (x0 x1:bK):Option oW:=bif(leI (bC x1) (bC x0))then bif(fF (bC x0) (ed .i64 (bC x0) (bC x1)) (bC x0))then some ((gU (sub x0 (ed .i64 (bC x0) (bC x1)) (bC x0)) x1),())else none else some (false,())
def aw1:Sum:=⟨[.str,.str],NT,fun x=>ayK x.1 x.2.1⟩
noncomputable def aBJ:Env:=fZ prog tt 88 [] [] []
theorem anI:dB aBJ:=eA f88 aN
theorem arY:dU prog 88 aw1:=sA anI
def akg (x0 x1:bK):Option oW:=bz (ayK x0 x1) fun y0=>some (y0.1,())
def arN:Sum:=⟨[.str,.str],NT,fun x=>akg x.1 x.2.1⟩
noncomputable def aBy:Env:=fZ prog tt 52 [(88,aw1)] [] []
theorem ann:dB aBy:=eA f52 (aD arY aN)
theorem acP:dU prog 52 arN:=sA ann
def aoq (x0:Int×Int×Int×Int×bK×(Bool×bK×jJ)) (x1:bK) (x2:Bool):Option Zv:=bif x2 then bz (akg x1 [47]) fun y0=>bif(!y0.1)then bz (akd x1 x0.2.2.2.1 true) fun y1=>bif(kC y1.1 [32])then some ((bT y1.1 [32]),())else none else bz (akd x1 x0.2.2.2.1 false) fun y1=>some (y1.1,())else bz (akd x1 x0.2.2.2.1 false) fun y0=>some (y0.1,())
def awQ:Sum:=⟨[.pair cu tyF,.str,.bool],tzF,fun x=>aoq x.1 x.2.1 x.2.2.1⟩
noncomputable def aBx:Env:=fZ prog tt 51 [(25,awC),(52,arN)] [] []
theorem anm:dB aBx:=eA f51 (aD ars (aD acP aN))
theorem arM:dU prog 51 awQ:=sA anm
def adQ (x1:Int×Int×Int×Int×bK×(Bool×bK×jJ)) (x2:Int) (x3:bK) (x4:Bool) (x0:bK):Option (Int×bK×Unit):=bif(!(bM x1.1 2))then some (x2,(x3,()))else bif x4 then bif(fF (bC x0) 0 x1.2.2.1)then bz (akg (sub x0 0 x1.2.2.1) [36,123]) fun y1=>bif y1.1 then bif(kC x3 [125])then some (x1.2.2.1,((bT x3 [125]),()))else none else some (x1.2.2.1,(x3,()))else none else some (x1.2.2.1,(x3,()))
def aon (x0:bK) (x1:Int×Int×Int×Int×bK×(Bool×bK×jJ)) (x2:Int) (x3:bK) (x4:Bool):Option (Int×bK×Unit):=bif(bM x1.1 1)then bz (adP (x1.1,(x1.2.1,(x1.2.2.1,(x1.2.2.2.1,(x1.2.2.2.2.1,(x1.2.2.2.2.2.1,(x1.2.2.2.2.2.2.1,(x1.2.2.2.2.2.2.2.1,(x1.2.2.2.2.2.2.2.2.1,())))))))))) fun y0=>bif y0.1 then bz (aoq (x1.1,(x1.2.1,(x1.2.2.1,(x1.2.2.2.1,(x1.2.2.2.2.1,(x1.2.2.2.2.2.1,(x1.2.2.2.2.2.2.1,(x1.2.2.2.2.2.2.2.1,(x1.2.2.2.2.2.2.2.2.1,()))))))))) x3 x4) fun y1=>some (x1.2.2.1,(y1.1,()))else adQ x1 x2 x3 x4 x0 else adQ x1 x2 x3 x4 x0
def awD:Sum:=⟨[.str,.pair cu tyF,cu,.str,.bool],[(.int .i64,false),(.str,false)],fun x=>aon x.1 x.2.1 x.2.2.1 x.2.2.2.1 x.2.2.2.2.1⟩
noncomputable def aBm:Env:=fZ prog tt 26 [(17,aq0),(51,awQ),(52,arN)] [] []
theorem amY:dB aBm:=eA f26 (aD acH (aD arM (aD acP aN)))
theorem aru:dU prog 26 awD:=sA amY
def ayH (x0:bK) (x1:Int×bK×(bK×(Unit))):Option BZ:=bif(iw x1.1 0)then some (1,())else bif(iw (bC x0) x1.1)then some (1,())else bif(fF (bC x0) x1.1 (bC x0))then bz (adV (sub x0 x1.1 (bC x0)) x1.2.1) fun y0=>bif(!y0.1)then some (1,())else bif(iw (ed .i64 1048576 (bC x1.2.2.1)) (ed .i64 (bC x0) (bC x1.2.1)))then some (2,())else some (0,())else none
def awR:Sum:=⟨[.str,.pair cu (.pair .str (.pair .str .unit))],Zw,fun x=>ayH x.1 x.2.1⟩
noncomputable def aBz:Env:=fZ prog tt 53 [(89,arZ)] [] []
theorem ano:dB aBz:=eA f53 (aD acR aN)
theorem arO:dU prog 53 awR:=sA ano
def asY (x0:bK) (x1 x2:Int) (x3:bK):Option ((Int×bK×(bK×(Unit)))×Int×Unit):=bif(iw x1 0)then some ((0,([],([],()))),(1,()))else bif(iw x2 x1)then some ((0,([],([],()))),(1,()))else bif(iw (bC x0) x2)then some ((0,([],([],()))),(1,()))else bif(fF (bC x0) x1 x2)then bz (ayH x0 (x1,((sub x0 x1 x2),(x3,())))) fun y0=>bif(!(bM y0.1 0))then some ((0,([],([],()))),(y0.1,()))else some ((x1,((sub x0 x1 x2),(x3,()))),(0,()))else none
def awE:Sum:=⟨[.str,cu,cu,.str],[(.pair cu (.pair .str (.pair .str .unit)),false),(.int .i64,false)],fun x=>asY x.1 x.2.1 x.2.2.1 x.2.2.2.1⟩
noncomputable def aBn:Env:=fZ prog tt 27 [(53,awR)] [] []
theorem amZ:dB aBn:=eA f27 (aD arO aN)
theorem arv:dU prog 27 awE:=sA amZ
def asU (x0:bK) (x1:Int) (x2:bK) (x3:Bool):Option ((Int×bK×(bK×(Unit)))×Int×Int×Unit):=bz (WI x0 x1) fun y0=>bif(!(bM y0.2.1 0))then some ((0,([],([],()))),(0,(y0.2.1,())))else bz (aon x0 (y0.1.1,(y0.1.2.1,(y0.1.2.2.1,(y0.1.2.2.2.1,(y0.1.2.2.2.2.1,(y0.1.2.2.2.2.2.1,(y0.1.2.2.2.2.2.2.1,(y0.1.2.2.2.2.2.2.2.1,(y0.1.2.2.2.2.2.2.2.2.1,()))))))))) x1 x2 x3) fun y1=>bz (asY x0 y1.1 x1 y1.2.1) fun y2=>bif(!(bM y2.2.1 0))then some ((0,([],([],()))),(0,(y2.2.1,())))else some ((y2.1.1,(y2.1.2.1,(y2.1.2.2.1,()))),((bU .i64 y1.1 (bC y1.2.1)),(0,())))
def aqP:Sum:=⟨[.str,cu,.str,.bool],[(.pair cu (.pair .str (.pair .str .unit)),false),(.int .i64,false),(.int .i64,false)],fun x=>asU x.1 x.2.1 x.2.2.1 x.2.2.2.1⟩
noncomputable def aBf:Env:=fZ prog tt 14 [(10,VC),(26,awD),(27,awE)] [] []
theorem amL:dB aBf:=eA f14 (aD Ew (aD aru (aD arv aN)))
theorem acG:dU prog 14 aqP:=sA amL
def asV (x0:bK) (x1:Int×bK×(bK×(Unit))):Option BZ:=bif(iw x1.1 0)then some (1,())else bif(iw (bC x0) x1.1)then some (1,())else bif(iw (ed .i64 (bC x0) x1.1) (bC x1.2.1))then some (1,())else bif(fF (bC x0) x1.1 (bU .i64 x1.1 (bC x1.2.1)))then bif(!(gU (sub x0 x1.1 (bU .i64 x1.1 (bC x1.2.1))) x1.2.1))then some (1,())else bif(iw 1048576 (bU .i64 (ed .i64 (bC x0) (bC x1.2.1)) (bC x1.2.2.1)))then some (2,())else some (0,())else none
def aww:Sum:=⟨[.str,.pair cu (.pair .str (.pair .str .unit))],Zw,fun x=>asV x.1 x.2.1⟩
noncomputable def aBg:Env:=fZ prog tt 16 [] [] []
theorem amM:dB aBg:=eA f16 aN
theorem aqZ:dU prog 16 aww:=sA amM
end
section
open Nat renaming eq_of_beq_eq_true → ak
open Tryz
open Go.RowKit
noncomputable def avS (sg:FuncId->Option Sum):Env:={P:=prog,T:=tt,cl:=true,kp:=fun _ _=>none,sg:=sg,lp:=fun _ _=>none,bf:=Gq}
theorem anL {sg:FuncId->Option Sum} (h: ∀g s,sg g=some s->dU prog g s):dB (avS sg):=⟨tok,mixed,Nu,h,fun f fn c _ _=>ja (fun _=>rfl) (fun _=>rfl) c,Vt _ fun f fn c _ _=>ja (fun _=>rfl) (fun _=>rfl) c,KC,fun _ _ h=>by cases h⟩
theorem aAE {sg:FuncId->Option Sum} (h: ∀g s,sg g=some s->dU prog g s) {f:FuncId} {s0:Sum} (h0:dU prog f s0): ∀g s,(bif Nat.beq g f then some s0 else sg g)=some s->dU prog g s:=fun g s e=>by
 rw[cond_eq_ite]at e;split at e
 ·rename_i hg
  obtain rfl:g=f:=ak hg;cases e;exact h0
 ·exact h g s e
noncomputable def aqp (g:FuncId):Option Sum:=bif Nat.beq g 14 then some aqP else sg1 g
theorem ak1: ∀g s,aqp g=some s->dU prog g s:=aAE YV acG
theorem adg:N9 (avS aqp) 13 [] NT ()=some (true,()):=by kernel_rfl
def SA:Sum:=⟨[],NT,fun _=>some (true,())⟩
theorem Ua:dU prog 13 SA:=Iw (anL ak1) (by decide) fun x y h=>by
 cases h;exact adg
end
section
open Tryz
open Go.RowKit
def fn7 (x0:bK) (x1:Int) (x2:bK) (x3:Bool):Option oW:=bif(iw 80 (bC x0))then some (true,())else bif(iw 40 (bC x2))then some (true,())else bif(iw x1 0)then some (true,())else bif(iw (bC x0) x1)then some (true,())else bz (WI x0 x1) fun y0=>bz (asU x0 x1 x2 x3) fun y1=>bif(!(bM y0.2.1 0))then some (false,())else bif(!(bM y1.2.2.1 0))then some (false,())else bif(iw x1 y1.1.1)then some (false,())else bif(!(bM (bU .i64 y1.1.1 (bC y1.1.2.1)) x1))then some (false,())else bif(!(bM y1.2.1 (bU .i64 y1.1.1 (bC y1.1.2.2.1))))then some (false,())else bz (asV x0 (y1.1.1,(y1.1.2.1,(y1.1.2.2.1,())))) fun y2=>bif(!(bM y2.1 0))then some (false,())else bz (adP (y0.1.1,(y0.1.2.1,(y0.1.2.2.1,(y0.1.2.2.2.1,(y0.1.2.2.2.2.1,(y0.1.2.2.2.2.2.1,(y0.1.2.2.2.2.2.2.1,(y0.1.2.2.2.2.2.2.2.1,(y0.1.2.2.2.2.2.2.2.2.1,())))))))))) fun y3=>bif(!y3.1)then some (((bM y1.1.1 x1)&&((gU y1.1.2.1 [])&&((gU y1.1.2.2.1 x2)&&true))),())else some ((bM y1.1.1 y0.1.2.2.1),())
def aC8:Sum:=⟨[.str,cu,.str,.bool],NT,fun x=>fn7 x.1 x.2.1 x.2.2.1 x.2.2.2.1⟩
noncomputable def aBB:Env:=fZ prog tt 7 [(10,VC),(13,SA),(14,aqP),(16,aww),(17,aq0)] [] []
theorem asI:dB aBB:=eA f7 (aD Ew (aD Ua (aD acG (aD aqZ (aD acH aN)))))
end
section
open Bool renaming not_true → au, and_true → az, not_false → aA, true_and → aI
open Int renaming toNat_natCast → aQ, eq_ofNat_of_zero_le → bi
open List renaming drop_zero → aS, eq_nil_of_length_eq_zero → bg
open Go.RowKit
theorem afi (V:bK->bK) (c:Ctx) (f:List Lf) (l:List Nd):(Vu V c f l).2.2.1=c.2.2.1:=by
 unfold Vu;simp only
 repeat' split
 all_goals first|rfl|simp[Rz,aC2]
theorem H5 (s:bK) (fr dp:Int) (t:bK):(Nq s fr dp t).2.2.1=fr+bC s-bC t:=rfl
theorem Ej (s:bK) (fr dp k:Int):(LM s fr dp k).2.2.1=fr+bC s:=rfl
theorem Z4 (V:bK->bK×Bool): ∀(N:Nat) (s:bK) (fr dp:Int) (tk:List Tok) (bd:Bool),s.length<N->s.length<=10000->(∀t∈tk,OkT s t)->
  fr<=(NV V N s fr dp tk bd).2.2.1/\(NV V N s fr dp tk bd).2.2.1<=fr+bC s
 |0,s,fr,dp,tk,bd,h,_,_=>by omega
 |N+1,s,fr,dp,tk,bd,h,hs,hok=>by
  have hle:bC s=(s.length:Int):=rfl;rw[NV];obtain⟨b0,b1⟩:=Zp hok;have hwl:((sub s (gJ s (eF tk)) (bC s)).length:Int)=bC s-gJ s (eF tk):=nZ b0 b1 (by rw[bD];omega);have hwe:bC (sub s (gJ s (eF tk)) (bC s))=((sub s (gJ s (eF tk)) (bC s)).length:Int):=rfl;split
  ·rw[Ej];omega
  split
  ·rw[Ej];omega
  cases hd:F8 (lo (iG (sub s (gJ s (eF tk)) (bC s)) 0 dR).1)with
  |none=>
   simp only;split
   ·have:=aab (sub s (gJ s (eF tk)) (bC s));have hde:bC (PQ (sub s (gJ s (eF tk)) (bC s)))=((PQ (sub s (gJ s (eF tk)) (bC s))).length:Int):=rfl;rw[H5];omega
   ·rw[afi];simp only;omega
  |some f=>
   simp only;have hfo:=ael (PP hd).1;simp only[IE]at hfo;split
   ·rename_i h13
    have hul:((sub s (gJ s (eF tk)+f.2.1+2) (bC s)).length:Int)=bC s-(gJ s (eF tk)+f.2.1+2):=nZ (by omega) (by omega) (by omega);have hx:=Xo (s:=sub s (gJ s (eF tk)+f.2.1+2) (bC s)) (by omega);have ih:=Z4 V N (sub s (gJ s (eF tk)+f.2.1+2) (bC s)) (fr+(gJ s (eF tk)+f.2.1+2)) (dp+xh (lo (iG (sub s (gJ s (eF tk)) (bC s)) 0 dR).1)) (abD (sub s (gJ s (eF tk)+f.2.1+2) (bC s))) false (by omega) (by omega) (fun t ht=>(hx.1 t ht).1);have hue:bC (sub s (gJ s (eF tk)+f.2.1+2) (bC s))=((sub s (gJ s (eF tk)+f.2.1+2) (bC s)).length:Int):=rfl;omega
   ·unfold MO;split
    ·rw[H5];have:bC ([]:bK)=0:=rfl;omega
    split
    ·have:=kW (sub s (gJ s (eF tk)) (bC s)) (f.2.1+2) (bC (sub s (gJ s (eF tk)) (bC s)));have hse:bC (sub (sub s (gJ s (eF tk)) (bC s)) (f.2.1+2) (bC (sub s (gJ s (eF tk)) (bC s))))=((sub (sub s (gJ s (eF tk)) (bC s)) (f.2.1+2) (bC (sub s (gJ s (eF tk)) (bC s)))).length:Int):=rfl;have hq:=wX (sub s (gJ s (eF tk)) (bC s)) (f.2.1+2) (bC (sub s (gJ s (eF tk)) (bC s)));rw[H5];omega
    ·rw[Ej];omega
theorem Uw {s:List UInt8} (hs:s.length<=10000):0<=(Ha Iy s).2.2.1/\(Ha Iy s).2.2.1<=bC s:=by
 obtain⟨x1,x2,x3⟩:=Om hs;have:=Z4 Iy (s.length+1) s 0 0 (lG s).1 (lG s).2.2.2.1 (by omega) hs x1;unfold Ha;omega
def Lr (c:Ctx):Bool:=decide (c.1=2)||(decide (c.1=1)&&(c.2.2.2.2.2.1&&(decide (c.2.1=1)||decide (c.2.1=2)||decide (c.2.1=3)||decide (c.2.1=7))))
theorem ZA (c:Ctx):adP c=some (Lr c,()):=by
 rw[adP];unfold Lr;by_cases h2:c.1=2
 ·rw[bH (dQ h2)];simp[h2]
 rw[cO (dK h2)];by_cases h1:c.1=1
 ·rw[bH (dQ h1)];by_cases r1:c.2.1=1
  ·rw[bH (dQ r1),bH (dQ r1)];simp[h1,r1]
  rw[cO (dK r1)];by_cases r2:c.2.1=2
  ·rw[bH (dQ r2),bH (dQ r2)];simp[h1,r2]
  rw[cO (dK r2)];by_cases r3:c.2.1=3
  ·rw[bH (dQ r3),bH (dQ r3)];simp[h1,r3]
  rw[cO (dK r3)];by_cases r7:c.2.1=7
  ·rw[bH (dQ r7)];simp[h1,r7]
  rw[cO (dK r7)];simp[h2,r1,r2,r3,r7]
 rw[cO (dK h1)];simp[h1,h2]
def adn (t:bK) (st:Int) (w:Bool):bK:=if st=4 then [39]++ak4 t++(if w=true then [39]else [])else if st=5 then [34]++Wv t++(if w=true then [34]else [])else YK t
theorem IX {t:List UInt8} (ht:t.length<=1000) (st:Int) (w:Bool):(adn t st w).length<=10000:=by
 have h1:=J4 t;have h2:=PO t;unfold adn;split
 ·cases w<;>simp<;>omega
 ·split
  ·cases w<;>simp<;>omega
  ·unfold YK;grind [Um,OB]
theorem Kw {t:List UInt8} (ht:t.length<=1000) (st:Int) (w:Bool):akd t st w=some (adn t st w,()):=by
 have h1:=J4 t;have h2:=PO t;have h3:(YK t).length<=10000:=by
  have:=IX ht 0 w;unfold adn at this;rw[if_neg (by decide),if_neg (by decide)]at this;exact this
 rw[akd,apQ (by omega),bu];unfold adn;by_cases h4:st=4
 ·rw[bH (dQ h4),aqu (by omega),bu,if_pos h4];cases w with
  |true=>rw[cond_true,bH (zh (by simp;omega)),if_pos rfl];rfl
  |false=>rw[cond_false,if_neg (by simp),List.append_nil]
 rw[cO (dK h4),if_neg h4];by_cases h5:st=5
 ·rw[bH (dQ h5),amD (by omega),bu,if_pos h5];cases w with
  |true=>rw[cond_true,bH (zh (by simp;omega)),if_pos rfl];rfl
  |false=>rw[cond_false,if_neg (by simp),List.append_nil]
 rw[cO (dK h5),if_neg h5];cases w with
 |true=>rw[cond_true,bH (zh (by simp;omega))];simp[bT]
 |false=>rfl
def NS (t u:bK):Bool:=decide (u.length<=t.length)&&gU (sub t (bC t-bC u) (bC t)) u
theorem ML {t u:List UInt8} (ht:t.length<=100000) (hu:u.length<=100000):akg t u=some (NS t u,()):=by
 rw[akg,ayK];unfold NS;by_cases h:u.length<=t.length
 ·have hs:ed .i64 (bC t) (bC u)=bC t-bC u:=gG (by rw[bD,bD];omega) (by rw[bD,bD];omega);rw[bH (ou (by rw[bD,bD];omega)),hs,bH (fK (by rw[bD,bD];omega) (by rw[bD,bD];omega) (by omega)),bu,decide_eq_true h,aI]
 ·rw[cO (Jm (by rw[bD,bD];omega)),bu,decide_eq_false h];rfl
theorem Zx {t u:List UInt8} (ht:t.length<=100000) (h:sub t 0 (bC u)=u) (hl:u.length<=t.length):adV t u=some (true,()):=by
 rw[adV,afZ,bH (ou (by rw[bD,bD];omega)),bH (fK (by omega) (by rw[bD];omega) (by rw[bD,bD];omega)),bu,h,lL]
def ac1 (st:Int) (t:bK) (done:Bool):bK:=if done=true/\NS t [47]=false then adn t st true++[32]else adn t st false
theorem aAN {t:List UInt8} (ht:t.length<=1000) (c:Ctx) (done:Bool):aoq c t done=some (ac1 c.2.2.2.1 t done,()):=by
 have h1:=IX ht c.2.2.2.1 true;rw[aoq];unfold ac1;cases done with
 |false=>rw[cond_false,Kw ht,bu,if_neg (by simp)]
 |true=>
  rw[cond_true,ML (by omega) (by simp),bu];cases hs:NS t [47]with
  |true=>simp only[au,cond_false];rw[Kw ht,bu,if_neg (by simp)]
  |false=>simp only[aA,cond_true];rw[Kw ht,bu,bH (zh (by simp;omega)),if_pos (by simp)];rfl
theorem alQ {t:List UInt8} (ht:t.length<=1000) (st:Int) (done:Bool):(ac1 st t done).length<=10001:=by
 have h1:=IX ht st true;have h2:=IX ht st false;unfold ac1;split
 ·simp;omega
 ·omega
def F7 (s:bK) (c:Ctx) (cur:Int) (t:bK) (done:Bool):Int×List UInt8:=if c.1=1/\Lr c=true then(c.2.2.1,ac1 c.2.2.2.1 t done)else if c.1≠2 then(cur,t)else if done=true/\NS (sub s 0 c.2.2.1) [36,123]=true then(c.2.2.1,t++[125])else(c.2.2.1,t)
theorem amz {s:List UInt8} (hs:s.length<=1000) {c:Ctx} (h0:0<=c.2.2.1) (h1:c.2.2.1<=bC s) (cur:Int) {t:List UInt8} (ht:t.length<=1000) (done:Bool):
  aon s c cur t done=some ((F7 s c cur t done).1,((F7 s c cur t done).2,())):=by
 have hsl:=kW s 0 c.2.2.1;have hle:bC s=(s.length:Int):=rfl
 (rewrite [aon];delta adQ)
 unfold F7;have rest: ∀(X:Option (Int×List UInt8×Unit)),X=(bif(!(bM c.1 2))then some (cur,(t,()))else bif done then
    bif(fF (bC s) 0 c.2.2.1)then bz (akg (sub s 0 c.2.2.1) [36,123]) fun y0=>bif y0.1 then bif(kC t [125])then some (c.2.2.1,((bT t [125]),()))else none else some (c.2.2.1,(t,()))else none
   else some (c.2.2.1,(t,())))->
   X=some ((if c.1≠2 then(cur,t)else if done=true/\NS (sub s 0 c.2.2.1) [36,123]=true then(c.2.2.1,t++[125])else(c.2.2.1,t)).1,((if c.1≠2 then(cur,t)else if done=true/\NS (sub s 0 c.2.2.1) [36,123]=true then(c.2.2.1,t++[125])else(c.2.2.1,t)).2,())):=by
  intro X hX;subst hX;by_cases h2:c.1=2
  ·rw[dQ h2,au,cond_false,if_neg (by simp[h2])];cases done with
   |false=>rw[cond_false,if_neg (by simp)]
   |true=>
    rw[cond_true,bH (fK (by omega) h0 h1),ML (by omega) (by simp),bu];cases hx:NS (sub s 0 c.2.2.1) [36,123]with
    |true=>simp only[cond_true];rw[bH (zh (by simp;omega)),if_pos (by simp)];rfl
    |false=>simp only[cond_false];rw[if_neg (by simp)]
  ·rw[dK h2,aA,cond_true,if_pos h2]
 by_cases h1:c.1=1
 ·rw[bH (dQ h1)];rw[show adP (c.1,(c.2.1,(c.2.2.1,(c.2.2.2.1,(c.2.2.2.2.1,(c.2.2.2.2.2.1,(c.2.2.2.2.2.2.1,(c.2.2.2.2.2.2.2.1,(c.2.2.2.2.2.2.2.2.1,())))))))))=some (Lr c,()) from ZA c,bu];cases ho:Lr c with
  |true=>
   simp only[cond_true];rw[if_pos ⟨h1,trivial⟩];rw[show aoq (c.1,(c.2.1,(c.2.2.1,(c.2.2.2.1,(c.2.2.2.2.1,(c.2.2.2.2.2.1,(c.2.2.2.2.2.2.1,(c.2.2.2.2.2.2.2.1,(c.2.2.2.2.2.2.2.2.1,()))))))))) t done=_ from aAN ht c done,bu]
  |false=>
   simp only[cond_false];rw[if_neg (by simp)];exact rest _ rfl
 ·rw[cO (dK h1),if_neg (fun h=>h1 h.1)];exact rest _ rfl
theorem Ut (s:bK) (c:Ctx) (cur:Int) (t:bK) (done:Bool):(F7 s c cur t done).1=if Lr c=true then c.2.2.1 else cur:=by
 unfold F7;cases ho:Lr c with
 |true=>
  by_cases h1:c.1=1
  ·rw[if_pos ⟨h1,rfl⟩,if_pos rfl]
  ·have h2:c.1=2:=by simpa [Lr,h1] using ho
   rw[if_neg (fun h=>h1 h.1),if_neg (by simp[h2]),if_pos rfl];split<;>rfl
 |false=>
  have h2:c.1≠2:=fun h=>by simp[Lr,h]at ho
  rw[if_neg (by simp),if_pos h2,if_neg (by simp)]
theorem amy (s:bK) (c:Ctx) (cur:Int) (t:bK) (done:Bool) (ho:Lr c=false):(F7 s c cur t done).2=t:=by
 unfold F7;have h2:c.1≠2:=fun h=>by simp[Lr,h]at ho
 rw[if_neg (by simp[ho]),if_pos h2]
theorem ZX (s:bK) (c:Ctx) (cur:Int) {t:List UInt8} (ht:t.length<=1000) (done:Bool):(F7 s c cur t done).2.length<=20000:=by
 have:=alQ ht c.2.2.2.1 done;unfold F7
 repeat' split
 all_goals (simp;try omega)
theorem aqC (s:bK) {a b:Int} (h0:0<=a) (h1:a<=b) (h2:b<=bC s):sub (sub s a (bC s)) 0 (b-a)=sub s a b:=by
 obtain⟨n,rfl⟩:=bi h0;obtain⟨m,rfl⟩:=bi (show 0<=b by omega);rw[bD]at h2 ⊢;unfold sub;simp only[aQ,Int.toNat_zero,aS,List.take_length];rw[show((m:Int)-(n:Int)).toNat=m-n by omega,List.drop_take]
theorem axf {s:List UInt8} (hs:s.length<=1000) {a b:Int} (h0:0<=a) (h1:a<=b) (h2:b<=bC s) {t:List UInt8} (ht:t.length<=20000):
  asY s a b t=some ((a,(sub s a b,(t,()))),(0,())):=by
 have hle:bC s=(s.length:Int):=rfl;have hte:bC t=(t.length:Int):=rfl;have hd:((sub s a b).length:Int)=b-a:=nZ h0 h1 (by omega);have hde:bC (sub s a b)=((sub s a b).length:Int):=rfl;have hr:((sub s a (bC s)).length:Int)=bC s-a:=nZ h0 (by omega) (by omega);have s1:ed .i64 1048576 (bC t)=1048576-bC t:=gG (by omega) (by omega);have s2:ed .i64 (bC s) (bC (sub s a b))=bC s-bC (sub s a b):=gG (by omega) (by omega);rw[asY,cO (iP h0),cO (iP h1),cO (iP h2),bH (fK h0 h1 h2),ayH];simp only;rw[cO (iP h0),cO (iP (by omega)),bH (fK h0 (by omega) (by omega)),Zx (by omega) (by rw[hde,hd];exact aqC s h0 h1 h2) (by omega),bu];simp only[au,cond_false,s1,s2];rw[cO (iP (by omega)),bu];rfl
theorem aAX {s:List UInt8} (hs:s.length<=1000) {cur:Int} (h0:0<=cur) (h1:cur<=bC s) {t:List UInt8} (ht:t.length<=1000) (done:Bool):
  asU s cur t done=some (((F7 s (Ha Iy (sub s 0 cur)) cur t done).1,(sub s (F7 s (Ha Iy (sub s 0 cur)) cur t done).1 cur,((F7 s (Ha Iy (sub s 0 cur)) cur t done).2,()))),
   ((F7 s (Ha Iy (sub s 0 cur)) cur t done).1+bC (F7 s (Ha Iy (sub s 0 cur)) cur t done).2,(0,()))):=by
 have hle:bC s=(s.length:Int):=rfl;have hsl:=kW s 0 cur;have hsn:((sub s 0 cur).length:Int)=cur-0:=nZ (by omega) h0 (by omega);obtain⟨f0,f1⟩:=Uw (s:=sub s 0 cur) (by omega);have hse:bC (sub s 0 cur)=((sub s 0 cur).length:Int):=rfl;rw[asU,Z5 hs h0 (by omega),bu];generalize Ha Iy (sub s 0 cur)=c at*;simp only;rw[show(!(bM 0 0))=false from rfl,cond_false];rw[show aon s (c.1,(c.2.1,(c.2.2.1,(c.2.2.2.1,(c.2.2.2.2.1,(c.2.2.2.2.2.1,(c.2.2.2.2.2.2.1,(c.2.2.2.2.2.2.2.1,(c.2.2.2.2.2.2.2.2.1,()))))))))) cur t done=_ from amz hs (c:=c) f0 (by omega) cur ht done,bu];simp only;have hf:=Ut s c cur t done;have hfl:=ZX s c cur ht done;generalize F7 s c cur t done=r at*;have hr0:0<=r.1/\r.1<=cur:=by
  rw[hf];split<;>omega
 have hre:bC r.2=(r.2.length:Int):=rfl;rw[axf hs hr0.1 hr0.2 h1 hfl,bu];simp only;rw[show(!(bM 0 0))=false from rfl,cond_false,bY (by omega) (by omega)]
theorem asq {s:List UInt8} (hs:s.length<=1000) {a b:Int} (h0:0<=a) (h1:a<=b) (h2:b<=bC s) {t:List UInt8} (ht:t.length<=20000):asV s (a,(sub s a b,(t,())))=some (0,()):=by
 have hle:bC s=(s.length:Int):=rfl;have hte:bC t=(t.length:Int):=rfl;have hd:((sub s a b).length:Int)=b-a:=nZ h0 h1 (by omega);have hde:bC (sub s a b)=((sub s a b).length:Int):=rfl;have s1:ed .i64 (bC s) a=bC s-a:=gG (by omega) (by omega);have s2:bU .i64 a (bC (sub s a b))=b:=by rw[bY (by omega) (by omega)];omega
 have s3:ed .i64 (bC s) (bC (sub s a b))=bC s-bC (sub s a b):=gG (by omega) (by omega);have s4:bU .i64 (bC s-bC (sub s a b)) (bC t)=bC s-bC (sub s a b)+bC t:=bY (by omega) (by omega);rw[asV];simp only[s1,s2,s3,s4];rw[cO (iP h0),cO (iP (by omega)),cO (iP (by omega)),bH (fK h0 h1 h2),lL,au,cond_false,cO (iP (by omega))]
theorem abC (s:bK) (cur:Int) (t:bK) (done:Bool):fn7 s cur t done=some (true,()):=by
 have hle:bC s=(s.length:Int):=rfl;have hte:bC t=(t.length:Int):=rfl;rw[fn7];by_cases hs:s.length<=80
 ·rw[cO (iP (by omega))];by_cases ht:t.length<=40
  ·rw[cO (iP (by omega))];by_cases h0:0<=cur
   ·rw[cO (iP h0)];by_cases h1:cur<=bC s
    ·rw[cO (iP h1),Z5 (by omega) h0 (by omega),bu,aAX (by omega) h0 h1 (by omega) done,bu];have hsl:=kW s 0 cur;have hsn:((sub s 0 cur).length:Int)=cur-0:=nZ (by omega) h0 (by omega);obtain⟨f0,f1⟩:=Uw (s:=sub s 0 cur) (by omega);have hse:bC (sub s 0 cur)=((sub s 0 cur).length:Int):=rfl;generalize Ha Iy (sub s 0 cur)=c at*;have hf:=Ut s c cur t done;have hfl:=ZX s c cur (t:=t) (by omega) done;have hfn:=amy s c cur t done;generalize F7 s c cur t done=r at*;have hr0:0<=r.1/\r.1<=cur:=by
      rw[hf];split<;>omega
     have hre:bC r.2=(r.2.length:Int):=rfl;have hd:((sub s r.1 cur).length:Int)=cur-r.1:=nZ hr0.1 hr0.2 (by omega);have hde:bC (sub s r.1 cur)=((sub s r.1 cur).length:Int):=rfl;have a1:bU .i64 r.1 (bC (sub s r.1 cur))=cur:=by rw[bY (by omega) (by omega)];omega
     have a2:bU .i64 r.1 (bC r.2)=r.1+bC r.2:=bY (by omega) (by omega);simp only[show(!(bM 0 0))=false from rfl,cond_false,a1,a2,fD,au];rw[cO (iP hr0.2),asq (by omega) hr0.1 hr0.2 h1 hfl,bu];simp only[fD,au,cond_false];rw[show adP (c.1,(c.2.1,(c.2.2.1,(c.2.2.2.1,(c.2.2.2.2.1,(c.2.2.2.2.2.1,(c.2.2.2.2.2.2.1,(c.2.2.2.2.2.2.2.1,(c.2.2.2.2.2.2.2.2.1,())))))))))=some (Lr c,()) from ZA c,bu];cases ho:Lr c with
     |true=>
      rw[ho,if_pos rfl]at hf;simp only[au,cond_false,hf,fD]
     |false=>
      rw[ho,if_neg (by simp)]at hf;have hnil:sub s cur cur=[]:=by
       have:((sub s cur cur).length:Int)=cur-cur:=nZ h0 (by omega) (by omega);exact bg (by omega)
      simp only[aA,cond_true,hf,hfn ho,hnil,fD,lL,Bool.and_self,az]
    ·rw[bH (fJ (by omega))]
   ·rw[bH (fJ (by omega))]
  ·rw[bH (fJ (by omega))]
 ·rw[bH (fJ (by omega))]
end

end Go.Proofs.YtfmikaahgehndaaGreatDoor
