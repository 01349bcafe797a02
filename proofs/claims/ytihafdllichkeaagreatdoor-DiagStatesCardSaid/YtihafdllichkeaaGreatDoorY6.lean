/- Parts of the proof, joined and shortened by a program: the plain machine, the functions as it prints them, and the mathematics over them. -/
import Derived.Ground.NamesProg
import Derived.Shelf.Strconv.Itoa3
import Derived.Test.YtihafdllichkeaaGreatDoorY5
set_option linter.unusedVariables false
set_option linter.unusedSimpArgs false
set_option maxRecDepth 100000
set_option maxHeartbeats 4000000
namespace Go.Proofs.YtihafdllichkeaaGreatDoor
section
open Bool renaming false_eq_true → aj, and_true → ax
open List renaming length_append → ae, append_assoc → ag, length_singleton → ai, length_cons → ak, append_nil → aK, length_nil → aY
open Nat renaming le_refl → ah
open Go.RowKit
variable {F:List Lf} (hF:OkF F)
include hF
omit hF in
theorem NL (a:Nat):a<=GI F a/\(a<=F.length->GI F a<=F.length)/\(Dl F a=true->GI F a=a+1):=by
 unfold GI;cases h:Dl F a with
 |true=>have:=Ye h;exact⟨by simp,fun _=>by simp only[if_true];omega,fun _=>by simp⟩
 |false=>exact⟨by simp,fun h=>by simpa using h,fun h=>by cases h⟩
theorem ab7 {q:eY} {q':fQ} (u d v:Int) (hd:0<=d/\d<=200): ∀(N a:Nat) (L:List Nd),F.length-a<N->a<=F.length->L.length<=16*a+200->
  ∃(a':Nat) (m:List Nd),J3 q N F (a:Int) u d L=some (.inl ((),((),()),((F,(a':Int),u,d,()),L++m,())))/\
   uF q' N v F (iV F) (a:Int) u d L=some (.inl ((v,()),((),()),((F,iV F,(a':Int),u,d,()),L++m,())))/\a<=a'/\a'<=F.length/\m.length<=a'-a
 |0,a,L,hN,_,_=>by omega
 |N+1,a,L,hN,ha,hL=>by
  have hFl:=hF.len;rw[J3,Qq,uF,Lh,mW hF a L u d (by omega) [124] rfl,jo a L u d [124] (by simp),bK,bK];simp only;cases hb:fP F a [124]with
  |false=>
   rw[uX hb];exact⟨a,[],by simp,by simp,ah _,ha,by simp⟩
  |true=>
   have hlt:=ig hb;rw[mX hb];simp only[cond_true];rw[dC (by omega) (by omega),show(a:Int)+1=((a+1:Nat):Int) by omega];obtain⟨w1,w2,_⟩:=NL (F:=F) (a+1);have w3:=w2 (by omega);rw[UE (a+1) L u d (by omega) (by omega),ab1 (a+1) L u d (by omega) (by omega) hd.1 (by omega),bK,bK];simp only[IY];obtain⟨a',m,g1,g2,g3,g4,g5⟩:=ab7 u d v hd N (GI F (a+1)) (L++[UO F (a+1) u]) (by omega) w3 (by rw[ae,ai];omega);exact⟨a',[UO F (a+1) u]++m,by rw[g1,ag],by rw[g2,ag],by omega,g4,by rw[ae,ai];omega⟩
theorem axs {k:Nat} (h:All F k) (a:Nat) (L:List Nd) (u d:Int) (q q':Nat) (hm:16*(F.length-a)+13<k) (hr:k+1<=q) (hr':k<=q') (hp:I5 F a L d 104) (hgo:fP F a [40]=true\/Dl F a=true):
  ∃(a':Nat) (m:List Nd),(fD q).q374 F (a:Int) (cu L [opn 15 a u]) (bP L) d=some (PR F a' (cu L [opn 15 a u]++m) (bP L) d,())/\
   (∀{β:Type} (K:(List Lf×List UInt8×List Nd×Int×Int×Int×Unit)×Unit->Option β) (kR:Option β),
    (bM (rH F (iV F) L (a:Int) u d 15) fun y1=>
     bM (jF y1.1.1 y1.1.2.1 y1.1.2.2.1 y1.1.2.2.2.1 y1.1.2.2.2.2.1 y1.1.2.2.2.2.2.1 [40]) fun y2=>
      bif y2.2.1 then
       bM (xf y2.1.1 y2.1.2.1 y2.1.2.2.1 (dA .i64 y2.1.2.2.2.1 1) y2.1.2.2.2.2.1 y2.1.2.2.2.2.2.1) fun y3=>
        bM (uF (fF q') bU y1.2.1 y3.1.1 y3.1.2.1 y3.1.2.2.2.1 y3.1.2.2.2.2.1 y3.1.2.2.2.2.2.1 y3.1.2.2.1) fun y4=>
         dV y4 (fun a5=>
          bM (mY a5.2.2.1.1 a5.2.2.1.2.1 a5.2.2.2.1 a5.2.2.1.2.2.1 a5.2.2.1.2.2.2.1 a5.2.2.1.2.2.2.2.1 [41]) fun y6=>
           bM (lU y6.1.1 y6.1.2.1 y6.1.2.2.1 y6.1.2.2.2.1 y6.1.2.2.2.2.1 y6.1.2.2.2.2.2.1) fun y7=>
            bM (CZ y7.1.1 y7.1.2.1 y7.1.2.2.1 y7.1.2.2.2.1 y7.1.2.2.2.2.1 y7.1.2.2.2.2.2.1) fun y8=>
             bif y8.2.1 then
              bM ((fF q').q129 y8.1.1 y8.1.2.1 y8.1.2.2.1 y8.1.2.2.2.1 y8.1.2.2.2.2.1 y8.1.2.2.2.2.2.1) fun y9=>
               bM (jW y9.1.1 y9.1.2.1 y9.1.2.2.1 y9.1.2.2.2.1 y9.1.2.2.2.2.1 y9.1.2.2.2.2.2.1 a5.1.1) K
             else
             bM (jW y8.1.1 y8.1.2.1 y8.1.2.2.1 y8.1.2.2.2.1 y8.1.2.2.2.2.1 y8.1.2.2.2.2.2.1 a5.1.1) K) (fun b5=>kR)
      else
      bM (xf y2.1.1 y2.1.2.1 y2.1.2.2.1 y2.1.2.2.2.1 y2.1.2.2.2.2.1 y2.1.2.2.2.2.2.1) fun y3=>
       bM (uF (fF q') bU y1.2.1 y3.1.1 y3.1.2.1 y3.1.2.2.2.1 y3.1.2.2.2.2.1 y3.1.2.2.2.2.2.1 y3.1.2.2.1) fun y4=>
        dV y4 (fun a5=>
         bM (mY a5.2.2.1.1 a5.2.2.1.2.1 a5.2.2.2.1 a5.2.2.1.2.2.1 a5.2.2.1.2.2.2.1 a5.2.2.1.2.2.2.2.1 [41]) fun y6=>
          bM (lU y6.1.1 y6.1.2.1 y6.1.2.2.1 y6.1.2.2.2.1 y6.1.2.2.2.2.1 y6.1.2.2.2.2.2.1) fun y7=>
           bM (CZ y7.1.1 y7.1.2.1 y7.1.2.2.1 y7.1.2.2.2.1 y7.1.2.2.2.2.1 y7.1.2.2.2.2.2.1) fun y8=>
            bif y8.2.1 then
             bM ((fF q').q129 y8.1.1 y8.1.2.1 y8.1.2.2.1 y8.1.2.2.2.1 y8.1.2.2.2.2.1 y8.1.2.2.2.2.2.1) fun y9=>
              bM (jW y9.1.1 y9.1.2.1 y9.1.2.2.1 y9.1.2.2.2.1 y9.1.2.2.2.2.1 y9.1.2.2.2.2.2.1 a5.1.1) K
            else
            bM (jW y8.1.1 y8.1.2.1 y8.1.2.2.1 y8.1.2.2.2.1 y8.1.2.2.2.2.1 y8.1.2.2.2.2.2.1 a5.1.1) K) (fun b5=>kR))=K (RR F a' (L++(15,(a:Int),(a':Int),u,())::m) u d,()))/\a<a'/\a'<=F.length/\m.length+4<=16*(a'-a):=by
 obtain⟨p1,p2,p3,p4⟩:=hp;have hFl:=hF.len;obtain⟨q,rfl⟩: ∃q0,q=q0+1:=⟨q-1,by omega⟩;have hcl:(cu L [opn 15 a u]).length=L.length+1:=by unfold cu;simp
 have hcat:cu L [opn 15 a u]=L++[(15,(a:Int),0,u,())]:=rfl;have h0a:a<=tk F a [40]/\tk F a [40]<=F.length:=by
  unfold tk;split
  ·rename_i hx;have:=ig hx;omega
  ·omega
 obtain⟨w1,w2,w3⟩:=NL (F:=F) (tk F a [40]);have w4:=w2 h0a.2;have hstep:a+1<=GI F (tk F a [40]):=by
  cases hx:fP F a [40]with
  |true=>rw[mX hx]at w1 ⊢;exact w1
  |false=>
   rw[uX hx]at w3 ⊢;rcases hgo with g|g
   ·rw[hx]at g;cases g
   ·rw[w3 g];exact ah _
 obtain⟨a2,m2,g1,g2,g3,g4,g5⟩:=ab7 hF (q:=fD q) (q':=fF q') (bP L) d u ⟨p3,p4⟩ bU (GI F (tk F a [40])) (cu L [opn 15 a u]++[UO F (tk F a [40]) (bP L)]) (dO (by omega)) w4 (by rw[ae,ai,hcl];omega);obtain⟨x1,x2⟩:=Hy (F:=F) a2 [41];have x3:=x2 g4;have x4:=uh (F:=F) a2 [41] (bP L);have hge:=xm (F:=F) (qK F a2 [41]);have hle:=yh (F:=F) x3;have hM:(cu L [opn 15 a u]++[UO F (tk F a [40]) (bP L)]++m2++xG F a2 [41] (bP L)).length<=L.length+3+(a2-GI F (tk F a [40])):=by
  simp only[ae,ai,hcl];omega
 have hend: ∀(a':Nat) (m:List Nd) {β:Type} (K:(List Lf×List UInt8×List Nd×Int×Int×Int×Unit)×Unit->Option β),bM (jW F (iV F) (cu L [opn 15 a u]++m) (a':Int) (bP L) d u) K=K (RR F a' (L++(15,(a:Int),(a':Int),u,())::m) u d,()):=fun a' m β K=>by
  rw[hcat,show bP L=((L.length:Nat):Int) from rfl,uT a' _ u d L.length (by simp only[ae,ai];omega) (oM L _ 15 _ _) (by omega) (by omega) p3 (by omega),bK];simp only[oJ,show jG 15=false from rfl,aj,if_false]
 have hfin: ∃(a':Nat) (m:List Nd),∃(hp1:qL F (ln F (qK F a2 [41])) d=true->(fD q).q186 F ((ln F (qK F a2 [41]):Nat):Int) (cu (cu L [opn 15 a u]++[UO F (tk F a [40]) (bP L)]++m2++xG F a2 [41] (bP L)) [opn 2 (ln F (qK F a2 [41])) (bP L)]) (bP (cu L [opn 15 a u]++[UO F (tk F a [40]) (bP L)]++m2++xG F a2 [41] (bP L))) d=some (PR F a' (cu (cu L [opn 15 a u]++[UO F (tk F a [40]) (bP L)]++m2++xG F a2 [41] (bP L)) [opn 2 (ln F (qK F a2 [41])) (bP L)]++m) (bP (cu L [opn 15 a u]++[UO F (tk F a [40]) (bP L)]++m2++xG F a2 [41] (bP L))) d,())/\
   (fF q').q129 F (iV F) (cu L [opn 15 a u]++[UO F (tk F a [40]) (bP L)]++m2++xG F a2 [41] (bP L)) ((ln F (qK F a2 [41]):Nat):Int) (bP L) d=some (RR F a' ((cu L [opn 15 a u]++[UO F (tk F a [40]) (bP L)]++m2++xG F a2 [41] (bP L))++(2,((ln F (qK F a2 [41]):Nat):Int),(a':Int),(bP L),())::m) (bP L) d,())),
   ln F (qK F a2 [41])<=a'/\a'<=F.length/\(qL F (ln F (qK F a2 [41])) d=true->m.length+1<=16*(a'-ln F (qK F a2 [41])))/\(qL F (ln F (qK F a2 [41])) d=false->a'=ln F (qK F a2 [41])):=by
  cases hb:qL F (ln F (qK F a2 [41])) d with
  |true=>
   obtain⟨a',m,e1,e2,e3,e4,e5⟩:=h.list (ln F (qK F a2 [41])) (cu L [opn 15 a u]++[UO F (tk F a [40]) (bP L)]++m2++xG F a2 [41] (bP L)) (bP L) d q q' (by omega) (by omega) hr' ⟨hle,by omega,p3,p4⟩ hb;exact⟨a',m,fun _=>⟨e1,e2⟩,by omega,e4,fun _=>e5,fun h=>by cases h⟩
  |false=>exact⟨ln F (qK F a2 [41]),[],(fun h=>by cases h),ah _,hle,(fun h=>by cases h),fun _=>rfl⟩
 obtain⟨a',m,f1,f2,f3,f4,f5⟩:=hfin;refine⟨a',[UO F (tk F a [40]) (bP L)]++m2++xG F a2 [41] (bP L)++(if qL F (ln F (qK F a2 [41])) d=true then(2,((ln F (qK F a2 [41]):Nat):Int),(a':Int),(bP L),())::m else []), ?_,fun K kR=> ?_,by omega,f3, ?_⟩
 ·show ase (fD q) F (a:Int) _ _ d=_;rw[ase,mW hF a _ (bP L) d (by omega) [40] rfl,bK];simp only;rw[UE (tk F a [40]) _ _ d (by omega) (by rw[hcl];omega),bK];simp only[IY];rw[g1,bK];simp only[dV];rw[zJ hF a2 _ (bP L) d (by omega) (by simp only[ae,ai,hcl];omega) [41] rfl,bK];simp only[l9];rw[nP hF (qK F a2 [41]) _ (bP L) d x3,bK];simp only;rw[Cm hF (ln F (qK F a2 [41])) _ (bP L) d (by omega),bK];simp only;cases hb:qL F (ln F (qK F a2 [41])) d with
  |true=>
   have n1:=(lg (cu L [opn 15 a u]++[UO F (tk F a [40]) (bP L)]++m2++xG F a2 [41] (bP L)) (opn 2 (ln F (qK F a2 [41])) (bP L)) (by omega)).1;obtain⟨c1,c2⟩:=ql (cu L [opn 15 a u]++[UO F (tk F a [40]) (bP L)]++m2++xG F a2 [41] (bP L)) m (opn 2 (ln F (qK F a2 [41])) (bP L));have q1:=(f1 hb).1;simp only[fG,ax,cond_true,n1];rw[q1,bK];simp only[c1,c2,cond_true,lN,if_true];simp only[ag]
  |false=>
   rw[f5 hb];simp only[cond_false,aj,if_false,ag,aK]
 ·rw[lL a L u d (by omega) (by omega) (by omega) p3 (by omega),bK];simp only[show jG 15=false from rfl,aj,if_false];rw[show((L.length:Nat):Int)=bP L from rfl,<-hcat,jo a _ (bP L) d [40] (by simp),bK];simp only;have hrest: ∀(b:Nat),b=tk F a [40]->(bM (xf F (iV F) (cu L [opn 15 a u]) (b:Int) (bP L) d) fun y3=>
        bM (uF (fF q') bU u y3.1.1 y3.1.2.1 y3.1.2.2.2.1 y3.1.2.2.2.2.1 y3.1.2.2.2.2.2.1 y3.1.2.2.1) fun y4=>
         dV y4 (fun a5=>
          bM (mY a5.2.2.1.1 a5.2.2.1.2.1 a5.2.2.2.1 a5.2.2.1.2.2.1 a5.2.2.1.2.2.2.1 a5.2.2.1.2.2.2.2.1 [41]) fun y6=>
           bM (lU y6.1.1 y6.1.2.1 y6.1.2.2.1 y6.1.2.2.2.1 y6.1.2.2.2.2.1 y6.1.2.2.2.2.2.1) fun y7=>
            bM (CZ y7.1.1 y7.1.2.1 y7.1.2.2.1 y7.1.2.2.2.1 y7.1.2.2.2.2.1 y7.1.2.2.2.2.2.1) fun y8=>
             bif y8.2.1 then
              bM ((fF q').q129 y8.1.1 y8.1.2.1 y8.1.2.2.1 y8.1.2.2.2.1 y8.1.2.2.2.2.1 y8.1.2.2.2.2.2.1) fun y9=>
               bM (jW y9.1.1 y9.1.2.1 y9.1.2.2.1 y9.1.2.2.2.1 y9.1.2.2.2.2.1 y9.1.2.2.2.2.2.1 a5.1.1) K
             else
             bM (jW y8.1.1 y8.1.2.1 y8.1.2.2.1 y8.1.2.2.2.1 y8.1.2.2.2.2.1 y8.1.2.2.2.2.2.1 a5.1.1) K) (fun b5=>kR))=K (RR F a' (L++(15,(a:Int),(a':Int),u,())::([UO F (tk F a [40]) (bP L)]++m2++xG F a2 [41] (bP L)++(if qL F (ln F (qK F a2 [41])) d=true then(2,((ln F (qK F a2 [41]):Nat):Int),(a':Int),(bP L),())::m else []))) u d,()):=by
   rintro b rfl;rw[ab1 (tk F a [40]) _ _ d (by omega) (by rw[hcl];omega) p3 (by omega),bK];simp only[IY];rw[g2,bK];simp only[dV];rw[zK a2 _ (bP L) d (by omega) (by simp only[ae,ai,hcl];omega) p3 (by omega) [41] (by simp),bK];simp only[l9];rw[mG hF (qK F a2 [41]) _ (bP L) d x3,bK];simp only;rw[HY (ln F (qK F a2 [41])) _ (bP L) d (by omega),bK];simp only;cases hb:qL F (ln F (qK F a2 [41])) d with
   |true=>
    have q1:=(f1 hb).2;simp only[cond_true,if_true];rw[q1,bK];simp only[ag];exact hend a' _ K
   |false=>
    rw[f5 hb];simp only[cond_false,aj,if_false,ag,aK];exact hend _ _ K
  cases hx:fP F a [40]with
  |true=>
   simp only[cond_true];rw[dC (by omega) (by omega),show(a:Int)+1=((a+1:Nat):Int) by omega];exact hrest (a+1) (mX hx).symm
  |false=>
   simp only[cond_false];exact hrest a (uX hx).symm
 ·cases hb:qL F (ln F (qK F a2 [41])) d with
  |true=>
   have:=f4 hb;rw[if_pos rfl];simp only[ae,ak,aY];omega
  |false=>
   have:=f5 hb;rw[if_neg (by simp),aK];simp only[ae,ai];omega
end
section
open Bool renaming and_true → ax, not_true → aB, not_false → aG
open List renaming length_append → ae, append_assoc → ag, length_singleton → ai, length_cons → ak
open Nat renaming le_refl → ah
open Go.RowKit
variable {F:List Lf} (hF:OkF F)
include hF
theorem QW {k:Nat} (h:All F k) {q q':Nat} (hq:k+1<=q) (hq':k<=q') (u d:Int) (hd:0<=d/\d<=200): ∀(N N' a:Nat) (L:List Nd),F.length-a<N->F.length-a+1<N'->a<=F.length->16*(F.length-a)+13<k->L.length<=16*a+104->
  ∃(a':Nat) (m:List Nd),FZ (fD q) N F (a:Int) u d L=some (.inl ((),((),()),((F,(a':Int),u,d,()),L++m,())))/\
   yl (fF q') N' true F (iV F) (a:Int) u d L=some (.inl ((),((),()),((F,iV F,(a':Int),u,d,()),L++m,())))/\a<=a'/\a'<=F.length/\m.length<=16*(a'-a)
 |0,_,a,L,hN,_,_,_,_=>by omega
 |N+1,0,a,L,_,hN,_,_,_=>by omega
 |N+1,1,a,L,_,hN,_,_,_=>by omega
 |N+1,N'+2,a,L,hN,hN',ha,hn,hL=>by
  have hFl:=hF.len
  (rewrite [FZ,Qp,yl,Lj];delta sK;rw[Xy hF a L u d (by omega) [40] rfl,jo a L u d [40] (by simp),bK,cond_true,bK])
  simp only;have h122:bW ((Dq F a).toNat:Int) 122=fP F a [122]:=WC a 122 (by decide);by_cases hgo:fP F a [40]=true\/(Dl F a=true/\fP F a [122]=false)
  ·obtain⟨a1,m1,e1,e2,e3,e4,e5⟩:=axs hF h a L u d q q' (by omega) hq hq' ⟨ha,hL,hd.1,hd.2⟩ (hgo.imp id And.left);obtain⟨n1,_,_⟩:=lg L (opn 15 a u) (by omega);obtain⟨c1,c2⟩:=ql L m1 (opn 15 a u);have hL1:(L++(15,(a:Int),(a1:Int),u,())::m1).length<=16*a1+104:=by rw[ae,ak];omega
   have hend: ∃(a':Nat) (m:List Nd),(bM (lI F (a1:Int) (L++(15,(a:Int),(a1:Int),u,())::m1) u d [121]) fun y2=>
      bif(!y2.2.1)then
       some (.inl ((),((),()),((y2.1.1,y2.1.2.1,y2.1.2.2.2.1,y2.1.2.2.2.2.1,()),y2.1.2.2.1,())))
      else
      bM (pJ y2.1.1 y2.1.2.1 y2.1.2.2.1 y2.1.2.2.2.1 y2.1.2.2.2.2.1) fun y3=>
       FZ (fD q) N y3.1.1 y3.1.2.1 y3.1.2.2.2.1 y3.1.2.2.2.2.1 y3.1.2.2.1)=some (.inl ((),((),()),((F,(a':Int),u,d,()),L++m,())))/\
     (bM (jF F (iV F) (L++(15,(a:Int),(a1:Int),u,())::m1) (a1:Int) u d [121]) fun y10=>
      bif y10.2.1 then
       bM (lU y10.1.1 y10.1.2.1 y10.1.2.2.1 (dA .i64 y10.1.2.2.2.1 1) y10.1.2.2.2.2.1 y10.1.2.2.2.2.2.1) fun y11=>
        yl (fF q') (N'+1) y10.2.1 y11.1.1 y11.1.2.1 y11.1.2.2.2.1 y11.1.2.2.2.2.1 y11.1.2.2.2.2.2.1 y11.1.2.2.1
      else
      yl (fF q') (N'+1) y10.2.1 y10.1.1 y10.1.2.1 y10.1.2.2.2.1 y10.1.2.2.2.2.1 y10.1.2.2.2.2.2.1 y10.1.2.2.1)=some (.inl ((),((),()),((F,iV F,(a':Int),u,d,()),L++m,())))/\a<=a'/\a'<=F.length/\m.length<=16*(a'-a):=by
    rw[mW hF a1 _ u d (by omega) [121] rfl,jo a1 _ u d [121] (by simp),bK,bK];simp only;cases hb:fP F a1 [121]with
    |false=>
     rw[uX hb];simp only[aG,cond_true,cond_false]
     (rewrite [yl,Lj];delta sK;rw[cond_false])
     exact⟨a1,(15,(a:Int),(a1:Int),u,())::m1,rfl,rfl,by omega,e4,by rw[ak];omega⟩
    |true=>
     have hlt:=ig hb;rw[mX hb];simp only[aB,cond_true,cond_false];have hge:=xm (F:=F) (a1+1);have hle:=yh (F:=F) (a:=a1+1) (by omega);rw[dC (by omega) (by omega),show(a1:Int)+1=((a1+1:Nat):Int) by omega,nP hF (a1+1) _ u d (by omega),mG hF (a1+1) _ u d (by omega),bK,bK];simp only;obtain⟨a',m,g1,g2,g3,g4,g5⟩:=QW h hq hq' u d hd N (N'+1) (ln F (a1+1)) (L++(15,(a:Int),(a1:Int),u,())::m1) (by omega) (by omega) hle (by omega) (by omega);exact⟨a',((15,(a:Int),(a1:Int),u,())::m1)++m,by rw[g1,ag],by rw[g2,ag],by omega,g4,by rw[ae,ak];omega⟩
   obtain⟨a',m,s1,s2,s3,s4,s5⟩:=hend;refine⟨a',m, ?_, ?_,s3,s4,s5⟩
   ·cases hx:fP F a [40]with
    |true=>
     simp only[fG,ax,cond_true,n1];rw[e1,bK];simp only[c1,c2,cond_true,lN];exact s1
    |false=>
     rcases hgo with g|⟨g1,g2⟩
     ·rw[hx]at g;cases g
     ·rw[Aj a L u d,g1];simp only[cond_false,cond_true,bK];rw[oQ hF a L u d (by omega),bK];simp only;rw[h122,g2];simp only[aG,fG,ax,cond_true,n1];rw[e1,bK];simp only[c1,c2,cond_true,lN];exact s1
   ·cases hx:fP F a [40]with
    |true=>
     rw[cond_true];exact(e2 _ _).trans s2
    |false=>
     rcases hgo with g|⟨g1,g2⟩
     ·rw[hx]at g;cases g
     ·have hlt:=Ye g1;have h6:F[a].1=6:=by
       unfold Dl at g1;rw[dif_pos hlt]at g1;exact of_decide_eq_true g1
      rw[cond_false,bZ (b:=iG (a:Int) (bP F)) (fH (by rw[bT];omega)),bZ (b:=gV F (a:Int)) (eP (by omega) (by omega)),Am hlt,bZ (b:=bW F[a].1 6) (fV h6),jo a L u d [122] (by simp),bK,g2];simp only[aG,cond_true];exact(e2 _ _).trans s2
  ·have hx:fP F a [40]=false:=by
    cases hx:fP F a [40]with
    |false=>rfl
    |true=>exact absurd (Or.inl hx) hgo
   rw[hx];simp only[cond_false];refine⟨a,[], ?_, ?_,ah _,ha,by simp⟩
   ·rw[Aj a L u d,bK];simp only;cases hw:Dl F a with
    |false=>simp
    |true=>
     have h2:fP F a [122]=true:=by
      cases h2:fP F a [122]with
      |true=>rfl
      |false=>exact absurd (Or.inr ⟨hw,h2⟩) hgo
     simp only[cond_true];rw[oQ hF a L u d (by omega),bK];simp only;rw[h122,h2];simp
   ·by_cases hlt:a<F.length
    ·rw[bZ (b:=iG (a:Int) (bP F)) (fH (by rw[bT];omega)),bZ (b:=gV F (a:Int)) (eP (by omega) (by omega)),Am hlt];by_cases h6:F[a].1=6
     ·have hw:Dl F a=true:=by unfold Dl;rw[dif_pos hlt,decide_eq_true h6]
      have h2:fP F a [122]=true:=by
       cases h2:fP F a [122]with
       |true=>rfl
       |false=>exact absurd (Or.inr ⟨hw,h2⟩) hgo
      rw[bZ (b:=bW F[a].1 6) (fV h6),jo a L u d [122] (by simp),bK,h2];simp
     ·rw[dE (b:=bW F[a].1 6) (dW h6)];simp
    ·rw[dE (b:=iG (a:Int) (bP F)) (iy (by rw[bT];omega))];simp
theorem aqY {k:Nat} (h:All F k) (a:Nat) (l:List Nd) (u d:Int) (r r':Nat) (hm:16*(F.length-a)+13<k) (hr:k+2<=r) (hr':k+1<=r') (hp:I5 F a l d 100):
  ∃(a':Nat) (m:List Nd),(fD r).q364 F (a:Int) l u d=some (PR F a' (l++m) u d,())/\
   (fF r').q354 F (iV F) l (a:Int) u d=some (RR F a' (l++m) u d,())/\a<=a'/\a'<=F.length/\m.length<=16*(a'-a)+3:=by
 obtain⟨p1,p2,p3,p4⟩:=hp;have hFl:=hF.len;obtain⟨q,rfl⟩: ∃q,r=q+1:=⟨r-1,by omega⟩;obtain⟨q',rfl⟩: ∃q',r'=q'+1:=⟨r'-1,by omega⟩;obtain⟨w1,w2,w3⟩:=NL (F:=F) a;have w4:=w2 p1;have hge:=xm (F:=F) (GI F a);have hle:=yh (F:=F) w4;obtain⟨x1,x2⟩:=Hy (F:=F) (ln F (GI F a)) [107];have x3:=x2 hle;have x4:=uh (F:=F) (ln F (GI F a)) [107] u;have hge2:=xm (F:=F) (qK F (ln F (GI F a)) [107]);have hle2:=yh (F:=F) x3;obtain⟨a1,m1,g1,g2,g3,g4,g5⟩:=QW hF h (q:=q) (q':=q') (by omega) (by omega) u d ⟨p3,p4⟩ bU bU (ln F (qK F (ln F (GI F a)) [107])) (l++[UO F a u]++xG F (ln F (GI F a)) [107] u) (dO (by omega)) (dO (by omega)) hle2 (by omega) (by simp only[ae,ai];omega);obtain⟨y1,y2⟩:=Hy (F:=F) a1 [122];have y3:=y2 g4;have y4:=uh (F:=F) a1 [122] u;refine⟨qK F a1 [122],[UO F a u]++xG F (ln F (GI F a)) [107] u++m1++xG F a1 [122] u, ?_, ?_,by omega,y3,by simp only[ae,ai];omega⟩
 ·show asa (fD q) F (a:Int) l u d=_;rw[asa,UE a l u d (by omega) (by omega),bK];simp only[IY];rw[nP hF (GI F a) _ u d w4,bK];simp only;rw[zJ hF (ln F (GI F a)) _ u d (by omega) (by simp only[ae,ai];omega) [107] rfl,bK];simp only[l9];rw[nP hF (qK F (ln F (GI F a)) [107]) _ u d x3,bK];simp only;rw[g1,bK];simp only[dV];rw[zJ hF a1 _ u d (by omega) (by simp only[ae,ai];omega) [122] rfl,bK];simp only[l9,ag]
 ·show ar4 (fF q') F (iV F) l (a:Int) u d=_;rw[ar4,ab1 a l u d (by omega) (by omega) p3 (by omega),bK];simp only[IY];rw[mG hF (GI F a) _ u d w4,bK];simp only;rw[zK (ln F (GI F a)) _ u d (by omega) (by simp only[ae,ai];omega) p3 (by omega) [107] (by simp),bK];simp only[l9];rw[mG hF (qK F (ln F (GI F a)) [107]) _ u d x3,bK];simp only;rw[g2,bK];simp only[dV];rw[zK a1 _ u d (by omega) (by simp only[ae,ai];omega) p3 (by omega) [122] (by simp),bK];simp only[l9,ag]
end
section
open Bool renaming and_eq_true → af, and_true → ax
open List renaming length_append → ae, append_assoc → ag, length_singleton → ai, length_cons → ak, length_map → ay
open Go.RowKit
theorem aDp (q':fQ) (F:List Lf) (S:di) (a u d:Int) (l:List Nd):vI q' bU 123 9 0 F S a u d l=some (.inl ((9,()),((),()),((F,S,a,u,d,()),l,()))):=by kernel_rfl
theorem axR (q':fQ) (F:List Lf) (S:di) (a u d:Int) (l:List Nd):vI q' bU 40 9 0 F S a u d l=some (.inl ((10,()),((),()),((F,S,a,u,d,()),l,()))):=by kernel_rfl
theorem axS (q':fQ) (F:List Lf) (S:di) (a u d:Int) (l:List Nd):vI q' bU 105 9 0 F S a u d l=some (.inl ((11,()),((),()),((F,S,a,u,d,()),l,()))):=by kernel_rfl
theorem axT (q':fQ) (F:List Lf) (S:di) (a u d:Int) (l:List Nd):vI q' bU 119 9 0 F S a u d l=some (.inl ((12,()),((),()),((F,S,a,u,d,()),l,()))):=by kernel_rfl
theorem axU (q':fQ) (F:List Lf) (S:di) (a u d:Int) (l:List Nd):vI q' bU 114 9 0 F S a u d l=some (.inl ((13,()),((),()),((F,S,a,u,d,()),l,()))):=by kernel_rfl
theorem axV (q':fQ) (F:List Lf) (S:di) (a u d:Int) (l:List Nd):vI q' bU 99 9 0 F S a u d l=some (.inl ((14,()),((),()),((F,S,a,u,d,()),l,()))):=by kernel_rfl
variable {F:List Lf} (hF:OkF F)
include hF
theorem aFJ {n:Nat} (h2:All F (n-2)) (a:Nat) (l:List Nd) (u d:Int) (q q':Nat) (hm:16*(F.length-a)+8<n+1) (hq:n<=q) (hq':n<=q') (hp:I5 F a l d 113) (hlt:a<F.length) (hd:d<200) (hs:Dq F a=123):
  ∃(a':Nat) (m:List Nd),Aa (fD q) F (a:Int) l u d=some (PR F a' (l++m) u d,())/\
   zZ (fF q') F (iV F) l (a:Int) u d=some (RR F a' (l++m) u d,())/\a<a'/\a'<=F.length/\m.length+3<=16*(a'-a):=by
 obtain⟨p1,p2,p3,p4⟩:=hp;have hFl:=hF.len;obtain⟨q0,rfl⟩: ∃q0,q=q0+1:=⟨q-1,by omega⟩;have hcl:(cu l [opn 9 a u]).length=l.length+1:=by unfold cu;simp
 have hcat:cu l [opn 9 a u]=l++[(9,(a:Int),0,u,())]:=rfl;obtain⟨n1,_,_⟩:=lg l (opn 9 a u) (by omega);obtain⟨a1,m1,e1,e2,e3,e4,e5⟩:=aba hF h2 (a+1) (cu l [opn 9 a u]) (bP l) (d+1) q0 q' [125] rfl (by simp) (by omega) (by omega) (by omega) ⟨by omega,by rw[hcl];omega,by omega,by omega⟩;obtain⟨a2,m2,f1,f2,f3,f4,f5⟩:=aE1 hF (q:=fD (q0+1)) (q':=fF q') (bP l) (d+1) u (bP l) u 9 9 9 9 ⟨by omega,by omega⟩ a1 (cu l [opn 9 a u]++m1) e4 (by rw[ae,hcl];omega);obtain⟨c1,c2⟩:=ql l (m1++m2) (opn 9 a u);refine⟨a2,(9,(a:Int),(a2:Int),u,())::(m1++m2), ?_, ?_,by omega,f4,by simp only[ae,ak];omega⟩
 ·rw[Aa];simp only[fG,ik,ax,cond_true,bK];rw[oQ hF a l u d (by omega),bK];simp only[hs,show bW (((123:UInt8).toNat:Nat):Int) 40=false from by kernel_rfl,show bW (((123:UInt8).toNat:Nat):Int) 105=false from by kernel_rfl,show bW (((123:UInt8).toNat:Nat):Int) 119=false from by kernel_rfl,show bW (((123:UInt8).toNat:Nat):Int) 114=false from by kernel_rfl,show bW (((123:UInt8).toNat:Nat):Int) 99=false from by kernel_rfl,cond_true,cond_false,n1];rw[dC (by omega) (by omega),dC (by omega) (by omega),show(a:Int)+1=((a+1:Nat):Int) by omega];show bM (ar5 (fD q0) F ((a+1:Nat):Int) _ _ _) _=_;rw[ar5,e1,bK];simp only;rw[f1,bK];simp only[dV];rw[ag,iJ (by omega) (by omega)];simp only[c1,c2,cond_true,lN,show d+1-1=d by omega]
 ·(rewrite [zZ];delta nO;rw[bZ (b:=gV (iV F) (a:Int)) (eP (by omega) (by rw[ay];omega)),zF hlt,hs,show(((123:UInt8).toNat:Nat):Int)=123 from by kernel_rfl,aDp,bK])
  simp only[dV];rw[lL a l u d (by omega) (by omega) (by omega) p3 (by omega),bK];simp only[show jG 9=true from by kernel_rfl,if_true,show bW (9:Int) 9=true from by kernel_rfl,cond_true,cond_false];rw[show((l.length:Nat):Int)=bP l from rfl,<-hcat,dC (by omega) (by omega),show(a:Int)+1=((a+1:Nat):Int) by omega];refine(e2 _).trans ?_;simp only;rw[f2,bK];simp only[dV];rw[ag,hcat,show bP l=((l.length:Nat):Int) from rfl,uT a2 _ u (d+1) l.length (by simp only[ae,ai];omega) (oM l _ 9 _ _) (by omega) (by omega) (by omega) (by omega),bK];simp only[oJ,show jG 9=true from by kernel_rfl,if_true,show d+1-1=d by omega]
theorem aBA {n:Nat} (h2:All F (n-2)) (a:Nat) (l:List Nd) (u d:Int) (q q':Nat) (hm:16*(F.length-a)+8<n+1) (hq:n<=q) (hq':n<=q') (hp:I5 F a l d 113) (hlt:a<F.length) (hd:d<200) (hs:Dq F a=40):
  ∃(a':Nat) (m:List Nd),Aa (fD q) F (a:Int) l u d=some (PR F a' (l++m) u d,())/\
   zZ (fF q') F (iV F) l (a:Int) u d=some (RR F a' (l++m) u d,())/\a<a'/\a'<=F.length/\m.length+3<=16*(a'-a):=by
 obtain⟨p1,p2,p3,p4⟩:=hp;have hFl:=hF.len;obtain⟨q0,rfl⟩: ∃q0,q=q0+1:=⟨q-1,by omega⟩;have hcl:(cu l [opn 10 a u]).length=l.length+1:=by unfold cu;simp
 have hcat:cu l [opn 10 a u]=l++[(10,(a:Int),0,u,())]:=rfl;obtain⟨n1,_,_⟩:=lg l (opn 10 a u) (by omega);obtain⟨a1,m1,e1,e2,e3,e4,e5⟩:=aba hF h2 (a+1) (cu l [opn 10 a u]) (bP l) (d+1) q0 q' [41] rfl (by simp) (by omega) (by omega) (by omega) ⟨by omega,by rw[hcl];omega,by omega,by omega⟩;obtain⟨a2,m2,f1,f2,f3,f4,f5⟩:=aKp hF (q:=fD (q0+1)) (q':=fF q') (bP l) (d+1) u (bP l) u 10 10 10 10 ⟨by omega,by omega⟩ a1 (cu l [opn 10 a u]++m1) e4 (by rw[ae,hcl];omega);obtain⟨c1,c2⟩:=ql l (m1++m2) (opn 10 a u);refine⟨a2,(10,(a:Int),(a2:Int),u,())::(m1++m2), ?_, ?_,by omega,f4,by simp only[ae,ak];omega⟩
 ·rw[Aa];simp only[fG,ik,ax,cond_true,bK];rw[oQ hF a l u d (by omega),bK];simp only[hs,show bW (((40:UInt8).toNat:Nat):Int) 40=true from by kernel_rfl,cond_true,cond_false,n1];rw[dC (by omega) (by omega),dC (by omega) (by omega),show(a:Int)+1=((a+1:Nat):Int) by omega];show bM (ar6 (fD q0) F ((a+1:Nat):Int) _ _ _) _=_;rw[ar6,e1,bK];simp only;rw[f1,bK];simp only[dV];rw[ag,iJ (by omega) (by omega)];simp only[c1,c2,cond_true,lN,show d+1-1=d by omega]
 ·(rewrite [zZ];delta nO;rw[bZ (b:=gV (iV F) (a:Int)) (eP (by omega) (by rw[ay];omega)),zF hlt,hs,show(((40:UInt8).toNat:Nat):Int)=40 from by kernel_rfl,axR,bK])
  simp only[dV];rw[lL a l u d (by omega) (by omega) (by omega) p3 (by omega),bK];simp only[show jG 10=true from by kernel_rfl,if_true,show bW (10:Int) 9=false from by kernel_rfl,show bW (10:Int) 10=true from by kernel_rfl,cond_true,cond_false];rw[show((l.length:Nat):Int)=bP l from rfl,<-hcat,dC (by omega) (by omega),show(a:Int)+1=((a+1:Nat):Int) by omega];refine(e2 _).trans ?_;simp only;rw[f2,bK];simp only[dV];rw[ag,hcat,show bP l=((l.length:Nat):Int) from rfl,uT a2 _ u (d+1) l.length (by simp only[ae,ai];omega) (oM l _ 10 _ _) (by omega) (by omega) (by omega) (by omega),bK];simp only[oJ,show jG 10=true from by kernel_rfl,if_true,show d+1-1=d by omega]
theorem aBB {n:Nat} (h2:All F (n-2)) (a:Nat) (l:List Nd) (u d:Int) (q q':Nat) (hm:16*(F.length-a)+8<n+1) (hq:n<=q) (hq':n<=q') (hp:I5 F a l d 113) (hlt:a<F.length) (hd:d<200) (hs:Dq F a=105):
  ∃(a':Nat) (m:List Nd),Aa (fD q) F (a:Int) l u d=some (PR F a' (l++m) u d,())/\
   zZ (fF q') F (iV F) l (a:Int) u d=some (RR F a' (l++m) u d,())/\a<a'/\a'<=F.length/\m.length+3<=16*(a'-a):=by
 obtain⟨p1,p2,p3,p4⟩:=hp;have hFl:=hF.len;obtain⟨q0,rfl⟩: ∃q0,q=q0+1:=⟨q-1,by omega⟩;have hcl:(cu l [opn 11 a u]).length=l.length+1:=by unfold cu;simp
 have hcat:cu l [opn 11 a u]=l++[(11,(a:Int),0,u,())]:=rfl;obtain⟨n1,_,_⟩:=lg l (opn 11 a u) (by omega);obtain⟨a1,m1,e1,e2,e3,e4,e5⟩:=aF1 hF h2 (a+1) (cu l [opn 11 a u]) (bP l) (d+1) u (q0+1) q' (by omega) (by omega) (by omega) ⟨by omega,by rw[hcl];omega,by omega,by omega⟩;obtain⟨a2,m2,f1,f2,f3,f4,f5⟩:=aEX hF (q:=fD (q0+1)) (q':=fF q') (bP l) (d+1) u (bP l) u 11 11 11 11 ⟨by omega,by omega⟩ a1 (cu l [opn 11 a u]++m1) e4 (by rw[ae,hcl];omega);obtain⟨c1,c2⟩:=ql l (m1++m2) (opn 11 a u);refine⟨a2,(11,(a:Int),(a2:Int),u,())::(m1++m2), ?_, ?_,by omega,f4,by simp only[ae,ak];omega⟩
 ·rw[Aa];simp only[fG,ik,ax,cond_true,bK];rw[oQ hF a l u d (by omega),bK];simp only[hs,show bW (((105:UInt8).toNat:Nat):Int) 40=false from by kernel_rfl,show bW (((105:UInt8).toNat:Nat):Int) 105=true from by kernel_rfl,cond_true,cond_false,n1];rw[dC (by omega) (by omega),dC (by omega) (by omega),show(a:Int)+1=((a+1:Nat):Int) by omega];rw[e1,bK];simp only;rw[f1,bK];simp only[dV];rw[ag,iJ (by omega) (by omega)];simp only[c1,c2,cond_true,lN,show d+1-1=d by omega]
 ·(rewrite [zZ];delta nO;rw[bZ (b:=gV (iV F) (a:Int)) (eP (by omega) (by rw[ay];omega)),zF hlt,hs,show(((105:UInt8).toNat:Nat):Int)=105 from by kernel_rfl,axS,bK])
  simp only[dV];rw[lL a l u d (by omega) (by omega) (by omega) p3 (by omega),bK];simp only[show jG 11=true from by kernel_rfl,if_true,show bW (11:Int) 9=false from by kernel_rfl,show bW (11:Int) 10=false from by kernel_rfl,show bW (11:Int) 11=true from by kernel_rfl,cond_true,cond_false];rw[show((l.length:Nat):Int)=bP l from rfl,<-hcat,dC (by omega) (by omega),show(a:Int)+1=((a+1:Nat):Int) by omega];refine(e2 (fun w y=>bM (jm (fF q') bU w y.1.1 y.1.2.1 y.1.2.2.2.1 y.1.2.2.2.2.1 y.1.2.2.2.2.2.1 y.1.2.2.1) fun y5=>
   dV y5 (fun a6=>
    bM (jW a6.2.2.1.1 a6.2.2.1.2.1 a6.2.2.2.1 a6.2.2.1.2.2.1 a6.2.2.1.2.2.2.1 a6.2.2.1.2.2.2.2.1 a6.1.1) fun y7=>
     some ((y7.1.1,(y7.1.2.1,(y7.1.2.2.1,(y7.1.2.2.2.1,(y7.1.2.2.2.2.1,(y7.1.2.2.2.2.2.1,())))))),())) (fun b6=>none))).trans ?_
  simp only;rw[f2,bK];simp only[dV];rw[ag,hcat,show bP l=((l.length:Nat):Int) from rfl,uT a2 _ u (d+1) l.length (by simp only[ae,ai];omega) (oM l _ 11 _ _) (by omega) (by omega) (by omega) (by omega),bK];simp only[oJ,show jG 11=true from by kernel_rfl,if_true,show d+1-1=d by omega]
theorem aBC {n:Nat} (h2:All F (n-2)) (a:Nat) (l:List Nd) (u d:Int) (q q':Nat) (hm:16*(F.length-a)+8<n+1) (hq:n<=q) (hq':n<=q') (hp:I5 F a l d 113) (hlt:a<F.length) (hd:d<200) (hs:Dq F a=119):
  ∃(a':Nat) (m:List Nd),Aa (fD q) F (a:Int) l u d=some (PR F a' (l++m) u d,())/\
   zZ (fF q') F (iV F) l (a:Int) u d=some (RR F a' (l++m) u d,())/\a<a'/\a'<=F.length/\m.length+3<=16*(a'-a):=by
 obtain⟨p1,p2,p3,p4⟩:=hp;have hFl:=hF.len;obtain⟨q0,rfl⟩: ∃q0,q=q0+1:=⟨q-1,by omega⟩;have hcl:(cu l [opn 12 a u]).length=l.length+1:=by unfold cu;simp
 have hcat:cu l [opn 12 a u]=l++[(12,(a:Int),0,u,())]:=rfl;obtain⟨n1,_,_⟩:=lg l (opn 12 a u) (by omega);obtain⟨a1,m1,e1,e2,e3,e4,e5⟩:=awD hF h2 (a+1) (cu l [opn 12 a u]) (bP l) (d+1) (q0+1) q' (by omega) (by omega) (by omega) ⟨by omega,by rw[hcl];omega,by omega,by omega⟩;obtain⟨a2,m2,f1,f2,f3,f4,f5⟩:=aEY hF (q:=fD (q0+1)) (q':=fF q') (bP l) (d+1) u (bP l) u 12 12 12 12 ⟨by omega,by omega⟩ a1 (cu l [opn 12 a u]++m1) e4 (by rw[ae,hcl];omega);obtain⟨c1,c2⟩:=ql l (m1++m2) (opn 12 a u);refine⟨a2,(12,(a:Int),(a2:Int),u,())::(m1++m2), ?_, ?_,by omega,f4,by simp only[ae,ak];omega⟩
 ·rw[Aa];simp only[fG,ik,ax,cond_true,bK];rw[oQ hF a l u d (by omega),bK];simp only[hs,show bW (((119:UInt8).toNat:Nat):Int) 40=false from by kernel_rfl,show bW (((119:UInt8).toNat:Nat):Int) 105=false from by kernel_rfl,show bW (((119:UInt8).toNat:Nat):Int) 119=true from by kernel_rfl,cond_true,cond_false,n1];rw[dC (by omega) (by omega),dC (by omega) (by omega),show(a:Int)+1=((a+1:Nat):Int) by omega];rw[e1,bK];simp only;rw[f1,bK];simp only[dV];rw[ag,iJ (by omega) (by omega)];simp only[c1,c2,cond_true,lN,show d+1-1=d by omega]
 ·(rewrite [zZ];delta nO;rw[bZ (b:=gV (iV F) (a:Int)) (eP (by omega) (by rw[ay];omega)),zF hlt,hs,show(((119:UInt8).toNat:Nat):Int)=119 from by kernel_rfl,axT,bK])
  simp only[dV];rw[lL a l u d (by omega) (by omega) (by omega) p3 (by omega),bK];simp only[show jG 12=true from by kernel_rfl,if_true,show bW (12:Int) 9=false from by kernel_rfl,show bW (12:Int) 10=false from by kernel_rfl,show bW (12:Int) 11=false from by kernel_rfl,show bW (12:Int) 12=true from by kernel_rfl,cond_true,cond_false];rw[show((l.length:Nat):Int)=bP l from rfl,<-hcat,dC (by omega) (by omega),show(a:Int)+1=((a+1:Nat):Int) by omega];refine(e2 _).trans ?_;simp only;rw[f2,bK];simp only[dV];rw[ag,hcat,show bP l=((l.length:Nat):Int) from rfl,uT a2 _ u (d+1) l.length (by simp only[ae,ai];omega) (oM l _ 12 _ _) (by omega) (by omega) (by omega) (by omega),bK];simp only[oJ,show jG 12=true from by kernel_rfl,if_true,show d+1-1=d by omega]
theorem aBD {n:Nat} (h2:All F (n-2)) (a:Nat) (l:List Nd) (u d:Int) (q q':Nat) (hm:16*(F.length-a)+8<n+1) (hq:n<=q) (hq':n<=q') (hp:I5 F a l d 113) (hlt:a<F.length) (hd:d<200) (hs:Dq F a=114):
  ∃(a':Nat) (m:List Nd),Aa (fD q) F (a:Int) l u d=some (PR F a' (l++m) u d,())/\
   zZ (fF q') F (iV F) l (a:Int) u d=some (RR F a' (l++m) u d,())/\a<a'/\a'<=F.length/\m.length+3<=16*(a'-a):=by
 obtain⟨p1,p2,p3,p4⟩:=hp;have hFl:=hF.len;obtain⟨q0,rfl⟩: ∃q0,q=q0+1:=⟨q-1,by omega⟩;have hcl:(cu l [opn 13 a u]).length=l.length+1:=by unfold cu;simp
 have hcat:cu l [opn 13 a u]=l++[(13,(a:Int),0,u,())]:=rfl;obtain⟨n1,_,_⟩:=lg l (opn 13 a u) (by omega);obtain⟨a1,m1,e1,e2,e3,e4,e5⟩:=aw0 hF h2 (a+1) (cu l [opn 13 a u]) (bP l) (d+1) (q0+1) q' (by omega) (by omega) (by omega) ⟨by omega,by rw[hcl];omega,by omega,by omega⟩;obtain⟨a2,m2,f1,f2,f3,f4,f5⟩:=aEZ hF (q:=fD (q0+1)) (q':=fF q') (bP l) (d+1) u (bP l) u 13 13 13 13 ⟨by omega,by omega⟩ a1 (cu l [opn 13 a u]++m1) e4 (by rw[ae,hcl];omega);obtain⟨c1,c2⟩:=ql l (m1++m2) (opn 13 a u);refine⟨a2,(13,(a:Int),(a2:Int),u,())::(m1++m2), ?_, ?_,by omega,f4,by simp only[ae,ak];omega⟩
 ·rw[Aa];simp only[fG,ik,ax,cond_true,bK];rw[oQ hF a l u d (by omega),bK];simp only[hs,show bW (((114:UInt8).toNat:Nat):Int) 40=false from by kernel_rfl,show bW (((114:UInt8).toNat:Nat):Int) 105=false from by kernel_rfl,show bW (((114:UInt8).toNat:Nat):Int) 119=false from by kernel_rfl,show bW (((114:UInt8).toNat:Nat):Int) 114=true from by kernel_rfl,cond_true,cond_false,n1];rw[dC (by omega) (by omega),dC (by omega) (by omega),show(a:Int)+1=((a+1:Nat):Int) by omega];rw[e1,bK];simp only;rw[f1,bK];simp only[dV];rw[ag,iJ (by omega) (by omega)];simp only[c1,c2,cond_true,lN,show d+1-1=d by omega]
 ·(rewrite [zZ];delta nO;rw[bZ (b:=gV (iV F) (a:Int)) (eP (by omega) (by rw[ay];omega)),zF hlt,hs,show(((114:UInt8).toNat:Nat):Int)=114 from by kernel_rfl,axU,bK])
  simp only[dV];rw[lL a l u d (by omega) (by omega) (by omega) p3 (by omega),bK];simp only[show jG 13=true from by kernel_rfl,if_true,show bW (13:Int) 9=false from by kernel_rfl,show bW (13:Int) 10=false from by kernel_rfl,show bW (13:Int) 11=false from by kernel_rfl,show bW (13:Int) 12=false from by kernel_rfl,show bW (13:Int) 13=true from by kernel_rfl,cond_true,cond_false];rw[show((l.length:Nat):Int)=bP l from rfl,<-hcat,dC (by omega) (by omega),show(a:Int)+1=((a+1:Nat):Int) by omega];rw[e2,bK];simp only;rw[f2,bK];simp only[dV];rw[ag,hcat,show bP l=((l.length:Nat):Int) from rfl,uT a2 _ u (d+1) l.length (by simp only[ae,ai];omega) (oM l _ 13 _ _) (by omega) (by omega) (by omega) (by omega),bK];simp only[oJ,show jG 13=true from by kernel_rfl,if_true,show d+1-1=d by omega]
theorem aBE {n:Nat} (h2:All F (n-2)) (a:Nat) (l:List Nd) (u d:Int) (q q':Nat) (hm:16*(F.length-a)+8<n+1) (hq:n<=q) (hq':n<=q') (hp:I5 F a l d 113) (hlt:a<F.length) (hd:d<200) (hs:Dq F a=99):
  ∃(a':Nat) (m:List Nd),Aa (fD q) F (a:Int) l u d=some (PR F a' (l++m) u d,())/\
   zZ (fF q') F (iV F) l (a:Int) u d=some (RR F a' (l++m) u d,())/\a<a'/\a'<=F.length/\m.length+3<=16*(a'-a):=by
 obtain⟨p1,p2,p3,p4⟩:=hp;have hFl:=hF.len;obtain⟨q0,rfl⟩: ∃q0,q=q0+1:=⟨q-1,by omega⟩;have hcl:(cu l [opn 14 a u]).length=l.length+1:=by unfold cu;simp
 have hcat:cu l [opn 14 a u]=l++[(14,(a:Int),0,u,())]:=rfl;obtain⟨n1,_,_⟩:=lg l (opn 14 a u) (by omega);obtain⟨a1,m1,e1,e2,e3,e4,e5⟩:=aqY hF h2 (a+1) (cu l [opn 14 a u]) (bP l) (d+1) (q0+1) q' (by omega) (by omega) (by omega) ⟨by omega,by rw[hcl];omega,by omega,by omega⟩;obtain⟨a2,m2,f1,f2,f3,f4,f5⟩:=aE0 hF (q:=fD (q0+1)) (q':=fF q') (bP l) (d+1) u (bP l) u 14 14 14 14 ⟨by omega,by omega⟩ a1 (cu l [opn 14 a u]++m1) e4 (by rw[ae,hcl];omega);obtain⟨c1,c2⟩:=ql l (m1++m2) (opn 14 a u);refine⟨a2,(14,(a:Int),(a2:Int),u,())::(m1++m2), ?_, ?_,by omega,f4,by simp only[ae,ak];omega⟩
 ·rw[Aa];simp only[fG,ik,ax,cond_true,bK];rw[oQ hF a l u d (by omega),bK];simp only[hs,show bW (((99:UInt8).toNat:Nat):Int) 40=false from by kernel_rfl,show bW (((99:UInt8).toNat:Nat):Int) 105=false from by kernel_rfl,show bW (((99:UInt8).toNat:Nat):Int) 119=false from by kernel_rfl,show bW (((99:UInt8).toNat:Nat):Int) 114=false from by kernel_rfl,show bW (((99:UInt8).toNat:Nat):Int) 99=true from by kernel_rfl,cond_true,cond_false,n1];rw[dC (by omega) (by omega),dC (by omega) (by omega),show(a:Int)+1=((a+1:Nat):Int) by omega];rw[e1,bK];simp only;rw[f1,bK];simp only[dV];rw[ag,iJ (by omega) (by omega)];simp only[c1,c2,cond_true,lN,show d+1-1=d by omega]
 ·(rewrite [zZ];delta nO;rw[bZ (b:=gV (iV F) (a:Int)) (eP (by omega) (by rw[ay];omega)),zF hlt,hs,show(((99:UInt8).toNat:Nat):Int)=99 from by kernel_rfl,axV,bK])
  simp only[dV];rw[lL a l u d (by omega) (by omega) (by omega) p3 (by omega),bK];simp only[show jG 14=true from by kernel_rfl,if_true,show bW (14:Int) 9=false from by kernel_rfl,show bW (14:Int) 10=false from by kernel_rfl,show bW (14:Int) 11=false from by kernel_rfl,show bW (14:Int) 12=false from by kernel_rfl,show bW (14:Int) 13=false from by kernel_rfl,show bW (14:Int) 14=true from by kernel_rfl,cond_true,cond_false];rw[show((l.length:Nat):Int)=bP l from rfl,<-hcat,dC (by omega) (by omega),show(a:Int)+1=((a+1:Nat):Int) by omega];rw[e2,bK];simp only;rw[f2,bK];simp only[dV];rw[ag,hcat,show bP l=((l.length:Nat):Int) from rfl,uT a2 _ u (d+1) l.length (by simp only[ae,ai];omega) (oM l _ 14 _ _) (by omega) (by omega) (by omega) (by omega),bK];simp only[oJ,show jG 14=true from by kernel_rfl,if_true,show d+1-1=d by omega]
theorem UR {n:Nat} (h2:All F (n-2)) (a:Nat) (l:List Nd) (u d:Int) (r r':Nat) (hm:16*(F.length-a)+8<n+1) (hr:n+1<=r) (hr':n+1<=r') (hp:I5 F a l d 113) (hc:Ic F a d=true):
  ∃(a':Nat) (m:List Nd),(fD r).q346 F (a:Int) l u d=some (PR F a' (l++m) u d,())/\
   (fF r').q325 F (iV F) l (a:Int) u d=some (RR F a' (l++m) u d,())/\a<a'/\a'<=F.length/\m.length+3<=16*(a'-a):=by
 obtain⟨q,rfl⟩: ∃q,r=q+1:=⟨r-1,by omega⟩;obtain⟨q',rfl⟩: ∃q',r'=q'+1:=⟨r'-1,by omega⟩;unfold Ic at hc;simp only[af,decide_eq_true_eq]at hc;obtain⟨hd,hx⟩:=hc;have hlt:=ig hx;unfold fP at hx;simp only[af,decide_eq_true_eq,List.contains_eq_mem,List.mem_cons,List.not_mem_nil,or_false]at hx;rcases hx.2 with e|e|e|e|e|e
 ·exact aFJ hF h2 a l u d q q' hm (by omega) (by omega) hp hlt hd e
 ·exact aBA hF h2 a l u d q q' hm (by omega) (by omega) hp hlt hd e
 ·exact aBB hF h2 a l u d q q' hm (by omega) (by omega) hp hlt hd e
 ·exact aBC hF h2 a l u d q q' hm (by omega) (by omega) hp hlt hd e
 ·exact aBD hF h2 a l u d q q' hm (by omega) (by omega) hp hlt hd e
 ·exact aBE hF h2 a l u d q q' hm (by omega) (by omega) hp hlt hd e
end
section
open Bool renaming false_eq_true → aj, and_true → ax, not_true → aB, not_false → aG
open List renaming length_append → ae, append_assoc → ag, length_singleton → ai, length_cons → ak, length_map → ay, nil_append → aH, length_take → aJ, getElem_mem → aQ, length_nil → aY, take_of_length_le → bu
open Go.RowKit
variable {F:List Lf} (hF:OkF F)
include hF
theorem aBd (n:Nat):All F n:=by
 induction n using Nat.strongRecOn with
 |_ n ih=>
  cases n with
  |zero=>exact⟨fun a l u d r r' h=>by omega,fun a l u d r r' h=>by omega,fun a l u d r r' h=>by omega,fun a l u d r h=>by omega,fun a l u d r r' h=>by omega,fun a l u d r r' h=>by omega,fun a l u d r r' h=>by omega⟩
  |succ n=>
   have h:=ih n (by omega);have h1:=ih (n-1) (by omega);have h2:=ih (n-2) (by omega);exact⟨fun a l u d r r' hm hr hr' hp hb=>aoi hF h a l u d r r' hm hr hr' hp hb,
    fun a l u d r r' hm hr hr' hp hb=>ae4 hF h a l u d r r' hm hr hr' hp hb,
    fun a l u d r r' hm hr hr' hp hb=>aoz hF h a l u d r r' hm hr hr' hp hb,
    fun a l u d r hm hr hp hb=>ad6 hF a l u d r hr hp hb,
    fun a l u d r r' hm hr hr' hp=>Xz hF h h1 a l u d r r' hm hr hr' hp,
    fun a l u d r r' hm hr hr' hp hb=>UR hF h2 a l u d r r' hm hr hr' hp hb,
    fun a l u d r r' hm hr hr' hp=>alv hF h a l u d r r' hm hr hr' hp⟩
theorem TW: ∀(N a:Nat),F.length-a<N->a<=F.length->
  MF N F ((iV F).take a) (a:Int)=some (.inl ((F,iV F,()),()))
 |0,a,h,_=>by omega
 |N+1,a,hN,ha=>by
  have hFl:=hF.len;rw[MF,abp];by_cases h:a<F.length
  ·rw[bZ (b:=iG (a:Int) (bP F)) (fH (by rw[bT];omega)),bZ (b:=gV F (a:Int)) (eP (by omega) (by omega)),Am h];have hs:Ad F[a]=some ([sgn F[a]],()):=(au2 (hF.txt _ (aQ h))).2;rw[hs,bK];have hroom:iU ((iV F).take a) [sgn F[a]]=true:=by
    unfold iU lm;simp only[aJ,ay,ai,decide_eq_true_eq];omega
   simp only[hroom,cond_true];rw[dC (by omega) (by omega),show(a:Int)+1=((a+1:Nat):Int) by omega];have ht:cu ((iV F).take a) [sgn F[a]]=(iV F).take (a+1):=by
    unfold cu;rw[List.take_add_one,List.getElem?_eq_getElem (by rw[ay];exact h)];simp
   rw[ht];exact TW N (a+1) (by omega) (by omega)
  ·rw[dE (b:=iG (a:Int) (bP F)) (iy (by rw[bT];omega)),bu (by rw[ay];omega)]
theorem Lu (w:Int): ∀(N a:Nat) (L:List Nd) (b:Bool) (v:Int),F.length-a<N->a<=F.length->L.length<=16*a+1->bW v 2=b->
  ∃m,FB N b F (a:Int) 0 0 L=some (.inl ((),((),()),((F,((F.length:Nat):Int),0,0,()),L++m,())))/\
   Iu N F w v L F (iV F) (a:Int) 0 0=some (.inl ((w,()),(L++m,(F,iV F,((F.length:Nat):Int),0,0,()),())))/\m.length<=16*(F.length-a)
 |0,a,L,b,v,hN,_,_,_=>by omega
 |N+1,a,L,b,v,hN,ha,hL,hv=>by
  have hFl:=hF.len;rw[FB,PP,Iu,abq];by_cases h:a<F.length
  ·rw[bZ (b:=iG (a:Int) (bP F)) (fH (by rw[bT];omega)),bZ (b:=iG (a:Int) (bP F)) (fH (by rw[bT];omega)),mW hF a L 0 0 (by omega) [110] rfl,jo a L 0 0 [110] (by simp),bK,bK];simp only;have hone: ∃m,FB N false F ((a+1:Nat):Int) 0 0 (L++[(17,(a:Int),((a+1:Nat):Int),0,())])=some (.inl ((),((),()),((F,((F.length:Nat):Int),0,0,()),L++m,())))/\
     Iu N F w 17 (L++[(17,(a:Int),((a+1:Nat):Int),0,())]) F (iV F) ((a+1:Nat):Int) 0 0=some (.inl ((w,()),(L++m,(F,iV F,((F.length:Nat):Int),0,0,()),())))/\m.length<=16*(F.length-a):=by
    obtain⟨m,g1,g2,g3⟩:=Lu w N (a+1) (L++[(17,(a:Int),((a+1:Nat):Int),0,())]) false 17 (by omega) (by omega) (by rw[ae,ai];omega) rfl;exact⟨[(17,(a:Int),((a+1:Nat):Int),0,())]++m,by rw[g1,ag],by rw[g2,ag],by rw[ae,ai];omega⟩
   cases hb:fP F a [110]with
   |true=>
    rw[mX hb,dC (by omega) (by omega),show(a:Int)+1=((a+1:Nat):Int) by omega];simp only[cond_true];obtain⟨m,g1,g2,g3⟩:=Lu w N (a+1) L b v (by omega) (by omega) (by omega) hv;exact⟨m,g1,g2,by omega⟩
   |false=>
    rw[uX hb,hv];simp only[cond_false];cases b with
    |true=>
     simp only[aB,cond_false];rw[Iq a L 0 0 17 (by omega) (by omega),Ox a L 0 0 (by omega) (by omega) rfl (by omega) (by omega) (by omega) (by omega),bK,bK];exact hone
    |false=>
     simp only[aG,cond_true];rw[Cm hF a L 0 0 (by omega),HY a L 0 0 (by omega),bK,bK];simp only;cases hp:qL F a 0 with
     |true=>
      obtain⟨n1,_,_⟩:=lg L (opn 2 a 0) (by omega);obtain⟨a1,m1,e1,e2,e3,e4,e5⟩:=(aBd hF (16*F.length+13)).list a L 0 0 bU bU (by omega) (Nat.le_of_lt (dO (by omega))) (Nat.le_of_lt (dO (by omega))) ⟨ha,by omega,by omega,by omega⟩ hp;obtain⟨c1,c2⟩:=ql L m1 (opn 2 a 0);have e1':asn F (a:Int) (cu L [opn 2 a 0]) (bP L) 0=some (PR F a1 (cu L [opn 2 a 0]++m1) (bP L) 0,()):=e1;have e2':asl F (iV F) L (a:Int) 0 0=some (RR F a1 (L++(2,(a:Int),(a1:Int),0,())::m1) 0 0,()):=e2;obtain⟨m,g1,g2,g3⟩:=Lu w N a1 (L++(2,(a:Int),(a1:Int),0,())::m1) true 2 (by omega) e4 (by rw[ae,ak];omega) rfl;refine⟨((2,(a:Int),(a1:Int),0,())::m1)++m, ?_, ?_,by rw[ae,ak];omega⟩
      ·simp only[fG,ax,cond_true,n1];rw[e1',bK];simp only[c1,c2,cond_true,lN];rw[g1,ag]
      ·simp only[cond_true];rw[e2',bK];simp only;rw[g2,ag]
     |false=>
      simp only[cond_false];rw[Iq a L 0 0 17 (by omega) (by omega),Ox a L 0 0 (by omega) (by omega) rfl (by omega) (by omega) (by omega) (by omega),bK,bK];exact hone
  ·have hal:a=F.length:=by omega
   rw[dE (b:=iG (a:Int) (bP F)) (iy (by rw[bT];omega)),dE (b:=iG (a:Int) (bP F)) (iy (by rw[bT];omega)),hal];exact⟨[],by simp,by simp,by simp⟩
theorem auw: ∃l,an5 F=some (l,())/\an6 F=some (l,())/\l.length<=16*F.length+1:=by
 have hFl:=hF.len;obtain⟨m,g1,g2,g3⟩:=Lu hF (-1) bU 0 [(1,0,0,-1,())] false 0 (dO (by omega)) (by omega) (by simp) rfl;refine⟨acn ([(1,0,0,-1,())]++m) 0 ((F.length:Nat):Int), ?_, ?_,by rw[aq4,ae,ai];omega⟩
 ·rw[an5];have hfit:eQ [((1:Int),((0:Int),((0:Int),((-1:Int),()))))] 32=true:=by kernel_rfl
  simp only[fG,ax,cond_true,hfit];rw[asj,show((0:Int))=((0:Nat):Int) from rfl];simp only[Int.ofNat_zero]at g1 ⊢;rw[g1,bK];simp only[dV,bK];rw[bZ (eP (by omega) (by simp)),bZ (qE (by simp[dG]))];rfl
 ·rw[an6,show MF bU F [] 0=some (.inl ((F,iV F,()),())) from TW hF bU 0 (dO (by omega)) (by omega),bK];simp only[dV];rw[show rH F (iV F) [] 0 (-1) 0 1=_ from lL 0 [] (-1) 0 (by omega) (by omega) (by simp) (by omega) (by omega),bK];simp only[show jG 1=false from by kernel_rfl,aj,if_false,aH,aY];rw[show Iu bU F (-1) 0 [(1,((0:Nat):Int),0,-1,())] F (iV F) ((0:Nat):Int) ((0:Nat):Int) 0=_ from g2,bK];simp only[dV];rw[show jW F (iV F) _ ((F.length:Nat):Int) 0 0 (-1)=_ from uT F.length ([(1,0,0,-1,())]++m) (-1) 0 0 (by simp) (k:=1) rfl (by omega) (by omega) (by omega) (by omega),bK]
end
section
open List renaming length_map → ay, length_drop → aF, length_take → aJ
open Nat renaming le_trans → aW
open Go.RowKit
theorem VX {s:List UInt8} (hs:s.length<=10000):OkF (iw s (kH s).1):=by
 refine⟨?_,fun f hf=> ?_⟩
 ·have h:=(JK hs).2.2;unfold iw;rw[ay];exact aW (List.length_filter_le _ _) (aW h hs)
 ·unfold iw at hf;obtain⟨t,_,rfl⟩:=List.mem_map.1 hf;refine aW ?_ hs;unfold aAt sub;simp only[aJ,aF];omega
theorem aEO {s:List UInt8} (hs:s.length<=10000): ∃l,an5 (iw s (kH s).1)=some (l,())/\an6 (iw s (kH s).1)=some (l,())/\l.length<=16*(iw s (kH s).1).length+1:=
 auw (VX hs)
end
section
open Tryz
open Go.RowKit
def LY (x1:List Bf):=fZ x1 (0,(0,(0,(false,())))) (eG .i64 (bP x1) 1)
def axi (x0:di) (x1:List Bf) (x2:Int) (x3:Bg) (x4:Bool) (x5:List gU) (x6:List gI):Option (taT×(Bf×Bool×Unit)):=bif(bW (bP x1) 0)then some ((x0,(x1,(x2,(x3,(x4,(x5,(x6,()))))))),((0,(0,(0,(false,())))),(false,())))else bif(gV x1 (eG .i64 (bP x1) 1))then bif(!(LY x1).2.2.2.1)then some ((x0,(x1,(x2,(x3,(x4,(x5,(x6,()))))))),((0,(0,(0,(false,())))),(false,())))else bif(gV x1 (eG .i64 (bP x1) 1))then some ((x0,(x1,(x2,(x3,(x4,(x5,(x6,()))))))),(((LY x1).1,((LY x1).2.1,((LY x1).2.2.1,((LY x1).2.2.2.1,())))),(true,())))else none else none
def aAN:gX:=⟨117,tzF,[],[UM,.bool],fun x y=>axi x.1 x.2.1 x.2.2.1 x.2.2.2.1 x.2.2.2.2.1 x.2.2.2.2.2.1 x.2.2.2.2.2.2.1⟩
noncomputable def aFQ:Env:=ed prog tt [] [] [] []
theorem arw:dK aFQ:=eB aN [] aN
theorem awo:eF prog 71 aAN:=sB arw
noncomputable def QB:Code:=(f202.body).getD .skip
noncomputable def qO:Code:=(f203.body).getD .skip
noncomputable def QO:Code:=cA (cA (cB (QB)))
def RV:dZ:=⟨[0,5,6,7,203000001],[(300000200,.pair (.list .unit) dD)],[],[],[],[]⟩
def adz:dZ:=⟨[2,4],[],[],[],[],[]⟩
def axv:dZ:=⟨[0],[],[],[],[],[]⟩
def ac9:dZ:=⟨[0,3,4,5,6,7],[],[],[],[],[]⟩
def ac8:dZ:=⟨[0],[],[],[],[],[]⟩
def BU:SQ:=⟨us [.yld 3700007,.u,.u,.u,.u,.v Vo,.v dD,.v dD] 19,[us [.u,.u,.ptr 3000002 0,.u,.nils] 8,[.yld 3700007],[.fn 202 [(2000001,0)],.u,.u,.fn 202 [(2000001,0)],.u],[.v Vo,.u,.u,.v Vo,.fn 202 [(2000001,0)],.u],[]],[.lp 3700007 203 (us [.u,.u,.ptr 3000002 0,.u,.nils] 8) [7] 3 0 none,.arr 3500002 dD,.box 3000002 79 [.slc 3500002],.box 2000001 100 [.v Vo]]⟩
def Em:SQ:=⟨us [] 27,[us [.u,.u,.ptr 3000002 0,.u,.nils] 8,[.yld 3700007],[.fn 202 [(2000001,0)],.u,.u,.fn 202 [(2000001,0)],.u],[.v Vo,.u,.u,.v Vo,.fn 202 [(2000001,0)],.u],[]],[.lp 3700007 203 (us [.u,.u,.ptr 3000002 0,.u,.nils] 8) [7] 3 0 none,.arr 3500002 dD,.box 3000002 79 [.slc 3500002],.box 2000001 100 [.v Vo]]⟩
def Ey:SQ:=⟨us [] 27,[us [.u,.u,.ptr 3000002 0,.u,.nils] 8,[.yld 3700007],[.fn 202 [(2000001,0)],.u,.u,.fn 202 [(2000001,0)],.u],[.v Vo,.u,.u,.v Vo,.fn 202 [(2000001,0)],.u],[]],[]⟩
def yF {γ:Type} (rec:(List gI)->Int->Int->(List gI)->(List gI)->jJ->(List gI)->Option γ) (kE:(List gI)->(List gI)->jJ->(List gI)->Option γ) (kR:(List gI)->(List gI)->Option γ) (v0:List gI) (v1 v2:Int) (v3 v4:List gI) (v5:jJ) (v6:List gI):Option γ:=bif(iG v2 v1)then bif(gV v0 v2)then bif(bW (fZ v0 (0,(0,(0,(0,())))) v2).1 17)then bif(eQ (cu v5 [v2]) 8)then rec v0 v1 (dA .i64 v2 1) v3 v4 (cu v5 [v2]) v6 else none else bif(bW (fZ v0 (0,(0,(0,(0,())))) v2).1 18)then bif(eQ (cu v5 [v2]) 8)then rec v0 v1 (dA .i64 v2 1) v3 v4 (cu v5 [v2]) v6 else none else rec v0 v1 (dA .i64 v2 1) v3 v4 v5 v6 else none else kE v3 v4 v5 v6
def qy:Nat->(List gI)->Int->Int->(List gI)->(List gI)->jJ->(List gI)->Option (Em.den⊕Ey.den)
 |0,_,_,_,_,_,_,_=>none
 |n+1,v0,v1,v2,v3,v4,v5,v6=>yF (qy n) (fun e0 e1 e2 e3=>some (.inl ((),((),(),(),(e0,e1,()),(),()),((),e2,(),(e3,()),())))) (fun r0 r1=>some (.inr ((),((),(),(),(r0,r1,()),(),()),()))) v0 v1 v2 v3 v4 v5 v6
def adJ (n:Nat) (v:BU.den):=qy n v.1.1 v.1.2.1 v.1.2.2.1 v.2.1.2.2.2.1.1 v.2.1.2.2.2.1.2.1 v.2.2.2.1 v.2.2.2.2.2.1.1
noncomputable def Oi:dI:=fU RV BU Em Ey (.exit 0) (adJ bU) 6
def ah5 (x0:List gI):Option (jJ×Unit):=bM (qy bU x0 (bP x0) 0 x0 x0 [] x0) fun y0=>dV y0 (fun a1=>some (a1.2.2.2.1,())) (fun b1=>none)
def avd:Sum:=⟨[Vo],[(.list dD,false)],fun x=>ah5 x.1⟩
noncomputable def XD:Env:=ed prog tt [] [(202,1,RV),(203,500003,adz),(132,600001,axv),(202,600003,ac9),(134,600001,ac8)] [(202,1,Oi)] [203]
def OI {γ:Type} (a:BU.den->Option γ) (b:Em.den->Option γ) (c:Ey.den->Option γ) (v:BU.den):Option γ:=yF (fun v0 v1 v2 v3 v4 v5 v6=>a ((v0,v1,v2,()),((),(),(),(v3,v4,()),(),()),((),v5,(),(v6,()),()))) (fun e0 e1 e2 e3=>b ((),((),(),(),(e0,e1,()),(),()),((),e2,(),(e3,()),()))) (fun r0 r1=>c ((),((),(),(),(r0,r1,()),(),()),())) v.1.1 v.1.2.1 v.1.2.2.1 v.2.1.2.2.2.1.1 v.2.1.2.2.2.1.2.1 v.2.2.2.1 v.2.2.2.2.2.1.1
theorem ad8:dX XD 202 QO Oi:=lK (OI) (h2:=by intros;simp only[OI,yF,dm,dn,bK,cZ,dw])
theorem agm:dU XD 202 QB:=qj [QO] (aD (fM (ad8)) aN)
theorem agh:jH qO=[]:=by kernel_rfl
theorem aha:jM qO=[(cA (cA (cB (cA (cB (qO))))),cB (cA (cB (cA (cB (qO))))))]:=by kernel_rfl
theorem agn:dU XD 203 qO:=qx qO (by rw[aha];exact(aD (fun _=>(show rC 203 3=some (cA (cA (cB (cA (cB (qO))))),cB (cA (cB (cA (cB (qO)))))) by kernel_rfl)) aN)) (by rw[agh];exact aN)
theorem alQ:dK XD:=eB aN [202,203] (aD ⟨f202,QB,by kernel_rfl,by kernel_rfl,agm⟩ (aD ⟨f203,qO,by kernel_rfl,by kernel_rfl,agn⟩ aN))
theorem aoL:dY prog 132 avd:=sA alQ
noncomputable def b72:Code:=(f72.body).getD .skip
noncomputable def az9:Code:=cA (cA (cB (cA (cB (b72)))))
def aAq:dZ:=⟨[0,9,10,11,100002],[],[],[],[2],[]⟩
def ajT:SQ:=⟨us [.ptr 0 0,.u,.u,.u,.u,.u,.u,.u,.u,.v (.list dD),.v dD,.v dD] 29,[[.ptr 0 0]],[.box 0 117 [.v .str,.v (.list UM),.v dD,.v (.list CX),.v .bool,.v oU,.v Vo]]⟩
def agQ:SQ:=⟨us [] 41,[[.ptr 0 0]],[.box 0 117 [.v .str,.v (.list UM),.v dD,.v (.list CX),.v .bool,.v oU,.v Vo]]⟩
def ag1:SQ:=⟨us [.u,.u,.v .bool] 38,[[.ptr 0 0]],[.box 0 117 [.v .str,.v (.list UM),.v dD,.v (.list CX),.v .bool,.v oU,.v Vo]]⟩
def abr {γ:Type} (rec:jJ->Int->Int->di->(List Bf)->Int->Bg->Bool->(List gU)->(List gI)->Option γ) (kE:di->(List Bf)->Int->Bg->Bool->(List gU)->(List gI)->Option γ) (kR:Bool->di->(List Bf)->Int->Bg->Bool->(List gU)->(List gI)->Option γ) (v0:jJ) (v1 v2:Int) (v3:di) (v4:List Bf) (v5:Int) (v6:Bg) (v7:Bool) (v8:List gU) (v9:List gI):Option γ:=bif(iG v2 v1)then bif(gV v0 v2)then bif(gV v9 (fZ v0 0 v2))then bif(bW (fZ v9 (0,(0,(0,(0,())))) (fZ v0 0 v2)).1 17)then kR true v3 v4 v5 v6 v7 v8 v9 else bif(gV v9 (fZ v0 0 v2))then bif(iG (fZ v9 (0,(0,(0,(0,())))) (fZ v0 0 v2)).2.1 (bP v8))then kR true v3 v4 v5 v6 v7 v8 v9 else rec v0 v1 (dA .i64 v2 1) v3 v4 v5 v6 v7 v8 v9 else none else none else none else kE v3 v4 v5 v6 v7 v8 v9
def MG:Nat->jJ->Int->Int->di->(List Bf)->Int->Bg->Bool->(List gU)->(List gI)->Option (agQ.den⊕ag1.den)
 |0,_,_,_,_,_,_,_,_,_,_=>none
 |n+1,v0,v1,v2,v3,v4,v5,v6,v7,v8,v9=>abr (MG n) (fun e0 e1 e2 e3 e4 e5 e6=>some (.inl ((),((),()),((e0,e1,e2,e3,e4,e5,e6,()),())))) (fun r0 r1 r2 r3 r4 r5 r6 r7=>some (.inr ((r0,()),((),()),((r1,r2,r3,r4,r5,r6,r7,()),())))) v0 v1 v2 v3 v4 v5 v6 v7 v8 v9
def aEq (n:Nat) (v:ajT.den):=MG n v.1.1 v.1.2.1 v.1.2.2.1 v.2.2.1.1 v.2.2.1.2.1 v.2.2.1.2.2.1 v.2.2.1.2.2.2.1 v.2.2.1.2.2.2.2.1 v.2.2.1.2.2.2.2.2.1 v.2.2.1.2.2.2.2.2.2.1
noncomputable def at6:dI:=fU aAq ajT agQ ag1 (.exit 0) (aEq bU) 6
def asr (x0:di) (x1:List Bf) (x2:Int) (x3:Bg) (x4:Bool) (x5:List gU) (x6:List gI):Option (taT×qM):=bM (ah5 x6) fun y0=>bM (MG bU y0.1 (bP y0.1) 0 x0 x1 x2 x3 x4 x5 x6) fun y1=>dV y1 (fun a2=>some ((a2.2.2.1.1,(a2.2.2.1.2.1,(a2.2.2.1.2.2.1,(a2.2.2.1.2.2.2.1,(a2.2.2.1.2.2.2.2.1,(a2.2.2.1.2.2.2.2.2.1,(a2.2.2.1.2.2.2.2.2.2.1,()))))))),(false,()))) (fun b2=>some ((b2.2.2.1.1,(b2.2.2.1.2.1,(b2.2.2.1.2.2.1,(b2.2.2.1.2.2.2.1,(b2.2.2.1.2.2.2.2.1,(b2.2.2.1.2.2.2.2.2.1,(b2.2.2.1.2.2.2.2.2.2.1,()))))))),(b2.1.1,())))
def aAO:gX:=⟨117,tzF,[],[.bool],fun x y=>asr x.1 x.2.1 x.2.2.1 x.2.2.2.1 x.2.2.2.2.1 x.2.2.2.2.2.1 x.2.2.2.2.2.2.1⟩
noncomputable def arx:Env:=ed prog tt [(132,avd)] [(72,2,aAq)] [(72,2,at6)] []
def auQ {γ:Type} (a:ajT.den->Option γ) (b:agQ.den->Option γ) (c:ag1.den->Option γ) (v:ajT.den):Option γ:=abr (fun v0 v1 v2 v3 v4 v5 v6 v7 v8 v9=>a ((v0,v1,v2,()),((),()),((v3,v4,v5,v6,v7,v8,v9,()),()))) (fun e0 e1 e2 e3 e4 e5 e6=>b ((),((),()),((e0,e1,e2,e3,e4,e5,e6,()),()))) (fun r0 r1 r2 r3 r4 r5 r6 r7=>c ((r0,()),((),()),((r1,r2,r3,r4,r5,r6,r7,()),()))) v.1.1 v.1.2.1 v.1.2.2.1 v.2.2.1.1 v.2.2.1.2.1 v.2.2.1.2.2.1 v.2.2.1.2.2.2.1 v.2.2.1.2.2.2.2.1 v.2.2.1.2.2.2.2.2.1 v.2.2.1.2.2.2.2.2.2.1
theorem aEK:dX arx 72 az9 at6:=lK (auQ) (h2:=by intros;simp only[auQ,abr,dm,dn,bK,cZ,dw])
theorem aGi:dU arx 72 b72:=qj [az9] (aD (fM (aEK)) aN)
theorem ary:dK arx:=eB (aD aoL aN) [72] (aD ⟨f72,b72,by kernel_rfl,by kernel_rfl,aGi⟩ aN)
theorem awp:eF prog 72 aAO:=sB ary
noncomputable def b73:Code:=(f73.body).getD .skip
noncomputable def Xn:Code:=(f202.body).getD .skip
noncomputable def Vy:Code:=cA (cA (cB (Xn)))
def VW:dZ:=⟨[0,5,6,7,203000001],[],[],[],[],[]⟩
def aDr:dZ:=⟨[2],[],[],[],[],[]⟩
def aDo:dZ:=⟨[0,2],[],[],[],[],[]⟩
def age:dZ:=⟨[0,3,4,5,6,7],[],[],[],[],[]⟩
def Gf:SQ:=⟨us [.yld 1700005,.u,.u,.u,.u,.v Vo,.v dD,.v dD] 19,[[.u,.u,.ptr 1000002 0,.u,.u,.u],[.yld 1700005],[]],[.lp 1700005 73 ([.u,.u,.ptr 1000002 0,.u,.u,.u]) [5] 2 0 none,.box 2000001 100 [.v Vo],.box 1000002 4 [.v .bool]]⟩
def IA:SQ:=⟨us [] 27,[[.u,.u,.ptr 1000002 0,.u,.u,.u],[.yld 1700005],[]],[.lp 1700005 73 ([.u,.u,.ptr 1000002 0,.u,.u,.u]) [5] 2 0 none,.box 2000001 100 [.v Vo],.box 1000002 4 [.v .bool]]⟩
def IE:SQ:=⟨us [] 27,[[.u,.u,.ptr 1000002 0,.u,.u,.u],[.yld 1700005],[]],[.lp 1700005 73 ([.u,.u,.ptr 1000002 0,.u,.u,.u]) [5] 2 1 (some .ret),.box 2000001 100 [.v Vo],.box 1000002 4 [.v .bool]]⟩
def CV {γ:Type} (rec:(List gI)->Int->Int->(List gI)->Bool->Option γ) (kE kR:(List gI)->Bool->Option γ) (v0:List gI) (v1 v2:Int) (v3:List gI) (v4:Bool):Option γ:=bif(iG v2 v1)then bif(gV v0 v2)then bif(bW (fZ v0 (0,(0,(0,(0,())))) v2).1 17)then kR v3 false else bif(bW (fZ v0 (0,(0,(0,(0,())))) v2).1 18)then kR v3 false else rec v0 v1 (dA .i64 v2 1) v3 v4 else none else kE v3 v4
def rZ:Nat->(List gI)->Int->Int->(List gI)->Bool->Option (IA.den⊕IE.den)
 |0,_,_,_,_,_=>none
 |n+1,v0,v1,v2,v3,v4=>CV (rZ n) (fun e0 e1=>some (.inl ((),((),(),(),()),((),(e0,()),(e1,()),())))) (fun r0 r1=>some (.inr ((),((),(),(),()),((),(r0,()),(r1,()),())))) v0 v1 v2 v3 v4
def agC (n:Nat) (v:Gf.den):=rZ n v.1.1 v.1.2.1 v.1.2.2.1 v.2.2.2.1.1 v.2.2.2.2.1.1
noncomputable def SG:dI:=fU VW Gf IA IE (.exit 0) (agC bU) 6
def ass (x0:List gI):Option qM:=bM (rZ bU x0 (bP x0) 0 x0 false) fun y0=>dV y0 (fun a1=>some (true,())) (fun b1=>some (b1.2.2.2.2.1.1,()))
def aAP:Sum:=⟨[Vo],tzE,fun x=>ass x.1⟩
noncomputable def ah0:Env:=ed prog tt [] [(202,1,VW),(73,500002,aDr),(73,600001,aDo),(202,600003,age)] [(202,1,SG)] [73]
def TR {γ:Type} (a:Gf.den->Option γ) (b:IA.den->Option γ) (c:IE.den->Option γ) (v:Gf.den):Option γ:=CV (fun v0 v1 v2 v3 v4=>a ((v0,v1,v2,()),((),(),(),()),((),(v3,()),(v4,()),()))) (fun e0 e1=>b ((),((),(),(),()),((),(e0,()),(e1,()),()))) (fun r0 r1=>c ((),((),(),(),()),((),(r0,()),(r1,()),()))) v.1.1 v.1.2.1 v.1.2.2.1 v.2.2.2.1.1 v.2.2.2.2.1.1
theorem agF:dX ah0 202 Vy SG:=lK (TR) (h2:=by intros;simp only[TR,CV,dm,dn,bK,cZ,dw])
theorem aF7:jH b73=[]:=by kernel_rfl
theorem aGu:jM b73=[(cA (cA (cB (cA (cB (b73))))),cB (cA (cB (cA (cB (b73))))))]:=by kernel_rfl
theorem aGj:dU ah0 73 b73:=qx b73 (by rw[aGu];exact(aD (fun _=>(show rC 73 2=some (cA (cA (cB (cA (cB (b73))))),cB (cA (cB (cA (cB (b73)))))) by kernel_rfl)) aN)) (by rw[aF7];exact aN)
theorem aok:dU ah0 202 Xn:=qj [Vy] (aD (fM (agF)) aN)
theorem arz:dK ah0:=eB aN [73,202] (aD ⟨f73,b73,by kernel_rfl,by kernel_rfl,aGj⟩ (aD ⟨f202,Xn,by kernel_rfl,by kernel_rfl,aok⟩ aN))
theorem awq:dY prog 73 aAP:=sA arz
def aDj:dZ:=⟨[0],[],[],[],[],[]⟩
def X3 (y3:(taT×(Bf×Bool×Unit))):Option Di:=bM (asr y3.1.1 y3.1.2.1 y3.1.2.2.1 y3.1.2.2.2.1 y3.1.2.2.2.2.1 y3.1.2.2.2.2.2.1 y3.1.2.2.2.2.2.2.1) fun y4=>bif y4.2.1 then some (3,())else bM (ass y4.1.2.2.2.2.2.2.1) fun y5=>bif(!y5.1)then some (2,())else some (1,())
def axb (x0:di):Option Di:=bM (axf x0) fun y0=>bM (axg x0 y0.1) fun y1=>bM (an5 y1.1) fun y2=>bM (axi x0 y0.1 y0.2.1.1 y0.2.1.2.1 y0.2.1.2.2.1 y1.1 y2.1) fun y3=>bif y3.2.2.1 then bif y3.2.2.1 then some (2,())else X3 y3 else bif y3.1.2.2.2.2.1 then bif y3.1.2.2.2.2.1 then some (2,())else X3 y3 else bif(iG 0 (bP y3.1.2.2.2.1))then some (2,())else X3 y3
def aAH:Sum:=⟨[.str],UN,fun x=>axb x.1⟩
noncomputable def aFN:Env:=ed prog tt [(59,awj),(60,awk),(62,awl),(73,aAP)] [(30,600001,aDj)] [] [] [(71,aAN),(72,aAO)]
theorem ard:dK aFN:=eB (aD aeM (aD aeN (aD aeO (aD awq aN)))) [] aN (hx:=(aD awo (aD awp aN)))
theorem avX:dY prog 30 aAH:=sA ard
def axj (x0:di):Option (Bf×Bool×Unit):=bM (an7 x0) fun y0=>bif(bW (bP y0.1) 0)then some ((0,(0,(0,(false,())))),(false,()))else bif(gV y0.1 (eG .i64 (bP y0.1) 1))then bif(gV y0.1 (eG .i64 (bP y0.1) 1))then bif(nV UM y0.1 y0.1)then bif(nV UM y0.1 y0.1)then bif(bW (bP y0.1) (bP y0.1))then bif(bW (eG .i64 (bP y0.1) 1) (eG .i64 (bP y0.1) 1))then bif(gV y0.1 (eG .i64 (bP y0.1) 1))then bif((bW (fZ y0.1 (0,(0,(0,(false,())))) (eG .i64 (bP y0.1) 1)).1 (fZ y0.1 (0,(0,(0,(false,())))) (eG .i64 (bP y0.1) 1)).1)&&((bW (fZ y0.1 (0,(0,(0,(false,())))) (eG .i64 (bP y0.1) 1)).2.1 (fZ y0.1 (0,(0,(0,(false,())))) (eG .i64 (bP y0.1) 1)).2.1)&&((bW (fZ y0.1 (0,(0,(0,(false,())))) (eG .i64 (bP y0.1) 1)).2.2.1 (fZ y0.1 (0,(0,(0,(false,())))) (eG .i64 (bP y0.1) 1)).2.2.1)&&((jy (fZ y0.1 (0,(0,(0,(false,())))) (eG .i64 (bP y0.1) 1)).2.2.2.1 (fZ y0.1 (0,(0,(0,(false,())))) (eG .i64 (bP y0.1) 1)).2.2.2.1)&&true))))then bif(jy (fZ y0.1 (0,(0,(0,(false,())))) (eG .i64 (bP y0.1) 1)).2.2.2.1 (fZ y0.1 (0,(0,(0,(false,())))) (eG .i64 (bP y0.1) 1)).2.2.2.1)then bif(jy (fZ y0.1 (0,(0,(0,(false,())))) (eG .i64 (bP y0.1) 1)).2.2.2.1 (fZ y0.1 (0,(0,(0,(false,())))) (eG .i64 (bP y0.1) 1)).2.2.2.1)then some (((fZ y0.1 (0,(0,(0,(false,())))) (eG .i64 (bP y0.1) 1)).1,((fZ y0.1 (0,(0,(0,(false,())))) (eG .i64 (bP y0.1) 1)).2.1,((fZ y0.1 (0,(0,(0,(false,())))) (eG .i64 (bP y0.1) 1)).2.2.1,((fZ y0.1 (0,(0,(0,(false,())))) (eG .i64 (bP y0.1) 1)).2.2.2.1,())))),((fZ y0.1 (0,(0,(0,(false,())))) (eG .i64 (bP y0.1) 1)).2.2.2.1,()))else none else none else none else none else none else none else none else none else none else none
def aAQ:Sum:=⟨[.str],[(.pair dD (.pair dD (.pair dD tyF)),false),(.bool,false)],fun x=>axj x.1⟩
noncomputable def aFR:Env:=gp prog tt 75 [(74,alg)] [] []
theorem arC:dK aFR:=eA f75 (aD Uo aN)
theorem awr:dY prog 75 aAQ:=sA arC
noncomputable def b31:Code:=(f31.body).getD .skip
noncomputable def az2:Code:=cA (cA (cB (cA (cB (cB (cB (cB (cB (cB (b31))))))))))
def aAj:dZ:=⟨[7,8,9,10,100009],[],[9],[],[2],[]⟩
def ajM:SP:=⟨us [.u,.u,.u,.u,.u,.u,.u,.v oU,.v Vo,.v dD,.v dD] 62,[]⟩
def agJ:SP:=⟨us [.u,.u,.u,.u,.u,.u,.u,.u,.u,.v dD] 63,[]⟩
def agU:SP:=⟨us [.u,.u,.v dD] 70,[]⟩
def abj {γ:Type} (rec:(List gU)->(List gI)->Int->Int->Option γ) (kE kR:Int->Option γ) (v0:List gU) (v1:List gI) (v2 v3:Int):Option γ:=bif(iG v3 (bP v1))then bif(gV v1 v3)then bif(bW (fZ v1 (0,(0,(0,(0,())))) v3).1 17)then kR 3 else bif(gV v1 v3)then bif(bW (fZ v1 (0,(0,(0,(0,())))) v3).1 18)then bif(gV v1 v3)then bif(iG (fZ v1 (0,(0,(0,(0,())))) v3).2.1 (bP v0))then kR 3 else bif(gV v1 v3)then bif(bW (fZ v1 (0,(0,(0,(0,())))) v3).1 18)then rec v0 v1 2 (dA .i64 v3 1)else rec v0 v1 v2 (dA .i64 v3 1)else none else none else bif(gV v1 v3)then bif(bW (fZ v1 (0,(0,(0,(0,())))) v3).1 18)then rec v0 v1 2 (dA .i64 v3 1)else rec v0 v1 v2 (dA .i64 v3 1)else none else none else none else kE v2
def MC:Nat->(List gU)->(List gI)->Int->Int->Option (agJ.den⊕agU.den)
 |0,_,_,_,_=>none
 |n+1,v0,v1,v2,v3=>abj (MC n) (fun e0=>some (.inl ((e0,()),()))) (fun r0=>some (.inr ((r0,()),()))) v0 v1 v2 v3
def aEj (n:Nat) (v:ajM.den):=MC n v.1.1 v.1.2.1 v.1.2.2.1 v.1.2.2.2.1
noncomputable def atU:dI:=gQ aAj ajM agJ agU (.exit 0) (aEj bU) 6
def axc (x0:di):Option Di:=bM (an7 x0) fun y0=>bM (axj x0) fun y1=>bif y1.2.1 then some (2,())else bif y0.2.1.2.2.1 then some (2,())else bif(iG 0 (bP y0.2.1.2.1))then some (2,())else bM (axh x0) fun y2=>bM (an6 y2.1) fun y3=>bM (MC bU y2.1 y3.1 1 0) fun y4=>dV y4 (fun a5=>some (a5.1.1,())) (fun b5=>some (b5.1.1,()))
def aAI:Sum:=⟨[.str],UN,fun x=>axc x.1⟩
noncomputable def arf:Env:=gp prog tt 31 [(67,aAL),(68,aAM),(74,alg),(75,aAQ)] [(9,aAj)] [(9,atU)]
def auJ {γ:Type} (a:ajM.den->Option γ) (b:agJ.den->Option γ) (c:agU.den->Option γ) (v:ajM.den):Option γ:=abj (fun v0 v1 v2 v3=>a ((v0,v1,v2,v3,()),())) (fun e0=>b ((e0,()),())) (fun r0=>c ((r0,()),())) v.1.1 v.1.2.1 v.1.2.2.1 v.1.2.2.2.1
theorem aED:dX arf 31 az2 atU:=Bi (auJ) (h2:=by intros;simp only[auJ,abj,dm,dn,bK,cZ,dw])
theorem aGb:dU arf 31 b31:=qj [az2] (aD (fM (aED)) aN)
theorem arh:dK arf:=eA f31 (aD awm (aD awn (aD Uo (aD awr aN)))) (aGb)
theorem av4:dY prog 31 aAI:=sA arh
end
section
open Bool renaming false_eq_true → aj, and_true → ax, not_true → aB, not_false → aG, true_and → aU, false_or → aV, false_and → bz
open Int renaming toNat_natCast → aP
open List renaming length_append → ae, append_assoc → ag, length_singleton → ai, length_cons → ak, nil_append → aH, drop_of_length_le → aI, append_nil → aK, drop_eq_getElem_cons → aO, getElem_mem → aQ, drop_zero → aX, all_cons → bg
open Nat renaming le_refl → ah
open Go.RowKit
def isF (n:Nd):Bool:=decide (n.1=17)||decide (n.1=18)
def lQ:Nat->List Nd->List Int
 |_,[]=>[]
 |k,n::l=>if isF n=true then(k:Int)::lQ (k+1) l else lQ (k+1) l
theorem NU: ∀(l:List Nd) (k:Nat),(lQ k l).length<=l.length
 |[],_=>ah _
 |n::l,k=>by
  rw[lQ];have:=NU l (k+1);split<;>simp only[ak]<;>omega
theorem DK: ∀(l:List Nd) (k:Nat),∀i∈lQ k l,(k:Int)<=i/\i<k+l.length
 |[],k,i,h=>by cases h
 |n::l,k,i,h=>by
  rw[lQ]at h;rw[ak];split at h
  ·rcases List.mem_cons.1 h with h|h
   ·subst h;omega
   ·have:=DK l (k+1) i h;omega
  ·have:=DK l (k+1) i h;omega
theorem DL (l a b c:List Nd) (hl:l.length<1000000): ∀(N k:Nat) (acc:List Int),l.length-k<N->k<=l.length->acc.length<=k->
  qy N l (bP l) (k:Int) a b acc c=some (.inl ((),((),(),(),(a,b,()),(),()),((),acc++lQ k (l.drop k),(),(c,()),())))
 |0,k,acc,h,_,_=>by omega
 |N+1,k,acc,h,hk,ha=>by
  rw[qy,yF];by_cases e:k<l.length
  ·have hg:fZ l (0,(0,(0,(0,())))) (k:Int)=l[k]:=by
    unfold fZ;rw[aP,List.getD_eq_getElem?_getD,List.getElem?_eq_getElem e];rfl
   have hadd:dA .i64 (k:Int) 1=((k+1:Nat):Int):=by rw[dC (by omega) (by omega)];omega
   have hfit:eQ (cu acc [(k:Int)]) 8=true:=qQ (by unfold cu;simp only[ae,ai];omega);have yes:=DL l a b c hl N (k+1) (acc++[(k:Int)]) (by omega) (by omega) (by simp only[ae,ai];omega);have no:=DL l a b c hl N (k+1) acc (by omega) (by omega) (by omega);rw[bZ (fH (by rw[bT];omega)),bZ (eP (by omega) (by omega)),hg,hfit,hadd,aO e,lQ];unfold isF;simp only[cond_true];by_cases h1:l[k].1=17
   ·rw[bZ (fV h1),if_pos (by simp[h1]),show cu acc [(k:Int)]=acc++[(k:Int)] from rfl,yes,ag];rfl
   ·rw[dE (dW h1)];by_cases h2:l[k].1=18
    ·rw[bZ (fV h2),if_pos (by simp[h2]),show cu acc [(k:Int)]=acc++[(k:Int)] from rfl,yes,ag];rfl
    ·rw[dE (dW h2),if_neg (by simp[h1,h2]),no]
  ·rw[dE (iy (by rw[bT];omega)),aI (by omega),lQ,aK]
theorem apW {l:List Nd} (hl:l.length<1000000):ah5 l=some (lQ 0 l,()):=by
 have h:=DL l l l l hl bU 0 [] (dO (by omega)) (by omega) (by simp);rw[ah5,show qy bU l (bP l) 0 l l [] l=_ from h,bK];simp only[dV,aX,aH]
def Dx (l:List Nd):Bool:=l.all fun n=> !isF n
theorem QZ (l:List Nd) (hl:l.length<1000000) (a:List Nd) (b:Bool): ∀(N k:Nat),l.length-k<N->k<=l.length->
  rZ N l (bP l) (k:Int) a b=some (if Dx (l.drop k)=true then .inl ((),((),(),(),()),((),(a,()),(b,()),()))else .inr ((),((),(),(),()),((),(a,()),(false,()),())))
 |0,k,h,_=>by omega
 |N+1,k,h,hk=>by
  rw[rZ,CV];by_cases e:k<l.length
  ·have hg:fZ l (0,(0,(0,(0,())))) (k:Int)=l[k]:=by
    unfold fZ;rw[aP,List.getD_eq_getElem?_getD,List.getElem?_eq_getElem e];rfl
   have hadd:dA .i64 (k:Int) 1=((k+1:Nat):Int):=by rw[dC (by omega) (by omega)];omega
   rw[bZ (fH (by rw[bT];omega)),bZ (eP (by omega) (by omega)),hg,hadd,aO e,QZ l hl a b N (k+1) (by omega) (by omega)];unfold Dx;rw[bg];by_cases h1:l[k].1=17
   ·rw[bZ (fV h1),if_neg (by simp[isF,h1])]
   ·rw[dE (dW h1)];by_cases h2:l[k].1=18
    ·rw[bZ (fV h2),if_neg (by simp[isF,h2])]
    ·rw[dE (dW h2),show isF l[k]=false by simp[isF,h1,h2],aG,aU]
  ·rw[dE (iy (by rw[bT];omega)),aI (by omega)];rfl
theorem awG {l:List Nd} (hl:l.length<1000000):ass l=some (Dx l,()):=by
 have h:=QZ l hl l false bU 0 (dO (by omega)) (by omega);rw[ass,show rZ bU l (bP l) 0 l false=_ from h,bK,aX];cases Dx l with
 |true=>rfl
 |false=>rfl
def afa (f:List Lf) (n:Nd):Bool:=decide (n.1=17)||decide (n.2.1<bP f)
def zL (f:List Lf) (l:List Nd):Bool:=l.any fun n=>isF n&&afa f n
theorem Rl (f:List Lf): ∀(l pre:List Nd),(lQ pre.length l).any (fun i=>afa f (fZ (pre++l) dNd i))=zL f l
 |[],pre=>rfl
 |n::l,pre=>by
  have ih:=Rl f l (pre++[n]);rw[ae,ai,ag,List.singleton_append]at ih;rw[lQ];unfold zL at*;rw[List.any_cons];by_cases h:isF n=true
  ·have hg:fZ (pre++n::l) dNd (pre.length:Int)=n:=by
    unfold fZ;rw[aP,List.getD_eq_getElem?_getD,List.getElem?_append_right (by omega),Nat.sub_self];rfl
   rw[if_pos h,List.any_cons,hg,ih,h,aU]
  ·rw[if_neg h,ih,show isF n=false by simpa using h,bz,aV]
theorem UH (f:List Lf) (l:List Nd) (s:di) (T:List Tok) (a:Int) (p:List Dlm) (b:Bool) (F:List Int) (hF: ∀i∈F,0<=i/\i<l.length) (hl:F.length<1000000): ∀(N k:Nat),F.length-k<N->k<=F.length->
  MG N F (bP F) (k:Int) s T a p b f l=some (if(F.drop k).any (fun i=>afa f (fZ l dNd i))=true then .inr ((true,()),((),()),((s,T,a,p,b,f,l,()),()))else .inl ((),((),()),((s,T,a,p,b,f,l,()),())))
 |0,k,h,_=>by omega
 |N+1,k,h,hk=>by
  rw[MG,abr];by_cases e:k<F.length
  ·have hg:fZ F 0 (k:Int)=F[k]:=by
    unfold fZ;rw[aP,List.getD_eq_getElem?_getD,List.getElem?_eq_getElem e];rfl
   have hadd:dA .i64 (k:Int) 1=((k+1:Nat):Int):=by rw[dC (by omega) (by omega)];omega
   obtain⟨i0,i1⟩:=hF _ (aQ e);rw[bZ (fH (by rw[bT];omega)),bZ (eP (by omega) (by omega)),hg,hadd,UH f l s T a p b F hF hl N (k+1) (by omega) (by omega),aO e,List.any_cons];have hin:gV l F[k]=true:=eP i0 i1;simp only[hin,cond_true];unfold afa;rw[show(0,(0,(0,(0,()))))=dNd from rfl];by_cases h1:(fZ l dNd F[k]).1=17
   ·rw[bZ (fV h1),if_pos (by simp[h1])]
   ·rw[dE (dW h1)];by_cases h2:(fZ l dNd F[k]).2.1<bP f
    ·rw[bZ (fH h2),if_pos (by simp[h2])]
    ·rw[dE (iy h2)];simp only[h1,h2,decide_false,Bool.or_false,aV]
  ·rw[dE (iy (by rw[bT];omega)),aI (by omega),if_neg (by simp)]
theorem azW (f:List Lf) {l:List Nd} (hl:l.length<1000000) (s:di) (T:List Tok) (a:Int) (p:List Dlm) (b:Bool):
  asr s T a p b f l=some ((s,(T,(a,(p,(b,(f,(l,()))))))),(zL f l,())):=by
 have hlen:=NU l 0;have h:=UH f l s T a p b (lQ 0 l) (fun i hi=>by have:=DK l 0 i hi;omega) (by omega) bU 0 (dO (by omega)) (by omega);have ha:(lQ 0 l).any (fun i=>afa f (fZ l dNd i))=zL f l:=Rl f l [];rw[asr,apW hl,bK];simp only;rw[show MG bU (lQ 0 l) (bP (lQ 0 l)) 0 s T a p b f l=_ from h,bK,aX,ha];cases zL f l with
 |true=>rfl
 |false=>rfl
theorem azD (s:di) (T:List Tok) (hT:T.length<1000000) (a:Int) (p:List Dlm) (b:Bool) (f:List Lf) (l:List Nd):
  axi s T a p b f l=some ((s,(T,(a,(p,(b,(f,(l,()))))))),((if(G8 T).2.2.2.1=true then G8 T else(0,(0,(0,(false,()))))),((G8 T).2.2.2.1,()))):=by
 (rewrite [axi];delta LY)
 rcases List.eq_nil_or_concat T with h|⟨r,t,h⟩
 ·subst h;rfl
 ·rw[List.concat_eq_append]at h;subst h;rw[ae]at hT;obtain⟨h1,h2,h3⟩:=adE r t (by omega);rw[dE (dW (by rw[bT,ae,ai];omega)),h2,cond_true,adD];simp only[h3];obtain⟨k,fr,to_,op,⟨⟩⟩:=t;cases op with
  |true=>rfl
  |false=>rfl
theorem aA9 {u:List UInt8} (hu:u.length<=10000):axj u=some (G8 (kH u).1,((G8 (kH u).1).2.2.2.1,())):=by
 have hl:=(JK hu).2.2;rw[axj,ap0 hu,bK];simp only;rcases List.eq_nil_or_concat (kH u).1 with e|⟨r,t,e⟩
 ·rw[e];rfl
 ·rw[List.concat_eq_append]at e;rw[e,ae]at hl;obtain⟨h1,h2,h3⟩:=adE r t (by omega);rw[e,adD,dE (dW (by rw[bT,ae,ai];omega))];simp only[h2,h3,cond_true,ik,fG,iK,ax]
def abu (f:List Lf) (l:List Nd):Int:=if zL f l=true then 3 else if Dx l=true then 1 else 2
theorem Ua (f:List Lf) (l:List Nd) (hl:l.length<1000000): ∀(N k:Nat) (st:Int),l.length-k<N->k<=l.length->st=1\/st=2->
  MC N f l st (k:Int)=some (if zL f (l.drop k)=true then .inr ((3,()),())else .inl (((if Dx (l.drop k)=true then st else 2),()),()))
 |0,k,st,h,_,_=>by omega
 |N+1,k,st,h,hk,hst=>by
  rw[MC,abj];by_cases e:k<l.length
  ·have hg:fZ l (0,(0,(0,(0,())))) (k:Int)=l[k]:=by
    unfold fZ;rw[aP,List.getD_eq_getElem?_getD,List.getElem?_eq_getElem e];rfl
   have hadd:dA .i64 (k:Int) 1=((k+1:Nat):Int):=by rw[dC (by omega) (by omega)];omega
   have hin:gV l (k:Int)=true:=eP (by omega) (by omega);have ih:=fun st h=>Ua f l hl N (k+1) st (by omega) (by omega) h;rw[bZ (fH (by rw[bT];omega))];simp only[hin,cond_true,hg,hadd,ih st hst,ih 2 (.inr rfl),aO e];unfold zL Dx;rw[List.any_cons,bg];by_cases h1:l[k].1=17
   ·rw[bZ (fV h1),if_pos (by simp[isF,afa,h1])]
   ·rw[dE (dW h1)];by_cases h2:l[k].1=18
    ·have hF:isF l[k]=true:=by simp[isF,h2]
     rw[fV h2,cond_true,hF,aU,aB,bz];simp only[aj,if_false];unfold afa;by_cases h3:l[k].2.1<bP f
     ·rw[bZ (fH h3),show(decide (l[k].2.1<bP f))=true by simpa using h3,Bool.or_true,Bool.true_or,if_pos rfl]
     ·rw[dE (iy h3),cond_true,show(decide (l[k].2.1<bP f))=false by simpa using h3,show(decide (l[k].1=17))=false by simpa using h1,Bool.or_false,aV];simp only[ite_self];try rfl
    ·have hF:isF l[k]=false:=by simp[isF,h1,h2]
     rw[dW h2,cond_false,cond_false,hF,bz,aV,aG,aU]
  ·rw[dE (iy (by rw[bT];omega)),aI (by omega)];rfl
def abv (u:di) (l:List Nd):Int:=if(G8 (kH u).1).2.2.2.1=true then 2 else if(kH u).2.2.2.1=true then 2 else if 0<(kH u).2.2.1.length then 2 else abu (iw u (kH u).1) l
theorem awL {u:List UInt8} (hu:u.length<=10000) {l:List Nd} (hp:an6 (iw u (kH u).1)=some (l,())) (hl:l.length<1000000):axc u=some (abv u l,()):=by
 rw[axc,ap0 hu,bK,aA9 hu,bK];unfold abv;simp only;cases (G8 (kH u).1).2.2.2.1 with
 |true=>rfl
 |false=>
  rw[cond_false,if_neg (by simp)];cases (kH u).2.2.2.1 with
  |true=>rfl
  |false=>
   rw[cond_false,if_neg (by simp)];by_cases h:0<(kH u).2.2.1.length
   ·rw[bZ (fH (by rw[bT];omega)),if_pos h]
   ·rw[dE (kZ (by rw[bT];omega)),if_neg h,apZ hu,bK];simp only;rw[hp,bK];simp only;have hs:=Ua (iw u (kH u).1) l hl bU 0 1 (dO (by omega)) (by omega) (.inl rfl);rw[show MC bU (iw u (kH u).1) l 1 0=_ from hs,bK,aX];unfold abu;cases zL (iw u (kH u).1) l with
    |true=>rfl
    |false=>rfl
theorem awK {u:List UInt8} (hu:u.length<=10000) {l:List Nd} (hp:an5 (iw u (kH u).1)=some (l,())) (hl:l.length<1000000):axb u=some (abv u l,()):=by
 have hT:=(JK hu).2.2
 (rewrite [axb];delta X3;rw[aFl hu,bK])
 simp only;rw[apY hu,bK];simp only;rw[hp,bK];simp only;rw[azD u _ (by omega),bK];unfold abv;simp only;have fin:(bM (asr u (kH u).1 (kH u).2.1 (kH u).2.2.1 (kH u).2.2.2.1 (iw u (kH u).1) l) fun y4=>
   bif y4.2.1 then some (3,())else bM (ass y4.1.2.2.2.2.2.2.1) fun y5=>bif !y5.1 then some (2,())else some ((1:Int),()))=some (abu (iw u (kH u).1) l,()):=by
  rw[azW _ hl,bK];unfold abu;simp only;cases zL (iw u (kH u).1) l with
  |true=>rfl
  |false=>
   rw[cond_false,awG hl,bK,if_neg (by simp)];simp only;cases Dx l with
   |true=>rfl
   |false=>rfl
 cases (G8 (kH u).1).2.2.2.1 with
 |true=>rfl
 |false=>
  rw[cond_false,if_neg (by simp)];generalize hb:(kH u).2.2.2.1=bd at fin ⊢;cases bd with
  |true=>rfl
  |false=>
   rw[cond_false,if_neg (by simp)];by_cases h:0<(kH u).2.2.1.length
   ·rw[bZ (fH (by rw[bT];omega)),if_pos h]
   ·rw[dE (kZ (by rw[bT];omega)),if_neg h];exact fin
end
section
open Bool renaming and_eq_true → af
open Nat renaming eq_of_beq_eq_true → au
open Tryz
open Go.RowKit Go.Shelf Go.Lib Go.Sort
def Yt:Go.Shelf.Ren:=⟨fun|171=>81|243=>141|246=>208|283=>257|284=>258|285=>259|286=>260|129=>197|317=>301|318=>302|319=>303|320=>304|337=>330|338=>331|n=>n,fun|3=>3|9=>9|2=>2|4=>4|171=>290|0=>0|53=>251|37=>111|5=>5|173=>292|212=>314|51=>249|20=>20|213=>315|46=>181|232=>334|233=>335|n=>n,fun|17=>1|18=>4|19=>5|n=>n⟩
theorem atD:Go.Proofs.LaysM.n171 prog Yt:={
 mixed:=by kernel_rfl
 f129:=func197.trans (congrArg some (by kernel_rfl))
 f171:=func81.trans (congrArg some (by kernel_rfl))
 f243:=func141.trans (congrArg some (by kernel_rfl))
 f246:=func208.trans (congrArg some (by kernel_rfl))
 f283:=func257.trans (congrArg some (by kernel_rfl))
 f284:=func258.trans (congrArg some (by kernel_rfl))
 f285:=func259.trans (congrArg some (by kernel_rfl))
 f286:=func260.trans (congrArg some (by kernel_rfl))
 f317:=func301.trans (congrArg some (by kernel_rfl))
 f318:=func302.trans (congrArg some (by kernel_rfl))
 f319:=func303.trans (congrArg some (by kernel_rfl))
 f320:=func304.trans (congrArg some (by kernel_rfl))
 f337:=func330.trans (congrArg some (by kernel_rfl))
 f338:=func331.trans (congrArg some (by kernel_rfl))
 t0:=underlying0
 a0:=isAgg0
 z0:=sizeOf0
 v0:=zeroValue0
 t2:=underlying2
 a2:=isAgg2
 z2:=sizeOf2
 v2:=zeroValue2
 t3:=underlying3
 a3:=isAgg3
 z3:=sizeOf3
 v3:=zeroValue3
 t4:=underlying4
 a4:=isAgg4
 z4:=sizeOf4
 v4:=zeroValue4
 t5:=underlying5
 a5:=isAgg5
 z5:=sizeOf5
 v5:=zeroValue5
 t9:=underlying9
 a9:=isAgg9
 z9:=sizeOf9
 v9:=zeroValue9
 t20:=underlying20
 a20:=isAgg20
 z20:=sizeOf20
 v20:=zeroValue20
 t37:=underlying111
 a37:=isAgg111
 z37:=sizeOf111
 v37:=zeroValue111
 t46:=underlying181
 a46:=isAgg181
 z46:=sizeOf181
 v46:=zeroValue181
 t51:=underlying249
 a51:=isAgg249
 z51:=sizeOf249
 v51:=zeroValue249
 t53:=underlying251
 a53:=isAgg251
 z53:=sizeOf251
 v53:=zeroValue251
 t171:=underlying290
 a171:=isAgg290
 z171:=sizeOf290
 v171:=zeroValue290
 t173:=underlying292
 a173:=isAgg292
 z173:=sizeOf292
 v173:=zeroValue292
 t212:=underlying314
 a212:=isAgg314
 z212:=sizeOf314
 v212:=zeroValue314
 t213:=underlying315
 a213:=isAgg315
 z213:=sizeOf315
 t232:=underlying334
 a232:=isAgg334
 z232:=sizeOf334
 v232:=zeroValue334
 t233:=underlying335
 a233:=isAgg335
 z233:=sizeOf335
 v233:=zeroValue335
 g17:=by kernel_rfl
 g18:=by kernel_rfl
 g19:=by kernel_rfl
 i0:=by kernel_rfl
 i2:=by kernel_rfl
 i3:=by kernel_rfl
 i4:=by kernel_rfl
 i5:=by kernel_rfl
 i9:=by kernel_rfl
 i20:=by kernel_rfl
 i37:=by kernel_rfl
 i46:=by kernel_rfl
 i51:=by kernel_rfl
 i53:=by kernel_rfl
 i171:=by kernel_rfl
 i173:=by kernel_rfl
 i212:=by kernel_rfl
 i232:=by kernel_rfl
 i233:=by kernel_rfl
 m17:=by kernel_rfl
 m18:=by kernel_rfl
 m19:=by kernel_rfl}
def aq3:Nat->Nat->List UInt8
 |0,_=>[]
 |f+1,u=>bif Nat.blt u 10 then [UInt8.ofNat (48+u)]else aq3 f (u/10)++[UInt8.ofNat (48+u %10)]
theorem XC: ∀(f u:Nat),0<f->u<10^f->aq3 f u=Lib.decDigits u
 |0,u,h,_=>by omega
 |f+1,u,_,h=>by
  rw[aq3,Lib.decDigits];by_cases hu:u<10
  ·rw[dif_pos hu,show Nat.blt u 10=true from by simpa [Nat.blt_eq] using hu,cond_true]
  ·rw[dif_neg hu,show Nat.blt u 10=false from Bool.eq_false_iff.2 (by simpa [Nat.blt_eq] using hu),cond_false];have hf:0<f:=by
    rcases Nat.eq_zero_or_pos f with e|e
    ·subst e;simp at h;omega
    ·exact e
   rw[XC f (u/10) hf (by rw[Nat.pow_succ]at h;omega)]
def asI (n:Int):List UInt8:=bif decide (n<0)then 45::aq3 20 n.natAbs else aq3 20 n.toNat
theorem asJ {n:Int} (h1: -9223372036854775808<=n) (h2:n<=9223372036854775807):asI n=Lib.itoa n:=by
 have h20:(10:Nat)^20=100000000000000000000:=by decide
 unfold asI Lib.itoa;rw[XC 20 _ (by omega) (by rw[h20];omega),XC 20 _ (by omega) (by rw[h20];omega)];by_cases h:n<0
 ·rw[if_pos h,decide_eq_true h];rfl
 ·rw[if_neg h,decide_eq_false h];rfl
def asH (n:Int):Option (List UInt8×Unit):=bif decide (-9223372036854775808<=n)&&decide (n<=9223372036854775807)then some (asI n,())else none
def abS:Sum:=⟨[.int .i64],[(.str,false)],fun x=>asH x.1⟩
theorem aBF: ∀(k:Nat) (w:World),(w.drewN k).heap=w.heap:=fun k w=>rfl
theorem ahC:dY prog 81 abS:=by
 intro w bar args' x y hphi hbar hdv hy;obtain⟨u,us1,e1,h1,h3⟩:=hdv;obtain rfl:us1=[]:=h3;have ha:args'= #[u]:=by
  apply Array.ext';simpa using e1
 subst ha;have e4:=h1.int_inv;subst e4;have hy:asH x.1=some y:=hy;unfold asH at hy;obtain⟨hb,hy⟩:=dJ hy;simp only[af,decide_eq_true_eq]at hb;cases hy;rw[asJ hb.1 hb.2];have hc:=Any.strconv_Itoa atD x.1 hb.1 hb.2 w hphi;refine .inl ⟨BA SX func81 (show f81.body=some ((f81.body).getD .skip) by kernel_rfl) _ _,hc.mono fun e w' ⟨he,k,os,hw⟩=> ?_⟩;have hbel:Below w.heap.size w w':=by
  subst hw;refine⟨rfl,rfl,rfl, ?_,fun b hb=> ?_⟩
  ·show w.heap.size<=(w.heap++os).size;simp
  ·show(w.heap++os)[b]? =w.heap[b]?;exact Array.getElem?_append_left hb
 refine⟨(kM w bar).at_ w',[.string ⟨(Lib.itoa x.1).toArray⟩],he,rfl,(QK hphi hbar).ext hbel,rfl,rfl,rfl, ?_⟩;simp only[abS,nM,bQ,bY,and_true];exact VD.str_mk
noncomputable def sg2 (g:FuncId):Option Sum:=bif Nat.beq g 81 then some abS else sg1 g
theorem aE3: ∀g s,sg2 g=some s->dY prog g s:=fun g s h=>by
 unfold sg2 at h;rw[cond_eq_ite]at h;split at h
 ·rename_i hg
  obtain rfl:g=81:=au hg;cases h;exact ahC
 ·exact auW g s h
end
section
open Nat renaming eq_of_beq_eq_true → au
open Tryz
open Go.RowKit
noncomputable def aFT (sg:FuncId->Option Sum):Env:={P:=prog,T:=tt,cl:=true,kp:=fun _ _=>none,sg:=sg,lp:=fun _ _=>none,bf:=JG}
theorem aw3 {sg:FuncId->Option Sum} (h: ∀g s,sg g=some s->dY prog g s):dK (aFT sg):=⟨tok,mixed,SX,h,fun f fn c _ _=>jU (fun _=>rfl) (fun _=>rfl) c,aeu _ fun f fn c _ _=>jU (fun _=>rfl) (fun _=>rfl) c,QY,fun _ _ h=>by cases h⟩
theorem au1 {sg:FuncId->Option Sum} (h: ∀g s,sg g=some s->dY prog g s) {f:FuncId} {s0:Sum} (h0:dY prog f s0): ∀g s,(bif Nat.beq g f then some s0 else sg g)=some s->dY prog g s:=fun g s e=>by
 rw[cond_eq_ite]at e;split at e
 ·rename_i hg
  obtain rfl:g=f:=au hg;cases e;exact h0
 ·exact h g s e
noncomputable def aAy (g:FuncId):Option Sum:=bif Nat.beq g 59 then some awj else sg2 g
theorem auY: ∀g s,aAy g=some s->dY prog g s:=au1 aE3 aeM
noncomputable def aAz (g:FuncId):Option Sum:=bif Nat.beq g 60 then some awk else aAy g
theorem auZ: ∀g s,aAz g=some s->dY prog g s:=au1 auY aeN
noncomputable def aAA (g:FuncId):Option Sum:=bif Nat.beq g 62 then some awl else aAz g
theorem au0: ∀g s,aAA g=some s->dY prog g s:=au1 auZ aeO
theorem alq:aa4 (aFT aAA) 29 [] tzE ()=some (true,()):=by kernel_rfl
def Ur:Sum:=⟨[],tzE,fun _=>some (true,())⟩
theorem Vk:dY prog 29 Ur:=Us (aw3 au0) (by decide) fun x y h=>by
 cases h;exact alq
end
section
open Tryz
open Go.RowKit
def fn9 (x0:di):Option qM:=bif(iG 100 (bP x0))then some (true,())else bM (axb x0) fun y0=>bM (axc x0) fun y1=>some ((bW y0.1 y1.1),())
noncomputable def aFS:Env:=gp prog tt 9 [(29,Ur),(30,aAH),(31,aAI)] [] []
theorem aw2:dK aFS:=eA f9 (aD Vk (aD avX (aD av4 aN)))
end
section
open Go.RowKit
theorem agj (s:di):fn9 s=some (true,()):=by
 rw[fn9];by_cases h:s.length<=100
 ·obtain⟨l,h1,h2,h3⟩:=aEO (s:=s) (by omega);have hlen:(iw s (kH s).1).length<=10000:=(VX (s:=s) (by omega)).1;rw[dE (kZ (by rw[bT];omega)),awK (by omega) h1 (by omega),bK,awL (by omega) h2 (by omega),bK,fG]
 ·rw[bZ (fH (by rw[bT];omega))]
end
end Go.Proofs.YtihafdllichkeaaGreatDoor
