/- Parts of the proof, joined and shortened by a program: the plain machine, the functions as it prints them, and the mathematics over them. -/
import Derived.ChangeArms
import Derived.WideShapes
import Derived.Test.YtldbkoijjlaaeaaGreatDoorProg
import Derived.Shelf.Strings.Builder1
import Derived.Test.YtldbkoijjlaaeaaGreatDoorV2
set_option linter.unusedVariables false
set_option linter.unusedSimpArgs false
set_option maxRecDepth 100000
set_option maxHeartbeats 4000000
namespace Go.Proofs.YtldbkoijjlaaeaaGreatDoor
section
open Bool renaming and_eq_true → af, not_eq_true → aW
open List renaming mem_cons_of_mem → au
open Nat renaming le_refl → ae
open Go.RowKit
def TT.allK:TT->Bool
 |.nil=>true
 |.node _ i l r=>i.known&&(l.allK&&r.allK)
theorem TT.allK_at: ∀(T:TT) (t:TypeId),T.allK=true->(T.at t).ty.isSome=true->(T.at t).known=true
 |.nil,t,_,h=>by assumption
 |.node k i l r,t,h,h2=>by
  simp only[TT.allK,af]at h;simp only[TT.at]at h2 ⊢;by_cases e:Nat.beq k t=true
  ·simp_all
  ·have e':Nat.beq k t=false:=(aW _).mp e;simp only[e',cond_false]at h2 ⊢;by_cases e2:Nat.blt t k=true
   ·simp only[e2,cond_true]at h2 ⊢;exact TT.allK_at l t h.2.1 h2
   ·have e2':Nat.blt t k=false:=(aW _).mp e2;simp only[e2',cond_false]at h2 ⊢;exact TT.allK_at r t h.2.2 h2
def wfD:(t:Ty)->t.den->Prop
 |.unit,_=>True
 |.bool,_=>True
 |.int k,x=>(Lit.int k x).wf=true
 |.str,x=>x.length<=maxLen
 |.list e,xs=>xs.length<=maxLen/\ ∀x∈xs,wfD e x
 |.pair a b,x=>wfD a x.1/\wfD b x.2
section
variable {P:Program} {T:TT} {w:World} {H:Type} {enc:TypeId×Value->H} {spare:Nat->Bool} {held:Bool}
theorem aym {t:TypeId} {k:TK} (h:(P.underlying t).map kH=some (some k)): ∃d,P.underlying t=some d/\kH d=some k:=by
 simp_all
theorem IB (hT:TOk P T) {t:TypeId} (hk:(T.at t).known=true):P.cellsOf t=(T.at t).size:=by
 obtain⟨h,_⟩:=hT t hk;unfold Program.cellsOf;cases hi:P.info? t with
 |none=>simp_all
 |some f=>
  simp_all
theorem ayJ {a:Addr} {v:Value} (h:w.cell? a=some v):a.block<w.heap.size/\a.spot=none:=by
 unfold World.cell? at h;split at h
 ·rename_i hb
  refine⟨(Array.getElem?_eq_some_iff.1 hb).1, ?_⟩;simp_all
 ·cases h
theorem addr_add_add (a:Addr) (x m:Nat):(a.add x).add m=a.add (x+m):=by
 grind [Addr.add]
theorem aft {e:Ty} {size:Nat} (hsz:e.size=size) {a:Addr} {len:Nat} {F:List Value->Option (DataW H×List MemPlace)} (hF: ∀cs y,F cs=some y-> ∃x:e.den,eY w (fun b=>b<w.heap.size) e x cs/\wfD e x)
  (h: ∀i,i<len-> ∃y,(w.cells? 0 (a.add (i*size)) size).bind F=some y): ∀(k j:Nat),j+k<=len->
  ∃(xs:List e.den) (zs:List Value),xs.length=k/\gu (eY w (fun b=>b<w.heap.size) e) e.size xs zs/\(∀m (hm:m<zs.length),w.cell? (a.add (j*size+m))=some zs[m])/\ ∀x∈xs,wfD e x
 |0,j,_=>⟨[],[],rfl,rfl,fun m hm=>absurd hm (by simp),fun x hx=>by cases hx⟩
 |k+1,j,hj=>by
  obtain⟨xs,zs,h1,h2,h3,h4⟩:=aft hsz hF h k (j+1) (by omega);obtain⟨y,hy⟩:=h j (by omega);obtain⟨c,hc,hy⟩:=Option.bind_eq_some_iff.1 hy;obtain⟨x,hx,hwf⟩:=hF c y hy;have hcl:c.length=e.size:=eY.length e x c hx;have hcell: ∀m (hm:m<c.length),w.cell? (a.add (j*size+m))=some c[m]:=fun m hm=>by
   simp only[World.cells?,Nat.zero_le,if_true]at hc;have:=mapM_some_get hc m m (by simp_all);simp_all [addr_add_add]
  refine⟨x::xs,c++zs,by simp[h1],⟨c,zs,rfl,hcl,hx,h2⟩,fun m hm=> ?_,fun z hz=> ?_⟩
  all_goals grind
theorem Tn (hT:TOk P T) {n:Nat} {cs:List Value} (ih: ∀(t:TypeId) (cs:List Value) (y:DataW H×List MemPlace) (ty:Ty),(T.at t).known=true->(T.at t).ty=some ty->DataW.trod enc P w 0 spare held n t cs=some y-> ∃x:ty.den,eY w (fun b=>b<w.heap.size) ty x cs/\wfD ty x):
  ∀(fs:List (Nat×TypeId)) (off:Nat) (ty:Ty),jH T off fs=some ty->(∀p∈fs,∃y,DataW.trod enc P w 0 spare held n p.2 ((cs.drop p.1).take (P.cellsOf p.2))=some y)->
   ∃x:ty.den,eY w (fun b=>b<w.heap.size) ty x ((cs.drop off).take ty.size)/\wfD ty x
 |[],off,ty,h,_=>by
  simp only[jH,Option.some.injEq]at h;subst h;exact⟨(),by simp[eY,Ty.size],trivial⟩
 |(o,ft)::rest,off,ty,h,hall=>by
  simp only[jH]at h;split at h
  ·rename_i ho
   split at h
   ·rename_i a ha
    split at h
    ·rename_i hs
     split at h
     ·rename_i b hb
      simp only[Option.some.injEq]at h;subst h ho;obtain⟨y,hy⟩:=hall (o,ft) (by simp);simp only[IB hT hs.2,<-hs.1]at hy;obtain⟨x1,h1,h2⟩:=ih ft _ y a hs.2 ha hy;obtain⟨x2,h3,h4⟩:=Tn hT ih rest _ b hb fun p hp=>hall p (au _ hp);refine⟨(x1,x2),⟨_,_, ?_,h1,h3⟩,h2,h4⟩;simp_all [Ty.size,List.take_add]
     ·cases h
    ·cases h
   ·cases h
  ·cases h
theorem VR (hT:TOk P T) (hK:T.allK=true): ∀(fuel:Nat) (t:TypeId) (cs:List Value) (y:DataW H×List MemPlace) (ty:Ty),(T.at t).known=true->(T.at t).ty=some ty->DataW.trod enc P w 0 spare held fuel t cs=some y->
  ∃x:ty.den,eY w (fun b=>b<w.heap.size) ty x cs/\wfD ty x
 |0,t,cs,y,ty,_,_,h=>by simp[DataW.trod]at h
 |fuel+1,t,cs,y,ty,hk,hty,h=>by
  obtain⟨hinfo,hund,hty2,hsz,-,-,-,-⟩:=hT t hk;obtain⟨d,hd,hdk⟩:=aym hund;have hty3:lD T (T.at t).k=some ty:=by
   simp_all
  have hc:=IB hT hk;have hsize:=hsz ty hty;cases d with
  |bool=>
   simp only[kH,Option.some.injEq]at hdk;rw[<-hdk]at hty3;simp only[lD,Option.some.injEq]at hty3;subst hty3;obtain⟨b,rfl,_⟩:=DataW.trod_bool hd h;exact⟨b,rfl,trivial⟩
  |int k=>
   simp only[kH,Option.some.injEq]at hdk;rw[<-hdk]at hty3;simp only[lD,Option.some.injEq]at hty3;subst hty3;obtain⟨b,rfl,_,hw⟩:=DataW.trod_int hd h;exact⟨b,rfl,hw⟩
  |string=>
   simp only[kH,Option.some.injEq]at hdk;rw[<-hdk]at hty3;simp only[lD,Option.some.injEq]at hty3;subst hty3;obtain⟨s,rfl,_,hw⟩:=DataW.trod_string hd h;exact⟨s.data.toList,by simp[eY],(show s.data.toList.length<=maxLen from by assumption)⟩
  |slice e=>
   simp only[kH,Option.some.injEq]at hdk;rw[<-hdk]at hty3;simp only[lD,Option.map_eq_some_iff]at hty3;obtain⟨ety,hety,rfl⟩:=hty3;have hek:=TT.allK_at T e hK (by rw[hety];rfl);have hes:ety.size=(T.at e).size:=(hT e hek).2.2.2.1 ety hety;have hec:=IB hT hek;rcases DataW.trod_slice hd h with ⟨rfl,_⟩|⟨a,len,cap,elems,rest,n,hn,rfl,_,_,hl,hm,hlen,hel,_,_⟩
   ·exact⟨[],⟨none,0,[],rfl,ae _,rfl,.inl rfl⟩,Nat.zero_le _,fun x hx=>by cases hx⟩
   ·obtain rfl:n=fuel:=by omega
    have hrow: ∀i,i<len-> ∃y,(w.cells? 0 (a.add (i*P.cellsOf e)) (P.cellsOf e)).bind (DataW.trod enc P w 0 spare held n e)=some y:=fun i hi=>by
     simp_all
    obtain⟨xs,zs,h1,h2,h3,h4⟩:=aft (w:=w) (e:=ety) (hes.trans hec.symm) (fun cs y hy=>VR hT hK n e cs y ety hek hety hy) hrow len 0 (by omega);refine⟨xs,⟨some a,cap,zs,by rw[h1],by omega,h2, ?_⟩,by rw[h1];omega,h4⟩;by_cases hz:zs=[]
    ·exact .inl hz
    ·have h0:=h3 0 (List.length_pos_iff.2 hz);rw[show a.add (0*P.cellsOf e+0)=a by simp[Addr.add]]at h0;obtain⟨q1,q2⟩:=ayJ h0;obtain⟨ab,ao,asp⟩:=a;simp only at q1 q2;subst q2;refine .inr ⟨ab,ao,rfl,q1,fun j hj=> ?_⟩;simp_all [jU]
  |struct fs=>
   simp only[kH,Option.some.injEq]at hdk;rw[<-hdk]at hty3;simp only[lD]at hty3;obtain⟨xs,n,hn,_,hlen,hxl,hf⟩:=DataW.trod_struct hd h;obtain rfl:n=fuel:=by omega
   obtain⟨x,h1,h2⟩:=Tn (P:=P) (T:=T) (w:=w) (enc:=enc) (spare:=spare) (held:=held) (cs:=cs) hT (fun t cs y ty a b c=>VR hT hK n t cs y ty a b c) _ 0 ty hty3 (fun p hp=>by
    obtain⟨f,hfm,rfl⟩:=List.mem_map.1 hp;obtain⟨i,hi⟩:=List.getElem?_of_mem hfm
    grind)
   grind
  |func a b c=>
   grind [kH,lD]
  |array a b=>simp[kH]at hdk
  |_=>
   grind [kH,lD]
theorem ahI (hT:TOk P T) (hK:T.allK=true) {t:TypeId} {v:Value} {d:DataW H} {ps:List MemPlace} {r:Reach} {b0:Nat} {ty:Ty} (hty:(T.at t).ty=some ty) (hval:Value.okWide P w r b0 t v) (h:DataW.Trod enc P w 0 spare held t v d ps):
  ∃x:ty.den,VD (lw w fun _=>False) ty x v/\wfD ty x:=by
 have hk:=TT.allK_at T t hK (by rw[hty];rfl);obtain⟨fuel,hf⟩:=h;obtain⟨x,h1,h2⟩:=VR hT hK fuel t _ _ ty hk hty hf;have h3:eY w (lw w fun _=>False).free ty x v.cells.toList:=eY.mono (fun b hb=>⟨⟨hb,(by rintro ⟨i,o,h,_⟩;simp[lw,dK]at h),by simp[lw],fun h=>h⟩,rfl⟩) ty x _ h1;refine⟨x, ?_,h2⟩;obtain⟨hinfo,hund,hty2,-⟩:=hT t hk;obtain⟨d',hd,hdk⟩:=aym hund;have hty3:lD T (T.at t).k=some ty:=by
  rcases hty2 with h1|h1
  ·rw[h1]at hty;cases hty
  ·rw[<-h1,hty]
 cases ha:ty.isAgg with
 |true=>
  cases d' with
  |struct fs=>
   obtain⟨cs,rfl,_⟩:=Go.WideShapes.okWide_struct hd hval;exact(VD.agg ha).2 ⟨cs,rfl,h3⟩
  |array a b=>simp[kH]at hdk
  |slice e=>
   simp only[kH,Option.some.injEq]at hdk;rw[<-hdk]at hty3;simp only[lD,Option.map_eq_some_iff]at hty3;obtain⟨ety,_,rfl⟩:=hty3;cases ha
  |_=>
   simp only[kH,Option.some.injEq]at hdk;rw[<-hdk]at hty3;simp[lD]at hty3
   all_goals (subst hty3;cases ha)
 |false=>
  rw[VD.leaf ha];have hv:v.cells= #[v]:=by
   cases d' with
   |struct fs=>
    simp only[kH,Option.some.injEq]at hdk;rw[<-hdk]at hty3;simp only[lD]at hty3;exfalso;cases hfs:(fs.toList.map fun f=>(f.offset,f.type))with
    |nil=>rw[hfs]at hty3;simp only[jH,Option.some.injEq]at hty3;subst hty3;cases ha
    |cons p l=>
     rw[hfs]at hty3;simp only[jH]at hty3;split at hty3
     ·split at hty3
      ·split at hty3
       ·split at hty3
        ·simp only[Option.some.injEq]at hty3;subst hty3;cases ha
        ·cases hty3
       ·cases hty3
      ·cases hty3
     ·cases hty3
   |array a b=>simp[kH]at hdk
   |bool=>obtain⟨b,rfl⟩:=Go.WideShapes.okWide_bool hd hval;rfl
   |int k=>obtain⟨b,rfl⟩:=Go.WideShapes.okWide_int hd hval;rfl
   |string=>obtain⟨b,rfl⟩:=Go.WideShapes.okWide_string hd hval;rfl
   |slice e=>obtain⟨a,b,c,rfl⟩:=Go.WideShapes.okWide_slice hd hval;rfl
   |_=>
    simp only[kH,Option.some.injEq]at hdk;rw[<-hdk]at hty3;simp[lD]at hty3
  rw[hv]at h3;exact h3
end
abbrev cO:Ty:=.int .i64
abbrev fU:Type:=Int×(List UInt8)×(Int×Int×Unit)
abbrev bM:Type:=List UInt8
abbrev fZ:Type:=Int×Int×Int×Int×Unit
abbrev V5:Ty:=.pair cO (.pair cO .unit)
abbrev iY:Type:=Int×Int×Int×Int×Bool×Unit
abbrev Qi:Ty:=.pair cO (.pair cO (.pair cO (.pair .bool .unit)))
abbrev tyD:Ty:=.pair cO (.pair .str V5)
abbrev lG:Ty:=.pair cO (.pair cO V5)
abbrev taE:Type:=(List fU)×Int×(List fZ)×Int×Int×Unit
abbrev taF:Type:=(List fU)×bM×(List fZ)×Int×Int×Int×Unit
abbrev oP:Type:=Bool×Unit
abbrev wE:Type:=Int×Int×Int×Bool×Unit
abbrev PZ:Ty:=.pair .str (.pair .bool .unit)
abbrev nZ:Type:=Int×Int×Unit
abbrev iC:Type:=List (Int)
abbrev BB:Type:=Int×Int×bM×(Unit)
abbrev G9:Type:=Bool×Bool×bM×(Unit)
abbrev qJ:Type:=List (bM×oP)
abbrev WQ:Ty:=.pair .bool (.pair .bool (.pair .str .unit))
abbrev tyH:Ty:=.pair (.list cO) (.pair .bool .unit)
abbrev VS:Ty:=.pair cO (.pair cO (.pair .str .unit))
abbrev taN:Type:=(List nZ)×Bool×Int×Unit
abbrev Jq:Ty:=.pair cO Qi
abbrev nK:Ty:=.list tyD
abbrev Io:Type:=bM×(iC×oP)
abbrev BC:Type:=taE×(Unit)
abbrev uN:Type:=Int×Int
abbrev DT:Type:=Int×Unit
abbrev Jp:Type:=taF×(Unit)
abbrev tyL:Ty:=.pair (.list PZ) (.pair .bool .unit)
abbrev taT:Type:=wE×(Int×qJ×oP)×Unit
abbrev Qh:Type:=bM×Unit
abbrev taV:Type:=bM×(List wE)×Int×qJ×Bool×(List fU)×(List fZ)×Unit
abbrev tyM:Ty:=.pair cO (.pair cO (.pair .bool .unit))
abbrev V6:Ty:=.list PZ
abbrev WR:Ty:=.list Jq
abbrev taW:Type:=Io×Unit
abbrev Hm:List (Ty×Bool):=[(.list tyD,false),(.int .i64,false),(.list lG,true),(.int .i64,false),(.int .i64,false)]
abbrev VT:List (Ty×Bool):=[(.list tyD,false),(.str,false),(.list lG,true),(.int .i64,false),(.int .i64,false),(.int .i64,false)]
abbrev tzC:List (Ty×Bool):=[(.list V5,true),(.bool,false),(.int .i64,false)]
abbrev Ou:List (Ty×Bool):=[(.bool,false)]
abbrev YG:List (Ty×Bool):=[(.int .i64,false)]
abbrev tzF:List (Ty×Bool):=[(.str,false),(.list Qi,false),(.int .i64,false),(.list PZ,false),(.bool,false),(.list tyD,false),(.list lG,false)]
abbrev V7:List (Ty×Bool):=[(.str,false)]
abbrev tzH:List (Ty×Bool):=[(.pair .str tyH,false)]
abbrev tzI:List (Ty×Bool):=[(.int .i64,false),(.int .i64,false)]
abbrev tzJ:List (Ty×Bool):=[(.pair cO tyM,false),(.pair cO tyL,false)]
end
section
open Bool renaming and_eq_true → af, not_true → ay
open Nat renaming eq_of_beq_eq_true → aj
open Tryz
open Go.RowKit
def iT:TI:=⟨true,.fn,1,8,none,[.nilfn],false,false,true⟩
def ti2:TI:=⟨true,(.int .i64),1,8,some (.int .i64),[.val (.int .i64) 0],false,false,true⟩
def ti4:TI:=⟨true,.bool,1,1,some .bool,[.val .bool false],false,false,true⟩
def ti5:TI:=⟨true,(.int .u8),1,1,some (.int .u8),[.val (.int .u8) 0],false,false,true⟩
def ti7:TI:=⟨true,(.struct [(0,2),(1,3),(2,4),(3,6)]),4,24,none,[.val (.int .i64) 0,.val (.int .i64) 0,.val .bool false,.val (.int .u8) 0],false,false,true⟩
def ti9:TI:=⟨true,.str,1,16,some .str,[.val .str []],false,false,true⟩
def aHu:TI:=⟨true,(.int .u64),1,8,some (.int .u64),[.val (.int .u64) 0],false,false,true⟩
def aJr:TI:=⟨true,(.struct [(0,9),(1,12)]),2,24,some (.pair .str (.pair (.int .u64) .unit)),[.val .str [],.val (.int .u64) 0],false,false,true⟩
def aKr:TI:=⟨true,(.ptr 247),1,8,none,[.nilp],false,false,true⟩
def aKs:TI:=⟨true,(.ptr 250),1,8,none,[.nilp],false,false,true⟩
def aKt:TI:=⟨true,(.ptr 257),1,8,none,[.nilp],false,false,true⟩
def aJB:TI:=⟨true,(.struct [(0,17)]),1,8,none,[.nilp],false,false,true⟩
def aHv:TI:=⟨true,(.int .i32),1,4,some (.int .i32),[.val (.int .i32) 0],false,false,true⟩
def aKv:TI:=⟨true,(.slice 29),1,24,some (.list (.pair (.int .i64) (.pair (.int .i64) (.pair .str .unit)))),[.nils],false,false,true⟩
def aKw:TI:=⟨true,(.struct [(0,3),(1,3),(2,9)]),3,32,some (.pair (.int .i64) (.pair (.int .i64) (.pair .str .unit))),[.val (.int .i64) 0,.val (.int .i64) 0,.val .str []],false,false,true⟩
def aKx:TI:=⟨true,(.struct [(0,3),(1,3),(2,9)]),3,32,some (.pair (.int .i64) (.pair (.int .i64) (.pair .str .unit))),[.val (.int .i64) 0,.val (.int .i64) 0,.val .str []],true,false,true⟩
def aKy:TI:=⟨true,(.ptr 45),1,8,none,[.nilp],false,false,true⟩
def aKz:TI:=⟨true,(.struct [(0,3),(1,3),(2,3),(3,4)]),4,32,some (.pair (.int .i64) (.pair (.int .i64) (.pair (.int .i64) (.pair .bool .unit)))),[.val (.int .i64) 0,.val (.int .i64) 0,.val (.int .i64) 0,.val .bool false],false,false,true⟩
def aKA:TI:=⟨true,(.struct [(0,3),(1,3),(2,3),(3,4)]),4,32,some (.pair (.int .i64) (.pair (.int .i64) (.pair (.int .i64) (.pair .bool .unit)))),[.val (.int .i64) 0,.val (.int .i64) 0,.val (.int .i64) 0,.val .bool false],true,false,true⟩
def aKB:TI:=⟨true,(.slice 65),1,24,some (.list (.pair .str (.pair .bool .unit))),[.nils],false,false,true⟩
def aKC:TI:=⟨true,(.struct [(0,3),(1,38),(2,4)]),3,40,some (.pair (.int .i64) (.pair (.list (.pair .str (.pair .bool .unit))) (.pair .bool .unit))),[.val (.int .i64) 0,.nils,.val .bool false],false,false,true⟩
def aKD:TI:=⟨true,(.struct [(0,3),(1,38),(2,4)]),3,40,some (.pair (.int .i64) (.pair (.list (.pair .str (.pair .bool .unit))) (.pair .bool .unit))),[.val (.int .i64) 0,.nils,.val .bool false],false,false,false⟩
def aKE:TI:=⟨true,(.slice 35),1,24,some (.list (.pair (.int .i64) (.pair (.int .i64) (.pair (.int .i64) (.pair .bool .unit))))),[.nils],false,false,true⟩
def aKF:TI:=⟨true,(.slice 60),1,24,some (.list (.pair (.int .i64) (.pair .str (.pair (.int .i64) (.pair (.int .i64) .unit))))),[.nils],false,false,true⟩
def aKG:TI:=⟨true,(.slice 58),1,24,some (.list (.pair (.int .i64) (.pair (.int .i64) (.pair (.int .i64) (.pair (.int .i64) .unit))))),[.nils],false,false,true⟩
def aJL:TI:=⟨true,(.struct [(0,9),(1,41),(2,40),(5,42),(6,43)]),7,128,some (.pair .str (.pair (.list (.pair (.int .i64) (.pair (.int .i64) (.pair (.int .i64) (.pair .bool .unit))))) (.pair (.pair (.int .i64) (.pair (.list (.pair .str (.pair .bool .unit))) (.pair .bool .unit))) (.pair (.list (.pair (.int .i64) (.pair .str (.pair (.int .i64) (.pair (.int .i64) .unit))))) (.pair (.list (.pair (.int .i64) (.pair (.int .i64) (.pair (.int .i64) (.pair (.int .i64) .unit))))) .unit))))),[.val .str [],.nils,.val (.int .i64) 0,.nils,.val .bool false,.nils,.nils],false,false,true⟩
def aKH:TI:=⟨true,(.ptr 88),1,8,none,[.nilp],false,false,true⟩
def aKI:TI:=⟨true,(.struct [(0,3),(1,3),(2,3),(3,3)]),4,32,some (.pair (.int .i64) (.pair (.int .i64) (.pair (.int .i64) (.pair (.int .i64) .unit)))),[.val (.int .i64) 0,.val (.int .i64) 0,.val (.int .i64) 0,.val (.int .i64) 0],false,false,true⟩
def aKJ:TI:=⟨true,(.struct [(0,3),(1,3),(2,3),(3,3)]),4,32,some (.pair (.int .i64) (.pair (.int .i64) (.pair (.int .i64) (.pair (.int .i64) .unit)))),[.val (.int .i64) 0,.val (.int .i64) 0,.val (.int .i64) 0,.val (.int .i64) 0],true,false,true⟩
def aKK:TI:=⟨true,(.struct [(0,3),(1,9),(2,3),(3,3)]),4,40,some (.pair (.int .i64) (.pair .str (.pair (.int .i64) (.pair (.int .i64) .unit)))),[.val (.int .i64) 0,.val .str [],.val (.int .i64) 0,.val (.int .i64) 0],false,false,true⟩
def aKL:TI:=⟨true,(.struct [(0,3),(1,9),(2,3),(3,3)]),4,40,some (.pair (.int .i64) (.pair .str (.pair (.int .i64) (.pair (.int .i64) .unit)))),[.val (.int .i64) 0,.val .str [],.val (.int .i64) 0,.val (.int .i64) 0],true,false,true⟩
def aKM:TI:=⟨true,(.struct [(0,9),(1,4)]),2,24,some (.pair .str (.pair .bool .unit)),[.val .str [],.val .bool false],false,false,true⟩
def aKN:TI:=⟨true,(.struct [(0,9),(1,4)]),2,24,some (.pair .str (.pair .bool .unit)),[.val .str [],.val .bool false],true,false,true⟩
def aKO:TI:=⟨true,(.ptr 69),1,8,none,[.nilp],false,false,true⟩
def aKP:TI:=⟨true,(.slice 5),1,24,some (.list (.int .u8)),[.nils],false,false,true⟩
def aKQ:TI:=⟨true,(.struct [(0,66),(1,67)]),2,32,none,[.nilp,.nils],false,false,true⟩
def aKR:TI:=⟨true,(.struct [(0,66),(1,67)]),2,32,none,[.nilp,.nils],false,true,true⟩
def aKS:TI:=⟨true,(.slice 3),1,24,some (.list (.int .i64)),[.nils],false,false,true⟩
def aJM:TI:=⟨true,(.struct [(0,3),(1,80)]),2,32,some (.pair (.int .i64) (.pair (.list (.int .i64)) .unit)),[.val (.int .i64) 0,.nils],false,false,true⟩
def aKU:TI:=⟨true,(.ptr 101),1,8,none,[.nilp],false,false,true⟩
def aDk:TI:=⟨true,(.struct [(0,42),(1,9),(2,43),(3,3),(4,3),(5,3)]),6,88,some (.pair (.list (.pair (.int .i64) (.pair .str (.pair (.int .i64) (.pair (.int .i64) .unit))))) (.pair .str (.pair (.list (.pair (.int .i64) (.pair (.int .i64) (.pair (.int .i64) (.pair (.int .i64) .unit))))) (.pair (.int .i64) (.pair (.int .i64) (.pair (.int .i64) .unit)))))),[.nils,.val .str [],.nils,.val (.int .i64) 0,.val (.int .i64) 0,.val (.int .i64) 0],false,false,true⟩
def aJp:TI:=⟨true,(.ptr 5),1,8,none,[.nilp],false,false,true⟩
def aJq:TI:=⟨true,(.ptr 115),1,8,none,[.nilp],false,false,true⟩
def aDl:TI:=⟨true,(.struct [(0,42),(1,3),(2,43),(3,3),(4,3)]),5,72,some (.pair (.list (.pair (.int .i64) (.pair .str (.pair (.int .i64) (.pair (.int .i64) .unit))))) (.pair (.int .i64) (.pair (.list (.pair (.int .i64) (.pair (.int .i64) (.pair (.int .i64) (.pair (.int .i64) .unit))))) (.pair (.int .i64) (.pair (.int .i64) .unit))))),[.nils,.val (.int .i64) 0,.nils,.val (.int .i64) 0,.val (.int .i64) 0],false,false,true⟩
def aJs:TI:=⟨true,(.slice 9),1,24,some (.list .str),[.nils],false,false,true⟩
def aDm:TI:=⟨true,(.struct [(0,9),(1,80),(2,4)]),3,48,some (.pair .str (.pair (.list (.int .i64)) (.pair .bool .unit))),[.val .str [],.nils,.val .bool false],false,false,true⟩
def aJt:TI:=⟨true,(.slice 140),1,24,some (.list (.pair .bool (.pair .bool (.pair .str .unit)))),[.nils],false,false,true⟩
def aJu:TI:=⟨true,(.struct [(0,4),(1,4),(2,9)]),3,24,some (.pair .bool (.pair .bool (.pair .str .unit))),[.val .bool false,.val .bool false,.val .str []],false,false,true⟩
def aJv:TI:=⟨true,(.struct [(0,4),(1,4),(2,9)]),3,24,some (.pair .bool (.pair .bool (.pair .str .unit))),[.val .bool false,.val .bool false,.val .str []],true,false,true⟩
def aJw:TI:=⟨true,(.slice 161),1,24,some (.list (.pair (.int .i64) (.pair (.int .i64) (.pair (.int .i64) (.pair (.int .i64) (.pair .bool .unit)))))),[.nils],false,false,true⟩
def aJx:TI:=⟨true,(.struct [(0,3),(1,3),(2,3),(3,3),(4,4)]),5,40,some (.pair (.int .i64) (.pair (.int .i64) (.pair (.int .i64) (.pair (.int .i64) (.pair .bool .unit))))),[.val (.int .i64) 0,.val (.int .i64) 0,.val (.int .i64) 0,.val (.int .i64) 0,.val .bool false],false,false,true⟩
def aJy:TI:=⟨true,(.struct [(0,3),(1,3),(2,3),(3,3),(4,4)]),5,40,some (.pair (.int .i64) (.pair (.int .i64) (.pair (.int .i64) (.pair (.int .i64) (.pair .bool .unit))))),[.val (.int .i64) 0,.val (.int .i64) 0,.val (.int .i64) 0,.val (.int .i64) 0,.val .bool false],true,false,true⟩
def aJz:TI:=⟨true,(.int .u32),1,4,some (.int .u32),[.val (.int .u32) 0],false,false,true⟩
def aJA:TI:=⟨true,(.slice 134),1,24,some (.list (.pair .str (.pair (.list (.int .i64)) (.pair .bool .unit)))),[.nils],false,false,true⟩
def aJC:TI:=⟨true,(.ptr 213),1,8,none,[.nilp],false,false,true⟩
def aJD:TI:=⟨true,(.slice 211),1,24,some (.list (.pair (.int .i64) (.pair (.int .i64) .unit))),[.nils],false,false,true⟩
def aJE:TI:=⟨true,(.ptr 218),1,8,none,[.nilp],false,false,true⟩
def aJF:TI:=⟨true,(.ptr 205),1,8,none,[.nilp],false,false,true⟩
def aJG:TI:=⟨true,(.struct [(0,3),(1,3)]),2,16,some (.pair (.int .i64) (.pair (.int .i64) .unit)),[.val (.int .i64) 0,.val (.int .i64) 0],false,false,true⟩
def aJH:TI:=⟨true,(.struct [(0,3),(1,3)]),2,16,some (.pair (.int .i64) (.pair (.int .i64) .unit)),[.val (.int .i64) 0,.val (.int .i64) 0],true,false,true⟩
def aDn:TI:=⟨true,(.struct [(0,187),(1,4),(2,3)]),3,40,some (.pair (.list (.pair (.int .i64) (.pair (.int .i64) .unit))) (.pair .bool (.pair (.int .i64) .unit))),[.nils,.val .bool false,.val (.int .i64) 0],false,false,true⟩
def aJI:TI:=⟨true,(.map 3 3),1,8,none,[.undef],false,false,true⟩
def aDo:TI:=⟨true,(.struct [(0,9),(1,158),(2,216)]),3,48,none,[.val .str [],.nils,.undef],false,false,true⟩
def aJJ:TI:=⟨true,(.ptr 230),1,8,none,[.nilp],false,false,true⟩
def aDp:TI:=⟨true,(.struct [(0,158),(1,80)]),2,48,some (.pair (.list (.pair (.int .i64) (.pair (.int .i64) (.pair (.int .i64) (.pair (.int .i64) (.pair .bool .unit)))))) (.pair (.list (.int .i64)) .unit)),[.nils,.nils],false,false,true⟩
def aJK:TI:=⟨true,(.ptr 161),1,8,none,[.nilp],false,false,true⟩
def aDq:TI:=⟨true,(.struct [(0,5),(1,5)]),2,2,some (.pair (.int .u8) (.pair (.int .u8) .unit)),[.val (.int .u8) 0,.val (.int .u8) 0],false,false,true⟩
def aDr:TI:=⟨true,(.struct [(0,17),(1,17),(2,17),(3,9)]),4,40,none,[.nilp,.nilp,.nilp,.val .str []],false,false,true⟩
def aDs:TI:=⟨true,(.struct [(0,12),(1,12),(2,168),(3,251),(4,5),(5,5),(6,252),(7,253),(8,108),(9,254),(10,255)]),11,48,none,[.val (.int .u64) 0,.val (.int .u64) 0,.val (.int .u32) 0,.val (.int .u8) 0,.val (.int .u8) 0,.val (.int .u8) 0,.val (.int .u8) 0,.nilfn,.nilp,.val (.int .i32) 0,.val (.int .i32) 0],false,false,true⟩
def tt:TT:=(.node 122 iT (.node 60 aKL (.node 30 iT (.node 15 aKr (.node 8 ti7 (.node 4 ti4 (.node 2 ti2 (.node 1 iT .nil .nil) (.node 3 ti2 .nil .nil)) (.node 7 ti7 (.node 5 ti5 .nil .nil) .nil)) (.node 12 aHu (.node 10 ti9 (.node 9 ti9 .nil .nil) (.node 11 ti9 .nil .nil)) (.node 14 aJr (.node 13 aJr .nil .nil) .nil))) (.node 23 iT (.node 19 aJB (.node 17 aKt (.node 16 aKs .nil .nil) (.node 18 aJB .nil .nil)) (.node 22 iT (.node 21 aHv .nil .nil) .nil)) (.node 27 iT (.node 25 iT (.node 24 aKv .nil .nil) (.node 26 iT .nil .nil)) (.node 29 aKx (.node 28 aKw .nil .nil) .nil)))) (.node 45 aJL (.node 38 aKB (.node 34 aKz (.node 32 aKy (.node 31 iT .nil .nil) (.node 33 iT .nil .nil)) (.node 37 iT (.node 35 aKA .nil .nil) .nil)) (.node 42 aKF (.node 40 aKD (.node 39 aKC .nil .nil) (.node 41 aKE .nil .nil)) (.node 44 aJL (.node 43 aKG .nil .nil) .nil))) (.node 52 iT (.node 49 iT (.node 47 aKH (.node 46 iT .nil .nil) (.node 48 iT .nil .nil)) (.node 51 iT (.node 50 iT .nil .nil) .nil)) (.node 57 aKI (.node 55 iT (.node 54 iT .nil .nil) (.node 56 iT .nil .nil)) (.node 59 aKK (.node 58 aKJ .nil .nil) .nil))))) (.node 92 iT (.node 77 iT (.node 67 aKP (.node 64 aKM (.node 62 iT (.node 61 iT .nil .nil) (.node 63 iT .nil .nil)) (.node 66 aKO (.node 65 aKN .nil .nil) .nil)) (.node 71 iT (.node 69 aKR (.node 68 aKQ .nil .nil) (.node 70 iT .nil .nil)) (.node 76 iT (.node 72 iT .nil .nil) .nil))) (.node 84 iT (.node 81 iT (.node 79 iT (.node 78 iT .nil .nil) (.node 80 aKS .nil .nil)) (.node 83 iT (.node 82 iT .nil .nil) .nil)) (.node 88 aJM (.node 86 iT (.node 85 iT .nil .nil) (.node 87 aJM .nil .nil)) (.node 91 iT (.node 89 iT .nil .nil) .nil)))) (.node 109 iT (.node 101 aDk (.node 98 iT (.node 95 iT (.node 93 ti2 .nil .nil) (.node 97 iT .nil .nil)) (.node 100 aDk (.node 99 aKU .nil .nil) .nil)) (.node 106 iT (.node 103 iT (.node 102 iT .nil .nil) (.node 104 iT .nil .nil)) (.node 108 aJp (.node 107 iT .nil .nil) .nil))) (.node 116 iT (.node 113 aJq (.node 111 iT (.node 110 iT .nil .nil) (.node 112 iT .nil .nil)) (.node 115 aDl (.node 114 aDl .nil .nil) .nil)) (.node 119 iT (.node 118 iT (.node 117 iT .nil .nil) .nil) (.node 121 iT (.node 120 iT .nil .nil) .nil)))))) (.node 185 iT (.node 154 iT (.node 138 iT (.node 130 aJs (.node 126 iT (.node 124 iT (.node 123 iT .nil .nil) (.node 125 iT .nil .nil)) (.node 129 iT (.node 128 iT .nil .nil) .nil)) (.node 135 iT (.node 133 aDm (.node 132 iT .nil .nil) (.node 134 aDm .nil .nil)) (.node 137 aJt (.node 136 iT .nil .nil) .nil))) (.node 147 iT (.node 143 aHu (.node 140 aJv (.node 139 aJu .nil .nil) (.node 141 iT .nil .nil)) (.node 145 iT (.node 144 iT .nil .nil) .nil)) (.node 151 iT (.node 149 iT (.node 148 iT .nil .nil) (.node 150 iT .nil .nil)) (.node 153 iT (.node 152 aHu .nil .nil) .nil)))) (.node 171 iT (.node 161 aJy (.node 158 aJw (.node 156 iT (.node 155 iT .nil .nil) (.node 157 iT .nil .nil)) (.node 160 aJx (.node 159 iT .nil .nil) .nil)) (.node 166 iT (.node 164 iT (.node 163 iT .nil .nil) (.node 165 iT .nil .nil)) (.node 170 iT (.node 168 aJz .nil .nil) .nil))) (.node 178 iT (.node 175 iT (.node 173 iT (.node 172 iT .nil .nil) (.node 174 iT .nil .nil)) (.node 177 iT (.node 176 iT .nil .nil) .nil)) (.node 182 iT (.node 180 iT (.node 179 aJA .nil .nil) (.node 181 iT .nil .nil)) (.node 184 aJC (.node 183 iT .nil .nil) .nil))))) (.node 221 iT (.node 203 iT (.node 193 aJE (.node 190 iT (.node 187 aJD (.node 186 iT .nil .nil) (.node 189 iT .nil .nil)) (.node 192 iT (.node 191 iT .nil .nil) .nil)) (.node 197 iT (.node 195 iT (.node 194 iT .nil .nil) (.node 196 iT .nil .nil)) (.node 200 iT (.node 198 iT .nil .nil) .nil))) (.node 213 aDn (.node 210 aJG (.node 208 iT (.node 207 iT .nil .nil) (.node 209 aJF .nil .nil)) (.node 212 aDn (.node 211 aJH .nil .nil) .nil)) (.node 217 aDo (.node 215 iT (.node 214 iT .nil .nil) (.node 216 aJI .nil .nil)) (.node 219 iT (.node 218 aDo .nil .nil) .nil)))) (.node 237 aDq (.node 229 aDp (.node 226 iT (.node 224 iT (.node 222 iT .nil .nil) (.node 225 iT .nil .nil)) (.node 228 aJJ (.node 227 iT .nil .nil) .nil)) (.node 233 iT (.node 231 iT (.node 230 aDp .nil .nil) (.node 232 aJK .nil .nil)) (.node 235 iT (.node 234 iT .nil .nil) .nil))) (.node 247 aDr (.node 244 iT (.node 240 iT (.node 238 aDq .nil .nil) (.node 242 iT .nil .nil)) (.node 246 aDr (.node 245 iT .nil .nil) .nil)) (.node 255 aHv (.node 254 aHv (.node 253 iT .nil .nil) .nil) (.node 257 aDs (.node 256 aDs .nil .nil) .nil)))))))
theorem aBo {P:Program} {t:TypeId} {j:TypeInfo} {k:IntKind} (h:(P.info? t).map (·.zero)=some (some (.int k 0))) (hj:P.info? t=some j):j.zero=some (.int k 0):=by rw[hj]at h;simpa using h
theorem tkN {P:Program} {T:TT} {t:TypeId} {i:TI} (h1:(P.info? t).map (fun f=>(f.size,f.bytes,f.zero.map fun z=>(z.cells.toList.map wZ,z.cells.toList.all Value.oneCell')))=some (i.size,i.bytes,some (i.zero,true)):=by kernel_rfl)
  (h2:(P.underlying t).map kH=some (some i.k):=by kernel_rfl) (h3:(match i.ty with|none=>none|some _=>i.ty)=(match i.ty with|none=>none|some _=>lD T i.k):=by kernel_rfl) (h4:(match i.ty with|none=>true|some y=>Nat.beq y.size i.size)=true:=by kernel_rfl) (h5:(i.isAgg||Nat.beq i.size 1)=true:=by kernel_rfl)
  (h6:(!i.eq||(!P.eqGuardType P.depth t&&(!P.stoodInHeld t&&((P.underlying t).map (fun d=>match d with|.struct fs=>fs.toList.all fun f=>f.name != "_" |_=>false)).getD false)))=true:=by kernel_rfl)
  (h7:(P.underlying t).map (fun d=>match d with|.struct fs=>fs.toList.all fun f=>(P.info? f.type).isSome|_=>true)=some true:=by kernel_rfl) (h8:Nat.beq i.zero.length i.size=true:=by kernel_rfl)
  (h9:(match i.ty with|some (.int .u8)=>Nat.beq t oU|_=>true)=true:=by kernel_rfl) (h10:(!i.bld||Nat.beq t W9)=true:=by kernel_rfl)
  (h11:(match i.k with|.int _=>(P.info? t).map (fun j:TypeInfo=>j.zero)|_=>none)=(match i.k with|.int k=>some (some (Value.int k 0))|_=>none):=by kernel_rfl):aDB P T t i:=fun _=>by
 refine⟨h1,h2, ?_,fun y hy=> ?_, ?_,fun he=> ?_,h7,aj h8,fun hu=> ?_,fun hb=> ?_,fun k hk j hj=> ?_⟩
 ·cases hi:i.ty with
  |none=>exact .inl rfl
  |some y=>rw[hi]at h3;exact .inr h3
 ·rw[hy]at h4;exact aj h4
 ·rw[Bool.or_eq_true]at h5;exact h5.imp id aj
 ·rw[he]at h6;simp only[ay,Bool.false_or,af,Bool.not_eq_true']at h6;refine⟨h6.1,h6.2.1, ?_⟩;have h:=h6.2.2;generalize (P.underlying t).map _=o at h ⊢;cases o with
  |none=>cases h
  |some b=>exact congrArg some h
 ·rw[hu]at h9;exact aj h9
 ·rw[hb]at h10;exact aj h10
 ·rw[hk]at h11;exact aBo h11 hj
theorem tok:TOk prog tt:=TOk.of_all (by repeat' first|exact trivial|refine⟨tkN, ?_, ?_⟩)
def aFS (P:Program):Bool:=P.funcs.toList.all fun fn=>fn.body.isNone|| !(fn.name== "runtime.NumGoroutine")
theorem avl {P:Program} (h:aFS P=true):Js P:=fun f fn c hf hb=>by
 have h1:=List.all_eq_true.1 h fn (by have:=Array.mem_of_getElem? hf;simpa using this);simpa [hb] using h1
theorem Pj:Js prog:=avl (by kernel_rfl)
theorem mixed:prog.follows .mixedOrders=true:=by kernel_rfl
noncomputable def sg0 (g:FuncId):Option Sum:=bif Nat.beq g 220 then some ayf else none
theorem awD: ∀g s,sg0 g=some s->dH prog g s:=fun g s h=>by
 unfold sg0 at h;rw[cond_eq_ite]at h;split at h
 ·rename_i hg
  obtain rfl:g=220:=aj hg;cases h;exact(afV func220 (by kernel_rfl) (by kernel_rfl) (by kernel_rfl) (by kernel_rfl))
 cases h
def ark:Go.Shelf.Ren:=⟨fun|240=>55|276=>84|n=>n,fun|0=>0|4=>4|9=>9|20=>20|37=>67|70=>66|72=>69|164=>127|n=>n,fun n=>n⟩
theorem ajj:Go.Proofs.Lays.n240 prog ark:={
 mixed:=mixed,
 f240:=(func55).trans (by kernel_rfl),
 f276:=(func84).trans (by kernel_rfl),
 t0:=underlying0,a0:=isAgg0,z0:=sizeOf0,v0:=zeroValue0,
 t4:=underlying4,a4:=isAgg4,z4:=sizeOf4,v4:=zeroValue4,
 t9:=underlying9,a9:=isAgg9,z9:=sizeOf9,v9:=zeroValue9,
 t20:=underlying20,a20:=isAgg20,z20:=sizeOf20,v20:=zeroValue20,
 t70:=underlying66,a70:=isAgg66,z70:=sizeOf66,v70:=zeroValue66,
 t72:=underlying69,a72:=isAgg69,z72:=sizeOf69,v72:=zeroValue69,
 t164:=underlying127,a164:=isAgg127,z164:=sizeOf127,v164:=zeroValue127}
theorem aHZ:Go.Proofs.Builder.X72 prog ark:={sizeBuilder:=by kernel_rfl,liesBuilder:=by kernel_rfl}
theorem SG (g:FuncId) (h:JZ g=true):BD prog g:=by
 simp only[JZ,af]at h;obtain rfl:g=55:=aj h.1;exact fun w b hs hf=>⟨vz Pj func55 (show f55.body=some ((f55.body).getD .skip) by kernel_rfl) _ _,fun h0=>Any.Builder_copyCheck_used ajj aHZ b w h0,fun h0=>Any.Builder_copyCheck_fresh ajj aHZ b w h0 hs hf⟩
noncomputable def ary:Env:={P:=prog,T:=tt,cl:=true,kp:=fun _ _=>none,sg:=sg0,lp:=fun _ _=>none,bf:=JZ}
theorem afs: ∀E,sW prog E->agd E:=fun E h f k jy bd hr=>aBa h f k jy bd hr
theorem ajo:eu ary:=⟨tok,mixed,Pj,awD,fun f fn c _ _=>jC (fun _=>rfl) (fun _=>rfl) c,afs _ fun f fn c _ _=>jC (fun _=>rfl) (fun _=>rfl) c,SG,fun _ _ h=>by cases h⟩
abbrev xW:Ty:=(.pair .str (.pair .bool .unit))
def wG (l:List xW.den):Option (List xW.den):=bif dO l 24 then some l else none
theorem YX (xs:List xW.den):lF ary 1000000 (.call 137 [.lst xW xs false]) ⟨[],[],[],0⟩ (fun v st=>jo true [(.list xW,true)] (Qc 1 v) st.hp)=(bif dO xs 24 then some (xs,())else none):=by kernel_rfl
theorem YZ:lF ary 1000000 (.call 137 [.lst xW [] true]) ⟨[],[],[],0⟩ (fun v st=>match v,st.hp with|.nils,[]=>some ()|_,_=>none)=some ():=by kernel_rfl
def rP (l:List xW.den):Option (List xW.den×Unit):=match wG l with|some y=>some (y,())|none=>none
def PY:Sum:=⟨[.list xW],[(.list xW,true)],fun x=>rP x.1⟩
theorem xK:dH prog 137 PY:=by
 have base:=DD ajo (e:=xW) (e2:=xW) (g:=137) (f:=wG) (show 0<xW.size by decide) (show 0<xW.size by decide) (fun xs y h=>by
  unfold wG at h;rw[YX];cases hf:dO xs 24 with
  |true=>rw[hf]at h;cases h;rfl
  |false=>rw[hf]at h;cases h) fun y h=>by
  have e:wG []=some []:=rfl;rw[e]at h;cases h;exact⟨rfl,YZ⟩
 intro w bar args' x y hp hb hd hy;refine base w bar args' x y hp hb hd ?_;have hy:rP x.1=some y:=hy;unfold rP at hy;cases hc:wG x.1 with
 |none=>rw[hc]at hy;cases hy
 |some z=>rw[hc]at hy;simp only[hc];exact hy
abbrev xX:Ty:=(.pair (.int .i64) (.pair (.int .i64) .unit))
def rO (l:List xX.den):Option (List xX.den):=bif dO l 16 then some l else none
theorem YY (xs:List xX.den):lF ary 1000000 (.call 240 [.lst xX xs false]) ⟨[],[],[],0⟩ (fun v st=>jo true [(.list xX,true)] (Qc 1 v) st.hp)=(bif dO xs 16 then some (xs,())else none):=by kernel_rfl
theorem Y0:lF ary 1000000 (.call 240 [.lst xX [] true]) ⟨[],[],[],0⟩ (fun v st=>match v,st.hp with|.nils,[]=>some ()|_,_=>none)=some ():=by kernel_rfl
def oh (l:List xX.den):Option (List xX.den×Unit):=match rO l with|some y=>some (y,())|none=>none
def yZ:Sum:=⟨[.list xX],[(.list xX,true)],fun x=>oh x.1⟩
theorem xM:dH prog 240 yZ:=by
 have base:=DD ajo (e:=xX) (e2:=xX) (g:=240) (f:=rO) (show 0<xX.size by decide) (show 0<xX.size by decide) (fun xs y h=>by
  unfold rO at h;rw[YY];cases hf:dO xs 16 with
  |true=>rw[hf]at h;cases h;rfl
  |false=>rw[hf]at h;cases h) fun y h=>by
  have e:rO []=some []:=rfl;rw[e]at h;cases h;exact⟨rfl,Y0⟩
 intro w bar args' x y hp hb hd hy;refine base w bar args' x y hp hb hd ?_;have hy:oh x.1=some y:=hy;unfold oh at hy;cases hc:rO x.1 with
 |none=>rw[hc]at hy;cases hy
 |some z=>rw[hc]at hy;simp only[hc];exact hy
noncomputable def sg1 (g:FuncId):Option Sum:=bif Nat.beq g 137 then some PY else bif Nat.beq g 240 then some yZ else sg0 g
theorem awE: ∀g s,sg1 g=some s->dH prog g s:=fun g s h=>by
 unfold sg1 at h;rw[cond_eq_ite]at h;split at h
 ·rename_i hg
  obtain rfl:g=137:=aj hg;cases h;exact xK
 rw[cond_eq_ite]at h;split at h
 ·rename_i hg
  obtain rfl:g=240:=aj hg;cases h;exact xM
 exact awD g s h
noncomputable def aKe:Env:={P:=prog,T:=tt,cl:=true,kp:=fun _ _=>none,sg:=sg1,lp:=fun _ _=>none,bf:=JZ}
theorem aJP:eu aKe:=⟨tok,mixed,Pj,awE,fun f fn c _ _=>jC (fun _=>rfl) (fun _=>rfl) c,afs _ fun f fn c _ _=>jC (fun _=>rfl) (fun _=>rfl) c,SG,fun _ _ h=>by cases h⟩
end
section
open Go.ChangeShapes Go.WideShapes Go.RowKit
end
section
open Tryz
open Go.RowKit
theorem uQ {E:Env} {f:FuncId} {c:Code} {k:dW} {l la lb:SP} {ex exb:Ex} {D:Nat} {lp:Nat->l.den->Option (la.den⊕lb.den)}
  (st:{γ:Type}->(l.den->Option γ)->(la.den->Option γ)->(lb.den->Option γ)->l.den->Option γ)
  (hk:E.kp f (dn c)=some k:=by kernel_rfl) (h0: ∀v,lp 0 v=none:=by intro _;rfl) (hs: ∀n v,lp (n+1) v=st (lp n) (fun e=>some (.inl e)) (fun r=>some (.inr r)) v:=by intro _ _;rfl)
  (h1: ∀{R:Type} (d n:Nat) (K:Ex->St->Option R) (v:l.den),iter (some k) (xU E (d+D) f c) (n+1) (jO l v) K=st (fun v=>iter (some k) (xU E (d+D) f c) n (jO l v) K) (fun e=>K ex (jO la e)) (fun r=>K exb (jO lb r)) v:=by intro _ d n K v;kernel_rfl)
  (h2: ∀{γ δ:Type} (x:l.den->Option γ) (y:la.den->Option γ) (z:lb.den->Option γ) (v:l.den) (K:γ->Option δ),bz (st x y z v) K=st (fun v=>bz (x v) K) (fun e=>bz (y e) K) (fun r=>bz (z r) K) v):
  dG E f c (fD k l la lb ex (fun v=>lp bH v) D exb):=by
 refine aoM hk fun R d K v o h=>⟨bH, ?_⟩;have it: ∀(n:Nat) (v:l.den),iter (some k) (xU E (d+D) f c) n (jO l v) K=bz (lp n v) fun o=>dE o (fun a=>K ex (jO la a)) fun b=>K exb (jO lb b):=by
  intro n
  induction n with
  |zero=>intro v;rw[h0];rfl
  |succ n ih=>intro v;rw[h1,hs,h2,funext ih];rfl
 exact(it bH v).trans (congrArg (fun o=>bz o _) h)
theorem kW {E:Env} {f:FuncId} {c:Code} {k:dW} {l la lb:SQ} {ex exb:Ex} {D:Nat} {lp:Nat->l.den->Option (la.den⊕lb.den)}
  (st:{γ:Type}->(l.den->Option γ)->(la.den->Option γ)->(lb.den->Option γ)->l.den->Option γ)
  (hk:E.kp f (dn c)=some k:=by kernel_rfl) (h0: ∀v,lp 0 v=none:=by intro _;rfl) (hs: ∀n v,lp (n+1) v=st (lp n) (fun e=>some (.inl e)) (fun r=>some (.inr r)) v:=by intro _ _;rfl)
  (h1: ∀{R:Type} (d n:Nat) (K:Ex->St->Option R) (v:l.den),iter (some k) (xU E (d+D) f c) (n+1) (mG l v) K=st (fun v=>iter (some k) (xU E (d+D) f c) n (mG l v) K) (fun e=>K ex (mG la e)) (fun r=>K exb (mG lb r)) v:=by intro _ d n K v;kernel_rfl)
  (h2: ∀{γ δ:Type} (x:l.den->Option γ) (y:la.den->Option γ) (z:lb.den->Option γ) (v:l.den) (K:γ->Option δ),bz (st x y z v) K=st (fun v=>bz (x v) K) (fun e=>bz (y e) K) (fun r=>bz (z r) K) v):
  dG E f c (eX k l la lb ex (fun v=>lp bH v) D exb):=by
 refine ahy hk fun R d K v o h=>⟨bH, ?_⟩;have it: ∀(n:Nat) (v:l.den),iter (some k) (xU E (d+D) f c) n (mG l v) K=bz (lp n v) fun o=>dE o (fun a=>K ex (mG la a)) fun b=>K exb (mG lb b):=by
  intro n
  induction n with
  |zero=>intro v;rw[h0];rfl
  |succ n ih=>intro v;rw[h1,hs,h2,funext ih];rfl
 exact(it bH v).trans (congrArg (fun o=>bz o _) h)
theorem aHt {E:Env} (hE:eu E) {g:FuncId} {s:Sum} (hn:news s.rs<=1) (h: ∀x,U8 E g s.ps s.rs x=s.f x):dH E.P g s:=
 VJ hE hn fun x y hy=>(h x).trans hy
theorem fL {E:Env} {f:FuncId} {c:Code} {L:di} (h1:E.lp f (dn c)=some L) (h2:dG E f c L): ∀L',E.lp f (dn c)=some L'->dG E f c L':=fun L' h=>by
 simp_all
theorem fC {E:Env} {f:FuncId} {c:Code} {L:di} (h1:E.lp f (800000+dn c)=some L) (h2:xZ E f c L): ∀L',E.lp f (800000+dn c)=some L'->xZ E f c L':=fun L' h=>by
 simp_all
theorem aC {α:Type} {p:α->Prop} {a:α} {l:List α} (h:p a/\ ∀x∈l,p x): ∀x∈a::l,p x:=List.forall_mem_cons.2 h
theorem aN {α:Type} {p:α->Prop}: ∀x∈([]:List α),p x:=fun _ h=>absurd h List.not_mem_nil
theorem aDi {E:Env} (hE:eu E) {g:FuncId} {s:fP} (h: ∀x y,avY E g s.bt s.cs s.ps s.rs x y=s.f x y):dM E.P g s:=afU hE fun x y _ hy=>(h x y).trans hy
theorem nG {P:Program} {g:FuncId} {s:fP} (h: ∀x y,s.f x y=none):dM P g s:=fun W0 c x y z _ _ _ _ args' _ hz=>nomatch (show(none:Option _)=some z from(h x y).symm.trans hz)
theorem aD {α:Type} {p:α->Prop} {a:α} {l:List α} (h:p a) (h2: ∀x∈l,p x): ∀x∈a::l,p x:=aC ⟨h,h2⟩
theorem fM {E:Env} {f:FuncId} {c:Code} {L:di} (h2:dG E f c L) (h1:E.lp f (dn c)=some L:=by kernel_rfl): ∀L',E.lp f (dn c)=some L'->dG E f c L':=fL h1 h2
theorem sA {E:Env} (hE:eu E) {g:FuncId} {s:Sum} (hn:news s.rs<=1:=by decide) (h: ∀x,U8 E g s.ps s.rs x=s.f x:=by intro x;kernel_rfl):dH E.P g s:=aHt hE hn h
theorem sB {E:Env} (hE:eu E) {g:FuncId} {s:fP} (h: ∀x y,avY E g s.bt s.cs s.ps s.rs x y=s.f x y:=by intro x y;kernel_rfl):dM E.P g s:=aDi hE h
theorem nJ {E:Env} {f:FuncId} {c:Code} (l:List Code) (h: ∀d∈l,∀L,E.lp f (dn d)=some L->dG E f d L) (hl:iW c=l:=by kernel_rfl) (k:Z5 E f c=true:=by kernel_rfl) (hrf: ∀id,E.rf f id=false:=by intro _;rfl):dD E f c:=ahz c hrf (by rw[hl];exact h) k
theorem eA {f:FuncId} {sg:List (FuncId×Sum)} {kp:List (Nat×dW)} {lp:List (Nat×di)} {sb:List (FuncId×fP)} (fn:Func) (hs: ∀e∈sg,dH prog e.1 e.2) (hl:dD (iM prog tt f sg kp lp sb) f (fn.body.getD .skip):=by exact jC (fun _=>rfl) (fun _=>rfl) _) (hf:prog.funcs[f]? =some fn:=by kernel_rfl) (hb:fn.body=some (fn.body.getD .skip):=by kernel_rfl) (hx: ∀e∈sb,dM prog e.1 e.2:=by simp):eu (iM prog tt f sg kp lp sb):=asA tok mixed Pj hs hf hb hl afs SG hx
theorem eB {sg:List (FuncId×Sum)} {kp:List (FuncId×Nat×dW)} {lp:List (FuncId×Nat×di)} {rf:List FuncId} {sb:List (FuncId×fP)} (hs: ∀e∈sg,dH prog e.1 e.2) (fs:List FuncId) (hl: ∀g∈fs,∃fn c,prog.funcs[g]? =some fn/\fn.body=some c/\dD (gy prog tt sg kp lp rf sb) g c) (hx: ∀e∈sb,dM prog e.1 e.2:=by simp) (hall:(lp.all fun e=>fs.any fun g=>Nat.beq e.1 g)=true:=by kernel_rfl) (hall2:(rf.all fun e=>fs.any fun g=>Nat.beq e g)=true:=by kernel_rfl):eu (gy prog tt sg kp lp rf sb):=aog tok mixed Pj hs fs hall hall2 hl afs SG hx
theorem sE {g:FuncId} {s:Sum} {l:List (FuncId×Sum)} (h:dH prog g s) (h2: ∀e∈l,dH prog e.1 e.2): ∀e∈(g,s)::l,dH prog e.1 e.2:=aD (p:=fun e:FuncId×Sum=>dH prog e.1 e.2) h h2
theorem sF {g:FuncId} {s:fP} {l:List (FuncId×fP)} (h:dM prog g s) (h2: ∀e∈l,dM prog e.1 e.2): ∀e∈(g,s)::l,dM prog e.1 e.2:=aD (p:=fun e:FuncId×fP=>dM prog e.1 e.2) h h2
theorem qA {g:FuncId} {s:Sum} {sg:List (FuncId×Sum)} {sb:List (FuncId×fP)} (fn:Func) (kp:List (Nat×dW)) (hs: ∀e∈sg,dH prog e.1 e.2) (hx: ∀e∈sb,dM prog e.1 e.2:=by exact aN) (hf:prog.funcs[g]? =some fn:=by kernel_rfl) (hb:fn.body=some (fn.body.getD .skip):=by kernel_rfl) (h: ∀x,U8 (iM prog tt g sg kp [] sb) g s.ps s.rs x=s.f x:=by intro x;kernel_rfl) (hn:news s.rs<=1:=by decide):dH prog g s:=aHt (eA fn hs (hl:=jC (fun _=>by show(bif Nat.beq g g then none else none)=none;cases Nat.beq g g<;>rfl) (fun _=>rfl) _) (hf:=hf) (hb:=hb) (hx:=hx)) hn h
theorem qC {g:FuncId} {s:Sum} {sg:List (FuncId×Sum)} {sb:List (FuncId×fP)} (kp:List (FuncId×Nat×dW)) (hs: ∀e∈sg,dH prog e.1 e.2) (hx: ∀e∈sb,dM prog e.1 e.2:=by exact aN) (h: ∀x,U8 (gy prog tt sg kp [] [] sb) g s.ps s.rs x=s.f x:=by intro x;kernel_rfl) (hn:news s.rs<=1:=by decide):dH prog g s:=aHt (eB hs [] aN hx) hn h
theorem qB {g:FuncId} {s:fP} {sg:List (FuncId×Sum)} {sb:List (FuncId×fP)} (kp:List (FuncId×Nat×dW)) (hs: ∀e∈sg,dH prog e.1 e.2) (hx: ∀e∈sb,dM prog e.1 e.2:=by exact aN) (h: ∀x y,avY (gy prog tt sg kp [] [] sb) g s.bt s.cs s.ps s.rs x y=s.f x y:=by intro x y;kernel_rfl):dM prog g s:=aDi (eB hs [] aN hx) h
end
section
open Tryz
open Go.RowKit
def uY (x0:List nZ) (x1:Bool) (x2 x3:Int):Option (taN×(Unit)):=bif(fB x0 (dR .i64 (bC x0) 1))then bif(nD (dm (dR .i64 (bC x0) 1)) x0)then some (((ig x0 (dm (dR .i64 (bC x0) 1)) (x3,((dA x0 (0,(0,())) (dm (dR .i64 (bC x0) 1))).2.1,()))),(x1,(x2,()))),())else none else none
def axj:fP:=⟨213,tzC,[cO],[],fun x y=>uY x.1 x.2.1 x.2.2.1 y.1⟩
theorem Om:dM prog 206 axj:=qB [] aN
def xn (x0:List nZ) (x1:Bool) (x2:Int):Option (taN×(Unit)):=bif(gU 1 (bC x0))then bif(eU (bC x0) 0 (dR .i64 (bC x0) 1))then some (((takeN x0 (dm (dR .i64 (bC x0) 1))),(x1,(x2,()))),())else none else some ((x0,(x1,(x2,()))),())
def axk:fP:=⟨213,tzC,[],[],fun x y=>xn x.1 x.2.1 x.2.2.1⟩
theorem wU:dM prog 207 axk:=qB [] aN
def aj3 (x0:List nZ) (x1:Bool) (x2:Int):Option (taN×DT):=bif(fB x0 (CJ (dR .i64 (bC x0) 2) 0))then bif(nD (dm (CJ (dR .i64 (bC x0) 2) 0)) x0)then some ((x0,(x1,(x2,()))),((dA x0 (0,(0,())) (dm (CJ (dR .i64 (bC x0) 2) 0))).1,()))else none else none
def aHi:fP:=⟨213,tzC,[],[cO],fun x y=>aj3 x.1 x.2.1 x.2.2.1⟩
theorem ap1:dM prog 235 aHi:=qB [] aN
def OI (x0:List nZ) (x1:Bool) (x2 x3:Int):Option (taN×oP):=bif(bJ x3 40)then bz (uY x0 x1 x2 3) fun y0=>some ((y0.1.1,(true,(y0.1.2.2.1,()))),(true,()))else bif(bJ x3 123)then bz (aj3 x0 x1 x2) fun y0=>bif(bJ y0.2.1 5)then bif(bJ y0.2.1 5)then bz (uY y0.1.1 y0.1.2.1 y0.1.2.2.1 8) fun y1=>some ((y1.1.1,(y1.1.2.1,(y1.1.2.2.1,()))),(true,()))else bz (uY y0.1.1 y0.1.2.1 y0.1.2.2.1 7) fun y1=>some ((y1.1.1,(y1.1.2.1,(y1.1.2.2.1,()))),(true,()))else bif(bJ y0.2.1 8)then bz (uY y0.1.1 y0.1.2.1 y0.1.2.2.1 8) fun y1=>some ((y1.1.1,(y1.1.2.1,(y1.1.2.2.1,()))),(true,()))else bz (uY y0.1.1 y0.1.2.1 y0.1.2.2.1 7) fun y1=>some ((y1.1.1,(y1.1.2.1,(y1.1.2.2.1,()))),(true,()))else bif(bJ x3 36)then bz (xn x0 x1 x2) fun y0=>some ((y0.1.1,(y0.1.2.1,(y0.1.2.2.1,()))),(true,()))else bz (xn x0 x1 x2) fun y0=>some ((y0.1.1,(y0.1.2.1,(y0.1.2.2.1,()))),(false,()))
def axi:fP:=⟨213,tzC,[.int .u8],[.bool],fun x y=>OI x.1 x.2.1 x.2.2.1 y.1⟩
theorem apS:dM prog 205 axi:=qB [] aN (sF Om (sF wU (sF ap1 aN)))
noncomputable def adn:Code:=(f139.body).getD .skip
noncomputable def x9:Code:=cB (cB (cB (cB (cB (cB (cB (cA (cA (cB (adn))))))))))
noncomputable def yc:Code:=cB (cB (adn))
noncomputable def yf:Code:=cB (cA (cB (cA (cB (cB (adn))))))
noncomputable def yg:Code:=cB (cB (cB (cA (cB (cA (cB (cB (adn))))))))
def yA:dW:=⟨[0,18,900011],[],[0],[],[2],[]⟩
def yB:dW:=⟨[0,900012],[],[2],[],[2],[]⟩
def yC:dW:=⟨[33,34,900020],[],[],[],[2],[]⟩
def yD:dW:=⟨[42,900026],[],[],[],[2],[]⟩
def EG:SP:=⟨us [.v (.int .u8),.u,.u,.u,.u,.u,.u,.u,.u,.u,.u,.u,.u,.u,.u,.u,.u,.u,.v .bool] 29,[]⟩
def qZ:SP:=⟨us [.v (.int .u8)] 47,[]⟩
def ru:SP:=⟨us [.u,.u,.v cO] 45,[]⟩
def Dl {γ:Type} (kE kR:Int->Option γ) (v0:Int) (v1:Bool):Option γ:=bif v1 then kR 5 else kE v0
def kT (v0:Int) (v1:Bool):Option (qZ.den⊕ru.den):=Dl (fun e0=>some (.inl ((e0,()),()))) (fun r0=>some (.inr ((r0,()),()))) v0 v1
noncomputable def KD:di:=fD yA EG qZ ru (.exit 999999) (fun v=>kT v.1.1 v.1.2.1) 6
def EJ:SP:=⟨[.u,.u,.u,.u,.u,.u,.u,.u,.u,.u,.u,.u,.u,.u,.u,.u,.u,.u,.u,.u,.u,.u,.u,.u,.u,.u,.u,.u,.u,.u,.u,.u,.u,.u,.u,.u,.u,.u,.u,.u,.u,.u,.v .bool,.u,.u,.u,.u,.u],[]⟩
def vX:SP:=⟨us [] 48,[]⟩
def wu:SP:=⟨us [.u,.u,.v cO] 45,[]⟩
def Dq {γ:Type} (kE:Option γ) (kR:Int->Option γ) (v0:Bool):Option γ:=bif v0 then kR 4 else kE
def kU (v0:Bool):Option (vX.den⊕wu.den):=Dq (some (.inl ((),()))) (fun r0=>some (.inr ((r0,()),()))) v0
noncomputable def KG:di:=fD yD EJ vX wu (.exit 999999) (fun v=>kU v.1.1) 12
def EI:SP:=⟨us [.u,.u,.u,.u,.u,.u,.u,.u,.u,.u,.u,.u,.u,.u,.u,.u,.u,.u,.u,.u,.u,.u,.u,.u,.u,.u,.u,.u,.u,.u,.u,.u,.u,.v (.int .u8),.v .bool] 13,[]⟩
def vW:SP:=⟨us [] 48,[]⟩
def wo:SP:=⟨us [.u,.u,.v cO] 45,[]⟩
def Dp {γ:Type} (kE:Option γ) (kR:Int->Option γ) (v0:Int) (v1:Bool):Option γ:=bif v1 then kR 3 else bif(bJ v0 92)then bz (kU (bJ v0 92)) fun y0=>dE y0 (fun a1=>kE) (fun b1=>kR b1.1.1)else bif(bJ v0 39)then bz (kU (bJ v0 39)) fun y0=>dE y0 (fun a1=>kE) (fun b1=>kR b1.1.1)else bif(bJ v0 34)then bz (kU (bJ v0 34)) fun y0=>dE y0 (fun a1=>kE) (fun b1=>kR b1.1.1)else bif(bJ v0 96)then bz (kU (bJ v0 96)) fun y0=>dE y0 (fun a1=>kE) (fun b1=>kR b1.1.1)else bz (kU (bJ v0 36)) fun y0=>dE y0 (fun a1=>kE) (fun b1=>kR b1.1.1)
def jD (v0:Int) (v1:Bool):Option (vW.den⊕wo.den):=Dp (some (.inl ((),()))) (fun r0=>some (.inr ((r0,()),()))) v0 v1
noncomputable def KF:di:=fD yC EI vW wo (.exit 999999) (fun v=>jD v.1.1 v.1.2.1) 18
def EH:SP:=⟨us [.v (.int .u8)] 47,[]⟩
def vV:SP:=⟨[],[]⟩
def vZ:SP:=⟨us [.u,.u,.v cO] 45,[]⟩
def Dn {γ:Type} (kE:Option γ) (kR:Int->Option γ) (v0:Int):Option γ:=bif(bJ v0 124)then bz (jD v0 (bJ v0 124)) fun y0=>dE y0 (fun a1=>kR 0) (fun b1=>kR b1.1.1)else bif(bJ v0 38)then bz (jD v0 (bJ v0 38)) fun y0=>dE y0 (fun a1=>kR 0) (fun b1=>kR b1.1.1)else bif(bJ v0 59)then bz (jD v0 (bJ v0 59)) fun y0=>dE y0 (fun a1=>kR 0) (fun b1=>kR b1.1.1)else bif(bJ v0 60)then bz (jD v0 (bJ v0 60)) fun y0=>dE y0 (fun a1=>kR 0) (fun b1=>kR b1.1.1)else bif(bJ v0 62)then bz (jD v0 (bJ v0 62)) fun y0=>dE y0 (fun a1=>kR 0) (fun b1=>kR b1.1.1)else bif(bJ v0 40)then bz (jD v0 (bJ v0 40)) fun y0=>dE y0 (fun a1=>kR 0) (fun b1=>kR b1.1.1)else bz (jD v0 (bJ v0 41)) fun y0=>dE y0 (fun a1=>kR 0) (fun b1=>kR b1.1.1)
def vJ (v0:Int):Option (vV.den⊕vZ.den):=Dn (some (.inl ((),()))) (fun r0=>some (.inr ((r0,()),()))) v0
noncomputable def KE:di:=fD yB EH vV vZ (.exit 0) (fun v=>vJ v.1.1) 24
def JS (y0:qZ.den⊕ru.den):Option DT:=dE y0 (fun a1=>bz (vJ a1.1.1) fun y2=>dE y2 (fun a3=>none) (fun b3=>some (b3.1.1,()))) (fun b1=>some (b1.1.1,()))
def Ql (x0:Int):Option DT:=bif(leI 65 x0)then bif(leI x0 90)then bz (kT x0 (leI x0 90)) fun y0=>JS y0 else bz (kT x0 (bJ x0 95)) fun y0=>JS y0 else bz (kT x0 (bJ x0 95)) fun y0=>JS y0
def ajF (x0:Int):Option DT:=bif(bJ x0 10)then some (2,())else bif(leI 48 x0)then bif(leI x0 57)then some (6,())else bif(leI 97 x0)then bif(leI x0 122)then bz (kT x0 (leI x0 122)) fun y0=>JS y0 else Ql x0 else Ql x0 else bif(leI 97 x0)then bif(leI x0 122)then bz (kT x0 (leI x0 122)) fun y0=>JS y0 else Ql x0 else Ql x0
def Hu (x0:Int):Option DT:=bif(bJ x0 32)then bif(bJ x0 32)then some (1,())else ajF x0 else bif(bJ x0 9)then some (1,())else ajF x0
def aiS:Sum:=⟨[.int .u8],YG,fun x=>Hu x.1⟩
noncomputable def qi:Env:=iM prog tt 139 [] [(800011,yA),(800012,yB),(800020,yC),(800026,yD)] [(800011,KD),(800026,KG),(800020,KF),(800012,KE)]
theorem Vp {R:Type} (d:Nat) (K:Ex->St->Option R) (v0:Int) (v1:Bool):
  iter (some yA) (BM (xU qi (d+6) 139 x9)) 1 (jO EG ((v0,v1,()),())) K=
   Dl (fun e0=>K (.exit 999999) (jO qZ ((e0,()),()))) (fun r0=>K .ret (jO ru ((r0,()),()))) v0 v1:=by kernel_rfl
theorem ZC {R:Type} (d:Nat) (K:Ex->St->Option R) (v0:Int) (v1:Bool):
  iter (some yA) (BM (xU qi (d+6) 139 x9)) 1 (jO EG ((v0,v1,()),())) K=bz (kT v0 v1) fun o=>dE o (fun a=>K (.exit 999999) (jO qZ a)) fun b=>K .ret (jO ru b):=by
  rw[Vp];simp only[kT,Dl,bV,bW,bu,bQ,bY]
  try simp only[dE]
theorem aac:xZ qi 139 x9 KD:=D6 (by kernel_rfl) fun R d K v o h=>⟨1,(ZC d K (v.1.1) (v.1.2.1)).trans (congrArg (fun o=>bz o _) h)⟩
theorem Vs {R:Type} (d:Nat) (K:Ex->St->Option R) (v0:Bool):
  iter (some yD) (BM (xU qi (d+12) 139 yg)) 1 (jO EJ ((v0,()),())) K=
   Dq (K (.exit 999999) (jO vX ((),()))) (fun r0=>K .ret (jO wu ((r0,()),()))) v0:=by kernel_rfl
theorem ZG {R:Type} (d:Nat) (K:Ex->St->Option R) (v0:Bool):
  iter (some yD) (BM (xU qi (d+12) 139 yg)) 1 (jO EJ ((v0,()),())) K=bz (kU v0) fun o=>dE o (fun a=>K (.exit 999999) (jO vX a)) fun b=>K .ret (jO wu b):=by
  rw[Vs];simp only[kU,Dq,bV,bW,bu,bQ,bY]
  try simp only[dE]
theorem aaf:xZ qi 139 yg KG:=D6 (by kernel_rfl) fun R d K v o h=>⟨1,(ZG d K (v.1.1)).trans (congrArg (fun o=>bz o _) h)⟩
theorem Vr {R:Type} (d:Nat) (K:Ex->St->Option R) (v0:Int) (v1:Bool):
  iter (some yC) (BM (xU qi (d+18) 139 yf)) 1 (jO EI ((v0,v1,()),())) K=
   Dp (K (.exit 999999) (jO vW ((),()))) (fun r0=>K .ret (jO wo ((r0,()),()))) v0 v1:=by kernel_rfl
theorem ZF {R:Type} (d:Nat) (K:Ex->St->Option R) (v0:Int) (v1:Bool):
  iter (some yC) (BM (xU qi (d+18) 139 yf)) 1 (jO EI ((v0,v1,()),())) K=bz (jD v0 v1) fun o=>dE o (fun a=>K (.exit 999999) (jO vW a)) fun b=>K .ret (jO wo b):=by
  rw[Vr];simp only[jD,Dp,bV,bW,bu,bQ,bY]
  try simp only[dE]
theorem aae:xZ qi 139 yf KF:=D6 (by kernel_rfl) fun R d K v o h=>⟨1,(ZF d K (v.1.1) (v.1.2.1)).trans (congrArg (fun o=>bz o _) h)⟩
theorem Vq {R:Type} (d:Nat) (K:Ex->St->Option R) (v0:Int):
  iter (some yB) (BM (xU qi (d+24) 139 yc)) 1 (jO EH ((v0,()),())) K=
   Dn (K (.exit 0) (jO vV ((),()))) (fun r0=>K .ret (jO vZ ((r0,()),()))) v0:=by kernel_rfl
theorem ZE {R:Type} (d:Nat) (K:Ex->St->Option R) (v0:Int):
  iter (some yB) (BM (xU qi (d+24) 139 yc)) 1 (jO EH ((v0,()),())) K=bz (vJ v0) fun o=>dE o (fun a=>K (.exit 0) (jO vV a)) fun b=>K .ret (jO vZ b):=by
  rw[Vq];simp only[vJ,Dn,bV,bW,bu,bQ,bY]
  try simp only[dE]
theorem aad:xZ qi 139 yc KE:=D6 (by kernel_rfl) fun R d K v o h=>⟨1,(ZE d K (v.1.1)).trans (congrArg (fun o=>bz o _) h)⟩
theorem aEA:iW adn=[]:=by kernel_rfl
theorem aDT:Gf qi 139 adn=[x9,yc,yf,yg]:=by kernel_rfl
theorem aEQ:dD qi 139 adn:=yG adn (fun x _ hx=>absurd (show false=true from hx) (by decide)) (by rw[aEA];exact aN) (BZ (by rw[aDT];exact(aD (fC (by kernel_rfl) (aac)) (aD (fC (by kernel_rfl) (aad)) (aD (fC (by kernel_rfl) (aae)) (aD (fC (by kernel_rfl) (aaf)) aN))))))
theorem anE:eu qi:=eA f139 aN (aEQ)
theorem sS:dH prog 139 aiS:=sA anE
def Hw (x0:Int):Option oP:=bz (Hu x0) fun y0=>bif(bJ y0.1 1)then bif(bJ y0.1 1)then some (true,())else some (false,())else bif(bJ y0.1 2)then bif(bJ y0.1 2)then some (true,())else some (false,())else bif(bJ y0.1 3)then some (true,())else some (false,())
def aHf:Sum:=⟨[.int .u8],Ou,fun x=>Hw x.1⟩
theorem Yy:dH prog 204 aHf:=qA f204 [] (sE sS aN)
def xq (x0:List nZ) (x1:Bool) (x2 x3:Int):Option (taN×(Unit)):=bif(bJ x3 x3)then bif(bJ x2 x2)then bif(dO (bG x0 [(x3,(x2,()))]) 16)then bif(bJ x3 x3)then bif(bJ x2 x2)then bif((bJ x3 x3)&&((bJ x2 x2)&&true))then some (((bG x0 [(x3,(x2,()))]),(x1,(x2,()))),())else none else none else none else none else none else none
def aHk:fP:=⟨213,tzC,[cO],[],fun x y=>xq x.1 x.2.1 x.2.2.1 y.1⟩
theorem Bv:dM prog 237 aHk:=qB [] aN
def TB (x0:List nZ) (x1:Bool) (x2 x3:Int):Option (taN×oP):=bif(bJ x3 92)then bz (xq x0 x1 x2 13) fun y0=>some ((y0.1.1,(y0.1.2.1,(y0.1.2.2.1,()))),(true,()))else bif(bJ x3 36)then bz (xq x0 x1 x2 12) fun y0=>some ((y0.1.1,(y0.1.2.1,(y0.1.2.2.1,()))),(true,()))else bif(bJ x3 96)then bz (xq x0 x1 x2 6) fun y0=>some ((y0.1.1,(y0.1.2.1,(y0.1.2.2.1,()))),(true,()))else some ((x0,(x1,(x2,()))),(false,()))
def aHn:fP:=⟨213,tzC,[.int .u8],[.bool],fun x y=>TB x.1 x.2.1 x.2.2.1 y.1⟩
theorem Oo:dM prog 263 aHn:=qB [] aN (sF Bv aN)
def JV (x4:Int) (x0:List nZ) (x2:Int):Option (taN×(Unit)):=bz (Hw x4) fun y0=>some ((x0,(y0.1,(x2,()))),())
def Xt (x0:List nZ) (x1:Bool) (x2 x3 x4:Int):Option (taN×(Unit)):=bif(bJ x4 92)then bz (xq x0 x1 x2 13) fun y0=>some ((y0.1.1,(y0.1.2.1,(y0.1.2.2.1,()))),())else bif(bJ x4 35)then bif x1 then bz (xq x0 x1 x2 14) fun y0=>some ((y0.1.1,(y0.1.2.1,(y0.1.2.2.1,()))),())else JV x4 x0 x2 else bif(bJ x4 40)then bif(!(bJ x3 0))then bz (xq x0 x1 x2 2) fun y0=>bz (Hw x4) fun y1=>some ((y0.1.1,(y1.1,(y0.1.2.2.1,()))),())else JV x4 x0 x2 else bif(bJ x4 41)then bif(!(bJ x3 0))then bz (xn x0 x1 x2) fun y0=>some ((y0.1.1,((!(bJ x3 1)),(y0.1.2.2.1,()))),())else some ((x0,((!(bJ x3 1)),(x2,()))),())else bif(bJ x4 39)then bz (xq x0 x1 x2 4) fun y0=>bz (Hw x4) fun y1=>some ((y0.1.1,(y1.1,(y0.1.2.2.1,()))),())else bif(bJ x4 34)then bz (xq x0 x1 x2 5) fun y0=>bz (Hw x4) fun y1=>some ((y0.1.1,(y1.1,(y0.1.2.2.1,()))),())else bif(bJ x4 36)then bif(bJ x4 36)then bz (TB x0 x1 x2 x4) fun y0=>bz (Hw x4) fun y1=>some ((y0.1.1,(y1.1,(y0.1.2.2.1,()))),())else JV x4 x0 x2 else bif(bJ x4 96)then bz (TB x0 x1 x2 x4) fun y0=>bz (Hw x4) fun y1=>some ((y0.1.1,(y1.1,(y0.1.2.2.1,()))),())else JV x4 x0 x2
def aHj:fP:=⟨213,tzC,[cO,.int .u8],[],fun x y=>Xt x.1 x.2.1 x.2.2.1 y.1 y.2.1⟩
theorem ap2:dM prog 236 aHj:=qB [] (sE Yy aN) (sF wU (sF Bv (sF Oo aN)))
def aj6 (x0:List nZ) (x1:Bool) (x2 x3 x4:Int):Option (taN×(Unit)):=bz (TB x0 x1 x2 x4) fun y0=>bif y0.2.1 then some ((y0.1.1,(y0.1.2.1,(y0.1.2.2.1,()))),())else bif(bJ x4 40)then bz (xq y0.1.1 y0.1.2.1 y0.1.2.2.1 10) fun y1=>some ((y1.1.1,(y1.1.2.1,(y1.1.2.2.1,()))),())else bif(bJ x4 41)then bif(bJ x3 10)then bz (xn y0.1.1 y0.1.2.1 y0.1.2.2.1) fun y1=>some ((y1.1.1,(y1.1.2.1,(y1.1.2.2.1,()))),())else bif(bJ x4 41)then bz (uY y0.1.1 y0.1.2.1 y0.1.2.2.1 11) fun y1=>some ((y1.1.1,(y1.1.2.1,(y1.1.2.2.1,()))),())else some ((y0.1.1,(y0.1.2.1,(y0.1.2.2.1,()))),())else bif(bJ x4 41)then bz (uY y0.1.1 y0.1.2.1 y0.1.2.2.1 11) fun y1=>some ((y1.1.1,(y1.1.2.1,(y1.1.2.2.1,()))),())else some ((y0.1.1,(y0.1.2.1,(y0.1.2.2.1,()))),())
def aHl:fP:=⟨213,tzC,[cO,.int .u8],[],fun x y=>aj6 x.1 x.2.1 x.2.2.1 y.1 y.2.1⟩
theorem ap3:dM prog 238 aHl:=qB [] aN (sF Om (sF wU (sF Bv (sF Oo aN))))
def Zl (x4 x3:Int) (y0:(taN×oP)):Option (taN×(Unit)):=bif(bJ x4 39)then bif(bJ x3 7)then bz (xq y0.1.1 y0.1.2.1 y0.1.2.2.1 4) fun y1=>some ((y1.1.1,(y1.1.2.1,(y1.1.2.2.1,()))),())else some ((y0.1.1,(y0.1.2.1,(y0.1.2.2.1,()))),())else some ((y0.1.1,(y0.1.2.1,(y0.1.2.2.1,()))),())
def Zm (x4:Int) (y0:(taN×oP)) (x3:Int):Option (taN×(Unit)):=bif(bJ x4 34)then bz (xq y0.1.1 y0.1.2.1 y0.1.2.2.1 5) fun y1=>some ((y1.1.1,(y1.1.2.1,(y1.1.2.2.1,()))),())else bif(bJ x4 125)then bif(!(bJ x3 5))then bz (xn y0.1.1 y0.1.2.1 y0.1.2.2.1) fun y1=>some ((y1.1.1,(y1.1.2.1,(y1.1.2.2.1,()))),())else Zl x4 x3 y0 else Zl x4 x3 y0
def aj7 (x0:List nZ) (x1:Bool) (x2 x3 x4:Int):Option (taN×(Unit)):=bz (TB x0 x1 x2 x4) fun y0=>bif y0.2.1 then some ((y0.1.1,(y0.1.2.1,(y0.1.2.2.1,()))),())else bif(bJ x4 34)then bif(bJ x3 5)then bz (xn y0.1.1 y0.1.2.1 y0.1.2.2.1) fun y1=>some ((y1.1.1,(y1.1.2.1,(y1.1.2.2.1,()))),())else Zm x4 y0 x3 else Zm x4 y0 x3
def aHm:fP:=⟨213,tzC,[cO,.int .u8],[],fun x y=>aj7 x.1 x.2.1 x.2.2.1 y.1 y.2.1⟩
theorem ap4:dM prog 239 aHm:=qB [] aN (sF wU (sF Bv (sF Oo aN)))
def BR (x3:Int) (x0:List nZ) (x1:Bool) (x2 x4:Int):Option (taN×(Unit)):=bif(bJ x3 13)then bz (xn x0 x1 x2) fun y0=>bif y0.1.2.1 then some ((y0.1.1,((bJ x4 10),(y0.1.2.2.1,()))),())else some ((y0.1.1,(false,(y0.1.2.2.1,()))),())else bif(bJ x3 4)then bif(bJ x4 39)then bz (xn x0 x1 x2) fun y0=>some ((y0.1.1,(y0.1.2.1,(y0.1.2.2.1,()))),())else some ((x0,(x1,(x2,()))),())else bif(bJ x3 14)then bif(bJ x4 10)then bz (xn x0 x1 x2) fun y0=>some ((y0.1.1,(true,(y0.1.2.2.1,()))),())else some ((x0,(x1,(x2,()))),())else bif(bJ x3 6)then bif(bJ x4 96)then bz (xn x0 x1 x2) fun y0=>some ((y0.1.1,(y0.1.2.1,(y0.1.2.2.1,()))),())else bif(bJ x4 92)then bz (xq x0 x1 x2 13) fun y0=>some ((y0.1.1,(y0.1.2.1,(y0.1.2.2.1,()))),())else some ((x0,(x1,(x2,()))),())else bif(bJ x3 9)then bif(bJ x3 9)then bz (aj6 x0 x1 x2 x3 x4) fun y0=>some ((y0.1.1,(y0.1.2.1,(y0.1.2.2.1,()))),())else bz (aj7 x0 x1 x2 x3 x4) fun y0=>some ((y0.1.1,(y0.1.2.1,(y0.1.2.2.1,()))),())else bif(bJ x3 10)then bz (aj6 x0 x1 x2 x3 x4) fun y0=>some ((y0.1.1,(y0.1.2.1,(y0.1.2.2.1,()))),())else bz (aj7 x0 x1 x2 x3 x4) fun y0=>some ((y0.1.1,(y0.1.2.1,(y0.1.2.2.1,()))),())
def OJ (x0:List nZ) (x1:Bool) (x2 x3 x4:Int):Option (taN×(Unit)):=bif(bJ x3 0)then bif(bJ x3 0)then bz (Xt x0 x1 x2 x3 x4) fun y0=>some ((y0.1.1,(y0.1.2.1,(y0.1.2.2.1,()))),())else BR x3 x0 x1 x2 x4 else bif(bJ x3 1)then bif(bJ x3 1)then bz (Xt x0 x1 x2 x3 x4) fun y0=>some ((y0.1.1,(y0.1.2.1,(y0.1.2.2.1,()))),())else BR x3 x0 x1 x2 x4 else bif(bJ x3 2)then bz (Xt x0 x1 x2 x3 x4) fun y0=>some ((y0.1.1,(y0.1.2.1,(y0.1.2.2.1,()))),())else BR x3 x0 x1 x2 x4
def axl:fP:=⟨213,tzC,[cO,.int .u8],[],fun x y=>OJ x.1 x.2.1 x.2.2.1 y.1 y.2.1⟩
theorem apT:dM prog 208 axl:=qB [] aN (sF wU (sF ap2 (sF Bv (sF ap3 (sF ap4 aN)))))
noncomputable def aDK:Code:=(f174.body).getD .skip
noncomputable def YU:Code:=cA (cA (cA (cB (cB (cA (aDK))))))
def ahl:dW:=⟨[0,1,100002],[],[0],[],[],[]⟩
def pY:dW:=⟨[0,1],[],[],[],[],[]⟩
def aaB:SQ:=⟨us [.ptr 0 0,.v (.int .u8)] 63,[[.ptr 0 0]],[.arr 2000002 V5,.box 0 213 [.slc 2000002,.v .bool,.v cO],.arr 1 V5]⟩
def aa9:SQ:=⟨us [.ptr 0 0] 64,[[.ptr 0 0]],[.arr 2000002 V5,.box 0 213 [.slc 2000002,.v .bool,.v cO],.arr 1 V5]⟩
def abO:SQ:=⟨us [] 65,[[.ptr 0 0]],[]⟩
def acw {γ:Type} (rec:Int->(List nZ)->Bool->Int->(List nZ)->Option γ) (kE:(List nZ)->Bool->Int->(List nZ)->Option γ) (kR:Option γ) (v0:Int) (v1:List nZ) (v2:Bool) (v3:Int) (v4:List nZ):Option γ:=bif(fB v1 (dR .i64 (bC v1) 1))then bif(nD (dm (dR .i64 (bC v1) 1)) v1)then bif(bJ (dA v1 (0,(0,())) (dm (dR .i64 (bC v1) 1))).1 12)then bz (OI v1 v2 v3 v0) fun y0=>bif y0.2.1 then kE y0.1.1 y0.1.2.1 y0.1.2.2.1 v4 else rec v0 y0.1.1 y0.1.2.1 y0.1.2.2.1 v4 else bif(bJ (dA v1 (0,(0,())) (dm (dR .i64 (bC v1) 1))).1 3)then bif(bJ v0 40)then bz (uY v1 v2 v3 9) fun y0=>kE y0.1.1 false y0.1.2.2.1 v4 else bz (uY v1 v2 v3 1) fun y0=>rec v0 y0.1.1 y0.1.2.1 y0.1.2.2.1 v4 else bif(bJ (dA v1 (0,(0,())) (dm (dR .i64 (bC v1) 1))).1 11)then bif(bJ v0 41)then bz (xn v1 v2 v3) fun y0=>kE y0.1.1 y0.1.2.1 y0.1.2.2.1 v4 else bz (uY v1 v2 v3 9) fun y0=>rec v0 y0.1.1 y0.1.2.1 y0.1.2.2.1 v4 else bz (OJ v1 v2 v3 (dA v1 (0,(0,())) (dm (dR .i64 (bC v1) 1))).1 v0) fun y0=>kE y0.1.1 y0.1.2.1 y0.1.2.2.1 v4 else none else none
def ZW:Nat->Int->(List nZ)->Bool->Int->(List nZ)->Option (aa9.den⊕abO.den)
 |0,_,_,_,_,_=>none
 |n+1,v0,v1,v2,v3,v4=>acw (ZW n) (fun e0 e1 e2 e3=>some (.inl ((),((),()),(e0,(e1,e2,()),e3,())))) (some (.inr ((),((),()),()))) v0 v1 v2 v3 v4
def az5 (n:Nat) (v:aaB.den):=ZW n v.1.1 v.2.2.1 v.2.2.2.1.1 v.2.2.2.1.2.1 v.2.2.2.2.1
noncomputable def ZX:di:=eX ahl aaB aa9 abO (.exit 0) (az5 bH) 6
def KP:SQ:=⟨us [.ptr 0 0,.v (.int .u8)] 63,[[.ptr 0 0]],[.box 0 213 [.slc 1,.v .bool,.v cO],.arr 1 V5]⟩
def NF:SQ:=⟨us [.ptr 0 0] 64,[[.ptr 0 0]],[.box 0 213 [.slc 1,.v .bool,.v cO],.arr 1 V5]⟩
def NK:SQ:=⟨us [] 65,[[.ptr 0 0]],[]⟩
def Bg {γ:Type} (rec:Int->Bool->Int->(List nZ)->Option γ) (kE:Bool->Int->(List nZ)->Option γ) (kR:Option γ) (v0:Int) (v1:Bool) (v2:Int) (v3:List nZ):Option γ:=bif(fB v3 (dR .i64 (bC v3) 1))then bif(nD (dm (dR .i64 (bC v3) 1)) v3)then bif(bJ (dA v3 (0,(0,())) (dm (dR .i64 (bC v3) 1))).1 12)then bz (OI v3 v1 v2 v0) fun y0=>bif y0.2.1 then kE y0.1.2.1 y0.1.2.2.1 y0.1.1 else rec v0 y0.1.2.1 y0.1.2.2.1 y0.1.1 else bif(bJ (dA v3 (0,(0,())) (dm (dR .i64 (bC v3) 1))).1 3)then bif(bJ v0 40)then bz (uY v3 v1 v2 9) fun y0=>kE false y0.1.2.2.1 y0.1.1 else bz (uY v3 v1 v2 1) fun y0=>rec v0 y0.1.2.1 y0.1.2.2.1 y0.1.1 else bif(bJ (dA v3 (0,(0,())) (dm (dR .i64 (bC v3) 1))).1 11)then bif(bJ v0 41)then bz (xn v3 v1 v2) fun y0=>kE y0.1.2.1 y0.1.2.2.1 y0.1.1 else bz (uY v3 v1 v2 9) fun y0=>rec v0 y0.1.2.1 y0.1.2.2.1 y0.1.1 else bz (OJ v3 v1 v2 (dA v3 (0,(0,())) (dm (dR .i64 (bC v3) 1))).1 v0) fun y0=>kE y0.1.2.1 y0.1.2.2.1 y0.1.1 else none else none
def wJ:Nat->Int->Bool->Int->(List nZ)->Option (NF.den⊕NK.den)
 |0,_,_,_,_=>none
 |n+1,v0,v1,v2,v3=>Bg (wJ n) (fun e0 e1 e2=>some (.inl ((),((),()),((e0,e1,()),e2,())))) (some (.inr ((),((),()),()))) v0 v1 v2 v3
def aoQ (n:Nat) (v:KP.den):=wJ n v.1.1 v.2.2.1.1 v.2.2.1.2.1 v.2.2.2.1
noncomputable def Nq:di:=eX ahl KP NF NK (.exit 0) (aoQ bH) 12
def Xr (x0:List nZ) (x1:Bool) (x2 x3:Int):Option (taN×(Unit)):=bif(bJ (bC x0) 0)then bz (ZW bH x3 [(0,(0,()))] true 0 x0) fun y0=>dE y0 (fun a1=>some ((a1.2.2.1,(a1.2.2.2.1.1,((bU .i64 a1.2.2.2.1.2.1 1),()))),())) (fun b1=>none)else bz (wJ bH x3 x1 x2 x0) fun y0=>dE y0 (fun a1=>some ((a1.2.2.2.1,(a1.2.2.1.1,((bU .i64 a1.2.2.1.2.1 1),()))),())) (fun b1=>none)
def acZ:fP:=⟨213,tzC,[.int .u8],[],fun x y=>Xr x.1 x.2.1 x.2.2.1 y.1⟩
noncomputable def SY:Env:=gy prog tt [] [(174,2,ahl),(174,600001,pY)] [(174,2,mW ZX Nq)] [] [(205,axi),(206,axj),(207,axk),(208,axl)]
def amo {γ:Type} (a:aaB.den->Option γ) (b:aa9.den->Option γ) (c:abO.den->Option γ) (v:aaB.den):Option γ:=acw (fun v0 v1 v2 v3 v4=>a ((v0,()),((),()),(v1,(v2,v3,()),v4,()))) (fun e0 e1 e2 e3=>b ((),((),()),(e0,(e1,e2,()),e3,()))) (c ((),((),()),())) v.1.1 v.2.2.1 v.2.2.2.1.1 v.2.2.2.1.2.1 v.2.2.2.2.1
theorem aAJ:dG SY 174 YU ZX:=kW (amo) (h2:=by intros;simp only[amo,acw,bV,bW,bu,bQ,bY])
def Yc {γ:Type} (a:KP.den->Option γ) (b:NF.den->Option γ) (c:NK.den->Option γ) (v:KP.den):Option γ:=Bg (fun v0 v1 v2 v3=>a ((v0,()),((),()),((v1,v2,()),v3,()))) (fun e0 e1 e2=>b ((),((),()),((e0,e1,()),e2,()))) (c ((),((),()),())) v.1.1 v.2.2.1.1 v.2.2.1.2.1 v.2.2.2.1
theorem ao0:dG SY 174 YU Nq:=kW (Yc) (h2:=by intros;simp only[Yc,Bg,bV,bW,bu,bQ,bY])
theorem aE2:dD SY 174 aDK:=nJ [YU] (aD (fun L h=>by rw[show(SY).lp 174 (dn YU)=some (mW ZX Nq) by kernel_rfl]at h;cases h;exact rZ aAJ ao0) aN)
theorem anS:eu SY:=eB aN [174] (aD ⟨f174,aDK,by kernel_rfl,by kernel_rfl,aE2⟩ aN) (hx:=(aD apS (aD Om (aD wU (aD apT aN)))))
theorem Oj:dM prog 174 acZ:=sB anS
def Xv (x0:Int):Option DT:=bif(bJ x0 3)then some (1,())else bif(bJ x0 11)then some (9,())else some (x0,())
def axC:Sum:=⟨[cO],YG,fun x=>Xv x.1⟩
theorem ap9:dH prog 264 axC:=qA f264 [] aN
noncomputable def ayE:Code:=(Tryz.f241.body).getD .skip
noncomputable def aq7:Code:=cA (cA (cB (cA (cB (ayE)))))
noncomputable def aq8:Code:=cA (cA (cB (cB (cB (ayE)))))
def at6:dW:=⟨[0,1,2,6,100002],[],[0,1],[],[],[]⟩
def at7:dW:=⟨[0,77,78,79,100009],[],[],[],[],[]⟩
def aaJ:SQ:=⟨us [.ptr 0 0,.v (.list V5),.v cO,.u,.u,.u,.v cO] 141,[[.ptr 0 0]],[.box 0 230 [.slc 1,.slc 2],.arr 1 Jq,.arr 2 cO]⟩
def abj:SQ:=⟨us [.ptr 0 0,.v (.list V5)] 146,[[.ptr 0 0]],[.box 0 230 [.slc 1,.slc 2],.arr 1 Jq,.arr 2 cO]⟩
def abW:SQ:=⟨us [] 148,[[.ptr 0 0]],[]⟩
def jg (v4:iC) (v2:Int):=dA v4 0 (dm (dR .i64 v2 1))
def wO (v3:List iY) (v4:iC) (v2 v1:Int):=ig v3 (dm (jg v4 v2)) ((dA v3 (0,(0,(0,(0,(false,()))))) (dm (jg v4 v2))).1,((dA v3 (0,(0,(0,(0,(false,()))))) (dm (jg v4 v2))).2.1,((bU .i64 v1 1),((dA v3 (0,(0,(0,(0,(false,()))))) (dm (jg v4 v2))).2.2.2.1,((dA v3 (0,(0,(0,(0,(false,()))))) (dm (jg v4 v2))).2.2.2.2.1,())))))
def wP (v3:List iY) (v4:iC) (v2 v1:Int):=dA (wO v3 v4 v2 v1) (0,(0,(0,(0,(false,()))))) (dm (jg v4 v2))
def GR {γ:Type} (v3:List iY) (v4:iC) (v2 v1:Int) (rec:(List nZ)->Int->Int->(List iY)->iC->Option γ) (v0:List nZ):Option γ:=bif(fB v3 (jg v4 v2))then bif(nD (dm (jg v4 v2)) v3)then bif(fB (wO v3 v4 v2 v1) (jg v4 v2))then bif(nD (dm (jg v4 v2)) (wO v3 v4 v2 v1))then bif(eU (bC v4) 0 (dR .i64 v2 1))then rec v0 v1 (dR .i64 v2 1) (ig (wO v3 v4 v2 v1) (dm (jg v4 v2)) ((wP v3 v4 v2 v1).1,((wP v3 v4 v2 v1).2.1,((wP v3 v4 v2 v1).2.2.1,((wP v3 v4 v2 v1).2.2.2.1,(false,())))))) (takeN v4 (dm (dR .i64 v2 1)))else none else none else none else none else none
def Q9 {γ:Type} (rec:(List nZ)->Int->Int->(List iY)->iC->Option γ) (kE:(List nZ)->(List iY)->iC->Option γ) (kR:Option γ) (v0:List nZ) (v1 v2:Int) (v3:List iY) (v4:iC):Option γ:=bif(gU 0 v2)then bif(fB v4 (dR .i64 v2 1))then bif(nD (dm (dR .i64 v2 1)) v4)then bif(leI v2 (bC v0))then bif(fB v0 (dR .i64 v2 1))then bif(fB v3 (jg v4 v2))then bif(nD (dm (jg v4 v2)) v3)then bif(bJ (dQ v0 (0,(0,())) (dR .i64 v2 1)).2.1 (dA v3 (0,(0,(0,(0,(false,()))))) (dm (jg v4 v2))).2.1)then kE v0 v3 v4 else GR v3 v4 v2 v1 rec v0 else none else none else none else GR v3 v4 v2 v1 rec v0 else none else none else kE v0 v3 v4
def Kv:Nat->(List nZ)->Int->Int->(List iY)->iC->Option (abj.den⊕abW.den)
 |0,_,_,_,_,_=>none
 |n+1,v0,v1,v2,v3,v4=>Q9 (Kv n) (fun e0 e1 e2=>some (.inl ((e0,()),((),()),((),e1,e2,())))) (some (.inr ((),((),()),()))) v0 v1 v2 v3 v4
def aAd (n:Nat) (v:aaJ.den):=Kv n v.1.1 v.1.2.1 v.1.2.2.1 v.2.2.2.1 v.2.2.2.2.1
noncomputable def ak1:di:=eX at6 aaJ abj abW (.exit 0) (aAd bH) 6
def aaK:SQ:=⟨us [.ptr 0 0,.u,.u,.u,.u,.u,.u,.u,.u,.u,.u,.u,.u,.u,.u,.u,.u,.u,.u,.u,.u,.u,.u,.u,.u,.u,.u,.u,.u,.u,.u,.u,.u,.u,.u,.u,.u,.u,.u,.u,.u,.u,.u,.u,.u,.u,.u,.u,.u,.u,.u,.u,.u,.u,.u,.u,.u,.u,.u,.u,.u,.u,.u,.u,.u,.u,.u,.u,.u,.u,.u,.u,.u,.u,.u,.u,.u,.v (.list V5),.v cO,.v cO] 68,[[.ptr 0 0]],[.box 0 230 [.slc 1,.slc 2],.arr 1 Jq,.arr 2 cO]⟩
def abk:SQ:=⟨us [] 148,[[.ptr 0 0]],[.box 0 230 [.slc 1,.slc 2],.arr 1 Jq,.arr 2 cO]⟩
def abX:SQ:=⟨us [] 148,[[.ptr 0 0]],[]⟩
def jW (v3:List iY) (v4:iC) (v2:Int):=dA v3 (0,(0,(0,(0,(false,()))))) (dm (dA v4 0 (dm v2)))
def lN (v0:List nZ) (v2:Int):=bJ (dQ v0 (0,(0,())) v2).2.1 (dQ v0 (0,(0,())) v2).2.1
def lQ (v0:List nZ) (v2:Int):=bJ (dQ v0 (0,(0,())) v2).1 (dQ v0 (0,(0,())) v2).1
def Du {γ:Type} (rec:(List nZ)->Int->Int->(List iY)->iC->Option γ) (kE:(List iY)->iC->Option γ) (kR:Option γ) (v0:List nZ) (v1 v2:Int) (v3:List iY) (v4:iC):Option γ:=bif(gU v2 v1)then bif(fB v0 v2)then bif(gU v2 (bC v4))then bif(fB v4 v2)then bif(nD (dm v2) v4)then bz (Xv (dQ v0 (0,(0,())) v2).1) fun y0=>bif(fB v3 (dA v4 0 (dm v2)))then bif(nD (dm (dA v4 0 (dm v2))) v3)then bif(fB (ig v3 (dm (dA v4 0 (dm v2))) (y0.1,((jW v3 v4 v2).2.1,((jW v3 v4 v2).2.2.1,((jW v3 v4 v2).2.2.2.1,((jW v3 v4 v2).2.2.2.2.1,())))))) (dA v4 0 (dm v2)))then bif((eqN (dm (dA v4 0 (dm v2))) (dm (dA v4 0 (dm v2))))&&true)then rec v0 v1 (bU .i64 v2 1) (ig v3 (dm (dA v4 0 (dm v2))) (y0.1,((jW v3 v4 v2).2.1,((jW v3 v4 v2).2.2.1,((jW v3 v4 v2).2.2.2.1,((jW v3 v4 v2).2.2.2.2.1,())))))) v4 else none else none else none else none else none else none else bif(gU 0 v2)then bif(fB v4 (dR .i64 v2 1))then bif(nD (dm (dR .i64 v2 1)) v4)then bif(dO (bG v4 [(bC v3)]) 8)then bif(bJ (bC v3) (bC v3))then bz (Xv (dQ v0 (0,(0,())) v2).1) fun y0=>bif(lQ v0 v2)then bif(lN v0 v2)then bif(bJ (dA v4 0 (dm (dR .i64 v2 1))) (dA v4 0 (dm (dR .i64 v2 1))))then bif(((lQ v0 v2)&&true)&&((bJ y0.1 y0.1)&&true))then bif(dO (bG v3 [(y0.1,((dQ v0 (0,(0,())) v2).2.1,(0,((dA v4 0 (dm (dR .i64 v2 1))),(true,())))))]) 40)then bif(lQ v0 v2)then bif(lN v0 v2)then bif(bJ (dA v4 0 (dm (dR .i64 v2 1))) (dA v4 0 (dm (dR .i64 v2 1))))then bif((bJ y0.1 y0.1)&&((lN v0 v2)&&((bJ 0 0)&&((bJ (dA v4 0 (dm (dR .i64 v2 1))) (dA v4 0 (dm (dR .i64 v2 1))))&&((jl true true)&&true)))))then rec v0 v1 (bU .i64 v2 1) (bG v3 [(y0.1,((dQ v0 (0,(0,())) v2).2.1,(0,((dA v4 0 (dm (dR .i64 v2 1))),(true,())))))]) (bG v4 [(bC v3)])else none else none else none else none else none else none else none else none else none else none else none else none else none else bif(dO (bG v4 [(bC v3)]) 8)then bif(bJ (bC v3) (bC v3))then bz (Xv (dQ v0 (0,(0,())) v2).1) fun y0=>bif(lQ v0 v2)then bif(lN v0 v2)then bif(bJ (-1) (-1))then bif(((lQ v0 v2)&&true)&&((bJ y0.1 y0.1)&&true))then bif(dO (bG v3 [(y0.1,((dQ v0 (0,(0,())) v2).2.1,(0,((-1),(true,())))))]) 40)then bif(lQ v0 v2)then bif(lN v0 v2)then bif(bJ (-1) (-1))then bif((bJ y0.1 y0.1)&&((lN v0 v2)&&((bJ 0 0)&&((bJ (-1) (-1))&&((jl true true)&&true)))))then rec v0 v1 (bU .i64 v2 1) (bG v3 [(y0.1,((dQ v0 (0,(0,())) v2).2.1,(0,((-1),(true,())))))]) (bG v4 [(bC v3)])else none else none else none else none else none else none else none else none else none else none else none else none else kE v3 v4
def tC:Nat->(List nZ)->Int->Int->(List iY)->iC->Option (abk.den⊕abX.den)
 |0,_,_,_,_,_=>none
 |n+1,v0,v1,v2,v3,v4=>Du (tC n) (fun e0 e1=>some (.inl ((),((),()),((),e0,e1,())))) (some (.inr ((),((),()),()))) v0 v1 v2 v3 v4
def aAe (n:Nat) (v:aaK.den):=tC n v.1.1 v.1.2.1 v.1.2.2.1 v.2.2.2.1 v.2.2.2.2.1
noncomputable def ak2:di:=eX at7 aaK abk abX (.exit 2) (aAe bH) 12
def ad2 (x0:List iY) (x1:iC) (x2:List nZ) (x3:Int):Option (((List iY)×iC×Unit)×(Unit)):=bif(eU (bC x2) 1 (bC x2))then bz (Kv bH (sub x2 1 (bC x2)) x3 (bC x1) x0 x1) fun y0=>dE y0 (fun a1=>bz (tC bH a1.1.1 (bC a1.1.1) 0 a1.2.2.2.1 a1.2.2.2.2.1) fun y2=>dE y2 (fun a3=>some ((a3.2.2.2.1,(a3.2.2.2.2.1,())),())) (fun b3=>none)) (fun b1=>none)else none
def axv:fP:=⟨230,[(.list Jq,true),(.list cO,true)],[.list V5,cO],[],fun x y=>ad2 x.1 x.2.1 y.1 y.2.1⟩
noncomputable def Y9:Env:=gy prog tt [(264,axC)] [(241,2,at6),(241,9,at7)] [(241,2,ak1),(241,9,ak2)] []
def amy {γ:Type} (a:aaJ.den->Option γ) (b:abj.den->Option γ) (c:abW.den->Option γ) (v:aaJ.den):Option γ:=Q9 (fun v0 v1 v2 v3 v4=>a ((v0,v1,v2,()),((),()),((),v3,v4,()))) (fun e0 e1 e2=>b ((e0,()),((),()),((),e1,e2,()))) (c ((),((),()),())) v.1.1 v.1.2.1 v.1.2.2.1 v.2.2.2.1 v.2.2.2.2.1
theorem aAR:dG Y9 241 aq7 ak1:=kW (amy) (h2:=by intros;simp only[amy,Q9,bV,bW,bu,bQ,bY,jg,wO,wP,GR])
def amz {γ:Type} (a:aaK.den->Option γ) (b:abk.den->Option γ) (c:abX.den->Option γ) (v:aaK.den):Option γ:=Du (fun v0 v1 v2 v3 v4=>a ((v0,v1,v2,()),((),()),((),v3,v4,()))) (fun e0 e1=>b ((),((),()),((),e0,e1,()))) (c ((),((),()),())) v.1.1 v.1.2.1 v.1.2.2.1 v.2.2.2.1 v.2.2.2.2.1
theorem aAS:dG Y9 241 aq8 ak2:=kW (amz) (h2:=by intros;simp only[amz,Du,bV,bW,bu,bQ,bY,jW,lN,lQ])
theorem aFa:dD Y9 241 ayE:=nJ [aq7,aq8] (aD (fM (aAR)) (aD (fM (aAS)) aN))
theorem an5:eu Y9:=eB (aD ap9 aN) [241] (aD ⟨Tryz.f241,ayE,by kernel_rfl,by kernel_rfl,aFa⟩ aN)
theorem ap5:dM prog 241 axv:=sB an5
def adZ (x0:Int):Option oP:=bz (Hu x0) fun y0=>some ((bJ y0.1 6),())
def aiV:Sum:=⟨[.int .u8],Ou,fun x=>adZ x.1⟩
theorem Yw:dH prog 188 aiV:=qA f188 [] (sE sS aN)
noncomputable def RU:Code:=(f187.body).getD .skip
noncomputable def SB:Code:=cA (cA (cA (cB (cB (cB (cA (cB (RU))))))))
def xw:dW:=⟨[0,1,2,7,188000004],[],[7],[],[6],[]⟩
def O0:dW:=⟨[0,1,2,7],[],[],[],[],[]⟩
def CY:SQ:=⟨us [.v .str,.v cO,.fn 188 [],.u,.u,.u,.u,.v cO] 25,[[.v .str,.v cO,.u,.u,.u,.v .str,.v cO,.u],[]],[]⟩
def EP:SQ:=⟨us [.u,.u,.u,.u,.u,.u,.u,.v cO] 25,[[.v .str,.v cO,.u,.u,.u,.v .str,.v cO,.u],[]],[]⟩
def EX:SQ:=⟨us [] 33,[[.v .str,.v cO,.u,.u,.u,.v .str,.v cO,.u],[]],[]⟩
def yX {γ:Type} (rec:bM->Int->Int->bM->Int->bM->Int->Option γ) (kE:Int->bM->Int->bM->Int->Option γ) (kR:bM->Int->bM->Int->Option γ) (v0:bM) (v1 v2:Int) (v3:bM) (v4:Int) (v5:bM) (v6:Int):Option γ:=bif(gU (bU .i64 v1 v2) (bC v0))then bif(fB v0 (bU .i64 v1 v2))then bz (adZ (bT v0 (bU .i64 v1 v2))) fun y0=>bif(!y0.1)then kE v2 v3 v4 v5 v6 else rec v0 v1 (bU .i64 v2 1) v3 v4 v5 v6 else none else kE v2 v3 v4 v5 v6
def qE:Nat->bM->Int->Int->bM->Int->bM->Int->Option (EP.den⊕EX.den)
 |0,_,_,_,_,_,_,_=>none
 |n+1,v0,v1,v2,v3,v4,v5,v6=>yX (qE n) (fun e0 e1 e2 e3 e4=>some (.inl ((e0,()),((e1,e2,e3,e4,()),(),()),()))) (fun r0 r1 r2 r3=>some (.inr ((),((r0,r1,r2,r3,()),(),()),()))) v0 v1 v2 v3 v4 v5 v6
def aeM (n:Nat) (v:CY.den):=qE n v.1.1 v.1.2.1 v.1.2.2.1 v.2.1.1.1 v.2.1.1.2.1 v.2.1.1.2.2.1 v.2.1.1.2.2.2.1
noncomputable def Pg:di:=eX xw CY EP EX (.exit 0) (aeM bH) 6
def Aq (x0:bM) (x1:Int):Option DT:=bif(gU x1 0)then some (0,())else bif(leI (bC x0) x1)then some (0,())else bz (qE bH x0 x1 0 x0 x1 x0 x1) fun y0=>dE y0 (fun a1=>some (a1.1.1,())) (fun b1=>none)
def aG4:Sum:=⟨[.str,cO],YG,fun x=>Aq x.1 x.2.1⟩
noncomputable def agE:Env:=gy prog tt [(188,aiV)] [(187,4,xw),(154,600001,pY),(187,600006,O0)] [(187,4,Pg)] []
def PQ {γ:Type} (a:CY.den->Option γ) (b:EP.den->Option γ) (c:EX.den->Option γ) (v:CY.den):Option γ:=yX (fun v0 v1 v2 v3 v4 v5 v6=>a ((v0,v1,v2,()),((v3,v4,v5,v6,()),(),()),())) (fun e0 e1 e2 e3 e4=>b ((e0,()),((e1,e2,e3,e4,()),(),()),())) (fun r0 r1 r2 r3=>c ((),((r0,r1,r2,r3,()),(),()),())) v.1.1 v.1.2.1 v.1.2.2.1 v.2.1.1.1 v.2.1.1.2.1 v.2.1.1.2.2.1 v.2.1.1.2.2.2.1
theorem afb:dG agE 187 SB Pg:=kW (PQ) (h2:=by intros;simp only[PQ,yX,bV,bW,bu,bQ,bY])
theorem ahv:dD agE 187 RU:=nJ [SB] (aD (fM (afb)) aN)
theorem anM:eu agE:=eB (aD Yw aN) [187] (aD ⟨f187,RU,by kernel_rfl,by kernel_rfl,ahv⟩ aN)
theorem Oi:dH prog 154 aG4:=sA anM
def ad4 (x0:Int):Option oP:=bz (Hu x0) fun y0=>some ((bJ y0.1 5),())
def axD:Sum:=⟨[.int .u8],Ou,fun x=>ad4 x.1⟩
theorem aqb:dH prog 273 axD:=qA f273 [] (sE sS aN)
noncomputable def RX:Code:=(f187.body).getD .skip
noncomputable def BI:Code:=cA (cA (cA (cB (cB (cB (cA (cB (RX))))))))
def C9:SQ:=⟨us [.v .str,.v cO,.fn 274 [],.u,.u,.u,.u,.v cO] 25,[[.v .str,.v cO,.u,.u,.u,.u,.u,.u,.u,.v .str,.v cO,.u],[]],[]⟩
def ER:SQ:=⟨us [.u,.u,.u,.u,.u,.u,.u,.v cO] 25,[[.v .str,.v cO,.u,.u,.u,.u,.u,.u,.u,.v .str,.v cO,.u],[]],[]⟩
def EZ:SQ:=⟨us [] 33,[[.v .str,.v cO,.u,.u,.u,.u,.u,.u,.u,.v .str,.v cO,.u],[]],[]⟩
def yY {γ:Type} (rec:bM->Int->Int->bM->Int->bM->Int->Option γ) (kE:Int->bM->Int->bM->Int->Option γ) (kR:bM->Int->bM->Int->Option γ) (v0:bM) (v1 v2:Int) (v3:bM) (v4:Int) (v5:bM) (v6:Int):Option γ:=bif(gU (bU .i64 v1 v2) (bC v0))then bif(fB v0 (bU .i64 v1 v2))then bz (ad4 (bT v0 (bU .i64 v1 v2))) fun y0=>bif y0.1 then rec v0 v1 (bU .i64 v2 1) v3 v4 v5 v6 else bz (adZ (bT v0 (bU .i64 v1 v2))) fun y1=>bif(!y1.1)then kE v2 v3 v4 v5 v6 else rec v0 v1 (bU .i64 v2 1) v3 v4 v5 v6 else none else kE v2 v3 v4 v5 v6
def nU:Nat->bM->Int->Int->bM->Int->bM->Int->Option (ER.den⊕EZ.den)
 |0,_,_,_,_,_,_,_=>none
 |n+1,v0,v1,v2,v3,v4,v5,v6=>yY (nU n) (fun e0 e1 e2 e3 e4=>some (.inl ((e0,()),((e1,e2,e3,e4,()),(),()),()))) (fun r0 r1 r2 r3=>some (.inr ((),((r0,r1,r2,r3,()),(),()),()))) v0 v1 v2 v3 v4 v5 v6
def aeO (n:Nat) (v:C9.den):=nU n v.1.1 v.1.2.1 v.1.2.2.1 v.2.1.1.1 v.2.1.1.2.1 v.2.1.1.2.2.1 v.2.1.1.2.2.2.1
noncomputable def Ew:di:=eX xw C9 ER EZ (.exit 0) (aeO bH) 6
def vT:SQ:=⟨us [.v .str,.v cO,.fn 273 [],.u,.u,.u,.u,.v cO] 25,[[.v .str,.v cO,.u,.u,.u,.v .str,.v cO,.u,.u,.u,.u,.u],[]],[]⟩
def zG:SQ:=⟨us [.u,.u,.u,.u,.u,.u,.u,.v cO] 25,[[.v .str,.v cO,.u,.u,.u,.v .str,.v cO,.u,.u,.u,.u,.u],[]],[]⟩
def zM:SQ:=⟨us [] 33,[[.v .str,.v cO,.u,.u,.u,.v .str,.v cO,.u,.u,.u,.u,.u],[]],[]⟩
def uf {γ:Type} (rec:bM->Int->Int->bM->Int->bM->Int->Option γ) (kE:Int->bM->Int->bM->Int->Option γ) (kR:bM->Int->bM->Int->Option γ) (v0:bM) (v1 v2:Int) (v3:bM) (v4:Int) (v5:bM) (v6:Int):Option γ:=bif(gU (bU .i64 v1 v2) (bC v0))then bif(fB v0 (bU .i64 v1 v2))then bz (ad4 (bT v0 (bU .i64 v1 v2))) fun y0=>bif(!y0.1)then kE v2 v3 v4 v5 v6 else rec v0 v1 (bU .i64 v2 1) v3 v4 v5 v6 else none else kE v2 v3 v4 v5 v6
def mM:Nat->bM->Int->Int->bM->Int->bM->Int->Option (zG.den⊕zM.den)
 |0,_,_,_,_,_,_,_=>none
 |n+1,v0,v1,v2,v3,v4,v5,v6=>uf (mM n) (fun e0 e1 e2 e3 e4=>some (.inl ((e0,()),((e1,e2,e3,e4,()),(),()),()))) (fun r0 r1 r2 r3=>some (.inr ((),((r0,r1,r2,r3,()),(),()),()))) v0 v1 v2 v3 v4 v5 v6
def Ws (n:Nat) (v:vT.den):=mM n v.1.1 v.1.2.1 v.1.2.2.1 v.2.1.1.1 v.2.1.1.2.1 v.2.1.1.2.2.1 v.2.1.1.2.2.2.1
noncomputable def zx:di:=eX xw vT zG zM (.exit 0) (Ws bH) 12
def Zp (x1:Int) (x0:bM):Option DT:=bif(bJ 0 0)then some (0,())else bif(gU x1 0)then some (0,())else bif(leI (bC x0) x1)then some (0,())else bz (nU bH x0 x1 0 x0 x1 x0 x1) fun y0=>dE y0 (fun a1=>some (a1.1.1,())) (fun b1=>none)
def TC (x0:bM) (x1:Int):Option DT:=bif(gU x1 0)then Zp x1 x0 else bif(leI (bC x0) x1)then Zp x1 x0 else bz (mM bH x0 x1 0 x0 x1 x0 x1) fun y0=>dE y0 (fun a1=>bif(bJ a1.1.1 0)then some (0,())else bif(gU a1.2.1.1.2.1 0)then some (0,())else bif(leI (bC a1.2.1.1.1) a1.2.1.1.2.1)then some (0,())else bz (nU bH a1.2.1.1.1 a1.2.1.1.2.1 0 a1.2.1.1.1 a1.2.1.1.2.1 a1.2.1.1.1 a1.2.1.1.2.1) fun y2=>dE y2 (fun a3=>some (a3.1.1,())) (fun b3=>none)) (fun b1=>none)
def aHo:Sum:=⟨[.str,cO],YG,fun x=>TC x.1 x.2.1⟩
noncomputable def S9:Env:=gy prog tt [(188,aiV),(273,axD)] [(187,4,xw),(265,600001,pY),(265,600003,pY),(187,600006,O0)] [(187,4,mW Ew zx)] []
def PT {γ:Type} (a:C9.den->Option γ) (b:ER.den->Option γ) (c:EZ.den->Option γ) (v:C9.den):Option γ:=yY (fun v0 v1 v2 v3 v4 v5 v6=>a ((v0,v1,v2,()),((v3,v4,v5,v6,()),(),()),())) (fun e0 e1 e2 e3 e4=>b ((e0,()),((e1,e2,e3,e4,()),(),()),())) (fun r0 r1 r2 r3=>c ((),((r0,r1,r2,r3,()),(),()),())) v.1.1 v.1.2.1 v.1.2.2.1 v.2.1.1.1 v.2.1.1.2.1 v.2.1.1.2.2.1 v.2.1.1.2.2.2.1
theorem afd:dG S9 187 BI Ew:=kW (PT) (h2:=by intros;simp only[PT,yY,bV,bW,bu,bQ,bY])
def Ij {γ:Type} (a:vT.den->Option γ) (b:zG.den->Option γ) (c:zM.den->Option γ) (v:vT.den):Option γ:=uf (fun v0 v1 v2 v3 v4 v5 v6=>a ((v0,v1,v2,()),((v3,v4,v5,v6,()),(),()),())) (fun e0 e1 e2 e3 e4=>b ((e0,()),((e1,e2,e3,e4,()),(),()),())) (fun r0 r1 r2 r3=>c ((),((r0,r1,r2,r3,()),(),()),())) v.1.1 v.1.2.1 v.1.2.2.1 v.2.1.1.1 v.2.1.1.2.1 v.2.1.1.2.2.1 v.2.1.1.2.2.2.1
theorem WF:dG S9 187 BI zx:=kW (Ij) (h2:=by intros;simp only[Ij,uf,bV,bW,bu,bQ,bY])
theorem ahx:dD S9 187 RX:=nJ [BI] (aD (fun L h=>by rw[show(S9).lp 187 (dn BI)=some (mW Ew zx) by kernel_rfl]at h;cases h;exact rZ afd WF) aN)
theorem aoc:eu S9:=eB (aD Yw (aD aqb aN)) [187] (aD ⟨f187,RX,by kernel_rfl,by kernel_rfl,ahx⟩ aN)
theorem Oq:dH prog 265 aHo:=sA aoc
def Xu (x0:bM) (x1:Int):Option DT:=bz (TC x0 x1) fun y0=>bif(gU 0 y0.1)then some (y0.1,())else bif(gU x1 0)then some (0,())else bif(leI (bC x0) x1)then some (0,())else bif(fB x0 x1)then bif(bJ (bT x0 x1) 64)then bif(bJ (bT x0 x1) 64)then some (1,())else bz (Aq x0 x1) fun y1=>some ((I5 y1.1 1),())else bif(bJ (bT x0 x1) 42)then bif(bJ (bT x0 x1) 42)then some (1,())else bz (Aq x0 x1) fun y1=>some ((I5 y1.1 1),())else bif(bJ (bT x0 x1) 35)then bif(bJ (bT x0 x1) 35)then some (1,())else bz (Aq x0 x1) fun y1=>some ((I5 y1.1 1),())else bif(bJ (bT x0 x1) 63)then bif(bJ (bT x0 x1) 63)then some (1,())else bz (Aq x0 x1) fun y1=>some ((I5 y1.1 1),())else bif(bJ (bT x0 x1) 45)then bif(bJ (bT x0 x1) 45)then some (1,())else bz (Aq x0 x1) fun y1=>some ((I5 y1.1 1),())else bif(bJ (bT x0 x1) 36)then bif(bJ (bT x0 x1) 36)then some (1,())else bz (Aq x0 x1) fun y1=>some ((I5 y1.1 1),())else bif(bJ (bT x0 x1) 33)then some (1,())else bz (Aq x0 x1) fun y1=>some ((I5 y1.1 1),())else none
def axw:Sum:=⟨[.str,cO],YG,fun x=>Xu x.1 x.2.1⟩
theorem ap6:dH prog 242 axw:=qA f242 [] (sE Oi (sE Oq aN))
noncomputable def ayD:Code:=(f213.body).getD .skip
noncomputable def aq5:Code:=cA (cA (cB (cA (cB (cB (cB (ayD)))))))
noncomputable def ajg:Code:=cA (cA (cB (cA (cB (cB (cB (cB (ayD))))))))
def atZ:dW:=⟨[0,3,4,12,13,100004],[(100000900,.pair (.list .unit) Jq),(100000901,.pair (.list .unit) cO)],[0,3],[],[2],[(2,Jq)]⟩
def akp:dW:=⟨[0,3,31,32,100010],[],[3],[],[2],[(2,Jq)]⟩
def akw:dW:=⟨[0,3],[],[],[],[],[]⟩
def azz:dW:=⟨[0,3,4,5,12,13],[],[],[],[],[]⟩
def aaH:SP:=⟨us [.v .str,.u,.u,.ptr 1000009 0,.ptr 2000004 0,.u,.u,.u,.u,.u,.u,.u,.v cO,.v cO] 65,[.box 2000004 213 [.slc 2000002,.v .bool,.v cO],.arr 2000002 V5,.arr 1502009 cO,.arr 1500009 Jq,.box 1000009 230 [.slc 1500009,.slc 1502009]]⟩
def abg:SP:=⟨us [.v .str,.u,.u,.ptr 1000009 0] 75,[.arr 1502009 cO,.arr 1500009 Jq,.box 1000009 230 [.slc 1500009,.slc 1502009]]⟩
def abU:SP:=⟨us [.u,.u,.v WR] 76,[]⟩
def Q7 {γ:Type} (rec:bM->Int->Int->Bool->Int->(List nZ)->iC->(List iY)->Option γ) (kE:bM->iC->(List iY)->Option γ) (kR:(List iY)->Option γ) (v0:bM) (v1 v2:Int) (v3:Bool) (v4:Int) (v5:List nZ) (v6:iC) (v7:List iY):Option γ:=bif(gU v2 v1)then bif(fB v0 v2)then bz (Xr v5 v3 v4 (bT v0 v2)) fun y0=>bif(bJ (bC y0.1.1) 0)then bz (ad2 v7 v6 [(0,(0,()))] v2) fun y1=>rec v0 v1 (bU .i64 v2 1) y0.1.2.1 y0.1.2.2.1 y0.1.1 y1.1.2.1 y1.1.1 else bz (oh y0.1.1) fun y1=>bz (ad2 v7 v6 y1.1 v2) fun y2=>rec v0 v1 (bU .i64 v2 1) y0.1.2.1 y0.1.2.2.1 y0.1.1 y2.1.2.1 y2.1.1 else none else kE v0 v6 v7
def Ku:Nat->bM->Int->Int->Bool->Int->(List nZ)->iC->(List iY)->Option (abg.den⊕abU.den)
 |0,_,_,_,_,_,_,_,_=>none
 |n+1,v0,v1,v2,v3,v4,v5,v6,v7=>Q7 (Ku n) (fun e0 e1 e2=>some (.inl ((e0,()),(e1,e2,(),())))) (fun r0=>some (.inr ((r0,()),()))) v0 v1 v2 v3 v4 v5 v6 v7
def aAb (n:Nat) (v:aaH.den):=Ku n v.1.1 v.1.2.1 v.1.2.2.1 v.2.1.1 v.2.1.2.1 v.2.2.1 v.2.2.2.1 v.2.2.2.2.1
noncomputable def akZ:di:=fD atZ aaH abg abU (.exit 0) (aAb bH) 6
def QA:SP:=⟨us [.v .str,.u,.u,.ptr 1000009 0,.u,.u,.u,.u,.u,.u,.u,.u,.u,.u,.u,.u,.u,.u,.u,.u,.u,.u,.u,.u,.u,.u,.u,.u,.u,.u,.u,.v cO,.v cO] 46,[.arr 1502009 cO,.arr 1500009 Jq,.box 1000009 230 [.slc 1500009,.slc 1502009]]⟩
def UM:SP:=⟨us [.u,.u,.u,.ptr 1000009 0] 75,[.arr 1502009 cO,.arr 1500009 Jq,.box 1000009 230 [.slc 1500009,.slc 1502009]]⟩
def UX:SP:=⟨us [.u,.u,.v WR] 76,[]⟩
def ed (v4:List iY) (v2:Int):=dA v4 (0,(0,(0,(0,(false,()))))) (dm v2)
def jf (v4:List iY) (v2:Int) (v0:bM):=ig v4 (dm v2) ((ed v4 v2).1,((ed v4 v2).2.1,((bC v0),((ed v4 v2).2.2.2.1,((ed v4 v2).2.2.2.2.1,())))))
def eQ (v4:List iY) (v2:Int) (v0:bM):=dA (jf v4 v2 v0) (0,(0,(0,(0,(false,()))))) (dm v2)
def LK {γ:Type} (rec:bM->Int->Int->iC->(List iY)->Option γ) (kE:iC->(List iY)->Option γ) (kR:(List iY)->Option γ) (v0:bM) (v1 v2:Int) (v3:iC) (v4:List iY):Option γ:=bif(gU v2 v1)then bif(fB v4 v2)then bif(nD (dm v2) v4)then bif(ed v4 v2).2.2.2.2.1 then bif(nD (dm v2) v4)then bif(nD (dm v2) (jf v4 v2 v0))then bif(bJ (eQ v4 v2 v0).1 12)then bif(nD (dm v2) (jf v4 v2 v0))then bif(nD (dm v2) (jf v4 v2 v0))then bz (Xu v0 (bU .i64 (eQ v4 v2 v0).2.1 1)) fun y0=>bif(nD (dm v2) (jf v4 v2 v0))then bif((eqN (dm v2) (dm v2))&&true)then bif((eqN (dm v2) (dm v2))&&true)then bif(nD (dm v2) (ig (jf v4 v2 v0) (dm v2) ((eQ v4 v2 v0).1,((eQ v4 v2 v0).2.1,((bU .i64 (bU .i64 (eQ v4 v2 v0).2.1 1) y0.1),((eQ v4 v2 v0).2.2.2.1,((eQ v4 v2 v0).2.2.2.2.1,())))))))then bif((eqN (dm v2) (dm v2))&&true)then rec v0 v1 (bU .i64 v2 1) v3 (ig (ig (jf v4 v2 v0) (dm v2) ((eQ v4 v2 v0).1,((eQ v4 v2 v0).2.1,((bU .i64 (bU .i64 (eQ v4 v2 v0).2.1 1) y0.1),((eQ v4 v2 v0).2.2.2.1,((eQ v4 v2 v0).2.2.2.2.1,())))))) (dm v2) ((dA (ig (jf v4 v2 v0) (dm v2) ((eQ v4 v2 v0).1,((eQ v4 v2 v0).2.1,((bU .i64 (bU .i64 (eQ v4 v2 v0).2.1 1) y0.1),((eQ v4 v2 v0).2.2.2.1,((eQ v4 v2 v0).2.2.2.2.1,())))))) (0,(0,(0,(0,(false,()))))) (dm v2)).1,((dA (ig (jf v4 v2 v0) (dm v2) ((eQ v4 v2 v0).1,((eQ v4 v2 v0).2.1,((bU .i64 (bU .i64 (eQ v4 v2 v0).2.1 1) y0.1),((eQ v4 v2 v0).2.2.2.1,((eQ v4 v2 v0).2.2.2.2.1,())))))) (0,(0,(0,(0,(false,()))))) (dm v2)).2.1,((dA (ig (jf v4 v2 v0) (dm v2) ((eQ v4 v2 v0).1,((eQ v4 v2 v0).2.1,((bU .i64 (bU .i64 (eQ v4 v2 v0).2.1 1) y0.1),((eQ v4 v2 v0).2.2.2.1,((eQ v4 v2 v0).2.2.2.2.1,())))))) (0,(0,(0,(0,(false,()))))) (dm v2)).2.2.1,((dA (ig (jf v4 v2 v0) (dm v2) ((eQ v4 v2 v0).1,((eQ v4 v2 v0).2.1,((bU .i64 (bU .i64 (eQ v4 v2 v0).2.1 1) y0.1),((eQ v4 v2 v0).2.2.2.1,((eQ v4 v2 v0).2.2.2.2.1,())))))) (0,(0,(0,(0,(false,()))))) (dm v2)).2.2.2.1,(false,()))))))else none else none else none else none else none else none else none else rec v0 v1 (bU .i64 v2 1) v3 (jf v4 v2 v0)else none else none else bif(nD (dm v2) v4)then bif(bJ (ed v4 v2).1 12)then bif(nD (dm v2) v4)then bif(nD (dm v2) v4)then bz (Xu v0 (bU .i64 (ed v4 v2).2.1 1)) fun y0=>bif(nD (dm v2) v4)then bif((eqN (dm v2) (dm v2))&&true)then bif((eqN (dm v2) (dm v2))&&true)then bif(nD (dm v2) (ig v4 (dm v2) ((ed v4 v2).1,((ed v4 v2).2.1,((bU .i64 (bU .i64 (ed v4 v2).2.1 1) y0.1),((ed v4 v2).2.2.2.1,((ed v4 v2).2.2.2.2.1,())))))))then bif((eqN (dm v2) (dm v2))&&true)then rec v0 v1 (bU .i64 v2 1) v3 (ig (ig v4 (dm v2) ((ed v4 v2).1,((ed v4 v2).2.1,((bU .i64 (bU .i64 (ed v4 v2).2.1 1) y0.1),((ed v4 v2).2.2.2.1,((ed v4 v2).2.2.2.2.1,())))))) (dm v2) ((dA (ig v4 (dm v2) ((ed v4 v2).1,((ed v4 v2).2.1,((bU .i64 (bU .i64 (ed v4 v2).2.1 1) y0.1),((ed v4 v2).2.2.2.1,((ed v4 v2).2.2.2.2.1,())))))) (0,(0,(0,(0,(false,()))))) (dm v2)).1,((dA (ig v4 (dm v2) ((ed v4 v2).1,((ed v4 v2).2.1,((bU .i64 (bU .i64 (ed v4 v2).2.1 1) y0.1),((ed v4 v2).2.2.2.1,((ed v4 v2).2.2.2.2.1,())))))) (0,(0,(0,(0,(false,()))))) (dm v2)).2.1,((dA (ig v4 (dm v2) ((ed v4 v2).1,((ed v4 v2).2.1,((bU .i64 (bU .i64 (ed v4 v2).2.1 1) y0.1),((ed v4 v2).2.2.2.1,((ed v4 v2).2.2.2.2.1,())))))) (0,(0,(0,(0,(false,()))))) (dm v2)).2.2.1,((dA (ig v4 (dm v2) ((ed v4 v2).1,((ed v4 v2).2.1,((bU .i64 (bU .i64 (ed v4 v2).2.1 1) y0.1),((ed v4 v2).2.2.2.1,((ed v4 v2).2.2.2.2.1,())))))) (0,(0,(0,(0,(false,()))))) (dm v2)).2.2.2.1,(false,()))))))else none else none else none else none else none else none else none else rec v0 v1 (bU .i64 v2 1) v3 v4 else none else none else none else kE v3 v4
def AU:Nat->bM->Int->Int->iC->(List iY)->Option (UM.den⊕UX.den)
 |0,_,_,_,_,_=>none
 |n+1,v0,v1,v2,v3,v4=>LK (AU n) (fun e0 e1=>some (.inl ((),(e0,e1,(),())))) (fun r0=>some (.inr ((r0,()),()))) v0 v1 v2 v3 v4
def auI (n:Nat) (v:QA.den):=AU n v.1.1 v.1.2.1 v.1.2.2.1 v.2.1 v.2.2.1
noncomputable def aeV:di:=fD akp QA UM UX (.exit 2) (auI bH) 12
def aj0 (x0:bM):Option ((List iY)×Unit):=bz (Ku bH x0 (bC x0) 0 true 0 [(0,(0,()))] [] []) fun y0=>dE y0 (fun a1=>bz (AU bH a1.1.1 (bC a1.2.2.1) 0 a1.2.1 a1.2.2.1) fun y2=>dE y2 (fun a3=>some (a3.2.2.1,())) (fun b3=>some (b3.1.1,()))) (fun b1=>some (b1.1.1,()))
def axo:Sum:=⟨[.str],[(.list Jq,false)],fun x=>aj0 x.1⟩
noncomputable def Y8:Env:=gy prog tt [(240,yZ),(242,axw)] [(213,4,atZ),(213,10,akp),(213,600002,akw),(213,600007,azz)] [(213,4,akZ),(213,10,aeV)] [] [(174,acZ),(241,axv)]
def amw {γ:Type} (a:aaH.den->Option γ) (b:abg.den->Option γ) (c:abU.den->Option γ) (v:aaH.den):Option γ:=Q7 (fun v0 v1 v2 v3 v4 v5 v6 v7=>a ((v0,v1,v2,()),((v3,v4,()),v5,v6,v7,(),()))) (fun e0 e1 e2=>b ((e0,()),(e1,e2,(),()))) (fun r0=>c ((r0,()),())) v.1.1 v.1.2.1 v.1.2.2.1 v.2.1.1 v.2.1.2.1 v.2.2.1 v.2.2.2.1 v.2.2.2.2.1
theorem aAP:dG Y8 213 aq5 akZ:=uQ (amw) (h2:=by intros;simp only[amw,Q7,bV,bW,bu,bQ,bY])
def afB {γ:Type} (a:QA.den->Option γ) (b:UM.den->Option γ) (c:UX.den->Option γ) (v:QA.den):Option γ:=LK (fun v0 v1 v2 v3 v4=>a ((v0,v1,v2,()),(v3,v4,(),()))) (fun e0 e1=>b ((),(e0,e1,(),()))) (fun r0=>c ((r0,()),())) v.1.1 v.1.2.1 v.1.2.2.1 v.2.1 v.2.2.1
theorem avw:dG Y8 213 ajg aeV:=uQ (afB) (h2:=by intros;simp only[afB,LK,bV,bW,bu,bQ,bY,ed,jf,eQ])
theorem aE8:dD Y8 213 ayD:=nJ [aq5,ajg] (aD (fM (aAP)) (aD (fM (avw)) aN))
theorem an1:eu Y8:=eB (aD xM (aD ap6 aN)) [213] (aD ⟨f213,ayD,by kernel_rfl,by kernel_rfl,aE8⟩ aN) (hx:=(aD Oj (aD ap5 aN)))
theorem apW:dH prog 213 axo:=sA an1
def ajZ (x0:List nZ) (x1:Bool) (x2:Int):Option (taN×oP):=bif x1 then some ((x0,(x1,(x2,()))),(true,()))else some ((x0,(x1,(x2,()))),((bJ (bC x0) 0),()))
def axn:fP:=⟨213,tzC,[],[.bool],fun x y=>ajZ x.1 x.2.1 x.2.2.1⟩
theorem apU:dM prog 210 axn:=qB [] aN
noncomputable def aDL:Code:=(f175.body).getD .skip
noncomputable def aq0:Code:=cA (cA (cB (cA (cB (cB (aDL))))))
def atV:dW:=⟨[0,4,8,9,100003],[],[4],[],[2,3],[(2,V5)]⟩
def oC:dW:=⟨[0],[],[],[],[],[]⟩
def akv:dW:=⟨[4],[],[],[],[],[]⟩
def aaC:SP:=⟨us [.v .str,.u,.u,.u,.ptr 2000004 0,.u,.u,.u,.v cO,.v cO] 12,[.box 2000004 213 [.slc 2000002,.v .bool,.v cO],.arr 2000002 V5]⟩
def aba:SP:=⟨us [.u,.u,.u,.u,.ptr 2000004 0] 17,[.box 2000004 213 [.slc 2000002,.v .bool,.v cO],.arr 2000002 V5]⟩
def abP:SP:=⟨us [.u,.u,.v (.list V5),.v .bool] 18,[]⟩
def QZ {γ:Type} (rec:bM->Int->Int->Bool->Int->(List nZ)->Option γ) (kE:Bool->Int->(List nZ)->Option γ) (kR:(List nZ)->Bool->Option γ) (v0:bM) (v1 v2:Int) (v3:Bool) (v4:Int) (v5:List nZ):Option γ:=bif(gU v2 v1)then bif(fB v0 v2)then bz (Xr v5 v3 v4 (bT v0 v2)) fun y0=>rec v0 v1 (bU .i64 v2 1) y0.1.2.1 y0.1.2.2.1 y0.1.1 else none else kE v3 v4 v5
def Kr:Nat->bM->Int->Int->Bool->Int->(List nZ)->Option (aba.den⊕abP.den)
 |0,_,_,_,_,_,_=>none
 |n+1,v0,v1,v2,v3,v4,v5=>QZ (Kr n) (fun e0 e1 e2=>some (.inl ((),((e0,e1,()),e2,())))) (fun r0 r1=>some (.inr ((r0,r1,()),()))) v0 v1 v2 v3 v4 v5
def az6 (n:Nat) (v:aaC.den):=Kr n v.1.1 v.1.2.1 v.1.2.2.1 v.2.1.1 v.2.1.2.1 v.2.2.1
noncomputable def akU:di:=fD atV aaC aba abP (.exit 0) (az6 bH) 6
def ajQ (x0:bM):Option ((List nZ)×Bool×Unit):=bz (Kr bH x0 (bC x0) 0 true 0 [(0,(0,()))]) fun y0=>dE y0 (fun a1=>bif(bJ (bC a1.2.2.1) 0)then bz (ajZ a1.2.2.1 a1.2.1.1 a1.2.1.2.1) fun y2=>some ([(0,(0,()))],(y2.2.1,()))else bz (oh a1.2.2.1) fun y2=>bz (ajZ a1.2.2.1 a1.2.1.1 a1.2.1.2.1) fun y3=>some (y2.1,(y3.2.1,()))) (fun b1=>some (b1.1.1,(b1.1.2.1,())))
def axc:Sum:=⟨[.str],[(.list V5,false),(.bool,false)],fun x=>ajQ x.1⟩
noncomputable def agJ:Env:=gy prog tt [(240,yZ)] [(175,3,atV),(175,600001,oC),(175,600007,akv)] [(175,3,akU)] [] [(174,acZ),(210,axn)]
def amq {γ:Type} (a:aaC.den->Option γ) (b:aba.den->Option γ) (c:abP.den->Option γ) (v:aaC.den):Option γ:=QZ (fun v0 v1 v2 v3 v4 v5=>a ((v0,v1,v2,()),((v3,v4,()),v5,()))) (fun e0 e1 e2=>b ((),((e0,e1,()),e2,()))) (fun r0 r1=>c ((r0,r1,()),())) v.1.1 v.1.2.1 v.1.2.2.1 v.2.1.1 v.2.1.2.1 v.2.2.1
theorem aAK:dG agJ 175 aq0 akU:=uQ (amq) (h2:=by intros;simp only[amq,QZ,bV,bW,bu,bQ,bY])
theorem aE3:dD agJ 175 aDL:=nJ [aq0] (aD (fM (aAK)) aN)
theorem anT:eu agJ:=eB (aD xM aN) [175] (aD ⟨f175,aDL,by kernel_rfl,by kernel_rfl,aE3⟩ aN) (hx:=(aD Oj (aD apU aN)))
theorem apJ:dH prog 175 axc:=sA anT
def ajP (x0:List nZ) (x1:Bool) (x2 x3:Int):Option (taN×oP):=bz (Hw x3) fun y0=>bif(!y0.1)then some ((x0,(x1,(x2,()))),(false,()))else bif(bJ (bC x0) 1)then some ((x0,(x1,(x2,()))),(true,()))else bif(bJ (bC x0) 2)then bif(fB x0 1)then bif(nD (dm 1) x0)then bif(bJ (dA x0 (0,(0,())) (dm 1)).1 12)then some ((x0,(x1,(x2,()))),((!(bJ x3 40)),()))else some ((x0,(x1,(x2,()))),(false,()))else none else none else some ((x0,(x1,(x2,()))),(false,()))
def axb:fP:=⟨213,tzC,[.int .u8],[.bool],fun x y=>ajP x.1 x.2.1 x.2.2.1 y.1⟩
theorem apI:dM prog 173 axb:=qB [] (sE Yy aN)
noncomputable def aDJ:Code:=(f144.body).getD .skip
noncomputable def aqT:Code:=cA (cA (cA (cB (cB (cB (aDJ))))))
def atP:dW:=⟨[0,1,5,100004],[],[1],[],[4],[]⟩
def aau:SP:=⟨us [.v .str,.v cO,.u,.u,.u,.ptr 2000004 0] 27,[.box 2000004 213 [.slc 2000002,.v .bool,.v cO],.arr 2000002 V5]⟩
def aa2:SP:=⟨us [.u,.v cO] 31,[]⟩
def abH:SP:=⟨us [.u,.u,.u,.u,.v cO] 28,[]⟩
def QV {γ:Type} (rec:bM->Int->Bool->Int->(List nZ)->Option γ) (kE kR:Int->Option γ) (v0:bM) (v1:Int) (v2:Bool) (v3:Int) (v4:List nZ):Option γ:=bif(gU v1 (bC v0))then bif(fB v0 v1)then bz (ajP v4 v2 v3 (bT v0 v1)) fun y0=>bif y0.2.1 then kR v1 else bif(fB v0 v1)then bz (Xr y0.1.1 y0.1.2.1 y0.1.2.2.1 (bT v0 v1)) fun y1=>rec v0 (bU .i64 v1 1) y1.1.2.1 y1.1.2.2.1 y1.1.1 else none else none else kE v1
def Kq:Nat->bM->Int->Bool->Int->(List nZ)->Option (aa2.den⊕abH.den)
 |0,_,_,_,_,_=>none
 |n+1,v0,v1,v2,v3,v4=>QV (Kq n) (fun e0=>some (.inl ((e0,()),()))) (fun r0=>some (.inr ((r0,()),()))) v0 v1 v2 v3 v4
def azY (n:Nat) (v:aau.den):=Kq n v.1.1 v.1.2.1 v.2.1.1 v.2.1.2.1 v.2.2.1
noncomputable def akN:di:=fD atP aau aa2 abH (.exit 0) (azY bH) 6
def adU (x0:bM) (x1:Int):Option DT:=bif(gU x1 0)then some ((-1),())else bif(gU (bC x0) x1)then some ((-1),())else bz (Kq bH x0 x1 true 0 [(0,(0,()))]) fun y0=>dE y0 (fun a1=>some (a1.1.1,())) (fun b1=>some (b1.1.1,()))
def aGX:Sum:=⟨[.str,cO],YG,fun x=>adU x.1 x.2.1⟩
noncomputable def agB:Env:=gy prog tt [] [(144,4,atP),(144,600003,pY)] [(144,4,akN)] [] [(173,axb),(174,acZ)]
def amh {γ:Type} (a:aau.den->Option γ) (b:aa2.den->Option γ) (c:abH.den->Option γ) (v:aau.den):Option γ:=QV (fun v0 v1 v2 v3 v4=>a ((v0,v1,()),((v2,v3,()),v4,()))) (fun e0=>b ((e0,()),())) (fun r0=>c ((r0,()),())) v.1.1 v.1.2.1 v.2.1.1 v.2.1.2.1 v.2.2.1
theorem aAC:dG agB 144 aqT akN:=uQ (amh) (h2:=by intros;simp only[amh,QV,bV,bW,bu,bQ,bY])
theorem aES:dD agB 144 aDJ:=nJ [aqT] (aD (fM (aAC)) aN)
theorem anG:eu agB:=eB aN [144] (aD ⟨f144,aDJ,by kernel_rfl,by kernel_rfl,aES⟩ aN) (hx:=(aD apI (aD Oj aN)))
theorem apv:dH prog 144 aGX:=sA anG
def JU (x0:Int):Option Qh:=bif(bJ x0 9)then some ([41,41],())else bif(bJ x0 13)then bif(bJ x0 13)then some ([10],())else some ([],())else bif(bJ x0 14)then some ([10],())else some ([],())
def ajS (x0:Int):Option Qh:=bif(bJ x0 1)then bif(bJ x0 1)then some ([41],())else JU x0 else bif(bJ x0 3)then bif(bJ x0 3)then some ([41],())else JU x0 else bif(bJ x0 2)then bif(bJ x0 2)then some ([41],())else JU x0 else bif(bJ x0 10)then bif(bJ x0 10)then some ([41],())else JU x0 else bif(bJ x0 11)then some ([41],())else JU x0
def ajR (x0:Int):Option Qh:=bif(bJ x0 4)then some ([39],())else bif(bJ x0 5)then some ([34],())else bif(bJ x0 6)then some ([96],())else bif(bJ x0 7)then bif(bJ x0 7)then some ([125],())else ajS x0 else bif(bJ x0 8)then some ([125],())else ajS x0
def axd:Sum:=⟨[cO],V7,fun x=>ajR x.1⟩
theorem apK:dH prog 177 axd:=qA f177 [] aN
noncomputable def YP:Code:=(f145.body).getD .skip
noncomputable def RJ:Code:=(f211.body).getD .skip
noncomputable def Sr:Code:=cA (cA (cB (RJ)))
def TU:dW:=⟨[0,1,3,212000001],[],[],[],[],[]⟩
def azF:dW:=⟨[2,5],[],[],[],[],[]⟩
def azy:dW:=⟨[2,3,5],[],[],[],[],[]⟩
def aeq:dW:=⟨[0,1,3],[],[],[],[],[]⟩
def CS:SQ:=⟨us [.yld 1700014,.ptr 2000001 0,.u,.v cO] 15,[us [.u,.u,.v .str,.u,.u,.ptr 1000005 0] 15,[.yld 1700014],[]],[.lp 1700014 145 (us [.u,.u,.v .str,.u,.u,.ptr 1000005 0] 15) [14] 5 0 none,.box 2000001 187 [.v (.list V5)],.box 1000005 67 [.slc 1500005],.arr 1500005 (.int .u8)]⟩
def EL:SQ:=⟨us [] 19,[us [.u,.u,.v .str,.u,.u,.ptr 1000005 0] 15,[.yld 1700014],[]],[.lp 1700014 145 (us [.u,.u,.v .str,.u,.u,.ptr 1000005 0] 15) [14] 5 0 none,.box 2000001 187 [.v (.list V5)],.box 1000005 67 [.slc 1500005],.arr 1500005 (.int .u8)]⟩
def ES:SQ:=⟨us [] 19,[us [.u,.u,.v .str,.u,.u,.ptr 1000005 0] 15,[.yld 1700014],[]],[]⟩
def uI {γ:Type} (rec:Int->bM->bM->(List nZ)->iC->Option γ) (kE:bM->bM->(List nZ)->iC->Option γ) (kR:bM->Option γ) (v0:Int) (v1 v2:bM) (v3:List nZ) (v4:iC):Option γ:=bif(leI 0 v0)then bif(fB v3 v0)then bz (ajR (dQ v3 (0,(0,())) v0).1) fun y0=>bif(dO (bG v4 (dh y0.1)) 1)then bif(bJ (dQ v3 (0,(0,())) v0).1 (dQ v3 (0,(0,())) v0).1)then rec (dR .i64 v0 1) v1 v2 v3 (bG v4 (dh y0.1))else none else none else none else kE v1 v2 v3 v4
def qx:Nat->Int->bM->bM->(List nZ)->iC->Option (EL.den⊕ES.den)
 |0,_,_,_,_,_=>none
 |n+1,v0,v1,v2,v3,v4=>uI (qx n) (fun e0 e1 e2 e3=>some (.inl ((),((e0,()),(),(),()),((e1,()),(e2,()),(),e3,())))) (fun r0=>some (.inr ((),((r0,()),(),(),()),()))) v0 v1 v2 v3 v4
def aeH (n:Nat) (v:CS.den):=qx n v.1.1 v.2.1.1.1 v.2.2.1.1 v.2.2.2.1.1 v.2.2.2.2.2.1
noncomputable def O5:di:=eX TU CS EL ES (.exit 0) (aeH bH) 6
def ajG (x0:bM):Option Qh:=bz (ajQ x0) fun y0=>bz (qx bH (dR .i64 (bC y0.1) 1) [] [] y0.1 []) fun y1=>dE y1 (fun a2=>some ((ofBytes a2.2.2.2.2.2.1),())) (fun b2=>none)
def aGY:Sum:=⟨[.str],V7,fun x=>ajG x.1⟩
noncomputable def Y6:Env:=gy prog tt [(175,axc),(177,axd)] [(211,1,TU),(145,500005,azF),(145,600003,azy),(211,600003,aeq)] [(211,1,O5)] [145]
def PK {γ:Type} (a:CS.den->Option γ) (b:EL.den->Option γ) (c:ES.den->Option γ) (v:CS.den):Option γ:=uI (fun v0 v1 v2 v3 v4=>a ((v0,()),((v1,()),(),(),()),((v2,()),(v3,()),(),v4,()))) (fun e0 e1 e2 e3=>b ((),((e0,()),(),(),()),((e1,()),(e2,()),(),e3,()))) (fun r0=>c ((),((r0,()),(),(),()),())) v.1.1 v.2.1.1.1 v.2.2.1.1 v.2.2.2.1.1 v.2.2.2.2.2.1
theorem ae6:dG Y6 211 Sr O5:=kW (PK) (h2:=by intros;simp only[PK,uI,bV,bW,bu,bQ,bY])
theorem aEB:iW YP=[]:=by kernel_rfl
theorem aGA:je YP=[(cA (cA (cB (cA (cB (cB (cB (YP))))))),cB (cA (cB (cA (cB (cB (cB (YP))))))))]:=by kernel_rfl
theorem aET:dD Y6 145 YP:=lU YP (by rw[aGA];exact(aD (fun _=>(show pz 145 5=some (cA (cA (cB (cA (cB (cB (cB (YP))))))),cB (cA (cB (cA (cB (cB (cB (YP)))))))) by kernel_rfl)) aN)) (by rw[aEB];exact aN)
theorem ahq:dD Y6 211 RJ:=nJ [Sr] (aD (fM (ae6)) aN)
theorem anH:eu Y6:=eB (aD apJ (aD apK aN)) [145,211] (aD ⟨f145,YP,by kernel_rfl,by kernel_rfl,aET⟩ (aD ⟨f211,RJ,by kernel_rfl,by kernel_rfl,ahq⟩ aN))
theorem apw:dH prog 145 aGY:=sA anH
def aB2 (x0:Int):Option Qh:=bif(bJ x0 10)then some ([62,124],())else bif(bJ x0 11)then some ([60],())else bif(bJ x0 12)then some ([62],())else bif(bJ x0 13)then some ([38],())else bif(bJ x0 14)then some ([59],())else bif(bJ x0 15)then some ([124],())else bif(bJ x0 16)then some ([40],())else bif(bJ x0 17)then some ([41],())else some ([],())
def aHg:Sum:=⟨[cO],V7,fun x=>aB2 x.1⟩
theorem apV:dH prog 212 aHg:=qA f212 [] aN
def ajT (x0:Int):Option Qh:=bif(bJ x0 1)then some ([38,38],())else bif(bJ x0 2)then some ([124,124],())else bif(bJ x0 3)then some ([59,59],())else bif(bJ x0 4)then some ([60,60],())else bif(bJ x0 5)then some ([60,60,45],())else bif(bJ x0 6)then some ([62,62],())else bif(bJ x0 7)then some ([60,38],())else bif(bJ x0 8)then some ([62,38],())else bif(bJ x0 9)then some ([60,62],())else bz (aB2 x0) fun y0=>some (y0.1,())
def axe:Sum:=⟨[cO],V7,fun x=>ajT x.1⟩
theorem apL:dH prog 178 axe:=qA f178 [] (sE apV aN)
noncomputable def aHP:Code:=(f146.body).getD .skip
noncomputable def aqU:Code:=cA (cA (cB (cA (cB (cB (aHP))))))
def ZK:dW:=⟨[0,3,100004],[],[],[],[2],[]⟩
def aav:SP:=⟨us [.v .str,.u,.u,.v cO] 11,[]⟩
def aa3:SP:=⟨us [] 15,[]⟩
def abI:SP:=⟨us [.u,.u,.v cO] 12,[]⟩
def LC {γ:Type} (rec:bM->Int->Option γ) (kE:Option γ) (kR:Int->Option γ) (v0:bM) (v1:Int):Option γ:=bif(leI v1 17)then bz (ajT v1) fun y0=>bif(fG y0.1 v0)then kR v1 else rec v0 (bU .i64 v1 1)else kE
def Ci:Nat->bM->Int->Option (aa3.den⊕abI.den)
 |0,_,_=>none
 |n+1,v0,v1=>LC (Ci n) (some (.inl ((),()))) (fun r0=>some (.inr ((r0,()),()))) v0 v1
def azZ (n:Nat) (v:aav.den):=Ci n v.1.1 v.1.2.1
noncomputable def akO:di:=fD ZK aav aa3 abI (.exit 0) (azZ bH) 6
def OH (x0:bM):Option DT:=bif(fG x0 [])then some (0,())else bz (Ci bH x0 1) fun y0=>dE y0 (fun a1=>some (0,())) (fun b1=>some (b1.1.1,()))
def aw6:Sum:=⟨[.str],YG,fun x=>OH x.1⟩
noncomputable def agC:Env:=iM prog tt 146 [(178,axe)] [(4,ZK)] [(4,akO)]
def ami {γ:Type} (a:aav.den->Option γ) (b:aa3.den->Option γ) (c:abI.den->Option γ) (v:aav.den):Option γ:=LC (fun v0 v1=>a ((v0,v1,()),())) (b ((),())) (fun r0=>c ((r0,()),())) v.1.1 v.1.2.1
theorem aAD:dG agC 146 aqU akO:=uQ (ami) (h2:=by intros;simp only[ami,LC,bV,bW,bu,bQ,bY])
theorem aEU:dD agC 146 aHP:=nJ [aqU] (aD (fM (aAD)) aN)
theorem anI:eu agC:=eA f146 (aD apL aN) (aEU)
theorem Og:dH prog 146 aw6:=sA anI
noncomputable def aHN:Code:=(Tryz.f138.body).getD .skip
noncomputable def aqR:Code:=cA (cA (cA (cB (cB (cB (cA (cB (aHN))))))))
def atO:dW:=⟨[0,1,4,5,100004],[],[4,5],[],[4,5],[]⟩
def aas:SP:=⟨us [.v .str,.v cO,.u,.u,.v cO,.v cO] 35,[]⟩
def aa0:SP:=⟨us [.u,.u,.u,.u,.v cO,.v cO] 35,[]⟩
def abE:SP:=⟨us [.u,.u,.u,.u,.v cO,.v cO] 35,[]⟩
def QT {γ:Type} (rec:bM->Int->Int->Int->Option γ) (kE kR:Int->Int->Option γ) (v0:bM) (v1 v2 v3:Int):Option γ:=bif(gU 0 v3)then bif(eU (bC v0) v1 (bU .i64 v1 v3))then bz (OH (sub v0 v1 (bU .i64 v1 v3))) fun y0=>bif(!(bJ y0.1 0))then kE y0.1 v3 else rec v0 v1 y0.1 (dR .i64 v3 1)else none else kE v2 v3
def J9:Nat->bM->Int->Int->Int->Option (aa0.den⊕abE.den)
 |0,_,_,_,_=>none
 |n+1,v0,v1,v2,v3=>QT (J9 n) (fun e0 e1=>some (.inl ((e0,e1,()),()))) (fun r0 r1=>some (.inr ((r0,r1,()),()))) v0 v1 v2 v3
def azW (n:Nat) (v:aas.den):=J9 n v.1.1 v.1.2.1 v.1.2.2.1 v.1.2.2.2.1
noncomputable def akL:di:=fD atO aas aa0 abE (.exit 0) (azW bH) 6
def ajE (x0:bM) (x1:Int):Option nZ:=bif(gU x1 0)then some (0,(0,()))else bif(leI (bC x0) x1)then some (0,(0,()))else bif(fB x0 x1)then bz (Hu (bT x0 x1)) fun y0=>bif(!(bJ y0.1 3))then some (0,(0,()))else bz (J9 bH x0 x1 0 (I5 3 (dR .i64 (bC x0) x1))) fun y1=>dE y1 (fun a2=>some (a2.1.1,(a2.1.2.1,()))) (fun b2=>some (b2.1.1,(b2.1.2.1,())))else none
def aGU:Sum:=⟨[.str,cO],tzI,fun x=>ajE x.1 x.2.1⟩
noncomputable def agz:Env:=iM prog tt 138 [(139,aiS),(146,aw6)] [(4,atO)] [(4,akL)]
def amf {γ:Type} (a:aas.den->Option γ) (b:aa0.den->Option γ) (c:abE.den->Option γ) (v:aas.den):Option γ:=QT (fun v0 v1 v2 v3=>a ((v0,v1,v2,v3,()),())) (fun e0 e1=>b ((e0,e1,()),())) (fun r0 r1=>c ((r0,r1,()),())) v.1.1 v.1.2.1 v.1.2.2.1 v.1.2.2.2.1
theorem aAA:dG agz 138 aqR akL:=uQ (amf) (h2:=by intros;simp only[amf,QT,bV,bW,bu,bQ,bY])
theorem aEP:dD agz 138 aHN:=nJ [aqR] (aD (fM (aAA)) aN)
theorem anD:eu agz:=eA Tryz.f138 (aD sS (aD Og aN)) (aEP)
theorem aps:dH prog 138 aGU:=sA anD
def atc (x0 x1:bM):Option oP:=bif(leI (bC x1) (bC x0))then bif(eU (bC x0) 0 (bC x1))then some ((fG (sub x0 0 (bC x1)) x1),())else none else some (false,())
def aHe:Sum:=⟨[.str,.str],Ou,fun x=>atc x.1 x.2.1⟩
theorem apR:dH prog 203 aHe:=qA f203 [] aN
def ajO (x0 x1:bM):Option oP:=bz (atc x0 x1) fun y0=>some (y0.1,())
def aG9:Sum:=⟨[.str,.str],Ou,fun x=>ajO x.1 x.2.1⟩
theorem apH:dH prog 171 aG9:=qA Tryz.f171 [] (sE apR aN)
def adQ (x0:bM) (x1:Int):Option oP:=bif(eU (bC x0) x1 (bC x0))then bz (ajO (sub x0 x1 (bC x0)) [92,10]) fun y0=>some (y0.1,())else none
def aw4:Sum:=⟨[.str,cO],Ou,fun x=>adQ x.1 x.2.1⟩
theorem Yo:dH prog 140 aw4:=qA f140 [] (sE apH aN)
noncomputable def aHO:Code:=(f141.body).getD .skip
noncomputable def aqS:Code:=cA (cA (cA (cB (aHO))))
def ZJ:dW:=⟨[0,1,100001],[],[1],[],[4],[]⟩
def aat:SP:=⟨us [.v .str,.v cO] 23,[]⟩
def aa1:SP:=⟨us [.u,.v cO] 23,[]⟩
def abG:SP:=⟨us [.u,.u,.u,.u,.v cO] 20,[]⟩
def QU {γ:Type} (rec:bM->Int->Option γ) (kE kR:Int->Option γ) (v0:bM) (v1:Int):Option γ:=bif(gU v1 (bC v0))then bif(fB v0 v1)then bz (Hu (bT v0 v1)) fun y0=>bif(bJ y0.1 1)then rec v0 (bU .i64 v1 1)else bz (adQ v0 v1) fun y1=>bif y1.1 then rec v0 (bU .i64 v1 2)else kR v1 else none else kE v1
def Ko:Nat->bM->Int->Option (aa1.den⊕abG.den)
 |0,_,_=>none
 |n+1,v0,v1=>QU (Ko n) (fun e0=>some (.inl ((e0,()),()))) (fun r0=>some (.inr ((r0,()),()))) v0 v1
def azX (n:Nat) (v:aat.den):=Ko n v.1.1 v.1.2.1
noncomputable def akM:di:=fD ZJ aat aa1 abG (.exit 0) (azX bH) 6
def adR (x0:bM) (x1:Int):Option DT:=bz (Ko bH x0 x1) fun y0=>dE y0 (fun a1=>some (a1.1.1,())) (fun b1=>some (b1.1.1,()))
def aGV:Sum:=⟨[.str,cO],YG,fun x=>adR x.1 x.2.1⟩
noncomputable def agA:Env:=iM prog tt 141 [(139,aiS),(140,aw4)] [(1,ZJ)] [(1,akM)]
def amg {γ:Type} (a:aat.den->Option γ) (b:aa1.den->Option γ) (c:abG.den->Option γ) (v:aat.den):Option γ:=QU (fun v0 v1=>a ((v0,v1,()),())) (fun e0=>b ((e0,()),())) (fun r0=>c ((r0,()),())) v.1.1 v.1.2.1
theorem aAB:dG agA 141 aqS akM:=uQ (amg) (h2:=by intros;simp only[amg,QU,bV,bW,bu,bQ,bY])
theorem aER:dD agA 141 aHO:=nJ [aqS] (aD (fM (aAB)) aN)
theorem anF:eu agA:=eA f141 (aD sS (aD Yo aN)) (aER)
theorem apt:dH prog 141 aGV:=sA anF
def ajU (x0:bM) (x1:Int):Option DT:=some ((ibW x0 x1),())
def aHa:Sum:=⟨[.str,.int .u8],YG,fun x=>ajU x.1 x.2.1⟩
theorem apM:dH prog 181 aHa:=qA f181 [] (sE (afV func220 (by kernel_rfl) (by kernel_rfl) (by kernel_rfl) (by kernel_rfl)) aN)
def adV (x0:bM) (x1:Int):Option DT:=bz (ajU x0 x1) fun y0=>some (y0.1,())
def aG0:Sum:=⟨[.str,.int .u8],YG,fun x=>adV x.1 x.2.1⟩
theorem Yq:dH prog 148 aG0:=qA f148 [] (sE apM aN)
def adS (x0:bM) (x1:Int):Option (Int×Bool×Unit):=bif(eU (bC x0) x1 (bC x0))then bz (adV (sub x0 x1 (bC x0)) 10) fun y0=>bif(leI 0 y0.1)then some ((bU .i64 x1 y0.1),(true,()))else some ((bC x0),(false,()))else none
def aw5:Sum:=⟨[.str,cO],[(.int .i64,false),(.bool,false)],fun x=>adS x.1 x.2.1⟩
theorem Yp:dH prog 142 aw5:=qA f142 [] (sE Yq aN)
def adT (x0:bM) (x1:Int):Option DT:=bz (Aq x0 x1) fun y0=>bif(gU x1 (bU .i64 x1 y0.1))then bif(gU (bU .i64 x1 y0.1) (bC x0))then bif(fB x0 (bU .i64 x1 y0.1))then bif(bJ (bT x0 (bU .i64 x1 y0.1)) 60)then some ((bU .i64 x1 y0.1),())else bif(fB x0 (bU .i64 x1 y0.1))then bif(bJ (bT x0 (bU .i64 x1 y0.1)) 62)then some ((bU .i64 x1 y0.1),())else some (x1,())else none else none else some (x1,())else some (x1,())
def aGW:Sum:=⟨[.str,cO],YG,fun x=>adT x.1 x.2.1⟩
theorem apu:dH prog 143 aGW:=qA Tryz.f143 [] (sE Oi aN)
def Zg (x0:bM) (x1:Int) (y0:nZ):Option (wE×Unit):=bif(fB x0 x1)then bif(bJ (bT x0 x1) 10)then some ((2,(x1,((bU .i64 x1 1),(false,())))),())else bif(fB x0 x1)then bif(bJ (bT x0 x1) 35)then bz (adS x0 x1) fun y2=>some ((3,(x1,(y2.1,(false,())))),())else bif(gU 0 y0.2.1)then some ((4,(x1,((bU .i64 x1 y0.2.1),(false,())))),())else bz (adT x0 x1) fun y2=>bif(gU x1 y2.1)then bz (adT x0 x1) fun y3=>some ((5,(x1,(y3.1,(false,())))),())else bz (adU x0 x1) fun y3=>bif(eU (bC x0) x1 y3.1)then bz (ajG (sub x0 x1 y3.1)) fun y4=>some ((6,(x1,(y3.1,((!(fG y4.1 [])),())))),())else none else none else none
def ajw (x0:bM) (x1:Int):Option (wE×Unit):=bz (ajE x0 x1) fun y0=>bif(fB x0 x1)then bz (Hu (bT x0 x1)) fun y1=>bif(bJ y1.1 1)then bif(bJ y1.1 1)then bz (adR x0 x1) fun y2=>some ((1,(x1,(y2.1,(false,())))),())else Zg x0 x1 y0 else bz (adQ x0 x1) fun y2=>bif y2.1 then bz (adR x0 x1) fun y3=>some ((1,(x1,(y3.1,(false,())))),())else Zg x0 x1 y0 else none
def aGN:Sum:=⟨[.str,cO],[(.pair cO tyM,false)],fun x=>ajw x.1 x.2.1⟩
theorem apg:dH prog 109 aGN:=qA f109 [] (sE aps (sE sS (sE Yo (sE apt (sE Yp (sE apu (sE apv (sE apw aN))))))))
noncomputable def aHV:Code:=(f199.body).getD .skip
noncomputable def aq4:Code:=cA (cA (cA (cB (aHV))))
def atY:dW:=⟨[0,1,100001],[],[0],[],[4],[]⟩
def aaG:SP:=⟨us [.v .str,.v (.int .u8)] 15,[]⟩
def abf:SP:=⟨us [.v .str] 16,[]⟩
def abT:SP:=⟨us [.u,.u,.u,.u,.v .str] 12,[]⟩
def Q5 {γ:Type} (rec:bM->Int->Option γ) (kE kR:bM->Option γ) (v0:bM) (v1:Int):Option γ:=bif(gU 0 (bC v0))then bif(fB v0 0)then bif(bJ (bT v0 0) v1)then bif(eU (bC v0) 1 (bC v0))then rec (sub v0 1 (bC v0)) v1 else none else kE v0 else none else kE v0
def Kt:Nat->bM->Int->Option (abf.den⊕abT.den)
 |0,_,_=>none
 |n+1,v0,v1=>Q5 (Kt n) (fun e0=>some (.inl ((e0,()),()))) (fun r0=>some (.inr ((r0,()),()))) v0 v1
def aAa (n:Nat) (v:aaG.den):=Kt n v.1.1 v.1.2.1
noncomputable def akY:di:=fD atY aaG abf abT (.exit 0) (aAa bH) 6
def ajY (x0:bM) (x1:Int):Option Qh:=bz (Kt bH x0 x1) fun y0=>dE y0 (fun a1=>some (a1.1.1,())) (fun b1=>some (b1.1.1,()))
def axh:Sum:=⟨[.str,.int .u8],V7,fun x=>ajY x.1 x.2.1⟩
noncomputable def agM:Env:=iM prog tt 199 [] [(1,atY)] [(1,akY)]
def amv {γ:Type} (a:aaG.den->Option γ) (b:abf.den->Option γ) (c:abT.den->Option γ) (v:aaG.den):Option γ:=Q5 (fun v0 v1=>a ((v0,v1,()),())) (fun e0=>b ((e0,()),())) (fun r0=>c ((r0,()),())) v.1.1 v.1.2.1
theorem aAO:dG agM 199 aq4 akY:=uQ (amv) (h2:=by intros;simp only[amv,Q5,bV,bW,bu,bQ,bY])
theorem aE7:dD agM 199 aHV:=nJ [aq4] (aD (fM (aAO)) aN)
theorem an0:eu agM:=eA f199 aN (aE7)
theorem apQ:dH prog 199 axh:=sA an0
noncomputable def aDI:Code:=(f136.body).getD .skip
noncomputable def aqQ:Code:=cA (cA (cA (cB (cA (cB (aDI))))))
def atN:dW:=⟨[0,1,5,100001],[],[1],[],[6,7],[]⟩
def azx:dW:=⟨[0,5,8,9,10],[],[],[],[],[]⟩
def aar:SP:=⟨us [.v .str,.v cO,.u,.u,.u,.ptr 1000005 0] 33,[.box 1000005 65 [.v .str,.v .bool]]⟩
def QD:SP:=⟨us [.u,.v cO] 37,[]⟩
def QE:SP:=⟨us [.u,.u,.u,.u,.u,.u,.v cO,.v .bool] 31,[]⟩
def Bf {γ:Type} (y0:(Int×Bool×Unit)) (v0:bM) (v1:Int) (v2:bM) (kR:Int->Bool->Option γ) (rec:bM->Int->bM->Bool->Option γ) (v3:Bool):Option γ:=bif y0.2.1 then bif(fG (sub v0 v1 y0.1) v2)then kR (bU .i64 y0.1 1) true else rec v0 (bU .i64 y0.1 1) v2 v3 else bif(fG (sub v0 v1 y0.1) v2)then kR y0.1 true else rec v0 y0.1 v2 v3
def QS {γ:Type} (rec:bM->Int->bM->Bool->Option γ) (kE:Int->Option γ) (kR:Int->Bool->Option γ) (v0:bM) (v1:Int) (v2:bM) (v3:Bool):Option γ:=bif(gU v1 (bC v0))then bz (adS v0 v1) fun y0=>bif(eU (bC v0) v1 y0.1)then bif v3 then bif(fG (sub v0 v1 y0.1) [])then Bf y0 v0 v1 v2 kR rec v3 else bif(fG [9] [])then Bf y0 v0 v1 v2 kR rec v3 else bif(bJ (bC [9]) 1)then bif(fB [9] 0)then bif(gU (bT [9] 0) 128)then bif(fB [9] 0)then bz (ajY (sub v0 v1 y0.1) (bT [9] 0)) fun y1=>bif y0.2.1 then bif(fG y1.1 v2)then kR (bU .i64 y0.1 1) true else rec v0 (bU .i64 y0.1 1) v2 v3 else bif(fG y1.1 v2)then kR y0.1 true else rec v0 y0.1 v2 v3 else none else none else none else none else Bf y0 v0 v1 v2 kR rec v3 else none else kE v1
def Cf:Nat->bM->Int->bM->Bool->Option (QD.den⊕QE.den)
 |0,_,_,_,_=>none
 |n+1,v0,v1,v2,v3=>QS (Cf n) (fun e0=>some (.inl ((e0,()),()))) (fun r0 r1=>some (.inr ((r0,r1,()),()))) v0 v1 v2 v3
def azV (n:Nat) (v:aar.den):=Cf n v.1.1 v.1.2.1 v.2.1.1 v.2.1.2.1
noncomputable def akK:di:=fD atN aar QD QE (.exit 0) (azV bH) 6
def ajD (x0:bM) (x1:Int) (x2:bM×oP):Option (Int×Bool×Unit):=bz (Cf bH x0 x1 x2.1 x2.2.1) fun y0=>dE y0 (fun a1=>some (a1.1.1,(false,()))) (fun b1=>some (b1.1.1,(b1.1.2.1,())))
def aGT:Sum:=⟨[.str,cO,PZ],[(.int .i64,false),(.bool,false)],fun x=>ajD x.1 x.2.1 x.2.2.1⟩
noncomputable def agy:Env:=gy prog tt [(142,aw5),(199,axh)] [(136,1,atN),(136,600005,azx)] [(136,1,akK)] []
def ame {γ:Type} (a:aar.den->Option γ) (b:QD.den->Option γ) (c:QE.den->Option γ) (v:aar.den):Option γ:=QS (fun v0 v1 v2 v3=>a ((v0,v1,()),((v2,v3,()),()))) (fun e0=>b ((e0,()),())) (fun r0 r1=>c ((r0,r1,()),())) v.1.1 v.1.2.1 v.2.1.1 v.2.1.2.1
theorem aAz:dG agy 136 aqQ akK:=uQ (ame) (h2:=by intros;simp only[ame,QS,bV,bW,bu,bQ,bY,Bf])
theorem aEO:dD agy 136 aDI:=nJ [aqQ] (aD (fM (aAz)) aN)
theorem anC:eu agy:=eB (aD Yp (aD apQ aN)) [136] (aD ⟨f136,aDI,by kernel_rfl,by kernel_rfl,aEO⟩ aN)
theorem apr:dH prog 136 aGT:=sA anC
def ag8:Option taW:=some (([84],([0],(true,()))),())
def am8:Sum:=⟨[],tzH,fun x=>ag8⟩
theorem VF:dH prog 95 am8:=qA f95 [] aN
def yw (x0:Io) (x1:Bool):Option taW:=some ((x0.1,(x0.2.1,(x1,()))),())
def aGP:Sum:=⟨[.pair .str tyH,.bool],tzH,fun x=>yw x.1 x.2.1⟩
theorem Oc:dH prog 122 aGP:=qA f122 [] aN
def Ed (x0:Io) (x1:bM):Option taW:=bif(eU (bC x0.1) 0 (dR .i64 (bC x0.1) 1))then bif(eP (sub x0.1 0 (dR .i64 (bC x0.1) 1)) x1)then some (((bG (sub x0.1 0 (dR .i64 (bC x0.1) 1)) x1),(x0.2.1,(x0.2.2.1,()))),())else none else none
def aGQ:Sum:=⟨[.pair .str tyH,.str],tzH,fun x=>Ed x.1 x.2.1⟩
theorem Ym:dH prog 123 aGQ:=qA f123 [] aN
def JR (x0:Io):Option taW:=bif(eU (bC x0.1) 0 (dR .i64 (bC x0.1) 1))then bif(eU (bC x0.2.1) 0 (dR .i64 (bC x0.1) 1))then some (((sub x0.1 0 (dR .i64 (bC x0.1) 1)),((sub x0.2.1 0 (dR .i64 (bC x0.1) 1)),(x0.2.2.1,()))),())else none else none
def aGR:Sum:=⟨[.pair .str tyH],tzH,fun x=>JR x.1⟩
theorem Oe:dH prog 124 aGR:=qA f124 [] aN
noncomputable def b77:Code:=(f77.body).getD .skip
noncomputable def aBN:Code:=cA (cA (cB (cA (cB (b77)))))
def akr:dW:=⟨[0,1,5,100002],[],[],[],[4],[]⟩
def alI:SP:=⟨us [.v (.int .u8),.v .str,.u,.u,.u,.v cO] 11,[]⟩
def ah0:SP:=⟨us [] 17,[]⟩
def ais:SP:=⟨us [.u,.u,.u,.u,.v .bool] 12,[]⟩
def Vl {γ:Type} (rec:Int->bM->Int->Option γ) (kE:Option γ) (kR:Bool->Option γ) (v0:Int) (v1:bM) (v2:Int):Option γ:=bif(gU v2 (bC v1))then bif(fB v1 v2)then bif(bJ (bT v1 v2) v0)then kR true else rec v0 v1 (bU .i64 v2 1)else none else kE
def CE:Nat->Int->bM->Int->Option (ah0.den⊕ais.den)
 |0,_,_,_=>none
 |n+1,v0,v1,v2=>Vl (CE n) (some (.inl ((),()))) (fun r0=>some (.inr ((r0,()),()))) v0 v1 v2
def aFB (n:Nat) (v:alI.den):=CE n v.1.1 v.1.2.1 v.1.2.2.1
noncomputable def au6:di:=fD akr alI ah0 ais (.exit 0) (aFB bH) 6
def Eg (x0:Int) (x1:bM):Option oP:=bz (CE bH x0 x1 0) fun y0=>dE y0 (fun a1=>some (false,())) (fun b1=>some (b1.1.1,()))
def ax3:Sum:=⟨[.int .u8,.str],Ou,fun x=>Eg x.1 x.2.1⟩
noncomputable def asb:Env:=iM prog tt 77 [] [(2,akr)] [(2,au6)]
def awo {γ:Type} (a:alI.den->Option γ) (b:ah0.den->Option γ) (c:ais.den->Option γ) (v:alI.den):Option γ:=Vl (fun v0 v1 v2=>a ((v0,v1,v2,()),())) (b ((),())) (fun r0=>c ((r0,()),())) v.1.1 v.1.2.1 v.1.2.2.1
theorem aGh:dG asb 77 aBN au6:=uQ (awo) (h2:=by intros;simp only[awo,Vl,bV,bW,bu,bQ,bY])
theorem aIJ:dD asb 77 b77:=nJ [aBN] (aD (fM (aGh)) aN)
theorem asc:eu asb:=eA f77 aN (aIJ)
theorem Bz:dH prog 77 ax3:=sA asc
def MO (x0:Int):Option DT:=bif(bJ x0 32)then some (1,())else bif(bJ x0 9)then some (1,())else bif(bJ x0 10)then some (2,())else bz (Eg x0 [124,38,59,60,62,40,41]) fun y0=>bif y0.1 then some (3,())else bz (Eg x0 [92,39,34,96,36]) fun y1=>bif y1.1 then some (4,())else bz (Eg x0 [65,66,67,68,69,70,71,72,73,74,75,76,77,78,79,80,81,82,83,84,85,86,87,88,89,90,97,98,99,100,101,102,103,104,105,106,107,108,109,110,111,112,113,114,115,116,117,118,119,120,121,122,95]) fun y2=>bif y2.1 then some (5,())else bz (Eg x0 [48,49,50,51,52,53,54,55,56,57]) fun y3=>bif y3.1 then some (6,())else some (0,())
def afP:Sum:=⟨[.int .u8],YG,fun x=>MO x.1⟩
theorem xI:dH prog 71 afP:=qA f71 [] (sE Bz aN)
def atl (x0:Int):Option oP:=bz (MO x0) fun y0=>bif(bJ y0.1 1)then some (true,())else bif(bJ y0.1 2)then some (true,())else some ((bJ y0.1 3),())
def aDg:Sum:=⟨[.int .u8],Ou,fun x=>atl x.1⟩
theorem afT:dH prog 96 aDg:=qA f96 [] (sE xI aN)
def kF (x0:Io) (x1:bM):=fG (bG x0.1 x1) (bG x0.1 x1)
def lY (x0:Io):=nH cO x0.2.1 x0.2.1
def xk (x0:Io) (x1:bM) (x2:Int):Option taW:=bif(eP x0.1 x1)then bif(fG x0.1 x0.1)then bif(fG x1 x1)then bif(eP x0.1 x1)then bif(kF x0 x1)then bif(lY x0)then bif(bJ x2 x2)then bif(jl x0.2.2.1 x0.2.2.1)then bif(dO (bG [] x0.2.1) 8)then bif(fG x0.1 x0.1)then bif(fG x1 x1)then bif(eP x0.1 x1)then bif(kF x0 x1)then bif(bJ x2 x2)then bif(jl x0.2.2.1 x0.2.2.1)then bif(fG x0.1 x0.1)then bif(fG x1 x1)then bif(eP x0.1 x1)then bif(kF x0 x1)then bif(lY x0)then bif(jl x0.2.2.1 x0.2.2.1)then bif(dO (bG (bG [] x0.2.1) [x2]) 8)then bif(fG x0.1 x0.1)then bif(fG x1 x1)then bif(eP x0.1 x1)then bif(kF x0 x1)then bif(lY x0)then bif(bJ x2 x2)then bif(jl x0.2.2.1 x0.2.2.1)then bz (bif(fG x0.1 x0.1)then(bif(fG x1 x1)then(bif(eP x0.1 x1)then(bif(kF x0 x1)then(bif(lY x0)then(bif(jl x0.2.2.1 x0.2.2.1)then(bif(dO (bG [] x0.2.1) 8)then(bif(fG x0.1 x0.1)then(bif(fG x1 x1)then(bif(eP x0.1 x1)then(bif(kF x0 x1)then(bif(bJ x2 x2)then(bif(jl x0.2.2.1 x0.2.2.1)then(bif(dO (bG (bG [] x0.2.1) [x2]) 8)then(bif(fG x0.1 x0.1)then(bif(fG x1 x1)then(bif(eP x0.1 x1)then(bif(kF x0 x1)then(bif(lY x0)then(bif(bJ x2 x2)then(bif(jl x0.2.2.1 x0.2.2.1)then(bif(((((fG x0.1 x0.1)&&((lY x0)&&((jl x0.2.2.1 x0.2.2.1)&&true)))&&((fG x1 x1)&&((bJ x2 x2)&&((fG x0.1 x0.1)&&((fG x1 x1)&&((kF x0 x1)&&((lY x0)&&((bJ x2 x2)&&((jl x0.2.2.1 x0.2.2.1)&&(((kF x0 x1)&&((jl x0.2.2.1 x0.2.2.1)&&true))&&true))))))))))&&(((nH cO [x2] [x2])&&((nH cO (bG (bG [] x0.2.1) [x2]) (bG (bG [] x0.2.1) [x2]))&&(((kF x0 x1)&&((jl x0.2.2.1 x0.2.2.1)&&true))&&(((fG x0.1 x0.1)&&((lY x0)&&((jl x0.2.2.1 x0.2.2.1)&&true)))&&true))))&&true))&&true)then(some ())else(none))else(none))else(none))else(none))else(none))else(none))else(none))else(none))else(none))else(none))else(none))else(none))else(none))else(none))else(none))else(none))else(none))else(none))else(none))else(none))else(none))else(none)) fun y0=>bz (bif(fG x0.1 x0.1)then(bif(fG x1 x1)then(bif(eP x0.1 x1)then(bif(kF x0 x1)then(bif(lY x0)then(bif(jl x0.2.2.1 x0.2.2.1)then(bif(fG x0.1 x0.1)then(bif(fG x1 x1)then(bif(eP x0.1 x1)then(bif(kF x0 x1)then(bif(lY x0)then(bif(bJ x2 x2)then(bif(jl x0.2.2.1 x0.2.2.1)then(bif(dO (bG [] x0.2.1) 8)then(bif(fG x0.1 x0.1)then(bif(fG x1 x1)then(bif(eP x0.1 x1)then(bif(kF x0 x1)then(bif(bJ x2 x2)then(bif(jl x0.2.2.1 x0.2.2.1)then(bif(dO (bG (bG [] x0.2.1) [x2]) 8)then(bif(fG x0.1 x0.1)then(bif(fG x1 x1)then(bif(eP x0.1 x1)then(bif(kF x0 x1)then(bif(lY x0)then(bif(bJ x2 x2)then(bif(jl x0.2.2.1 x0.2.2.1)then(bif(((((fG x0.1 x0.1)&&((lY x0)&&((jl x0.2.2.1 x0.2.2.1)&&true)))&&((fG x1 x1)&&((bJ x2 x2)&&((fG x0.1 x0.1)&&((fG x1 x1)&&((kF x0 x1)&&((lY x0)&&((bJ x2 x2)&&((jl x0.2.2.1 x0.2.2.1)&&(((kF x0 x1)&&((jl x0.2.2.1 x0.2.2.1)&&true))&&true))))))))))&&(((nH cO [x2] [x2])&&((nH cO (bG (bG [] x0.2.1) [x2]) (bG (bG [] x0.2.1) [x2]))&&(((kF x0 x1)&&((jl x0.2.2.1 x0.2.2.1)&&true))&&(((fG x0.1 x0.1)&&((lY x0)&&((jl x0.2.2.1 x0.2.2.1)&&true)))&&true))))&&true))&&true)then(some ())else(none))else(none))else(none))else(none))else(none))else(none))else(none))else(none))else(none))else(none))else(none))else(none))else(none))else(none))else(none))else(none))else(none))else(none))else(none))else(none))else(none))else(none))else(none))else(none))else(none))else(none))else(none))else(none))else(none)) fun y1=>some (((bG x0.1 x1),((bG (bG [] x0.2.1) [x2]),(x0.2.2.1,()))),())else none else none else none else none else none else none else none else none else none else none else none else none else none else none else none else none else none else none else none else none else none else none else none else none else none else none else none else none else none
def aG7:Sum:=⟨[.pair .str tyH,.str,cO],tzH,fun x=>xk x.1 x.2.1 x.2.2.1⟩
theorem Yt:dH prog 158 aG7:=qA f158 [] aN
def Xq (x0:Int):Option Qh:=bif(bJ x0 92)then some ([88],())else bif(bJ x0 36)then some ([76],())else bif(bJ x0 96)then some ([66],())else some ([],())
def aG8:Sum:=⟨[.int .u8],V7,fun x=>Xq x.1⟩
theorem Yu:dH prog 159 aG8:=qA f159 [] aN
def Zi (x2:Int) (x0:Io) (x3:Int):Option taW:=bz (Xq x2) fun y0=>bz (xk (x0.1,(x0.2.1,(x0.2.2.1,()))) y0.1 x3) fun y1=>bif(bJ x2 x2)then bz (yw y1.1 false) fun y2=>bif((fG x0.1 x0.1)&&((nH cO x0.2.1 x0.2.1)&&((jl x0.2.2.1 x0.2.2.1)&&true)))then bif(bJ x2 x2)then bif(bJ x3 x3)then bif(((bJ x2 x2)&&true)&&((fG y0.1 y0.1)&&true))then some ((y2.1.1,(y2.1.2.1,(y2.1.2.2.1,()))),())else none else none else none else none else none
def Zj (x2 x1:Int) (x0:Io) (x3:Int):Option taW:=bif(bJ x2 40)then bif(bJ x1 84)then bz (yw (x0.1,(x0.2.1,(x0.2.2.1,()))) true) fun y0=>some ((y0.1.1,(y0.1.2.1,(y0.1.2.2.1,()))),())else bz (xk (x0.1,(x0.2.1,(x0.2.2.1,()))) [80] x3) fun y0=>bz (yw y0.1 true) fun y1=>some ((y1.1.1,(y1.1.2.1,(y1.1.2.2.1,()))),())else bif(bJ x2 41)then bif(bJ x1 84)then bz (yw (x0.1,(x0.2.1,(x0.2.2.1,()))) true) fun y0=>some ((y0.1.1,(y0.1.2.1,(y0.1.2.2.1,()))),())else bz (JR (x0.1,(x0.2.1,(x0.2.2.1,())))) fun y0=>bz (yw y0.1 (bJ x1 80)) fun y1=>some ((y1.1.1,(y1.1.2.1,(y1.1.2.2.1,()))),())else bz (atl x2) fun y0=>bz (yw (x0.1,(x0.2.1,(x0.2.2.1,()))) y0.1) fun y1=>bif(bJ x2 x2)then some ((y1.1.1,(y1.1.2.1,(y1.1.2.2.1,()))),())else none
def ajK (x0:Io) (x1 x2 x3:Int):Option taW:=bif(bJ x2 92)then bz (xk (x0.1,(x0.2.1,(x0.2.2.1,()))) [88] x3) fun y0=>some ((y0.1.1,(y0.1.2.1,(y0.1.2.2.1,()))),())else bif(bJ x2 39)then bz (xk (x0.1,(x0.2.1,(x0.2.2.1,()))) [83] x3) fun y0=>bz (yw y0.1 false) fun y1=>some ((y1.1.1,(y1.1.2.1,(y1.1.2.2.1,()))),())else bif(bJ x2 34)then bz (xk (x0.1,(x0.2.1,(x0.2.2.1,()))) [68] x3) fun y0=>bz (yw y0.1 false) fun y1=>some ((y1.1.1,(y1.1.2.1,(y1.1.2.2.1,()))),())else bif(bJ x2 96)then Zi x2 x0 x3 else bif(bJ x2 36)then Zi x2 x0 x3 else bif(bJ x2 35)then bif x0.2.2.1 then bz (xk (x0.1,(x0.2.1,(x0.2.2.1,()))) [35] x3) fun y0=>some ((y0.1.1,(y0.1.2.1,(y0.1.2.2.1,()))),())else Zj x2 x1 x0 x3 else Zj x2 x1 x0 x3
def aG6:Sum:=⟨[.pair .str tyH,.int .u8,.int .u8,cO],tzH,fun x=>ajK x.1 x.2.1 x.2.2.1 x.2.2.2.1⟩
theorem apC:dH prog 157 aG6:=qA f157 [] (sE afT (sE Oc (sE Oe (sE Yt (sE Yu aN)))))
def BQ (x0:Io) (x1 x2 x3:Int):Option taW:=bz (ajK (x0.1,(x0.2.1,(x0.2.2.1,()))) x1 x2 x3) fun y0=>some ((y0.1.1,(y0.1.2.1,(y0.1.2.2.1,()))),())
def vF (x0:Io):Option taW:=bz (JR (x0.1,(x0.2.1,(x0.2.2.1,())))) fun y0=>some ((y0.1.1,(y0.1.2.1,(y0.1.2.2.1,()))),())
def FV (x2:Int) (x0:Io):Option taW:=bif(bJ x2 41)then bz (Ed (x0.1,(x0.2.1,(x0.2.2.1,()))) [69]) fun y1=>some ((y1.1.1,(y1.1.2.1,(y1.1.2.2.1,()))),())else some ((x0.1,(x0.2.1,(x0.2.2.1,()))),())
def FX (x2:Int) (x0:Io) (x3 x1:Int):Option taW:=bif(bJ x2 40)then bz (xk (x0.1,(x0.2.1,(x0.2.2.1,()))) [82] x3) fun y1=>some ((y1.1.1,(y1.1.2.1,(y1.1.2.2.1,()))),())else bif(bJ x2 41)then bif(bJ x1 82)then vF x0 else FV x2 x0 else FV x2 x0
def Ht (x0:Io) (x1 x2 x3:Int):Option taW:=bif(bJ x1 84)then BQ x0 x1 x2 x3 else bif(bJ x1 67)then BQ x0 x1 x2 x3 else bif(bJ x1 80)then BQ x0 x1 x2 x3 else bif(bJ x1 88)then bz (JR (x0.1,(x0.2.1,(x0.2.2.1,())))) fun y0=>bif(!(bJ x2 10))then bz (yw (y0.1.1,(y0.1.2.1,(y0.1.2.2.1,()))) false) fun y1=>some ((y1.1.1,(y1.1.2.1,(y1.1.2.2.1,()))),())else some ((y0.1.1,(y0.1.2.1,(y0.1.2.2.1,()))),())else bif(bJ x1 83)then bif(bJ x2 39)then vF x0 else some ((x0.1,(x0.2.1,(x0.2.2.1,()))),())else bif(bJ x1 35)then bif(bJ x2 10)then bz (JR (x0.1,(x0.2.1,(x0.2.2.1,())))) fun y0=>bz (yw y0.1 true) fun y1=>some ((y1.1.1,(y1.1.2.1,(y1.1.2.2.1,()))),())else some ((x0.1,(x0.2.1,(x0.2.2.1,()))),())else bif(bJ x1 66)then bif(bJ x2 96)then vF x0 else bif(bJ x2 92)then bz (xk (x0.1,(x0.2.1,(x0.2.2.1,()))) [88] x3) fun y0=>some ((y0.1.1,(y0.1.2.1,(y0.1.2.2.1,()))),())else some ((x0.1,(x0.2.1,(x0.2.2.1,()))),())else bz (Xq x2) fun y0=>bif(!(fG y0.1 []))then bz (Xq x2) fun y1=>bz (xk (x0.1,(x0.2.1,(x0.2.2.1,()))) y1.1 x3) fun y2=>bif(bJ x2 x2)then some ((y2.1.1,(y2.1.2.1,(y2.1.2.2.1,()))),())else none else bif(bJ x1 65)then FX x2 x0 x3 x1 else bif(bJ x1 82)then FX x2 x0 x3 x1 else bif(bJ x1 68)then bif(bJ x2 34)then vF x0 else some ((x0.1,(x0.2.1,(x0.2.2.1,()))),())else bif(bJ x2 34)then bz (xk (x0.1,(x0.2.1,(x0.2.2.1,()))) [68] x3) fun y1=>some ((y1.1.1,(y1.1.2.1,(y1.1.2.2.1,()))),())else bif(bJ x2 125)then vF x0 else bif(bJ x2 39)then bif(bJ x1 86)then bz (xk (x0.1,(x0.2.1,(x0.2.2.1,()))) [83] x3) fun y1=>some ((y1.1.1,(y1.1.2.1,(y1.1.2.2.1,()))),())else some ((x0.1,(x0.2.1,(x0.2.2.1,()))),())else some ((x0.1,(x0.2.1,(x0.2.2.1,()))),())
def aGS:Sum:=⟨[.pair .str tyH,.int .u8,.int .u8,cO],tzH,fun x=>Ht x.1 x.2.1 x.2.2.1 x.2.2.2.1⟩
theorem apm:dH prog 125 aGS:=qA f125 [] (sE Oc (sE Ym (sE Oe (sE apC (sE Yt (sE Yu aN))))))
def ag9 (x0:Io) (x1 x2:Int):Option taW:=bif(fB x0.1 (dR .i64 (bC x0.1) 1))then bif(bJ (bT x0.1 (dR .i64 (bC x0.1) 1)) 76)then bif(bJ x1 40)then bz (Ed (x0.1,(x0.2.1,(x0.2.2.1,()))) [79]) fun y0=>bz (yw y0.1 true) fun y1=>some ((y1.1.1,(y1.1.2.1,(y1.1.2.2.1,()))),())else bif(bJ x1 123)then bif(fB x0.1 (dR .i64 (bC x0.1) 2))then bif(bJ (bT x0.1 (dR .i64 (bC x0.1) 2)) 68)then bz (Ed (x0.1,(x0.2.1,(x0.2.2.1,()))) [73]) fun y0=>some ((y0.1.1,(y0.1.2.1,(y0.1.2.2.1,()))),())else bif(fB x0.1 (dR .i64 (bC x0.1) 2))then bif(bJ (bT x0.1 (dR .i64 (bC x0.1) 2)) 73)then bz (Ed (x0.1,(x0.2.1,(x0.2.2.1,()))) [73]) fun y0=>some ((y0.1.1,(y0.1.2.1,(y0.1.2.2.1,()))),())else bz (Ed (x0.1,(x0.2.1,(x0.2.2.1,()))) [86]) fun y0=>some ((y0.1.1,(y0.1.2.1,(y0.1.2.2.1,()))),())else none else none else bz (JR (x0.1,(x0.2.1,(x0.2.2.1,())))) fun y0=>bif(bJ x1 36)then some ((y0.1.1,(y0.1.2.1,(y0.1.2.2.1,()))),())else bif(fB y0.1.1 (dR .i64 (bC y0.1.1) 1))then bz (Ht (y0.1.1,(y0.1.2.1,(y0.1.2.2.1,()))) (bT y0.1.1 (dR .i64 (bC y0.1.1) 1)) x1 x2) fun y1=>some ((y1.1.1,(y1.1.2.1,(y1.1.2.2.1,()))),())else none else bif(bJ (bT x0.1 (dR .i64 (bC x0.1) 1)) 79)then bif(bJ x1 40)then bz (Ed (x0.1,(x0.2.1,(x0.2.2.1,()))) [65]) fun y0=>bz (yw y0.1 false) fun y1=>some ((y1.1.1,(y1.1.2.1,(y1.1.2.2.1,()))),())else bz (Ed (x0.1,(x0.2.1,(x0.2.2.1,()))) [67]) fun y0=>bz (Ht (y0.1.1,(y0.1.2.1,(y0.1.2.2.1,()))) 67 x1 x2) fun y1=>some ((y1.1.1,(y1.1.2.1,(y1.1.2.2.1,()))),())else bif(bJ (bT x0.1 (dR .i64 (bC x0.1) 1)) 69)then bif(bJ x1 41)then bz (JR (x0.1,(x0.2.1,(x0.2.2.1,())))) fun y0=>some ((y0.1.1,(y0.1.2.1,(y0.1.2.2.1,()))),())else bz (Ed (x0.1,(x0.2.1,(x0.2.2.1,()))) [65]) fun y0=>bz (Ht (y0.1.1,(y0.1.2.1,(y0.1.2.2.1,()))) 65 x1 x2) fun y1=>some ((y1.1.1,(y1.1.2.1,(y1.1.2.2.1,()))),())else bz (Ht (x0.1,(x0.2.1,(x0.2.2.1,()))) (bT x0.1 (dR .i64 (bC x0.1) 1)) x1 x2) fun y0=>some ((y0.1.1,(y0.1.2.1,(y0.1.2.2.1,()))),())else none
def am9:Sum:=⟨[.pair .str tyH,.int .u8,cO],tzH,fun x=>ag9 x.1 x.2.1 x.2.2.1⟩
theorem VG:dH prog 97 am9:=qA f97 [] (sE Oc (sE Ym (sE Oe (sE apm aN))))
noncomputable def aHQ:Code:=(f160.body).getD .skip
noncomputable def aqV:Code:=cA (cA (cB (cA (cB (aHQ)))))
def atQ:dW:=⟨[1,2,5,100002],[],[],[],[4],[]⟩
def aaw:SP:=⟨us [.u,.v cO,.ptr 1000002 0,.u,.u,.v cO] 15,[.box 1000002 134 [.v .str,.v (.list cO),.v .bool]]⟩
def aa4:SP:=⟨us [] 21,[]⟩
def abJ:SP:=⟨us [.u,.u,.u,.u,.v cO] 16,[]⟩
def QW {γ:Type} (rec:Int->Int->bM->iC->Bool->Option γ) (kE:Option γ) (kR:Int->Option γ) (v0 v1:Int) (v2:bM) (v3:iC) (v4:Bool):Option γ:=bif(gU v1 (bC v3))then bif(fB v3 v1)then bif(bJ (dQ v3 0 v1) v0)then kR v1 else rec v0 (bU .i64 v1 1) v2 v3 v4 else none else kE
def Gl:Nat->Int->Int->bM->iC->Bool->Option (aa4.den⊕abJ.den)
 |0,_,_,_,_,_=>none
 |n+1,v0,v1,v2,v3,v4=>QW (Gl n) (some (.inl ((),()))) (fun r0=>some (.inr ((r0,()),()))) v0 v1 v2 v3 v4
def az0 (n:Nat) (v:aaw.den):=Gl n v.1.1 v.1.2.1 v.2.1.1 v.2.1.2.1 v.2.1.2.2.1
noncomputable def akP:di:=fD atQ aaw aa4 abJ (.exit 0) (az0 bH) 6
def adX (x0:Io) (x1:Int):Option DT:=bz (Gl bH x1 1 x0.1 x0.2.1 x0.2.2.1) fun y0=>dE y0 (fun a1=>some (0,())) (fun b1=>some (b1.1.1,()))
def aw7:Sum:=⟨[.pair .str tyH,cO],YG,fun x=>adX x.1 x.2.1⟩
noncomputable def agF:Env:=iM prog tt 160 [] [(2,atQ)] [(2,akP)]
def amj {γ:Type} (a:aaw.den->Option γ) (b:aa4.den->Option γ) (c:abJ.den->Option γ) (v:aaw.den):Option γ:=QW (fun v0 v1 v2 v3 v4=>a ((v0,v1,()),((v2,v3,v4,()),()))) (b ((),())) (fun r0=>c ((r0,()),())) v.1.1 v.1.2.1 v.2.1.1 v.2.1.2.1 v.2.1.2.2.1
theorem aAE:dG agF 160 aqV akP:=uQ (amj) (h2:=by intros;simp only[amj,QW,bV,bW,bu,bQ,bY])
theorem aEX:dD agF 160 aHQ:=nJ [aqV] (aD (fM (aAE)) aN)
theorem anN:eu agF:=eA f160 aN (aEX)
theorem apD:dH prog 160 aw7:=sA anN
noncomputable def aHR:Code:=(f161.body).getD .skip
noncomputable def aqW:Code:=cA (cA (cB (cA (cB (cB (cB (aHR)))))))
def atS:dW:=⟨[0,3,100006],[],[],[],[2],[]⟩
def aax:SP:=⟨us [.v (.int .u8),.u,.u,.v cO] 13,[]⟩
def aa5:SP:=⟨us [] 17,[]⟩
def abK:SP:=⟨us [.u,.u,.v cO] 14,[]⟩
def acu {γ:Type} (rec:Int->Int->Option γ) (kE:Option γ) (kR:Int->Option γ) (v0 v1:Int):Option γ:=bif(gU v1 15)then bif(fB [84,67,80,79,83,68,66,86,73,65,82,69,76,88,35] v1)then bif(bJ (bT [84,67,80,79,83,68,66,86,73,65,82,69,76,88,35] v1) v0)then kR v1 else rec v0 (bU .i64 v1 1)else none else kE
def ZV:Nat->Int->Int->Option (aa5.den⊕abK.den)
 |0,_,_=>none
 |n+1,v0,v1=>acu (ZV n) (some (.inl ((),()))) (fun r0=>some (.inr ((r0,()),()))) v0 v1
def az1 (n:Nat) (v:aax.den):=ZV n v.1.1 v.1.2.1
noncomputable def akQ:di:=fD atS aax aa5 abK (.exit 0) (az1 bH) 6
def ajL (x0:Int):Option DT:=bif(bJ x0 79)then some (1,())else bif(bJ x0 69)then some (9,())else bz (ZV bH x0 0) fun y0=>dE y0 (fun a1=>some (0,())) (fun b1=>some (b1.1.1,()))
def aw8:Sum:=⟨[.int .u8],YG,fun x=>ajL x.1⟩
noncomputable def agG:Env:=iM prog tt 161 [] [(6,atS)] [(6,akQ)]
def amk {γ:Type} (a:aax.den->Option γ) (b:aa5.den->Option γ) (c:abK.den->Option γ) (v:aax.den):Option γ:=acu (fun v0 v1=>a ((v0,v1,()),())) (b ((),())) (fun r0=>c ((r0,()),())) v.1.1 v.1.2.1
theorem aAF:dG agG 161 aqW akQ:=uQ (amk) (h2:=by intros;simp only[amk,acu,bV,bW,bu,bQ,bY])
theorem aEY:dD agG 161 aHR:=nJ [aqW] (aD (fM (aAF)) aN)
theorem anO:eu agG:=eA f161 aN (aEY)
theorem apE:dH prog 161 aw8:=sA anO
noncomputable def aHS:Code:=(f164.body).getD .skip
noncomputable def aqY:Code:=cA (cA (cB (cA (cB (cB (aHS))))))
def aaz:SP:=⟨us [.v .str,.u,.u,.v cO] 27,[]⟩
def aa7:SP:=⟨us [] 31,[]⟩
def abM:SP:=⟨us [.u,.u,.v .bool] 28,[]⟩
def QX {γ:Type} (rec:bM->Int->Option γ) (kE:Option γ) (kR:Bool->Option γ) (v0:bM) (v1:Int):Option γ:=bif(gU v1 (bC v0))then bif(fB v0 v1)then bz (MO (bT v0 v1)) fun y0=>bif(!(bJ y0.1 5))then bif(fB v0 v1)then bz (MO (bT v0 v1)) fun y1=>bif(!(bJ y1.1 6))then kR false else rec v0 (bU .i64 v1 1)else none else rec v0 (bU .i64 v1 1)else none else kE
def Gm:Nat->bM->Int->Option (aa7.den⊕abM.den)
 |0,_,_=>none
 |n+1,v0,v1=>QX (Gm n) (some (.inl ((),()))) (fun r0=>some (.inr ((r0,()),()))) v0 v1
def az3 (n:Nat) (v:aaz.den):=Gm n v.1.1 v.1.2.1
noncomputable def akS:di:=fD ZK aaz aa7 abM (.exit 0) (az3 bH) 6
def TA (x0:bM):Option oP:=bif(bJ (bC x0) 0)then some (false,())else bif(fB x0 0)then bz (MO (bT x0 0)) fun y0=>bif(!(bJ y0.1 5))then some (false,())else bz (Gm bH x0 1) fun y1=>dE y1 (fun a2=>some (true,())) (fun b2=>some (b2.1.1,()))else none
def VA:Sum:=⟨[.str],Ou,fun x=>TA x.1⟩
noncomputable def agH:Env:=iM prog tt 164 [(71,afP)] [(4,ZK)] [(4,akS)]
def amm {γ:Type} (a:aaz.den->Option γ) (b:aa7.den->Option γ) (c:abM.den->Option γ) (v:aaz.den):Option γ:=QX (fun v0 v1=>a ((v0,v1,()),())) (b ((),())) (fun r0=>c ((r0,()),())) v.1.1 v.1.2.1
theorem aAH:dG agH 164 aqY akS:=uQ (amm) (h2:=by intros;simp only[amm,QX,bV,bW,bu,bQ,bY])
theorem aE0:dD agH 164 aHS:=nJ [aqY] (aD (fM (aAH)) aN)
theorem anQ:eu agH:=eA f164 (aD xI aN) (aE0)
theorem GZ:dH prog 164 VA:=sA anQ
noncomputable def aHU:Code:=(f193.body).getD .skip
noncomputable def aq1:Code:=cA (cA (cB (cA (cB (cB (aHU))))))
def ZL:dW:=⟨[0,1,5,6,100003],[],[5],[],[4],[]⟩
def aaD:SP:=⟨us [.v .str,.v cO,.u,.u,.u,.v cO,.v cO] 17,[]⟩
def abb:SP:=⟨us [.u,.u,.u,.u,.u,.v cO] 18,[]⟩
def abQ:SP:=⟨us [.u,.u,.u,.u,.v cO] 19,[]⟩
def Q3 {γ:Type} (rec:bM->Int->Int->Int->Option γ) (kE kR:Int->Option γ) (v0:bM) (v1 v2 v3:Int):Option γ:=bif(leI v3 (dR .i64 (bC v0) v1))then bif(eU (bC v0) v1 (bU .i64 v1 v3))then bz (TA (sub v0 v1 (bU .i64 v1 v3))) fun y0=>bif y0.1 then rec v0 v1 v3 (bU .i64 v3 1)else rec v0 v1 v2 (bU .i64 v3 1)else none else kE v2
def Gp:Nat->bM->Int->Int->Int->Option (abb.den⊕abQ.den)
 |0,_,_,_,_=>none
 |n+1,v0,v1,v2,v3=>Q3 (Gp n) (fun e0=>some (.inl ((e0,()),()))) (fun r0=>some (.inr ((r0,()),()))) v0 v1 v2 v3
def az7 (n:Nat) (v:aaD.den):=Gp n v.1.1 v.1.2.1 v.1.2.2.1 v.1.2.2.2.1
noncomputable def akV:di:=fD ZL aaD abb abQ (.exit 0) (az7 bH) 6
def ajX (x0:bM) (x1:Int):Option DT:=bz (Gp bH x0 x1 0 1) fun y0=>dE y0 (fun a1=>some (a1.1.1,())) (fun b1=>some (b1.1.1,()))
def aHd:Sum:=⟨[.str,cO],YG,fun x=>ajX x.1 x.2.1⟩
noncomputable def agK:Env:=iM prog tt 193 [(164,VA)] [(3,ZL)] [(3,akV)]
def amr {γ:Type} (a:aaD.den->Option γ) (b:abb.den->Option γ) (c:abQ.den->Option γ) (v:aaD.den):Option γ:=Q3 (fun v0 v1 v2 v3=>a ((v0,v1,v2,v3,()),())) (fun e0=>b ((e0,()),())) (fun r0=>c ((r0,()),())) v.1.1 v.1.2.1 v.1.2.2.1 v.1.2.2.2.1
theorem aAL:dG agK 193 aq1 akV:=uQ (amr) (h2:=by intros;simp only[amr,Q3,bV,bW,bu,bQ,bY])
theorem aE4:dD agK 193 aHU:=nJ [aq1] (aD (fM (aAL)) aN)
theorem anV:eu agK:=eA f193 (aD GZ aN) (aE4)
theorem apP:dH prog 193 aHd:=sA anV
def ajM (x0:bM) (x1:Int):Option DT:=bz (ajX x0 x1) fun y0=>bif(bJ y0.1 0)then bif(gU x1 (bC x0))then bif(fB x0 x1)then bz (MO (bT x0 x1)) fun y1=>bif(bJ y1.1 6)then some (1,())else bif(fB x0 x1)then bz (Eg (bT x0 x1) [64,42,35,63,45,36,33]) fun y2=>bif y2.1 then some (1,())else some (y0.1,())else none else none else some (y0.1,())else some (y0.1,())
def aw9:Sum:=⟨[.str,cO],YG,fun x=>ajM x.1 x.2.1⟩
theorem apF:dH prog 162 aw9:=qA f162 [] (sE xI (sE Bz (sE apP aN)))
noncomputable def aqB:Code:=(f126.body).getD .skip
noncomputable def aqM:Code:=cA (cA (cB (cA (cB (cB (aqB))))))
noncomputable def aja:Code:=cA (cA (cB (cA (cB (cB (cB (cA (cA (cB (cA (cA (cB (cA (cB (cB (cB (cB (aqB))))))))))))))))))
noncomputable def ajb:Code:=cA (cA (cB (cA (cB (cB (cB (cB (cA (cA (cB (cA (cA (cB (cA (cB (cB (cB (cB (aqB)))))))))))))))))))
noncomputable def aqN:Code:=cA (cA (cB (cA (cB (cB (cB (cB (aqB))))))))
def atI:dW:=⟨[0,3,4,100003],[],[0,3],[],[2],[(2,Jq)]⟩
def akj:dW:=⟨[0,3,5,6,7,8,9,100014],[],[0,3,5,6,7,8],[],[2],[(2,Jq)]⟩
def akk:dW:=⟨[0,3,5,6,7,8,10,100019],[],[0,3,5,6,8],[],[2],[(2,Jq)]⟩
def atJ:dW:=⟨[0,3,5,6,100008],[(5,Jq)],[5],[],[2],[(2,Jq)]⟩
def aan:SP:=⟨us [.v .str,.u,.u,.slc 1000012,.v cO] 117,[.arr 1000012 (.pair .str tyH)]⟩
def aaW:SP:=⟨us [.v .str,.u,.u,.slc 1000012] 118,[.arr 1000012 (.pair .str tyH)]⟩
def abA:SP:=⟨us [.u,.u,.v WR] 119,[]⟩
def QO {γ:Type} (rec:bM->Int->(List Io)->Option γ) (kE:bM->(List Io)->Option γ) (kR:(List iY)->Option γ) (v0:bM) (v1:Int) (v2:List Io):Option γ:=bif(gU v1 (bC v0))then bif(fB v2 v1)then bif(fB v0 v1)then bif(nD (dm v1) v2)then bz (ag9 ((dA v2 ([],([],(false,()))) (dm v1)).1,((dA v2 ([],([],(false,()))) (dm v1)).2.1,((dA v2 ([],([],(false,()))) (dm v1)).2.2.1,()))) (bT v0 v1) v1) fun y0=>bif(dO (bG v2 [y0.1]) 48)then rec v0 (bU .i64 v1 1) (bG v2 [y0.1])else none else none else none else none else kE v0 v2
def Gi:Nat->bM->Int->(List Io)->Option (aaW.den⊕abA.den)
 |0,_,_,_=>none
 |n+1,v0,v1,v2=>QO (Gi n) (fun e0 e1=>some (.inl ((e0,()),(e1,())))) (fun r0=>some (.inr ((r0,()),()))) v0 v1 v2
def azR (n:Nat) (v:aan.den):=Gi n v.1.1 v.1.2.1 v.2.1
noncomputable def akG:di:=fD atI aan aaW abA (.exit 0) (azR bH) 6
def Qu:SP:=⟨us [.v .str,.u,.u,.slc 1000012,.u,.slc 1800005,.v cO,.v cO,.ptr 1000008 0,.v cO] 112,[.box 1000008 161 [.v cO,.v cO,.v cO,.v cO,.v .bool],.arr 1800005 Jq,.arr 1000012 (.pair .str tyH)]⟩
def UH:SP:=⟨us [.v .str,.u,.u,.slc 1000012,.u,.slc 1800005,.v cO,.v cO,.ptr 1000008 0] 113,[.box 1000008 161 [.v cO,.v cO,.v cO,.v cO,.v .bool],.arr 1800005 Jq,.arr 1000012 (.pair .str tyH)]⟩
def UR:SP:=⟨us [.u,.u,.v WR] 119,[]⟩
def Lt {γ:Type} (rec:bM->Int->Int->Int->Int->Int->Int->Int->Bool->(List iY)->(List Io)->Option γ) (kE:bM->Int->Int->Int->Int->Int->Int->Bool->(List iY)->(List Io)->Option γ) (kR:(List iY)->Option γ) (v0:bM) (v1 v2 v3 v4 v5 v6 v7:Int) (v8:Bool) (v9:List iY) (v10:List Io):Option γ:=bif(gU v3 (bC v9))then bif(gU 1 v2)then bif(fB v9 v3)then bif(nD (dm v3) v9)then bif(fB v10 (bU .i64 v1 1))then bif(nD (dm (bU .i64 v1 1)) v10)then bif(fB (dA v10 ([],([],(false,()))) (dm (bU .i64 v1 1))).2.1 (dR .i64 v2 1))then bif(bJ (dA v9 (0,(0,(0,(0,(false,()))))) (dm v3)).2.1 (dQ (dA v10 ([],([],(false,()))) (dm (bU .i64 v1 1))).2.1 0 (dR .i64 v2 1)))then rec v0 v1 v2 (bU .i64 v3 1) v4 v5 v6 v3 v8 v9 v10 else rec v0 v1 v2 (bU .i64 v3 1) v4 v5 v6 v7 v8 v9 v10 else none else none else none else none else none else rec v0 v1 v2 (bU .i64 v3 1) v4 v5 v6 v7 v8 v9 v10 else kE v0 v1 v2 v4 v5 v6 v7 v8 v9 v10
def AO:Nat->bM->Int->Int->Int->Int->Int->Int->Int->Bool->(List iY)->(List Io)->Option (UH.den⊕UR.den)
 |0,_,_,_,_,_,_,_,_,_,_,_=>none
 |n+1,v0,v1,v2,v3,v4,v5,v6,v7,v8,v9,v10=>Lt (AO n) (fun e0 e1 e2 e3 e4 e5 e6 e7 e8 e9=>some (.inl ((e0,e1,e2,()),((e3,e4,e5,e6,e7,()),e8,e9,())))) (fun r0=>some (.inr ((r0,()),()))) v0 v1 v2 v3 v4 v5 v6 v7 v8 v9 v10
def auC (n:Nat) (v:Qu.den):=AO n v.1.1 v.1.2.1 v.1.2.2.1 v.1.2.2.2.1 v.2.1.1 v.2.1.2.1 v.2.1.2.2.1 v.2.1.2.2.2.1 v.2.1.2.2.2.2.1 v.2.2.1 v.2.2.2.1
noncomputable def aeP:di:=fD akj Qu UH UR (.exit 4) (auC bH) 12
def Qv:SP:=⟨us [.v .str,.u,.u,.slc 1000012,.u,.slc 1800005,.v cO,.v cO,.ptr 1000008 0,.u,.v cO] 111,[.box 1000008 161 [.v cO,.v cO,.v cO,.v cO,.v .bool],.arr 1800005 Jq,.arr 1000012 (.pair .str tyH)]⟩
def UI:SP:=⟨us [.v .str,.u,.u,.slc 1000012,.u,.slc 1800005,.v cO,.u,.ptr 1000008 0] 113,[.box 1000008 161 [.v cO,.v cO,.v cO,.v cO,.v .bool],.arr 1800005 Jq,.arr 1000012 (.pair .str tyH)]⟩
def UT:SP:=⟨us [.u,.u,.v WR] 119,[]⟩
def Be {γ:Type} (rec:bM->Int->Int->Int->Int->Int->Int->Int->Bool->(List iY)->(List Io)->Option γ) (kE:bM->Int->Int->Int->Int->Int->Bool->(List iY)->(List Io)->Option γ) (kR:(List iY)->Option γ) (v0:bM) (v1 v2 v3 v4 v5 v6 v7:Int) (v8:Bool) (v9:List iY) (v10:List Io):Option γ:=bif(leI v3 (bC v0))then bif(fB v10 v3)then bif(nD (dm v3) v10)then bz (adX ((dA v10 ([],([],(false,()))) (dm v3)).1,((dA v10 ([],([],(false,()))) (dm v3)).2.1,((dA v10 ([],([],(false,()))) (dm v3)).2.2.1,()))) v1) fun y0=>bif(bJ y0.1 0)then kE v0 v1 v4 v5 v3 v7 false v9 v10 else bif(fB v10 v3)then bif(nD (dm v3) v10)then bif(fB (dA v10 ([],([],(false,()))) (dm v3)).1 v2)then bz (ajL (bT (dA v10 ([],([],(false,()))) (dm v3)).1 v2)) fun y1=>rec v0 v1 v2 (bU .i64 v3 1) y1.1 v5 v6 v7 v8 v9 v10 else none else none else none else none else none else kE v0 v1 v4 v5 v6 v7 v8 v9 v10
def xB:Nat->bM->Int->Int->Int->Int->Int->Int->Int->Bool->(List iY)->(List Io)->Option (UI.den⊕UT.den)
 |0,_,_,_,_,_,_,_,_,_,_,_=>none
 |n+1,v0,v1,v2,v3,v4,v5,v6,v7,v8,v9,v10=>Be (xB n) (fun e0 e1 e2 e3 e4 e5 e6 e7 e8=>some (.inl ((e0,e1,()),((e2,e3,e4,e5,e6,()),e7,e8,())))) (fun r0=>some (.inr ((r0,()),()))) v0 v1 v2 v3 v4 v5 v6 v7 v8 v9 v10
def auD (n:Nat) (v:Qv.den):=xB n v.1.1 v.1.2.1 v.1.2.2.1 v.1.2.2.2.1 v.2.1.1 v.2.1.2.1 v.2.1.2.2.1 v.2.1.2.2.2.1 v.2.1.2.2.2.2.1 v.2.2.1 v.2.2.2.1
noncomputable def aeQ:di:=fD akk Qv UI UT (.exit 6) (auD bH) 18
def aao:SP:=⟨us [.v .str,.u,.u,.slc 1000012,.u,.slc 1800005,.v cO] 115,[.arr 1800005 Jq,.arr 1000012 (.pair .str tyH)]⟩
def aaX:SP:=⟨us [.u,.u,.u,.u,.u,.slc 1800005] 116,[.arr 1800005 Jq]⟩
def abB:SP:=⟨us [.u,.u,.v WR] 119,[]⟩
def QP {γ:Type} (rec:bM->Int->(List iY)->(List Io)->Option γ) (kE kR:(List iY)->Option γ) (v0:bM) (v1:Int) (v2:List iY) (v3:List Io):Option γ:=bif(gU v1 (bC v0))then bif(fB v3 (bU .i64 v1 1))then bif(nD (dm (bU .i64 v1 1)) v3)then bz (adX ((dA v3 ([],([],(false,()))) (dm (bU .i64 v1 1))).1,((dA v3 ([],([],(false,()))) (dm (bU .i64 v1 1))).2.1,((dA v3 ([],([],(false,()))) (dm (bU .i64 v1 1))).2.2.1,()))) v1) fun y0=>bif(bJ y0.1 0)then rec v0 (bU .i64 v1 1) v2 v3 else bz (AO bH v0 v1 y0.1 0 0 v1 (bC v0) (-1) true v2 v3) fun y1=>dE y1 (fun a2=>bz (xB bH a2.1.1 a2.1.2.1 a2.1.2.2.1 (bU .i64 a2.1.2.1 1) a2.2.1.1 a2.2.1.2.1 a2.2.1.2.2.1 a2.2.1.2.2.2.1 a2.2.1.2.2.2.2.1 a2.2.2.1 a2.2.2.2.1) fun y3=>dE y3 (fun a4=>bif(bJ a4.2.1.1 12)then bz (ajM a4.1.1 (bU .i64 a4.1.2.1 1)) fun y5=>bif(dO (bG a4.2.2.1 [(a4.2.1.1,(a4.2.1.2.1,((bU .i64 (bU .i64 a4.1.2.1 1) y5.1),(a4.2.1.2.2.2.1,(false,())))))]) 40)then rec a4.1.1 (bU .i64 a4.1.2.1 1) (bG a4.2.2.1 [(a4.2.1.1,(a4.2.1.2.1,((bU .i64 (bU .i64 a4.1.2.1 1) y5.1),(a4.2.1.2.2.2.1,(false,())))))]) a4.2.2.2.1 else none else bif(dO (bG a4.2.2.1 [(a4.2.1.1,(a4.2.1.2.1,(a4.2.1.2.2.1,(a4.2.1.2.2.2.1,(a4.2.1.2.2.2.2.1,())))))]) 40)then rec a4.1.1 (bU .i64 a4.1.2.1 1) (bG a4.2.2.1 [(a4.2.1.1,(a4.2.1.2.1,(a4.2.1.2.2.1,(a4.2.1.2.2.2.1,(a4.2.1.2.2.2.2.1,())))))]) a4.2.2.2.1 else none) (fun b4=>kR b4.1.1)) (fun b2=>kR b2.1.1)else none else none else kE v2
def Ce:Nat->bM->Int->(List iY)->(List Io)->Option (aaX.den⊕abB.den)
 |0,_,_,_,_=>none
 |n+1,v0,v1,v2,v3=>QP (Ce n) (fun e0=>some (.inl ((),(e0,())))) (fun r0=>some (.inr ((r0,()),()))) v0 v1 v2 v3
def azS (n:Nat) (v:aao.den):=Ce n v.1.1 v.1.2.1 v.2.1 v.2.2.1
noncomputable def akH:di:=fD atJ aao aaX abB (.exit 2) (azS bH) 24
def ajC (x0:bM):Option ((List iY)×Unit):=bz ag8 fun y0=>bz (Gi bH x0 0 [y0.1]) fun y1=>dE y1 (fun a2=>bz (Ce bH a2.1.1 0 [] a2.2.1) fun y3=>dE y3 (fun a4=>some (a4.2.1,())) (fun b4=>some (b4.1.1,()))) (fun b2=>some (b2.1.1,()))
def aw1:Sum:=⟨[.str],[(.list Jq,false)],fun x=>ajC x.1⟩
noncomputable def MG:Env:=iM prog tt 126 [(95,am8),(97,am9),(160,aw7),(161,aw8),(162,aw9)] [(3,atI),(14,akj),(19,akk),(8,atJ)] [(3,akG),(14,aeP),(19,aeQ),(8,akH)]
def ama {γ:Type} (a:aan.den->Option γ) (b:aaW.den->Option γ) (c:abA.den->Option γ) (v:aan.den):Option γ:=QO (fun v0 v1 v2=>a ((v0,v1,()),(v2,()))) (fun e0 e1=>b ((e0,()),(e1,()))) (fun r0=>c ((r0,()),())) v.1.1 v.1.2.1 v.2.1
theorem aAv:dG MG 126 aqM akG:=uQ (ama) (h2:=by intros;simp only[ama,QO,bV,bW,bu,bQ,bY])
def afv {γ:Type} (a:Qu.den->Option γ) (b:UH.den->Option γ) (c:UR.den->Option γ) (v:Qu.den):Option γ:=Lt (fun v0 v1 v2 v3 v4 v5 v6 v7 v8 v9 v10=>a ((v0,v1,v2,v3,()),((v4,v5,v6,v7,v8,()),v9,v10,()))) (fun e0 e1 e2 e3 e4 e5 e6 e7 e8 e9=>b ((e0,e1,e2,()),((e3,e4,e5,e6,e7,()),e8,e9,()))) (fun r0=>c ((r0,()),())) v.1.1 v.1.2.1 v.1.2.2.1 v.1.2.2.2.1 v.2.1.1 v.2.1.2.1 v.2.1.2.2.1 v.2.1.2.2.2.1 v.2.1.2.2.2.2.1 v.2.2.1 v.2.2.2.1
theorem avq:dG MG 126 aja aeP:=uQ (afv) (h2:=by intros;simp only[afv,Lt,bV,bW,bu,bQ,bY])
def afw {γ:Type} (a:Qv.den->Option γ) (b:UI.den->Option γ) (c:UT.den->Option γ) (v:Qv.den):Option γ:=Be (fun v0 v1 v2 v3 v4 v5 v6 v7 v8 v9 v10=>a ((v0,v1,v2,v3,()),((v4,v5,v6,v7,v8,()),v9,v10,()))) (fun e0 e1 e2 e3 e4 e5 e6 e7 e8=>b ((e0,e1,()),((e2,e3,e4,e5,e6,()),e7,e8,()))) (fun r0=>c ((r0,()),())) v.1.1 v.1.2.1 v.1.2.2.1 v.1.2.2.2.1 v.2.1.1 v.2.1.2.1 v.2.1.2.2.1 v.2.1.2.2.2.1 v.2.1.2.2.2.2.1 v.2.2.1 v.2.2.2.1
theorem avr:dG MG 126 ajb aeQ:=uQ (afw) (h2:=by intros;simp only[afw,Be,bV,bW,bu,bQ,bY])
def amb {γ:Type} (a:aao.den->Option γ) (b:aaX.den->Option γ) (c:abB.den->Option γ) (v:aao.den):Option γ:=QP (fun v0 v1 v2 v3=>a ((v0,v1,()),(v2,v3,()))) (fun e0=>b ((),(e0,()))) (fun r0=>c ((r0,()),())) v.1.1 v.1.2.1 v.2.1 v.2.2.1
theorem aAw:dG MG 126 aqN akH:=uQ (amb) (h2:=by intros;simp only[amb,QP,bV,bW,bu,bQ,bY])
theorem aEK:dD MG 126 aqB:=nJ [aqM,aja,ajb,aqN] (aD (fM (aAv)) (aD (fM (avq)) (aD (fM (avr)) (aD (fM (aAw)) aN))))
theorem anx:eu MG:=eA f126 (aD VF (aD VG (aD apD (aD apE (aD apF aN))))) (aEK)
theorem apn:dH prog 126 aw1:=sA anx
noncomputable def b99:Code:=(f99.body).getD .skip
noncomputable def aBW:Code:=cA (cA (cB (cA (cB (cB (b99))))))
def aCs:dW:=⟨[0,2,3,4,100003],[],[2,3],[],[2],[]⟩
def alR:SP:=⟨us [.v .str,.u,.ptr 1000002 0,.ptr 1000003 0,.v cO] 14,[.box 1000003 134 [.v .str,.v (.list cO),.v .bool],.box 1000002 134 [.v .str,.nils,.v .bool]]⟩
def ah9:SP:=⟨us [.u,.u,.ptr 1000002 0,.ptr 1000003 0] 15,[.box 1000003 134 [.v .str,.v (.list cO),.v .bool],.box 1000002 134 [.v .str,.nils,.v .bool]]⟩
def aiB:SP:=⟨us [] 19,[]⟩
def acV {γ:Type} (rec:bM->Int->bM->iC->Bool->bM->Bool->Option γ) (kE:bM->iC->Bool->bM->Bool->Option γ) (kR:Option γ) (v0:bM) (v1:Int) (v2:bM) (v3:iC) (v4:Bool) (v5:bM) (v6:Bool):Option γ:=bif(gU v1 (bC v0))then bif(fB v0 v1)then bz (ag9 (v2,(v3,(v4,()))) (bT v0 v1) v1) fun y0=>rec v0 (bU .i64 v1 1) y0.1.1 y0.1.2.1 y0.1.2.2.1 v5 v6 else none else kE v2 v3 v4 v5 v6
def Um:Nat->bM->Int->bM->iC->Bool->bM->Bool->Option (ah9.den⊕aiB.den)
 |0,_,_,_,_,_,_,_=>none
 |n+1,v0,v1,v2,v3,v4,v5,v6=>acV (Um n) (fun e0 e1 e2 e3 e4=>some (.inl ((),((e0,e1,e2,()),(e3,e4,()),())))) (some (.inr ((),()))) v0 v1 v2 v3 v4 v5 v6
def aFK (n:Nat) (v:alR.den):=Um n v.1.1 v.1.2.1 v.2.1.1 v.2.1.2.1 v.2.1.2.2.1 v.2.2.1.1 v.2.2.1.2.1
noncomputable def avf:di:=fD aCs alR ah9 aiB (.exit 0) (aFK bH) 6
def azo (x0:bM):Option taW:=bz ag8 fun y0=>bz (Um bH x0 0 y0.1.1 y0.1.2.1 y0.1.2.2.1 [] false) fun y1=>dE y1 (fun a2=>some ((a2.2.1.1,(a2.2.1.2.1,(a2.2.1.2.2.1,()))),())) (fun b2=>none)
def aJm:Sum:=⟨[.str],tzH,fun x=>azo x.1⟩
noncomputable def asy:Env:=iM prog tt 99 [(95,am8),(97,am9)] [(3,aCs)] [(3,avf)]
def awx {γ:Type} (a:alR.den->Option γ) (b:ah9.den->Option γ) (c:aiB.den->Option γ) (v:alR.den):Option γ:=acV (fun v0 v1 v2 v3 v4 v5 v6=>a ((v0,v1,()),((v2,v3,v4,()),(v5,v6,()),()))) (fun e0 e1 e2 e3 e4=>b ((),((e0,e1,e2,()),(e3,e4,()),()))) (c ((),())) v.1.1 v.1.2.1 v.2.1.1 v.2.1.2.1 v.2.1.2.2.1 v.2.2.1.1 v.2.2.1.2.1
theorem aGq:dG asy 99 aBW avf:=uQ (awx) (h2:=by intros;simp only[awx,acV,bV,bW,bu,bQ,bY])
theorem aIS:dD asy 99 b99:=nJ [aBW] (aD (fM (aGq)) aN)
theorem asz:eu asy:=eA f99 (aD VF (aD VG aN)) (aIS)
theorem aye:dH prog 99 aJm:=sA asz
noncomputable def b72:Code:=(f72.body).getD .skip
noncomputable def aBK:Code:=cA (cA (cB (cA (cB (cB (b72))))))
def aCk:dW:=⟨[0,5,6,100003],[],[0],[],[4],[]⟩
def alF:SP:=⟨us [.v .str,.u,.u,.u,.u,.ptr 1000005 0,.v cO] 37,[.box 1000005 134 [.v .str,.v (.list cO),.v .bool]]⟩
def abw:SP:=⟨us [.v .str] 43,[]⟩
def aca:SP:=⟨us [.u,.u,.u,.u,.v cO] 39,[]⟩
def Fe {γ:Type} (v0:bM) (v1:Int) (v2:bM) (v3:iC) (v4:Bool) (rec:bM->Int->bM->iC->Bool->Option γ):Option γ:=bif(fB v0 v1)then bz (ag9 (v2,(v3,(v4,()))) (bT v0 v1) v1) fun y1=>rec v0 (bU .i64 v1 1) y1.1.1 y1.1.2.1 y1.1.2.2.1 else none
def acL {γ:Type} (rec:bM->Int->bM->iC->Bool->Option γ) (kE:bM->Option γ) (kR:Int->Option γ) (v0:bM) (v1:Int) (v2:bM) (v3:iC) (v4:Bool):Option γ:=bif(gU v1 (bC v0))then bif(fB v0 v1)then bz (atl (bT v0 v1)) fun y0=>bif y0.1 then bif(fG v2 [84])then kR v1 else bif(fG v2 [84,76])then bif(fB v0 v1)then bif(!(bJ (bT v0 v1) 40))then kR v1 else Fe v0 v1 v2 v3 v4 rec else none else Fe v0 v1 v2 v3 v4 rec else Fe v0 v1 v2 v3 v4 rec else none else kE v0
def Nj:Nat->bM->Int->bM->iC->Bool->Option (abw.den⊕aca.den)
 |0,_,_,_,_,_=>none
 |n+1,v0,v1,v2,v3,v4=>acL (Nj n) (fun e0=>some (.inl ((e0,()),()))) (fun r0=>some (.inr ((r0,()),()))) v0 v1 v2 v3 v4
def aFy (n:Nat) (v:alF.den):=Nj n v.1.1 v.1.2.1 v.2.1.1 v.2.1.2.1 v.2.1.2.2.1
noncomputable def au3:di:=fD aCk alF abw aca (.exit 0) (aFy bH) 6
def aot (x0:bM) (x1:Int):Option DT:=bz ag8 fun y0=>bz (Nj bH x0 x1 y0.1.1 y0.1.2.1 y0.1.2.2.1) fun y1=>dE y1 (fun a2=>some ((bC a2.1.1),())) (fun b2=>some (b2.1.1,()))
def aC8:Sum:=⟨[.str,cO],YG,fun x=>aot x.1 x.2.1⟩
noncomputable def ar5:Env:=iM prog tt 72 [(95,am8),(96,aDg),(97,am9)] [(3,aCk)] [(3,au3)]
def awl {γ:Type} (a:alF.den->Option γ) (b:abw.den->Option γ) (c:aca.den->Option γ) (v:alF.den):Option γ:=acL (fun v0 v1 v2 v3 v4=>a ((v0,v1,()),((v2,v3,v4,()),()))) (fun e0=>b ((e0,()),())) (fun r0=>c ((r0,()),())) v.1.1 v.1.2.1 v.2.1.1 v.2.1.2.1 v.2.1.2.2.1
theorem aGe:dG ar5 72 aBK au3:=uQ (awl) (h2:=by intros;simp only[awl,acL,bV,bW,bu,bQ,bY,Fe])
theorem aIG:dD ar5 72 b72:=nJ [aBK] (aD (fM (aGe)) aN)
theorem ar6:eu ar5:=eA f72 (aD VF (aD afT (aD VG aN))) (aIG)
theorem axZ:dH prog 72 aC8:=sA ar6
end
section
open Tryz
open Go.RowKit
noncomputable def b67:Code:=(f67.body).getD .skip
noncomputable def aBG:Code:=cA (cA (cA (cB (cB (cA (cA (cB (cA (cA (cB (cA (cB (cB (b67))))))))))))))
noncomputable def aBF:Code:=cA (cA (cB (cA (cB (cB (b67))))))
def aCi:dW:=⟨[0,5,9,10,100007],[],[0,5,9,10],[],[6,7],[]⟩
def aCh:dW:=⟨[0,5,8,9,100003],[],[0],[],[6,7],[]⟩
def alB:SP:=⟨us [.v .str,.u,.u,.u,.u,.ptr 1000005 0,.u,.u,.u,.v cO,.v cO] 63,[.box 1000005 65 [.v .str,.v .bool]]⟩
def ahV:SP:=⟨us [.v .str,.u,.u,.u,.u,.ptr 1000005 0,.u,.u,.u,.v cO,.v cO] 63,[.box 1000005 65 [.v .str,.v .bool]]⟩
def ain:SP:=⟨us [.u,.u,.u,.u,.u,.u,.v cO,.v cO] 66,[]⟩
def acI {γ:Type} (rec kE:bM->Int->Int->bM->Bool->Option γ) (kR:Int->Int->Option γ) (v0:bM) (v1 v2:Int) (v3:bM) (v4:Bool):Option γ:=bif v4 then bif(gU v2 v1)then bif(fB v0 v2)then bif(bJ (bT v0 v2) 9)then rec v0 v1 (bU .i64 v2 1) v3 v4 else kE v0 v1 v2 v3 v4 else none else kE v0 v1 v2 v3 v4 else kE v0 v1 v2 v3 v4
def Ui:Nat->bM->Int->Int->bM->Bool->Option (ahV.den⊕ain.den)
 |0,_,_,_,_,_=>none
 |n+1,v0,v1,v2,v3,v4=>acI (Ui n) (fun e0 e1 e2 e3 e4=>some (.inl ((e0,e1,e2,()),((e3,e4,()),())))) (fun r0 r1=>some (.inr ((r0,r1,()),()))) v0 v1 v2 v3 v4
def aFu (n:Nat) (v:alB.den):=Ui n v.1.1 v.1.2.1 v.1.2.2.1 v.2.1.1 v.2.1.2.1
noncomputable def auZ:di:=fD aCi alB ahV ain (.exit 2) (aFu bH) 6
def alA:SP:=⟨us [.v .str,.u,.u,.u,.u,.ptr 1000005 0,.u,.u,.v cO,.v cO] 64,[.box 1000005 65 [.v .str,.v .bool]]⟩
def abu:SP:=⟨us [.v .str] 73,[]⟩
def ab8:SP:=⟨us [.u,.u,.u,.u,.u,.u,.v cO,.v cO] 66,[]⟩
def uM {γ:Type} (v0:bM) (v2 v1:Int) (v3:bM) (v4:Bool) (kR:Int->Int->Option γ) (rec:bM->Int->Int->bM->Bool->Option γ):Option γ:=bz (Ui bH v0 v2 v1 v3 v4) fun y0=>dE y0 (fun a1=>bif(eU (bC a1.1.1) a1.1.2.2.1 a1.1.2.1)then bif(fG (sub a1.1.1 a1.1.2.2.1 a1.1.2.1) a1.2.1.1)then bif(gU a1.1.2.1 (bC a1.1.1))then kR (bU .i64 a1.1.2.1 1) 1 else kR a1.1.2.1 1 else rec a1.1.1 (bU .i64 a1.1.2.1 1) (bU .i64 a1.1.2.1 1) a1.2.1.1 a1.2.1.2.1 else none) (fun b1=>kR b1.1.1 b1.1.2.1)
def N7 {γ:Type} (rec:bM->Int->Int->bM->Bool->Option γ) (kE:bM->Option γ) (kR:Int->Int->Option γ) (v0:bM) (v1 v2:Int) (v3:bM) (v4:Bool):Option γ:=bif(leI v2 (bC v0))then bif(gU v2 (bC v0))then bif(fB v0 v2)then bif(!(bJ (bT v0 v2) 10))then rec v0 v1 (bU .i64 v2 1) v3 v4 else bif(bJ v2 (bC v0))then bif(bJ v1 v2)then rec v0 v1 (bU .i64 v2 1) v3 v4 else uM v0 v2 v1 v3 v4 kR rec else uM v0 v2 v1 v3 v4 kR rec else none else bif(bJ v2 (bC v0))then bif(bJ v1 v2)then rec v0 v1 (bU .i64 v2 1) v3 v4 else uM v0 v2 v1 v3 v4 kR rec else uM v0 v2 v1 v3 v4 kR rec else kE v0
def CB:Nat->bM->Int->Int->bM->Bool->Option (abu.den⊕ab8.den)
 |0,_,_,_,_,_=>none
 |n+1,v0,v1,v2,v3,v4=>N7 (CB n) (fun e0=>some (.inl ((e0,()),()))) (fun r0 r1=>some (.inr ((r0,r1,()),()))) v0 v1 v2 v3 v4
def aFt (n:Nat) (v:alA.den):=CB n v.1.1 v.1.2.1 v.1.2.2.1 v.2.1.1 v.2.1.2.1
noncomputable def auY:di:=fD aCh alA abu ab8 (.exit 0) (aFt bH) 12
def azf (x0:bM) (x1:Int) (x2:bM×oP):Option nZ:=bz (CB bH x0 x1 x1 x2.1 x2.2.1) fun y0=>dE y0 (fun a1=>some ((bC a1.1.1),(0,()))) (fun b1=>some (b1.1.1,(b1.1.2.1,())))
def aC5:Sum:=⟨[.str,cO,PZ],tzI,fun x=>azf x.1 x.2.1 x.2.2.1⟩
noncomputable def aju:Env:=iM prog tt 67 [] [(7,aCi),(3,aCh)] [(7,auZ),(3,auY)]
def awh {γ:Type} (a:alB.den->Option γ) (b:ahV.den->Option γ) (c:ain.den->Option γ) (v:alB.den):Option γ:=acI (fun v0 v1 v2 v3 v4=>a ((v0,v1,v2,()),((v3,v4,()),()))) (fun e0 e1 e2 e3 e4=>b ((e0,e1,e2,()),((e3,e4,()),()))) (fun r0 r1=>c ((r0,r1,()),())) v.1.1 v.1.2.1 v.1.2.2.1 v.2.1.1 v.2.1.2.1
theorem aGa:dG aju 67 aBG auZ:=uQ (awh) (h2:=by intros;simp only[awh,acI,bV,bW,bu,bQ,bY])
def awg {γ:Type} (a:alA.den->Option γ) (b:abu.den->Option γ) (c:ab8.den->Option γ) (v:alA.den):Option γ:=N7 (fun v0 v1 v2 v3 v4=>a ((v0,v1,v2,()),((v3,v4,()),()))) (fun e0=>b ((e0,()),())) (fun r0 r1=>c ((r0,r1,()),())) v.1.1 v.1.2.1 v.1.2.2.1 v.2.1.1 v.2.1.2.1
theorem aF9:dG aju 67 aBF auY:=uQ (awg) (h2:=by intros;simp only[awg,N7,bV,bW,bu,bQ,bY,uM])
theorem aIC:dD aju 67 b67:=nJ [aBG,aBF] (aD (fM (aGa)) (aD (fM (aF9)) aN))
theorem arX:eu aju:=eA f67 aN (aIC)
theorem axW:dH prog 67 aC5:=sA arX
noncomputable def b68:Code:=(f68.body).getD .skip
noncomputable def aBH:Code:=cA (cA (cA (cB (b68))))
def alC:SP:=⟨us [.v .str,.v cO] 40,[]⟩
def abv:SP:=⟨us [.u,.v cO] 40,[]⟩
def ab9:SP:=⟨us [.u,.u,.u,.u,.v cO] 37,[]⟩
def acJ {γ:Type} (rec:bM->Int->Option γ) (kE kR:Int->Option γ) (v0:bM) (v1:Int):Option γ:=bif(gU v1 (bC v0))then bif(fB v0 v1)then bif(bJ (bT v0 v1) 32)then rec v0 (bU .i64 v1 1)else bif(fB v0 v1)then bif(bJ (bT v0 v1) 9)then rec v0 (bU .i64 v1 1)else bif(fB v0 v1)then bif(bJ (bT v0 v1) 92)then bif(gU (bU .i64 v1 1) (bC v0))then bif(fB v0 (bU .i64 v1 1))then bif(bJ (bT v0 (bU .i64 v1 1)) 10)then rec v0 (bU .i64 v1 2)else kE v1 else none else kE v1 else kE v1 else none else none else none else kE v1
def Nc:Nat->bM->Int->Option (abv.den⊕ab9.den)
 |0,_,_=>none
 |n+1,v0,v1=>acJ (Nc n) (fun e0=>some (.inl ((e0,()),()))) (fun r0=>some (.inr ((r0,()),()))) v0 v1
def aFv (n:Nat) (v:alC.den):=Nc n v.1.1 v.1.2.1
noncomputable def au0:di:=fD ZJ alC abv ab9 (.exit 0) (aFv bH) 6
def azg (x0:bM) (x1:Int):Option DT:=bz (Nc bH x0 x1) fun y0=>dE y0 (fun a1=>some (a1.1.1,())) (fun b1=>some (b1.1.1,()))
def aC6:Sum:=⟨[.str,cO],YG,fun x=>azg x.1 x.2.1⟩
noncomputable def arY:Env:=iM prog tt 68 [] [(1,ZJ)] [(1,au0)]
def awi {γ:Type} (a:alC.den->Option γ) (b:abv.den->Option γ) (c:ab9.den->Option γ) (v:alC.den):Option γ:=acJ (fun v0 v1=>a ((v0,v1,()),())) (fun e0=>b ((e0,()),())) (fun r0=>c ((r0,()),())) v.1.1 v.1.2.1
theorem aGb:dG arY 68 aBH au0:=uQ (awi) (h2:=by intros;simp only[awi,acJ,bV,bW,bu,bQ,bY])
theorem aID:dD arY 68 b68:=nJ [aBH] (aD (fM (aGb)) aN)
theorem arZ:eu arY:=eA f68 aN (aID)
theorem axX:dH prog 68 aC6:=sA arZ
noncomputable def b70:Code:=(f70.body).getD .skip
noncomputable def aBJ:Code:=cA (cA (cA (cB (cB (cB (b70))))))
def aCj:dW:=⟨[3,100004],[],[3],[],[2],[]⟩
def alE:SP:=⟨us [.u,.u,.u,.v .str] 29,[]⟩
def ahX:SP:=⟨us [.u,.u,.u,.v .str] 29,[]⟩
def aip:SP:=⟨us [.u,.u,.v .str] 30,[]⟩
def aiN {γ:Type} (rec kE kR:bM->Option γ) (v0:bM):Option γ:=bif(gU 0 (bC v0))then bif(fB v0 (dR .i64 (bC v0) 1))then bif(bJ (bT v0 (dR .i64 (bC v0) 1)) 32)then bif(eU (bC v0) 0 (dR .i64 (bC v0) 1))then rec (sub v0 0 (dR .i64 (bC v0) 1))else none else kE v0 else none else kE v0
def ahB:Nat->bM->Option (ahX.den⊕aip.den)
 |0,_=>none
 |n+1,v0=>aiN (ahB n) (fun e0=>some (.inl ((e0,()),()))) (fun r0=>some (.inr ((r0,()),()))) v0
def aFx (n:Nat) (v:alE.den):=ahB n v.1.1
noncomputable def au2:di:=fD aCj alE ahX aip (.exit 0) (aFx bH) 6
def Zr (x0:Int):Option Qh:=bif(gU x0 1)then some ([],())else bif(gU 17 x0)then some ([],())else bif(eU (bC [38,38,32,124,124,32,59,59,32,60,60,32,60,60,45,62,62,32,60,38,32,62,38,32,60,62,32,62,124,32,60,32,32,62,32,32,38,32,32,59,32,32,124,32,32,40,32,32,41,32,32]) (aoV .i64 3 (dR .i64 x0 1)) (aoV .i64 3 x0))then bz (ahB bH (sub [38,38,32,124,124,32,59,59,32,60,60,32,60,60,45,62,62,32,60,38,32,62,38,32,60,62,32,62,124,32,60,32,32,62,32,32,38,32,32,59,32,32,124,32,32,40,32,32,41,32,32] (aoV .i64 3 (dR .i64 x0 1)) (aoV .i64 3 x0))) fun y0=>dE y0 (fun a1=>some (a1.1.1,())) (fun b1=>some (b1.1.1,()))else none
def am5:Sum:=⟨[cO],V7,fun x=>Zr x.1⟩
noncomputable def ar2:Env:=iM prog tt 70 [] [(4,aCj)] [(4,au2)]
def awk {γ:Type} (a:alE.den->Option γ) (b:ahX.den->Option γ) (c:aip.den->Option γ) (v:alE.den):Option γ:=aiN (fun v0=>a ((v0,()),())) (fun e0=>b ((e0,()),())) (fun r0=>c ((r0,()),())) v.1.1
theorem aGd:dG ar2 70 aBJ au2:=uQ (awk) (h2:=by intros;simp only[awk,aiN,bV,bW,bu,bQ,bY])
theorem aIF:dD ar2 70 b70:=nJ [aBJ] (aD (fM (aGd)) aN)
theorem ar4:eu ar2:=eA f70 aN (aIF)
theorem VE:dH prog 70 am5:=sA ar4
noncomputable def b69:Code:=(f69.body).getD .skip
noncomputable def aBI:Code:=cA (cA (cB (cA (cB (cB (b69))))))
def alD:SP:=⟨us [.v .str,.v cO,.u,.u,.u,.v cO,.v cO] 35,[]⟩
def ahW:SP:=⟨us [.u,.u,.u,.u,.u,.v cO] 36,[]⟩
def aio:SP:=⟨us [.u,.u,.u,.u,.v cO] 37,[]⟩
def acK {γ:Type} (rec:bM->Int->Int->Int->Option γ) (kE kR:Int->Option γ) (v0:bM) (v1 v2 v3:Int):Option γ:=bif(leI v3 17)then bz (Zr v3) fun y0=>bif(leI (bC y0.1) (dR .i64 (bC v0) v1))then bif(eU (bC v0) v1 (bU .i64 v1 (bC y0.1)))then bif(fG (sub v0 v1 (bU .i64 v1 (bC y0.1))) y0.1)then bz (Zr v2) fun y1=>bif(gU (bC y1.1) (bC y0.1))then rec v0 v1 v3 (bU .i64 v3 1)else rec v0 v1 v2 (bU .i64 v3 1)else rec v0 v1 v2 (bU .i64 v3 1)else none else rec v0 v1 v2 (bU .i64 v3 1)else kE v2
def Nh:Nat->bM->Int->Int->Int->Option (ahW.den⊕aio.den)
 |0,_,_,_,_=>none
 |n+1,v0,v1,v2,v3=>acK (Nh n) (fun e0=>some (.inl ((e0,()),()))) (fun r0=>some (.inr ((r0,()),()))) v0 v1 v2 v3
def aFw (n:Nat) (v:alD.den):=Nh n v.1.1 v.1.2.1 v.1.2.2.1 v.1.2.2.2.1
noncomputable def au1:di:=fD ZL alD ahW aio (.exit 0) (aFw bH) 6
def atf (x0:bM) (x1:Int):Option DT:=bz (Nh bH x0 x1 0 1) fun y0=>dE y0 (fun a1=>some (a1.1.1,())) (fun b1=>some (b1.1.1,()))
def aC7:Sum:=⟨[.str,cO],YG,fun x=>atf x.1 x.2.1⟩
noncomputable def ar0:Env:=iM prog tt 69 [(70,am5)] [(3,ZL)] [(3,au1)]
def awj {γ:Type} (a:alD.den->Option γ) (b:ahW.den->Option γ) (c:aio.den->Option γ) (v:alD.den):Option γ:=acK (fun v0 v1 v2 v3=>a ((v0,v1,v2,v3,()),())) (fun e0=>b ((e0,()),())) (fun r0=>c ((r0,()),())) v.1.1 v.1.2.1 v.1.2.2.1 v.1.2.2.2.1
theorem aGc:dG ar0 69 aBI au1:=uQ (awj) (h2:=by intros;simp only[awj,acK,bV,bW,bu,bQ,bY])
theorem aIE:dD ar0 69 b69:=nJ [aBI] (aD (fM (aGc)) aN)
theorem ar1:eu ar0:=eA f69 (aD VE aN) (aIE)
theorem axY:dH prog 69 aC7:=sA ar1
def ag5 (x0:bM):Option oP:=bz (azo x0) fun y0=>bif(fG y0.1.1 [84])then some (true,())else some ((fG y0.1.1 [84,76]),())
def aDa:Sum:=⟨[.str],Ou,fun x=>ag5 x.1⟩
theorem ax1:dH prog 74 aDa:=qA f74 [] (sE aye aN)
end
section
open Tryz
open Go.RowKit
def ata (x0:bM) (x1:Int) (x2:Int×qJ×oP):Option taT:=bif(fB x2.2.1 0)then bz (ajD x0 x1 (dQ x2.2.1 ([],(false,())) 0)) fun y0=>bif(!y0.2.1)then bif((bJ x2.1 x2.1)&&((nH PZ x2.2.1 x2.2.1)&&((jl x2.2.2.1 x2.2.2.1)&&true)))then some ((7,(x1,(y0.1,((!y0.2.1),())))),((x2.1,(x2.2.1,(x2.2.2.1,()))),()))else none else bif(eU (bC x2.2.1) 1 (bC x2.2.1))then bz (rP (sub x2.2.1 1 (bC x2.2.1))) fun y1=>bif(bJ x2.1 x2.1)then bif(bJ (bC y1.1) (bC y1.1))then bif(jl (gU 0 (bC y1.1)) (gU 0 (bC y1.1)))then bif((bJ x2.1 x2.1)&&((jl (gU 0 (bC y1.1)) (gU 0 (bC y1.1)))&&true))then some ((7,(x1,(y0.1,((!y0.2.1),())))),((x2.1,(y1.1,((gU 0 (bC y1.1)),()))),()))else none else none else none else none else none else none
def aGM:Sum:=⟨[.str,cO,.pair cO tyL],tzJ,fun x=>ata x.1 x.2.1 x.2.2.1⟩
theorem apf:dH prog 108 aGM:=qA f108 [] (sE apr (sE xK aN))
def ad1 (x0:iY):Option oP:=bif(bJ x0.1 12)then some ((bJ x0.2.2.1 (bU .i64 x0.2.1 1)),())else some (false,())
def axp:Sum:=⟨[Jq],Ou,fun x=>ad1 x.1⟩
theorem apX:dH prog 217 axp:=qA Tryz.f217 [] aN
def Zn (x0:iY):Option nZ:=bif x0.2.2.2.2.1 then some ((bU .i64 x0.2.1 2),((CJ (dR .i64 x0.2.2.1 0) (bU .i64 x0.2.1 2)),()))else some ((bU .i64 x0.2.1 2),((CJ (dR .i64 x0.2.2.1 1) (bU .i64 x0.2.1 2)),()))
def aj9 (x0:iY):Option nZ:=bif x0.2.2.2.2.1 then some ((bU .i64 x0.2.1 1),((CJ (dR .i64 x0.2.2.1 0) (bU .i64 x0.2.1 1)),()))else some ((bU .i64 x0.2.1 1),((CJ (dR .i64 x0.2.2.1 0) (bU .i64 x0.2.1 1)),()))
def aka (x0:iY):Option nZ:=bif x0.2.2.2.2.1 then some ((bU .i64 x0.2.1 1),((CJ (dR .i64 x0.2.2.1 0) (bU .i64 x0.2.1 1)),()))else some ((bU .i64 x0.2.1 1),((CJ (dR .i64 x0.2.2.1 1) (bU .i64 x0.2.1 1)),()))
def Zo (x0:iY):Option nZ:=bif(bJ x0.1 9)then bif x0.2.2.2.2.1 then some ((bU .i64 x0.2.1 3),((CJ (dR .i64 x0.2.2.1 0) (bU .i64 x0.2.1 3)),()))else some ((bU .i64 x0.2.1 3),((CJ (dR .i64 x0.2.2.1 2) (bU .i64 x0.2.1 3)),()))else bif(bJ x0.1 13)then bif(bJ x0.1 13)then aj9 x0 else aka x0 else bif(bJ x0.1 12)then aj9 x0 else aka x0
def aj8 (x0:iY):Option nZ:=bif(bJ x0.1 1)then bif(bJ x0.1 1)then Zn x0 else Zo x0 else bif(bJ x0.1 7)then bif(bJ x0.1 7)then Zn x0 else Zo x0 else bif(bJ x0.1 8)then Zn x0 else Zo x0
def axx:Sum:=⟨[Jq],tzI,fun x=>aj8 x.1⟩
theorem ap7:dH prog 243 axx:=qA Tryz.f243 [] aN
noncomputable def YQ:Code:=(f147.body).getD .skip
noncomputable def RN:Code:=(f179.body).getD .skip
noncomputable def RP:Code:=(f214.body).getD .skip
noncomputable def RQ:Code:=(Tryz.f219.body).getD .skip
noncomputable def Su:Code:=cA (cA (cB (cA (cB (cB (RN))))))
noncomputable def Sv:Code:=cA (cA (cB (cA (cB (cB (cB (cA (cB (RP)))))))))
noncomputable def Sz:Code:=cA (cA (cB (cA (cB (cB (cB (cB (RQ))))))))
def TV:dW:=⟨[3,15,16,17,180000003],[],[3],[],[2],[]⟩
def TW:dW:=⟨[1,2,3,4,5,215000004],[(300000300,.pair (.list .unit) (.int .u8))],[4],[],[],[]⟩
def TY:dW:=⟨[0,2,8,9,10,11,220000005],[(9,(.int .u8))],[2,9,10],[],[6],[]⟩
def akA:dW:=⟨[2,3],[],[],[],[],[]⟩
def ZM:dW:=⟨[0,2,3],[],[],[],[],[]⟩
def aku:dW:=⟨[3,4],[],[],[],[],[]⟩
def F9:dW:=⟨[3],[],[],[],[],[]⟩
def aer:dW:=⟨[1,2,3,4,5],[],[],[],[],[]⟩
def BX:dW:=⟨[1,2,3,4,5,6],[],[],[],[],[]⟩
def ZN:dW:=⟨[1,2,3,4,5,8,9],[],[],[],[],[]⟩
def aes:dW:=⟨[1,3],[],[],[],[],[]⟩
def aet:dW:=⟨[0,2,8,9,10,11],[],[],[],[],[]⟩
def ZO:dW:=⟨[0,2,8,9,10,12],[],[],[],[],[]⟩
def aeu:dW:=⟨[0,2,8,9,12],[],[],[],[],[]⟩
def aev:dW:=⟨[0,2,8,12],[],[],[],[],[]⟩
def ZP:dW:=⟨[2,9],[],[],[],[],[]⟩
def CU:SQ:=⟨us [.u,.u,.u,.ptr 2000011 0,.u,.u,.u,.u,.u,.u,.u,.u,.u,.u,.u,.v WR,.v cO,.v cO] 14,[us [.v .str,.u,.v .str,.ptr 1000003 0,.u,.v .str] 7,[]],[.box 2000011 218 [.v .str,.v WR,.mpv 2000009],.mp 2000009 .i64 .i64,.box 1000003 69 [.slf 1000003,.slc 1500003],.arr 1500003 (.int .u8)]⟩
def EM:SQ:=⟨us [.u,.u,.u,.ptr 2000011 0] 28,[us [.v .str,.u,.v .str,.ptr 1000003 0,.u,.v .str] 7,[]],[.box 2000011 218 [.v .str,.v WR,.mpv 2000009],.mp 2000009 .i64 .i64,.box 1000003 69 [.slf 1000003,.slc 1500003],.arr 1500003 (.int .u8)]⟩
def ET:SQ:=⟨us [] 112,[us [.u,.u,.v .str,.ptr 1000003 0] 9,[.yld 1700008],[]],[.box 2000011 218 [.v .str,.v WR,.mpv 2000009],.mp 2000009 .i64 .i64,.box 2000001 193 [.ptr 2000011 0],.lp 1700008 147 (us [.u,.u,.v .str,.ptr 1000003 0] 9) [8] 4 0 none,.arr 1500003 (.int .u8),.box 1000003 69 [.slf 1000003,.slc 1500003]]⟩
def yS {γ:Type} (rec:(List iY)->Int->Int->bM->bM->bM->bM->(List iY)->(List uN)->iC->Option γ) (kE:bM->bM->bM->bM->(List iY)->(List uN)->iC->Option γ) (kR:bM->bM->(List iY)->(List uN)->bM->iC->Option γ) (v0:List iY) (v1 v2:Int) (v3 v4 v5 v6:bM) (v7:List iY) (v8:List uN) (v9:iC):Option γ:=bif(gU v2 v1)then bif(fB v0 v2)then rec v0 v1 (bU .i64 v2 1) v3 v4 v5 v6 v7 (uZ v8 (dQ v0 (0,(0,(0,(0,(false,()))))) v2).2.1 (bU .i64 v2 1)) v9 else none else kE v3 v4 v5 v6 v7 v8 v9
def qy:Nat->(List iY)->Int->Int->bM->bM->bM->bM->(List iY)->(List uN)->iC->Option (EM.den⊕ET.den)
 |0,_,_,_,_,_,_,_,_,_,_=>none
 |n+1,v0,v1,v2,v3,v4,v5,v6,v7,v8,v9=>yS (qy n) (fun e0 e1 e2 e3 e4 e5 e6=>some (.inl ((),((e0,e1,e2,()),(),()),((e3,e4,()),e5,(),e6,())))) (fun r0 r1 r2 r3 r4 r5=>some (.inr ((),((r0,()),(),(),()),((r1,r2,()),r3,(),(r4,()),r5,(),())))) v0 v1 v2 v3 v4 v5 v6 v7 v8 v9
def aeI (n:Nat) (v:CU.den):=qy n v.1.1 v.1.2.1 v.1.2.2.1 v.2.1.1.1 v.2.1.1.2.1 v.2.1.1.2.2.1 v.2.2.1.1 v.2.2.1.2.1 v.2.2.2.1 v.2.2.2.2.2.1
noncomputable def O6:di:=eX TV CU EM ET (.exit 0) (aeI bH) 6
def CW:SQ:=⟨us [.ptr 2000011 0,.u,.yld 1700008,.u,.u,.u,.u,.u,.v cO,.slc 4800009,.v .bool,.v cO] 83,[[.u,.ptr 2000001 0,.ptr 3000002 0,.ptr 3000003 0,.fn 215 [(3000003,0),(3000002,0)],.v cO,.ptr 3000006 0,.u,.u,.u,.u,.u,.u,.u,.u,.u,.u,.u,.u,.u,.u,.u,.u,.u,.u,.u,.u,.u,.u,.u,.u,.u,.u,.u,.u,.u,.u,.u,.u,.u,.u,.u,.u,.u,.u,.u,.u,.u,.u,.u,.u,.u,.u,.u,.u,.u,.u,.u,.u,.u,.u,.u,.u,.u,.u,.u,.u,.u,.u,.u,.u,.u,.u,.u,.u,.u,.u,.u,.u,.u,.u,.u,.u,.u,.u,.u,.u,.u,.u,.u,.u,.u,.u,.u,.u,.u,.u,.u,.u,.u,.u,.fn 215 [(3000003,0),(3000002,0)],.v .bool,.v .bool,.ptr 2000011 0,.v Jq,.yld 1700008,.u,.u,.u,.u,.u],us [.u,.u,.v .str,.ptr 1000003 0] 9,[.yld 1700008],[]],[.arr 4800009 (.int .u8),.box 3000006 161 [.v cO,.v cO,.v cO,.v cO,.v .bool],.arr 3500003 (.int .u8),.box 3000003 67 [.nils],.box 3000002 219 [.yld 1700008],.box 2000011 218 [.v .str,.v WR,.mpv 2000009],.mp 2000009 .i64 .i64,.box 2000001 193 [.ptr 2000011 0],.lp 1700008 147 (us [.u,.u,.v .str,.ptr 1000003 0] 9) [8] 4 0 none,.arr 1500003 (.int .u8),.box 1000003 69 [.slf 1000003,.slc 1500003]]⟩
def yM:SQ:=⟨us [.u,.u,.yld 1700008,.u,.u,.u,.u,.u,.u,.slc 4800009,.v .bool] 84,[[.u,.ptr 2000001 0,.ptr 3000002 0,.ptr 3000003 0,.fn 215 [(3000003,0),(3000002,0)],.v cO,.ptr 3000006 0,.u,.u,.u,.u,.u,.u,.u,.u,.u,.u,.u,.u,.u,.u,.u,.u,.u,.u,.u,.u,.u,.u,.u,.u,.u,.u,.u,.u,.u,.u,.u,.u,.u,.u,.u,.u,.u,.u,.u,.u,.u,.u,.u,.u,.u,.u,.u,.u,.u,.u,.u,.u,.u,.u,.u,.u,.u,.u,.u,.u,.u,.u,.u,.u,.u,.u,.u,.u,.u,.u,.u,.u,.u,.u,.u,.u,.u,.u,.u,.u,.u,.u,.u,.u,.u,.u,.u,.u,.u,.u,.u,.u,.u,.u,.fn 215 [(3000003,0),(3000002,0)],.v .bool,.v .bool,.ptr 2000011 0,.v Jq,.yld 1700008,.u,.u,.u,.u,.u],us [.u,.u,.v .str,.ptr 1000003 0] 9,[.yld 1700008],[]],[.arr 4800009 (.int .u8),.box 3000006 161 [.v cO,.v cO,.v cO,.v cO,.v .bool],.arr 3500003 (.int .u8),.box 3000003 67 [.nils],.box 3000002 219 [.yld 1700008],.box 2000011 218 [.v .str,.v WR,.mpv 2000009],.mp 2000009 .i64 .i64,.box 2000001 193 [.ptr 2000011 0],.lp 1700008 147 (us [.u,.u,.v .str,.ptr 1000003 0] 9) [8] 4 0 none,.arr 1500003 (.int .u8),.box 1000003 69 [.slf 1000003,.slc 1500003]]⟩
def yO:SQ:=⟨us [] 112,[us [.u,.u,.v .str,.ptr 1000003 0] 9,[.yld 1700008],[]],[.box 2000011 218 [.v .str,.v WR,.mpv 2000009],.mp 2000009 .i64 .i64,.box 2000001 193 [.ptr 2000011 0],.lp 1700008 147 (us [.u,.u,.v .str,.ptr 1000003 0] 9) [8] 4 0 none,.arr 1500003 (.int .u8),.box 1000003 69 [.slf 1000003,.slc 1500003]]⟩
def eG (v16:List iY) (v17:List uN) (v2:Int):=dQ v16 (0,(0,(0,(0,(false,()))))) (dR .i64 (qG v17 v2) 1)
def iI (v15:bM) (v16:List iY) (v17:List uN) (v2:Int):=bT v15 (bU .i64 (eG v16 v17 v2).2.1 1)
def jT (v15:bM) (v16:List iY) (v17:List uN) (v2:Int):=dh (sub v15 (eG v16 v17 v2).2.1 (eG v16 v17 v2).2.2.1)
def mP {γ:Type} (v8:iC) (v15:bM) (v16:List iY) (v17:List uN) (v2:Int) (rec:Int->Bool->Int->Int->Bool->Bool->iY->bM->iC->Int->Int->Int->Int->Bool->iC->bM->(List iY)->(List uN)->bM->iC->Option γ) (v0:Int) (v1:Bool) (v3:Int) (v4 v5:Bool) (v6:iY) (v7:bM) (v9 v10 v11 v12:Int) (v13:Bool) (v14:iC) (v18:bM) (v19:iC):Option γ:=bif(dO (bG v8 (dh (ofBytes [(iI v15 v16 v17 v2)]))) 1)then rec v0 v1 (eG v16 v17 v2).2.2.1 v3 v4 v5 v6 v7 (bG v8 (dh (ofBytes [(iI v15 v16 v17 v2)]))) v9 v10 v11 v12 v13 v14 v15 v16 v17 v18 v19 else none
def mQ {γ:Type} (v15:bM) (v16:List iY) (v17:List uN) (v2:Int) (v8:iC) (rec:Int->Bool->Int->Int->Bool->Bool->iY->bM->iC->Int->Int->Int->Int->Bool->iC->bM->(List iY)->(List uN)->bM->iC->Option γ) (v0:Int) (v1:Bool) (v3:Int) (v4 v5:Bool) (v6:iY) (v7:bM) (v9 v10 v11 v12:Int) (v13:Bool) (v14:iC) (v18:bM) (v19:iC):Option γ:=bif(bJ (iI v15 v16 v17 v2) 10)then bif(dO (bG v8 (dh [])) 1)then rec v0 v1 (eG v16 v17 v2).2.2.1 v3 v4 v5 v6 v7 (bG v8 (dh [])) v9 v10 v11 v12 v13 v14 v15 v16 v17 v18 v19 else none else bif(eU (bC v15) (eG v16 v17 v2).2.1 (eG v16 v17 v2).2.2.1)then bif(dO (bG v8 (jT v15 v16 v17 v2)) 1)then rec v0 v1 (eG v16 v17 v2).2.2.1 v3 v4 v5 v6 v7 (bG v8 (jT v15 v16 v17 v2)) v9 v10 v11 v12 v13 v14 v15 v16 v17 v18 v19 else none else none
def yU {γ:Type} (rec:Int->Bool->Int->Int->Bool->Bool->iY->bM->iC->Int->Int->Int->Int->Bool->iC->bM->(List iY)->(List uN)->bM->iC->Option γ) (kE:Bool->Int->Bool->Bool->iY->bM->iC->Int->Int->Int->Int->Bool->iC->bM->(List iY)->(List uN)->bM->iC->Option γ) (kR:bM->bM->(List iY)->(List uN)->bM->iC->Option γ) (v0:Int) (v1:Bool) (v2 v3:Int) (v4 v5:Bool) (v6:iY) (v7:bM) (v8:iC) (v9 v10 v11 v12:Int) (v13:Bool) (v14:iC) (v15:bM) (v16:List iY) (v17:List uN) (v18:bM) (v19:iC):Option γ:=bif(gU v2 v0)then bif(bJ (qG v17 v2) 0)then bif(fB v15 v2)then bif(dO (bG v8 [(bT v15 v2)]) 1)then rec v0 v1 (bU .i64 v2 1) v3 v4 v5 v6 v7 (bG v8 [(bT v15 v2)]) v9 v10 v11 v12 v13 v14 v15 v16 v17 v18 v19 else none else none else bif(fB v16 (dR .i64 (qG v17 v2) 1))then bz (ad1 ((eG v16 v17 v2).1,((eG v16 v17 v2).2.1,((eG v16 v17 v2).2.2.1,((eG v16 v17 v2).2.2.2.1,((eG v16 v17 v2).2.2.2.2.1,())))))) fun y0=>bif y0.1 then bif(fB v15 v2)then bif(dO (bG v8 [(bT v15 v2)]) 1)then rec v0 v1 (bU .i64 v2 1) v3 v4 v5 v6 v7 (bG v8 [(bT v15 v2)]) v9 v10 v11 v12 v13 v14 v15 v16 v17 v18 v19 else none else none else bif(bJ (eG v16 v17 v2).1 13)then bif(gU (dR .i64 (eG v16 v17 v2).2.2.1 (eG v16 v17 v2).2.1) 2)then bif(dO (bG v8 (dh [])) 1)then rec v0 v1 (eG v16 v17 v2).2.2.1 v3 v4 v5 v6 v7 (bG v8 (dh [])) v9 v10 v11 v12 v13 v14 v15 v16 v17 v18 v19 else none else bif(fB v15 (bU .i64 (eG v16 v17 v2).2.1 1))then bif(bJ (iI v15 v16 v17 v2) 36)then bif(bJ (iI v15 v16 v17 v2) 36)then mP v8 v15 v16 v17 v2 rec v0 v1 v3 v4 v5 v6 v7 v9 v10 v11 v12 v13 v14 v18 v19 else mQ v15 v16 v17 v2 v8 rec v0 v1 v3 v4 v5 v6 v7 v9 v10 v11 v12 v13 v14 v18 v19 else bif(bJ (iI v15 v16 v17 v2) 96)then bif(bJ (iI v15 v16 v17 v2) 96)then mP v8 v15 v16 v17 v2 rec v0 v1 v3 v4 v5 v6 v7 v9 v10 v11 v12 v13 v14 v18 v19 else mQ v15 v16 v17 v2 v8 rec v0 v1 v3 v4 v5 v6 v7 v9 v10 v11 v12 v13 v14 v18 v19 else bif(bJ (iI v15 v16 v17 v2) 34)then bif(bJ (iI v15 v16 v17 v2) 34)then mP v8 v15 v16 v17 v2 rec v0 v1 v3 v4 v5 v6 v7 v9 v10 v11 v12 v13 v14 v18 v19 else mQ v15 v16 v17 v2 v8 rec v0 v1 v3 v4 v5 v6 v7 v9 v10 v11 v12 v13 v14 v18 v19 else bif(bJ (iI v15 v16 v17 v2) 92)then mP v8 v15 v16 v17 v2 rec v0 v1 v3 v4 v5 v6 v7 v9 v10 v11 v12 v13 v14 v18 v19 else mQ v15 v16 v17 v2 v8 rec v0 v1 v3 v4 v5 v6 v7 v9 v10 v11 v12 v13 v14 v18 v19 else none else bif(gU 0 (bC v8))then bif(dO (bG v19 (dh (ofBytes v8))) 1)then bif(eU (bC v15) (eG v16 v17 v2).2.1 (eG v16 v17 v2).2.2.1)then bif(dO (bG (bG v19 (dh (ofBytes v8))) (jT v15 v16 v17 v2)) 1)then rec v0 true (eG v16 v17 v2).2.2.1 v3 v4 v5 v6 v7 [] v9 v10 v11 v12 v13 v14 v15 v16 v17 v18 (bG (bG v19 (dh (ofBytes v8))) (jT v15 v16 v17 v2))else none else none else none else bif(eU (bC v15) (eG v16 v17 v2).2.1 (eG v16 v17 v2).2.2.1)then bif(dO (bG v19 (jT v15 v16 v17 v2)) 1)then rec v0 true (eG v16 v17 v2).2.2.1 v3 v4 v5 v6 v7 [] v9 v10 v11 v12 v13 v14 v15 v16 v17 v18 (bG v19 (jT v15 v16 v17 v2))else none else none else none else kE v1 v3 v4 v5 v6 v7 v8 v9 v10 v11 v12 v13 v14 v15 v16 v17 v18 v19
def kV:Nat->Int->Bool->Int->Int->Bool->Bool->iY->bM->iC->Int->Int->Int->Int->Bool->iC->bM->(List iY)->(List uN)->bM->iC->Option (yM.den⊕yO.den)
 |0,_,_,_,_,_,_,_,_,_,_,_,_,_,_,_,_,_,_,_,_=>none
 |n+1,v0,v1,v2,v3,v4,v5,v6,v7,v8,v9,v10,v11,v12,v13,v14,v15,v16,v17,v18,v19=>yU (kV n) (fun e0 e1 e2 e3 e4 e5 e6 e7 e8 e9 e10 e11 e12 e13 e14 e15 e16 e17=>some (.inl ((e0,()),((e1,e2,e3,e4,()),(e5,()),(),(),()),(e6,(e7,e8,e9,e10,e11,()),e12,(),(),(e13,e14,()),e15,(),(e16,()),e17,(),())))) (fun r0 r1 r2 r3 r4 r5=>some (.inr ((),((r0,()),(),(),()),((r1,r2,()),r3,(),(r4,()),r5,(),())))) v0 v1 v2 v3 v4 v5 v6 v7 v8 v9 v10 v11 v12 v13 v14 v15 v16 v17 v18 v19
def aeK (n:Nat) (v:CW.den):=kV n v.1.1 v.1.2.1 v.1.2.2.1 v.2.1.1.1 v.2.1.1.2.1 v.2.1.1.2.2.1 v.2.1.1.2.2.2.1 v.2.1.2.1.1 v.2.2.1 v.2.2.2.1.1 v.2.2.2.1.2.1 v.2.2.2.1.2.2.1 v.2.2.2.1.2.2.2.1 v.2.2.2.1.2.2.2.2.1 v.2.2.2.2.1 v.2.2.2.2.2.2.2.1.1 v.2.2.2.2.2.2.2.1.2.1 v.2.2.2.2.2.2.2.2.1 v.2.2.2.2.2.2.2.2.2.2.1.1 v.2.2.2.2.2.2.2.2.2.2.2.1
noncomputable def O8:di:=eX TY CW yM yO (.exit 0) (aeK bH) 12
def CV:SQ:=⟨us [.u,.ptr 2000001 0,.ptr 3000002 0,.ptr 3000003 0,.fn 215 [(3000003,0),(3000002,0)],.v cO] 106,[us [.u,.u,.v .str,.ptr 1000003 0] 9,[.yld 1700008],[]],[.arr 3500003 (.int .u8),.box 3000003 67 [.slc 3500003],.box 3000002 219 [.yld 1700008],.box 2000011 218 [.v .str,.v WR,.mpv 2000009],.mp 2000009 .i64 .i64,.box 2000001 193 [.ptr 2000011 0],.lp 1700008 147 (us [.u,.u,.v .str,.ptr 1000003 0] 9) [8] 4 0 none,.arr 1500003 (.int .u8),.box 1000003 69 [.slf 1000003,.slc 1500003]]⟩
def EN:SQ:=⟨us [.u,.u,.u,.u,.fn 215 [(3000003,0),(3000002,0)]] 107,[us [.u,.u,.v .str,.ptr 1000003 0] 9,[.yld 1700008],[]],[.arr 3500003 (.int .u8),.box 3000003 67 [.slc 3500003],.box 3000002 219 [.yld 1700008],.box 2000011 218 [.v .str,.v WR,.mpv 2000009],.mp 2000009 .i64 .i64,.box 2000001 193 [.ptr 2000011 0],.lp 1700008 147 (us [.u,.u,.v .str,.ptr 1000003 0] 9) [8] 4 0 none,.arr 1500003 (.int .u8),.box 1000003 69 [.slf 1000003,.slc 1500003]]⟩
def EU:SQ:=⟨us [] 112,[us [.u,.u,.v .str,.ptr 1000003 0] 9,[.yld 1700008],[]],[.box 2000011 218 [.v .str,.v WR,.mpv 2000009],.mp 2000009 .i64 .i64,.box 2000001 193 [.ptr 2000011 0],.lp 1700008 147 (us [.u,.u,.v .str,.ptr 1000003 0] 9) [8] 4 0 none,.arr 1500003 (.int .u8),.box 1000003 69 [.slf 1000003,.slc 1500003]]⟩
def cZ (v4:List iY) (v5:List uN) (v0:Int):=dQ v4 (0,(0,(0,(0,(false,()))))) (dR .i64 (qG v5 v0) 1)
def pF (v4:List iY) (v5:List uN) (v0:Int):=aj8 ((cZ v4 v5 v0).1,((cZ v4 v5 v0).2.1,((cZ v4 v5 v0).2.2.1,((cZ v4 v5 v0).2.2.2.1,((cZ v4 v5 v0).2.2.2.2.1,())))))
def jR (v3:bM) (v4:List iY) (v5:List uN) (v0:Int):=sub v3 (bU .i64 (cZ v4 v5 v0).2.1 1) (cZ v4 v5 v0).2.2.1
def jS (v3:bM) (v4:List iY) (v5:List uN) (v0:Int):=dh (sub v3 (cZ v4 v5 v0).2.1 (cZ v4 v5 v0).2.2.1)
def iD (v7 v2:iC):=bG v7 (dh (ofBytes v2))
def tN {γ:Type} (v3:bM) (v4:List iY) (v5:List uN) (v0:Int) (v2:iC) (rec:Int->bM->iC->bM->(List iY)->(List uN)->bM->iC->Option γ) (v1 v6:bM) (v7:iC):Option γ:=bif(eU (bC v3) (cZ v4 v5 v0).2.1 (cZ v4 v5 v0).2.2.1)then bif(dO (bG v2 (jS v3 v4 v5 v0)) 1)then rec (cZ v4 v5 v0).2.2.1 v1 (bG v2 (jS v3 v4 v5 v0)) v3 v4 v5 v6 v7 else none else none
def tV {γ:Type} (v4:List iY) (v5:List uN) (v0:Int) (v3:bM) (v2 v7:iC) (rec:Int->bM->iC->bM->(List iY)->(List uN)->bM->iC->Option γ) (v1 v6:bM):Option γ:=bif(bJ (cZ v4 v5 v0).1 4)then bz (pF v4 v5 v0) fun y1=>bif(eU (bC v3) y1.1 y1.2.1)then bif(fG (ofBytes v2) [])then bif(dO (bG v7 (dh (sub v3 y1.1 y1.2.1))) 1)then rec (cZ v4 v5 v0).2.2.1 v1 [] v3 v4 v5 v6 (bG v7 (dh (sub v3 y1.1 y1.2.1)))else none else bif(dO (iD v7 v2) 1)then bif(dO (bG (iD v7 v2) (dh (sub v3 y1.1 y1.2.1))) 1)then rec (cZ v4 v5 v0).2.2.1 v1 [] v3 v4 v5 v6 (bG (iD v7 v2) (dh (sub v3 y1.1 y1.2.1)))else none else none else none else bif(eU (bC v3) (bU .i64 (cZ v4 v5 v0).2.1 1) (cZ v4 v5 v0).2.2.1)then bif(!(fG (jR v3 v4 v5 v0) []))then bif(!(fG (jR v3 v4 v5 v0) [10]))then bif(fG (ofBytes v2) [])then bif(dO (bG v7 (dh (jR v3 v4 v5 v0))) 1)then rec (cZ v4 v5 v0).2.2.1 v1 [] v3 v4 v5 v6 (bG v7 (dh (jR v3 v4 v5 v0)))else none else bif(dO (iD v7 v2) 1)then bif(dO (bG (iD v7 v2) (dh (jR v3 v4 v5 v0))) 1)then rec (cZ v4 v5 v0).2.2.1 v1 [] v3 v4 v5 v6 (bG (iD v7 v2) (dh (jR v3 v4 v5 v0)))else none else none else rec (cZ v4 v5 v0).2.2.1 v1 v2 v3 v4 v5 v6 v7 else rec (cZ v4 v5 v0).2.2.1 v1 v2 v3 v4 v5 v6 v7 else none
def tX {γ:Type} (y2:yM.den⊕yO.den) (rec:Int->bM->iC->bM->(List iY)->(List uN)->bM->iC->Option γ) (kR:bM->bM->(List iY)->(List uN)->bM->iC->Option γ):Option γ:=dE y2 (fun a3=>bif(bJ (bC a3.2.2.1) 0)then bif a3.1.1 then bif a3.2.1.1.2.2.1 then rec a3.2.1.1.1 a3.2.1.2.1.1 [] a3.2.2.2.2.2.2.2.1.1 a3.2.2.2.2.2.2.2.1.2.1 a3.2.2.2.2.2.2.2.2.1 a3.2.2.2.2.2.2.2.2.2.2.1.1 a3.2.2.2.2.2.2.2.2.2.2.2.1 else kR a3.2.1.2.1.1 a3.2.2.2.2.2.2.2.1.1 a3.2.2.2.2.2.2.2.1.2.1 a3.2.2.2.2.2.2.2.2.1 a3.2.2.2.2.2.2.2.2.2.2.1.1 a3.2.2.2.2.2.2.2.2.2.2.2.1 else bif(dO (bG a3.2.2.2.2.2.2.2.2.2.2.2.1 (dh (ofBytes a3.2.2.1))) 1)then bif a3.2.1.1.2.2.1 then rec a3.2.1.1.1 a3.2.1.2.1.1 [] a3.2.2.2.2.2.2.2.1.1 a3.2.2.2.2.2.2.2.1.2.1 a3.2.2.2.2.2.2.2.2.1 a3.2.2.2.2.2.2.2.2.2.2.1.1 (bG a3.2.2.2.2.2.2.2.2.2.2.2.1 (dh (ofBytes a3.2.2.1)))else kR a3.2.1.2.1.1 a3.2.2.2.2.2.2.2.1.1 a3.2.2.2.2.2.2.2.1.2.1 a3.2.2.2.2.2.2.2.2.1 a3.2.2.2.2.2.2.2.2.2.2.1.1 (bG a3.2.2.2.2.2.2.2.2.2.2.2.1 (dh (ofBytes a3.2.2.1)))else none else bif(dO (bG a3.2.2.2.2.2.2.2.2.2.2.2.1 (dh (ofBytes a3.2.2.1))) 1)then bif a3.2.1.1.2.2.1 then rec a3.2.1.1.1 a3.2.1.2.1.1 [] a3.2.2.2.2.2.2.2.1.1 a3.2.2.2.2.2.2.2.1.2.1 a3.2.2.2.2.2.2.2.2.1 a3.2.2.2.2.2.2.2.2.2.2.1.1 (bG a3.2.2.2.2.2.2.2.2.2.2.2.1 (dh (ofBytes a3.2.2.1)))else kR a3.2.1.2.1.1 a3.2.2.2.2.2.2.2.1.1 a3.2.2.2.2.2.2.2.1.2.1 a3.2.2.2.2.2.2.2.2.1 a3.2.2.2.2.2.2.2.2.2.2.1.1 (bG a3.2.2.2.2.2.2.2.2.2.2.2.1 (dh (ofBytes a3.2.2.1)))else none) (fun b3=>none)
def tY {γ:Type} (v4:List iY) (v5:List uN) (v0:Int) (v2:iC) (v1 v3 v6:bM) (v7:iC) (rec:Int->bM->iC->bM->(List iY)->(List uN)->bM->iC->Option γ) (kR:bM->bM->(List iY)->(List uN)->bM->iC->Option γ):Option γ:=bif(bJ (cZ v4 v5 v0).1 5)then bif(fG (ofBytes v2) [])then bz (pF v4 v5 v0) fun y1=>bz (kV bH y1.2.1 false y1.1 (cZ v4 v5 v0).2.2.1 true true ((cZ v4 v5 v0).1,((cZ v4 v5 v0).2.1,((cZ v4 v5 v0).2.2.1,((cZ v4 v5 v0).2.2.2.1,((cZ v4 v5 v0).2.2.2.2.1,()))))) v1 [] (cZ v4 v5 v0).1 (cZ v4 v5 v0).2.1 (cZ v4 v5 v0).2.2.1 (cZ v4 v5 v0).2.2.2.1 (cZ v4 v5 v0).2.2.2.2.1 v2 v3 v4 v5 v6 v7) fun y2=>tX y2 rec kR else bif(dO (iD v7 v2) 1)then bz (pF v4 v5 v0) fun y1=>bz (kV bH y1.2.1 false y1.1 (cZ v4 v5 v0).2.2.1 true true ((cZ v4 v5 v0).1,((cZ v4 v5 v0).2.1,((cZ v4 v5 v0).2.2.1,((cZ v4 v5 v0).2.2.2.1,((cZ v4 v5 v0).2.2.2.2.1,()))))) v1 [] (cZ v4 v5 v0).1 (cZ v4 v5 v0).2.1 (cZ v4 v5 v0).2.2.1 (cZ v4 v5 v0).2.2.2.1 (cZ v4 v5 v0).2.2.2.2.1 v2 v3 v4 v5 v6 (iD v7 v2)) fun y2=>tX y2 rec kR else none else bif(fG (ofBytes v2) [])then bif(eU (bC v3) (cZ v4 v5 v0).2.1 (cZ v4 v5 v0).2.2.1)then bif(dO (bG v7 (jS v3 v4 v5 v0)) 1)then rec (cZ v4 v5 v0).2.2.1 v1 [] v3 v4 v5 v6 (bG v7 (jS v3 v4 v5 v0))else none else none else bif(dO (iD v7 v2) 1)then bif(eU (bC v3) (cZ v4 v5 v0).2.1 (cZ v4 v5 v0).2.2.1)then bif(dO (bG (iD v7 v2) (jS v3 v4 v5 v0)) 1)then rec (cZ v4 v5 v0).2.2.1 v1 [] v3 v4 v5 v6 (bG (iD v7 v2) (jS v3 v4 v5 v0))else none else none else none
def tZ {γ:Type} (v4:List iY) (v5:List uN) (v0:Int) (v3:bM) (v2 v7:iC) (rec:Int->bM->iC->bM->(List iY)->(List uN)->bM->iC->Option γ) (v1 v6:bM) (kR:bM->bM->(List iY)->(List uN)->bM->iC->Option γ):Option γ:=bif(bJ (cZ v4 v5 v0).1 13)then bif(bJ (cZ v4 v5 v0).1 13)then tV v4 v5 v0 v3 v2 v7 rec v1 v6 else tY v4 v5 v0 v2 v1 v3 v6 v7 rec kR else bif(bJ (cZ v4 v5 v0).1 4)then tV v4 v5 v0 v3 v2 v7 rec v1 v6 else tY v4 v5 v0 v2 v1 v3 v6 v7 rec kR
def yT {γ:Type} (rec:Int->bM->iC->bM->(List iY)->(List uN)->bM->iC->Option γ) (kE:bM->iC->bM->(List iY)->(List uN)->bM->iC->Option γ) (kR:bM->bM->(List iY)->(List uN)->bM->iC->Option γ) (v0:Int) (v1:bM) (v2:iC) (v3:bM) (v4:List iY) (v5:List uN) (v6:bM) (v7:iC):Option γ:=bif(gU v0 (bC v3))then bif(bJ (qG v5 v0) 0)then bif(fB v3 v0)then bif(fG v3 v3)then bif(bJ v0 v0)then bif(dO (bG v2 [(bT v3 v0)]) 1)then bif(fG v3 v3)then bif(bJ v0 v0)then bif(fB v3 v0)then bif(bJ (bT v3 v0) (bT v3 v0))then rec (bU .i64 v0 1) v1 (bG v2 [(bT v3 v0)]) v3 v4 v5 v6 v7 else none else none else none else none else none else none else none else none else bif(fB v4 (dR .i64 (qG v5 v0) 1))then bz (ad1 ((cZ v4 v5 v0).1,((cZ v4 v5 v0).2.1,((cZ v4 v5 v0).2.2.1,((cZ v4 v5 v0).2.2.2.1,((cZ v4 v5 v0).2.2.2.2.1,())))))) fun y0=>bif y0.1 then bif y0.1 then tN v3 v4 v5 v0 v2 rec v1 v6 v7 else tZ v4 v5 v0 v3 v2 v7 rec v1 v6 kR else bif(bJ (cZ v4 v5 v0).1 14)then tN v3 v4 v5 v0 v2 rec v1 v6 v7 else tZ v4 v5 v0 v3 v2 v7 rec v1 v6 kR else none else kE v1 v2 v3 v4 v5 v6 v7
def jh:Nat->Int->bM->iC->bM->(List iY)->(List uN)->bM->iC->Option (EN.den⊕EU.den)
 |0,_,_,_,_,_,_,_,_=>none
 |n+1,v0,v1,v2,v3,v4,v5,v6,v7=>yT (jh n) (fun e0 e1 e2 e3 e4 e5 e6=>some (.inl ((),((e0,()),(),(),()),(e1,(),(),(e2,e3,()),e4,(),(e5,()),e6,(),())))) (fun r0 r1 r2 r3 r4 r5=>some (.inr ((),((r0,()),(),(),()),((r1,r2,()),r3,(),(r4,()),r5,(),())))) v0 v1 v2 v3 v4 v5 v6 v7
def aeJ (n:Nat) (v:CV.den):=jh n v.1.1 v.2.1.1.1 v.2.2.1 v.2.2.2.2.2.1.1 v.2.2.2.2.2.1.2.1 v.2.2.2.2.2.2.1 v.2.2.2.2.2.2.2.2.1.1 v.2.2.2.2.2.2.2.2.2.1
noncomputable def O7:di:=eX TW CV EN EU (.exit 0) (aeJ bH) 18
def ajH (x0:bM):Option Qh:=bz (aj0 x0) fun y0=>bz (qy bH y0.1 (bC y0.1) 0 x0 [] x0 x0 y0.1 [] []) fun y1=>dE y1 (fun a2=>bz (jh bH 0 a2.2.1.1.2.1 [] a2.2.2.1.1 a2.2.2.1.2.1 a2.2.2.2.1 a2.2.1.1.2.1 a2.2.2.2.2.2.1) fun y3=>dE y3 (fun a4=>bif(fG (ofBytes a4.2.2.1) [])then bif(bJ (bC a4.2.2.2.2.2.2.2.2.2.1) (bC a4.2.2.2.2.2.2.2.2.2.1))then some ((ofBytes a4.2.2.2.2.2.2.2.2.2.1),())else none else bif(dO (bG a4.2.2.2.2.2.2.2.2.2.1 (dh (ofBytes a4.2.2.1))) 1)then bif(bJ (bC (bG a4.2.2.2.2.2.2.2.2.2.1 (dh (ofBytes a4.2.2.1)))) (bC (bG a4.2.2.2.2.2.2.2.2.2.1 (dh (ofBytes a4.2.2.1)))))then some ((ofBytes (bG a4.2.2.2.2.2.2.2.2.2.1 (dh (ofBytes a4.2.2.1)))),())else none else none) (fun b4=>bif(bJ (bC b4.2.2.2.2.2.2.1) (bC b4.2.2.2.2.2.2.1))then some ((ofBytes b4.2.2.2.2.2.2.1),())else none)) (fun b2=>none)
def aGZ:Sum:=⟨[.str],V7,fun x=>ajH x.1⟩
noncomputable def D7:Env:=gy prog tt [(213,axo),(217,axp),(243,axx)] [(179,3,TV),(214,4,TW),(219,5,TY),(147,500004,akA),(147,600002,ZM),(147,600004,aku),(147,600005,F9),(28,600001,pY),(214,600005,aer),(214,600016,BX),(214,600017,ZN),(214,600019,BX),(214,600010,BX),(214,600020,akv),(215,600003,aes),(219,600006,aet),(219,600016,ZO),(219,600007,aeu),(219,600009,aev),(219,600020,ZP)] [(179,3,O6),(219,5,O8),(214,4,O7)] [147]
def PM {γ:Type} (a:CU.den->Option γ) (b:EM.den->Option γ) (c:ET.den->Option γ) (v:CU.den):Option γ:=yS (fun v0 v1 v2 v3 v4 v5 v6 v7 v8 v9=>a ((v0,v1,v2,()),((v3,v4,v5,()),(),()),((v6,v7,()),v8,(),v9,()))) (fun e0 e1 e2 e3 e4 e5 e6=>b ((),((e0,e1,e2,()),(),()),((e3,e4,()),e5,(),e6,()))) (fun r0 r1 r2 r3 r4 r5=>c ((),((r0,()),(),(),()),((r1,r2,()),r3,(),(r4,()),r5,(),()))) v.1.1 v.1.2.1 v.1.2.2.1 v.2.1.1.1 v.2.1.1.2.1 v.2.1.1.2.2.1 v.2.2.1.1 v.2.2.1.2.1 v.2.2.2.1 v.2.2.2.2.2.1
theorem ae7:dG D7 179 Su O6:=kW (PM) (h2:=by intros;simp only[PM,yS,bV,bW,bu,bQ,bY])
def PO {γ:Type} (a:CW.den->Option γ) (b:yM.den->Option γ) (c:yO.den->Option γ) (v:CW.den):Option γ:=yU (fun v0 v1 v2 v3 v4 v5 v6 v7 v8 v9 v10 v11 v12 v13 v14 v15 v16 v17 v18 v19=>a ((v0,v1,v2,()),((v3,v4,v5,v6,()),(v7,()),(),(),()),(v8,(v9,v10,v11,v12,v13,()),v14,(),(),(v15,v16,()),v17,(),(v18,()),v19,(),()))) (fun e0 e1 e2 e3 e4 e5 e6 e7 e8 e9 e10 e11 e12 e13 e14 e15 e16 e17=>b ((e0,()),((e1,e2,e3,e4,()),(e5,()),(),(),()),(e6,(e7,e8,e9,e10,e11,()),e12,(),(),(e13,e14,()),e15,(),(e16,()),e17,(),()))) (fun r0 r1 r2 r3 r4 r5=>c ((),((r0,()),(),(),()),((r1,r2,()),r3,(),(r4,()),r5,(),()))) v.1.1 v.1.2.1 v.1.2.2.1 v.2.1.1.1 v.2.1.1.2.1 v.2.1.1.2.2.1 v.2.1.1.2.2.2.1 v.2.1.2.1.1 v.2.2.1 v.2.2.2.1.1 v.2.2.2.1.2.1 v.2.2.2.1.2.2.1 v.2.2.2.1.2.2.2.1 v.2.2.2.1.2.2.2.2.1 v.2.2.2.2.1 v.2.2.2.2.2.2.2.1.1 v.2.2.2.2.2.2.2.1.2.1 v.2.2.2.2.2.2.2.2.1 v.2.2.2.2.2.2.2.2.2.2.1.1 v.2.2.2.2.2.2.2.2.2.2.2.1
theorem ae9:dG D7 219 Sz O8:=kW (PO) (h2:=by intros;simp only[PO,yU,bV,bW,bu,bQ,bY,eG,iI,jT,mP,mQ])
def PN {γ:Type} (a:CV.den->Option γ) (b:EN.den->Option γ) (c:EU.den->Option γ) (v:CV.den):Option γ:=yT (fun v0 v1 v2 v3 v4 v5 v6 v7=>a ((v0,()),((v1,()),(),(),()),(v2,(),(),(v3,v4,()),v5,(),(v6,()),v7,(),()))) (fun e0 e1 e2 e3 e4 e5 e6=>b ((),((e0,()),(),(),()),(e1,(),(),(e2,e3,()),e4,(),(e5,()),e6,(),()))) (fun r0 r1 r2 r3 r4 r5=>c ((),((r0,()),(),(),()),((r1,r2,()),r3,(),(r4,()),r5,(),()))) v.1.1 v.2.1.1.1 v.2.2.1 v.2.2.2.2.2.1.1 v.2.2.2.2.2.1.2.1 v.2.2.2.2.2.2.1 v.2.2.2.2.2.2.2.2.1.1 v.2.2.2.2.2.2.2.2.2.1
theorem ae8:dG D7 214 Sv O7:=kW (PN) (h2:=by intros;simp only[PN,yT,bV,bW,bu,bQ,bY,cZ,pF,jR,jS,iD,tN,tV,tX,tY,tZ])
theorem aEC:iW YQ=[]:=by kernel_rfl
theorem aGB:je YQ=[(cA (cA (cB (cA (cB (cB (YQ)))))),cB (cA (cB (cA (cB (cB (YQ)))))))]:=by kernel_rfl
theorem aEV:dD D7 147 YQ:=lU YQ (by rw[aGB];exact(aD (fun _=>(show pz 147 4=some (cA (cA (cB (cA (cB (cB (YQ)))))),cB (cA (cB (cA (cB (cB (YQ))))))) by kernel_rfl)) aN)) (by rw[aEC];exact aN)
theorem ahr:dD D7 179 RN:=nJ [Su] (aD (fM (ae7)) aN)
theorem ahs:dD D7 214 RP:=nJ [Sv] (aD (fM (ae8)) aN)
theorem aht:dD D7 219 RQ:=nJ [Sz] (aD (fM (ae9)) aN)
theorem anJ:eu D7:=eB (aD apW (aD apX (aD ap7 aN))) [147,179,214,219] (aD ⟨f147,YQ,by kernel_rfl,by kernel_rfl,aEV⟩ (aD ⟨f179,RN,by kernel_rfl,by kernel_rfl,ahr⟩ (aD ⟨f214,RP,by kernel_rfl,by kernel_rfl,ahs⟩ (aD ⟨Tryz.f219,RQ,by kernel_rfl,by kernel_rfl,aht⟩ aN))))
theorem apx:dH prog 147 aGZ:=sA anJ
def ajx (x0:bM) (x1:Int) (x2:Int×qJ×oP):Option ((Int×qJ×oP)×Unit):=bz (rP x2.2.1) fun y0=>bif(bJ x1 1)then some ((x2.1,(y0.1,(false,()))),())else bif(bJ x1 2)then some ((0,(y0.1,((gU 0 (bC y0.1)),()))),())else bif(bJ x1 4)then bz (OH x0) fun y1=>bif(bJ y1.1 4)then some ((y1.1,(y0.1,(false,()))),())else bif(bJ y1.1 5)then some ((y1.1,(y0.1,(false,()))),())else some ((0,(y0.1,(false,()))),())else bif(bJ x1 6)then bif(!(bJ x2.1 0))then bz (ajH x0) fun y1=>bif(fG x0 x0)then bif(bJ x2.1 x2.1)then bif(jl (bJ x2.1 5) (bJ x2.1 5))then bif(((fG x0 x0)&&true)&&((fG y1.1 y1.1)&&true))then bif(dO (bG y0.1 [(y1.1,((bJ x2.1 5),()))]) 24)then bif(fG x0 x0)then bif(bJ x2.1 x2.1)then bif(jl (bJ x2.1 5) (bJ x2.1 5))then bif((fG y1.1 y1.1)&&((jl (bJ x2.1 5) (bJ x2.1 5))&&true))then some ((0,((bG y0.1 [(y1.1,((bJ x2.1 5),()))]),(false,()))),())else none else none else none else none else none else none else none else none else none else some ((0,(y0.1,(false,()))),())else some ((0,(y0.1,(false,()))),())
def aGO:Sum:=⟨[.str,cO,.pair cO tyL],[(.pair cO tyL,false)],fun x=>ajx x.1 x.2.1 x.2.2.1⟩
theorem aph:dH prog 110 aGO:=qA f110 [] (sE xK (sE Og (sE apx aN)))
def ag6 (x2:Int×qJ×oP):Option taT:=bif((bJ x2.1 x2.1)&&((nH PZ x2.2.1 x2.2.1)&&((jl x2.2.2.1 x2.2.2.1)&&true)))then some ((0,(0,(0,(false,())))),((x2.1,(x2.2.1,(x2.2.2.1,()))),()))else none
def ag7 (x0:bM) (x1:Int) (x2:Int×qJ×oP):Option taT:=bz (ajw x0 x1) fun y0=>bif(eU (bC x0) y0.1.2.1 y0.1.2.2.1)then bz (ajx (sub x0 y0.1.2.1 y0.1.2.2.1) y0.1.1 (x2.1,(x2.2.1,(x2.2.2.1,())))) fun y1=>bif((bJ y0.1.1 y0.1.1)&&((bJ y0.1.2.1 y0.1.2.1)&&((bJ y0.1.2.2.1 y0.1.2.2.1)&&((jl y0.1.2.2.2.1 y0.1.2.2.2.1)&&true))))then bif(fG x0 x0)then bif(bJ y0.1.2.1 y0.1.2.1)then bif(bJ y0.1.2.2.1 y0.1.2.2.1)then bif(fG x0 x0)then bif(bJ y0.1.2.1 y0.1.2.1)then bif(bJ y0.1.2.2.1 y0.1.2.2.1)then bif(eU (bC x0) y0.1.2.1 y0.1.2.2.1)then bif(fG (sub x0 y0.1.2.1 y0.1.2.2.1) (sub x0 y0.1.2.1 y0.1.2.2.1))then bif(bJ y0.1.1 y0.1.1)then bif((bJ x2.1 x2.1)&&((nH PZ x2.2.1 x2.2.1)&&((jl x2.2.2.1 x2.2.2.1)&&true)))then some ((y0.1.1,(y0.1.2.1,(y0.1.2.2.1,(y0.1.2.2.2.1,())))),((y1.1.1,(y1.1.2.1,(y1.1.2.2.1,()))),()))else none else none else none else none else none else none else none else none else none else none else none else none
def azi (x0:bM) (x1:Int) (x2:Int×qJ×oP):Option taT:=bif(gU x1 0)then ag6 x2 else bif(leI (bC x0) x1)then ag6 x2 else bif x2.2.2.1 then bif(gU 0 (bC x2.2.1))then bz (ata x0 x1 (x2.1,(x2.2.1,(x2.2.2.1,())))) fun y0=>some ((y0.1.1,(y0.1.2.1,(y0.1.2.2.1,(y0.1.2.2.2.1,())))),((y0.2.1.1,(y0.2.1.2.1,(y0.2.1.2.2.1,()))),()))else ag7 x0 x1 x2 else ag7 x0 x1 x2
def aDe:Sum:=⟨[.str,cO,.pair cO tyL],tzJ,fun x=>azi x.1 x.2.1 x.2.2.1⟩
theorem ax7:dH prog 86 aDe:=qA f86 [] (sE apf (sE apg (sE aph aN)))
noncomputable def b31:Code:=(f31.body).getD .skip
noncomputable def agm:Code:=(f85.body).getD .skip
noncomputable def ads:Code:=cA (cA (cB (cB (cB (agm)))))
def aen:dW:=⟨[0,1,3,4,5,86000003],[(100000501,.pair (.list .unit) (.pair .unit PZ)),(300000301,.pair (.list .unit) (.pair .unit PZ))],[],[],[],[]⟩
def aEy:dW:=⟨[2,3,4,5],[],[],[],[],[]⟩
def aEu:dW:=⟨[0,2,3,4,5],[],[],[],[],[]⟩
def aoE:dW:=⟨[0,1,3,4],[],[],[],[],[]⟩
def KQ:SQ:=⟨us [.yld 1700010,.ptr 2000001 0,.u,.ptr 3000003 0,.ptr 3000004 0,.v cO] 18,[us [.u,.u,.nils,.ptr 1000003 0,.ptr 1000004 0,.ptr 1000005 0] 13,[.yld 1700010],[]],[.box 3000004 35 [.v cO,.v cO,.v cO,.v .bool],.box 3000003 40 [.v cO,.v V6,.v .bool],.box 2000001 9 [.v .str],.lp 1700010 31 (us [.u,.u,.nils,.ptr 1000003 0,.ptr 1000004 0,.ptr 1000005 0] 13) [10,11] 6 0 none,.arr 1500004 Qi,.box 1000005 40 [.v cO,.v V6,.v .bool],.box 1000004 41 [.slc 1500004],.box 1000003 40 [.v cO,.nils,.v .bool]]⟩
def NG:SQ:=⟨us [] 24,[us [.u,.u,.nils,.ptr 1000003 0,.ptr 1000004 0,.ptr 1000005 0] 13,[.yld 1700010],[]],[.box 2000001 9 [.v .str],.lp 1700010 31 (us [.u,.u,.nils,.ptr 1000003 0,.ptr 1000004 0,.ptr 1000005 0] 13) [10,11] 6 0 none,.arr 1500004 Qi,.box 1000005 40 [.v cO,.v V6,.v .bool],.box 1000004 41 [.slc 1500004],.box 1000003 40 [.v cO,.nils,.v .bool]]⟩
def NL:SQ:=⟨us [] 24,[us [.u,.u,.nils,.ptr 1000003 0,.ptr 1000004 0,.ptr 1000005 0] 13,[.yld 1700010],[]],[]⟩
def GU {γ:Type} (rec:Int->Int->Int->Int->Bool->Int->qJ->Bool->bM->(List wE)->Int->qJ->Bool->Int->Bool->Option γ) (kE:bM->(List wE)->Int->qJ->Bool->Int->Bool->Option γ) (kR:Option γ) (v0 v1 v2 v3:Int) (v4:Bool) (v5:Int) (v6:qJ) (v7:Bool) (v8:bM) (v9:List wE) (v10:Int) (v11:qJ) (v12:Bool) (v13:Int) (v14:Bool):Option γ:=bif(gU v0 (bC v8))then bz (azi v8 v0 (v5,(v6,(v7,())))) fun y0=>bif((bJ y0.2.1.1 y0.2.1.1)&&((nH PZ y0.2.1.2.1 y0.2.1.2.1)&&((jl y0.2.1.2.2.1 y0.2.1.2.2.1)&&true)))then bif(dO (bG v9 [(y0.1.1,(y0.1.2.1,(y0.1.2.2.1,(y0.1.2.2.2.1,()))))]) 32)then bif((bJ y0.1.1 y0.1.1)&&((bJ y0.1.2.1 y0.1.2.1)&&((bJ y0.1.2.2.1 y0.1.2.2.1)&&((jl y0.1.2.2.2.1 y0.1.2.2.2.1)&&true))))then bif((bJ y0.2.1.1 y0.2.1.1)&&((nH PZ y0.2.1.2.1 y0.2.1.2.1)&&((jl y0.2.1.2.2.1 y0.2.1.2.2.1)&&true)))then bif((bJ y0.2.1.1 y0.2.1.1)&&((nH PZ y0.2.1.2.1 y0.2.1.2.1)&&((jl y0.2.1.2.2.1 y0.2.1.2.2.1)&&true)))then rec y0.1.2.2.1 y0.1.1 y0.1.2.1 y0.1.2.2.1 y0.1.2.2.2.1 y0.2.1.1 y0.2.1.2.1 y0.2.1.2.2.1 v8 (bG v9 [(y0.1.1,(y0.1.2.1,(y0.1.2.2.1,(y0.1.2.2.2.1,()))))]) y0.2.1.1 y0.2.1.2.1 y0.2.1.2.2.1 v13 v14 else none else none else none else none else none else kE v8 v9 v10 v11 v12 v13 v14
def wK:Nat->Int->Int->Int->Int->Bool->Int->qJ->Bool->bM->(List wE)->Int->qJ->Bool->Int->Bool->Option (NG.den⊕NL.den)
 |0,_,_,_,_,_,_,_,_,_,_,_,_,_,_,_=>none
 |n+1,v0,v1,v2,v3,v4,v5,v6,v7,v8,v9,v10,v11,v12,v13,v14=>GU (wK n) (fun e0 e1 e2 e3 e4 e5 e6=>some (.inl ((),((),(),(),()),((e0,()),(),e1,(e2,e3,e4,()),(),(e5,e6,()),())))) (some (.inr ((),((),(),(),()),()))) v0 v1 v2 v3 v4 v5 v6 v7 v8 v9 v10 v11 v12 v13 v14
def aoR (n:Nat) (v:KQ.den):=wK n v.1.1 v.2.2.1.1 v.2.2.1.2.1 v.2.2.1.2.2.1 v.2.2.1.2.2.2.1 v.2.2.2.1.1 v.2.2.2.1.2.1 v.2.2.2.1.2.2.1 v.2.2.2.2.1.1 v.2.2.2.2.2.2.1 v.2.2.2.2.2.2.2.1.1 v.2.2.2.2.2.2.2.1.2.1 v.2.2.2.2.2.2.2.1.2.2.1 v.2.2.2.2.2.2.2.2.2.1.1 v.2.2.2.2.2.2.2.2.2.1.2.1
noncomputable def XH:di:=eX aen KQ NG NL (.exit 0) (aoR bH) 6
def ay7 (x0:bM):Option ((List wE)×(Int×qJ×oP)×Unit):=bz (wK bH 0 0 0 0 false 0 [] false x0 [] 0 [] false 0 false) fun y0=>dE y0 (fun a1=>some (a1.2.2.2.2.1,((a1.2.2.2.2.2.1.1,(a1.2.2.2.2.2.1.2.1,(a1.2.2.2.2.2.1.2.2.1,()))),()))) (fun b1=>none)
def axE:Sum:=⟨[.str],[(.list Qi,false),(.pair cO tyL,false)],fun x=>ay7 x.1⟩
noncomputable def ajr:Env:=gy prog tt [(86,aDe)] [(85,3,aen),(31,500006,aEy),(31,600003,aEu),(85,600006,aoE)] [(85,3,XH)] [31]
def Yd {γ:Type} (a:KQ.den->Option γ) (b:NG.den->Option γ) (c:NL.den->Option γ) (v:KQ.den):Option γ:=GU (fun v0 v1 v2 v3 v4 v5 v6 v7 v8 v9 v10 v11 v12 v13 v14=>a ((v0,()),((),(),(),()),((v1,v2,v3,v4,()),(v5,v6,v7,()),(v8,()),(),v9,(v10,v11,v12,()),(),(v13,v14,()),()))) (fun e0 e1 e2 e3 e4 e5 e6=>b ((),((),(),(),()),((e0,()),(),e1,(e2,e3,e4,()),(),(e5,e6,()),()))) (c ((),((),(),(),()),())) v.1.1 v.2.2.1.1 v.2.2.1.2.1 v.2.2.1.2.2.1 v.2.2.1.2.2.2.1 v.2.2.2.1.1 v.2.2.2.1.2.1 v.2.2.2.1.2.2.1 v.2.2.2.2.1.1 v.2.2.2.2.2.2.1 v.2.2.2.2.2.2.2.1.1 v.2.2.2.2.2.2.2.1.2.1 v.2.2.2.2.2.2.2.1.2.2.1 v.2.2.2.2.2.2.2.2.2.1.1 v.2.2.2.2.2.2.2.2.2.1.2.1
theorem ao1:dG ajr 85 ads XH:=kW (Yd) (h2:=by intros;simp only[Yd,GU,bV,bW,bu,bQ,bY])
theorem aIl:iW b31=[]:=by kernel_rfl
theorem aI5:je b31=[(cA (cA (cB (cA (cB (cB (cB (b31))))))),cB (cA (cB (cA (cB (cB (cB (b31))))))))]:=by kernel_rfl
theorem aIt:dD ajr 31 b31:=lU b31 (by rw[aI5];exact(aD (fun _=>(show pz 31 6=some (cA (cA (cB (cA (cB (cB (cB (b31))))))),cB (cA (cB (cA (cB (cB (cB (b31)))))))) by kernel_rfl)) aN)) (by rw[aIl];exact aN)
theorem aux:dD ajr 85 agm:=nJ [ads] (aD (fM (ao1)) aN)
theorem arH:eu ajr:=eB (aD ax7 aN) [31,85] (aD ⟨f31,b31,by kernel_rfl,by kernel_rfl,aIt⟩ (aD ⟨f85,agm,by kernel_rfl,by kernel_rfl,aux⟩ aN))
theorem afL:dH prog 31 axE:=sA arH
def azd (x0:bM) (x1:wE):Option Qh:=bif(gU x1.2.1 0)then some ([],())else bif(gU x1.2.2.1 x1.2.1)then some ([],())else bif(gU (bC x0) x1.2.2.1)then some ([],())else bif(eU (bC x0) x1.2.1 x1.2.2.1)then some ((sub x0 x1.2.1 x1.2.2.1),())else none
def aC3:Sum:=⟨[.str,Qi],V7,fun x=>azd x.1 x.2.1⟩
theorem axQ:dH prog 57 aC3:=qA f57 [] aN
noncomputable def b32:Code:=(f32.body).getD .skip
noncomputable def aBx:Code:=cA (cA (cB (cA (cB (b32)))))
def aCa:dW:=⟨[0,4,7,8,9,100002],[(4,tyD)],[4],[],[4],[(4,tyD)]⟩
def alq:SP:=⟨us [.v .str,.u,.u,.u,.slc 1800004,.u,.u,.v (.list Qi),.v cO,.v cO] 42,[.arr 1800004 tyD]⟩
def ahO:SP:=⟨us [.u,.u,.u,.u,.slc 1800004] 47,[.arr 1800004 tyD]⟩
def aig:SP:=⟨us [.u,.u,.u,.u,.v nK] 47,[]⟩
def dV (v1:List wE) (v3:Int):=dQ v1 (0,(0,(0,(false,())))) v3
def uK (v1:List wE) (v3:Int):=bJ (dV v1 v3).2.2.1 (dV v1 v3).2.2.1
def Bi {γ:Type} (v0:bM) (v1:List wE) (v3:Int) (v4:List fU) (rec:bM->(List wE)->Int->Int->(List fU)->Option γ) (v2:Int):Option γ:=bz (azd v0 ((dV v1 v3).1,((dV v1 v3).2.1,((dV v1 v3).2.2.1,((dV v1 v3).2.2.2.1,()))))) fun y0=>bif(bJ (dV v1 v3).1 (dV v1 v3).1)then bif(fG v0 v0)then bif((bJ (dV v1 v3).1 (dV v1 v3).1)&&((bJ (dV v1 v3).2.1 (dV v1 v3).2.1)&&((uK v1 v3)&&((jl (dV v1 v3).2.2.2.1 (dV v1 v3).2.2.2.1)&&true))))then bif(bJ (dV v1 v3).2.1 (dV v1 v3).2.1)then bif(uK v1 v3)then bif(((fG v0 v0)&&(((bJ (dV v1 v3).1 (dV v1 v3).1)&&((bJ (dV v1 v3).2.1 (dV v1 v3).2.1)&&((uK v1 v3)&&((jl (dV v1 v3).2.2.2.1 (dV v1 v3).2.2.2.1)&&true))))&&true))&&((fG y0.1 y0.1)&&true))then bif(dO (bG v4 [((dV v1 v3).1,(y0.1,((dV v1 v3).2.1,((dV v1 v3).2.2.1,()))))]) 40)then bif(bJ (dV v1 v3).1 (dV v1 v3).1)then bif(fG v0 v0)then bif((bJ (dV v1 v3).1 (dV v1 v3).1)&&((bJ (dV v1 v3).2.1 (dV v1 v3).2.1)&&((uK v1 v3)&&((jl (dV v1 v3).2.2.2.1 (dV v1 v3).2.2.2.1)&&true))))then bif(bJ (dV v1 v3).2.1 (dV v1 v3).2.1)then bif(uK v1 v3)then bif((bJ (dV v1 v3).1 (dV v1 v3).1)&&((fG y0.1 y0.1)&&((bJ (dV v1 v3).2.1 (dV v1 v3).2.1)&&((uK v1 v3)&&true))))then rec v0 v1 v2 (bU .i64 v3 1) (bG v4 [((dV v1 v3).1,(y0.1,((dV v1 v3).2.1,((dV v1 v3).2.2.1,()))))])else none else none else none else none else none else none else none else none else none else none else none else none else none
def acC {γ:Type} (rec:bM->(List wE)->Int->Int->(List fU)->Option γ) (kE kR:(List fU)->Option γ) (v0:bM) (v1:List wE) (v2 v3:Int) (v4:List fU):Option γ:=bif(gU v3 v2)then bif(fB v1 v3)then bif(gU (dV v1 v3).2.1 0)then rec v0 v1 v2 (bU .i64 v3 1) v4 else bif(gU (dV v1 v3).2.2.1 (dV v1 v3).2.1)then rec v0 v1 v2 (bU .i64 v3 1) v4 else bif(gU (bC v0) (dV v1 v3).2.2.1)then rec v0 v1 v2 (bU .i64 v3 1) v4 else bif(bJ (dV v1 v3).1 4)then bif(bJ (dV v1 v3).1 4)then Bi v0 v1 v3 v4 rec v2 else rec v0 v1 v2 (bU .i64 v3 1) v4 else bif(bJ (dV v1 v3).1 5)then bif(bJ (dV v1 v3).1 5)then Bi v0 v1 v3 v4 rec v2 else rec v0 v1 v2 (bU .i64 v3 1) v4 else bif(bJ (dV v1 v3).1 6)then bif(bJ (dV v1 v3).1 6)then Bi v0 v1 v3 v4 rec v2 else rec v0 v1 v2 (bU .i64 v3 1) v4 else bif(bJ (dV v1 v3).1 2)then Bi v0 v1 v3 v4 rec v2 else rec v0 v1 v2 (bU .i64 v3 1) v4 else none else kE v4
def Es:Nat->bM->(List wE)->Int->Int->(List fU)->Option (ahO.den⊕aig.den)
 |0,_,_,_,_,_=>none
 |n+1,v0,v1,v2,v3,v4=>acC (Es n) (fun e0=>some (.inl ((),(e0,())))) (fun r0=>some (.inr ((r0,()),()))) v0 v1 v2 v3 v4
def aFl (n:Nat) (v:alq.den):=Es n v.1.1 v.1.2.1 v.1.2.2.1 v.1.2.2.2.1 v.2.1
noncomputable def auQ:di:=fD aCa alq ahO aig (.exit 0) (aFl bH) 6
def ay8 (x0:bM) (x1:List wE):Option ((List fU)×Unit):=bz (Es bH x0 x1 (bC x1) 0 []) fun y0=>dE y0 (fun a1=>some (a1.2.1,())) (fun b1=>some (b1.1.1,()))
def axF:Sum:=⟨[.str,.list Qi],[(.list tyD,false)],fun x=>ay8 x.1 x.2.1⟩
noncomputable def arI:Env:=iM prog tt 32 [(57,aC3)] [(2,aCa)] [(2,auQ)]
def av6 {γ:Type} (a:alq.den->Option γ) (b:ahO.den->Option γ) (c:aig.den->Option γ) (v:alq.den):Option γ:=acC (fun v0 v1 v2 v3 v4=>a ((v0,v1,v2,v3,()),(v4,()))) (fun e0=>b ((),(e0,()))) (fun r0=>c ((r0,()),())) v.1.1 v.1.2.1 v.1.2.2.1 v.1.2.2.2.1 v.2.1
theorem aF1:dG arI 32 aBx auQ:=uQ (av6) (h2:=by intros;simp only[av6,acC,bV,bW,bu,bQ,bY,dV,uK,Bi])
theorem aIu:dD arI 32 b32:=nJ [aBx] (aD (fM (aF1)) aN)
theorem arJ:eu arI:=eA f32 (aD axQ aN) (aIu)
theorem afM:dH prog 32 axF:=sA arJ
end
end Go.Proofs.YtldbkoijjlaaeaaGreatDoor
