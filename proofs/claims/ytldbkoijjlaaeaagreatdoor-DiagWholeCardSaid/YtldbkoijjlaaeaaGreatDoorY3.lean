/- Parts of the proof, joined and shortened by a program: the plain machine, the functions as it prints them, and the mathematics over them. -/
import Derived.ChangeArms
import Derived.WideShapes
import Derived.Test.YtldbkoijjlaaeaaGreatDoorProg
import Derived.Shelf.Strings.Builder1
import Derived.Test.YtldbkoijjlaaeaaGreatDoorY2
set_option linter.unusedVariables false
set_option linter.unusedSimpArgs false
set_option maxRecDepth 100000
set_option maxHeartbeats 4000000
namespace Go.Proofs.YtldbkoijjlaaeaaGreatDoor
section
open Bool renaming and_eq_true → af
open List renaming mem_cons_of_mem → au
open Nat renaming le_refl → ae
open Go.RowKit
def TT.allK:TT->Bool
 |.nil=>true
 |.node _ i l r=>i.known&&(l.allK&&r.allK)
theorem TT.allK_at: ∀(T:TT) (t:TypeId),T.allK=true->(T.at t).ty.isSome=true->(T.at t).known=true
 |.nil,t,_,h=>by assumption
 |.node k i l r,t,h,h2=>by
  simp only[TT.allK,af]at h;simp only[TT.at]at h2 ⊢;by_cases e:Nat.beq k t=true
  ·simp_all
  ·have e':Nat.beq k t=false:=(Bool.not_eq_true _).mp e;simp only[e',cond_false]at h2 ⊢;by_cases e2:Nat.blt t k=true
   ·simp only[e2,cond_true]at h2 ⊢;exact TT.allK_at l t h.2.1 h2
   ·have e2':Nat.blt t k=false:=(Bool.not_eq_true _).mp e2;simp only[e2',cond_false]at h2 ⊢;exact TT.allK_at r t h.2.2 h2
def wfD:(t:Ty)->t.den->Prop
 |.unit,_=>True
 |.bool,_=>True
 |.int k,x=>(Lit.int k x).wf=true
 |.str,x=>x.length<=maxLen
 |.list e,xs=>xs.length<=maxLen/\ ∀x∈xs,wfD e x
 |.pair a b,x=>wfD a x.1/\wfD b x.2
section
variable {P:Program} {T:TT} {w:World} {H:Type} {enc:TypeId×Value->H} {spare:Nat->Bool} {held:Bool}
theorem an4 {t:TypeId} {k:TK} (h:(P.underlying t).map jD=some (some k)): ∃d,P.underlying t=some d/\jD d=some k:=by
 simp_all
theorem Eo (hT:TOk P T) {t:TypeId} (hk:(T.at t).known=true):P.cellsOf t=(T.at t).size:=by
 obtain⟨h,_⟩:=hT t hk;unfold Program.cellsOf;cases hi:P.info? t with
 |none=>simp_all
 |some f=>
  simp_all
theorem aoo {a:Addr} {v:Value} (h:w.cell? a=some v):a.block<w.heap.size/\a.spot=none:=by
 unfold World.cell? at h;split at h
 ·rename_i hb
  refine⟨(Array.getElem?_eq_some_iff.1 hb).1, ?_⟩;simp_all
 ·cases h
theorem addr_add_add (a:Addr) (x m:Nat):(a.add x).add m=a.add (x+m):=by
 grind [Addr.add]
theorem Zu {e:Ty} {size:Nat} (hsz:e.size=size) {a:Addr} {len:Nat} {F:List Value->Option (DataW H×List MemPlace)} (hF: ∀cs y,F cs=some y-> ∃x:e.den,dR w (fun b=>b<w.heap.size) e x cs/\wfD e x)
  (h: ∀i,i<len-> ∃y,(w.cells? 0 (a.add (i*size)) size).bind F=some y): ∀(k j:Nat),j+k<=len->
  ∃(xs:List e.den) (zs:List Value),xs.length=k/\eQ (dR w (fun b=>b<w.heap.size) e) e.size xs zs/\(∀m (hm:m<zs.length),w.cell? (a.add (j*size+m))=some zs[m])/\ ∀x∈xs,wfD e x
 |0,j,_=>⟨[],[],rfl,rfl,fun m hm=>absurd hm (by simp),fun x hx=>by cases hx⟩
 |k+1,j,hj=>by
  obtain⟨xs,zs,h1,h2,h3,h4⟩:=Zu hsz hF h k (j+1) (by omega);obtain⟨y,hy⟩:=h j (by omega);obtain⟨c,hc,hy⟩:=Option.bind_eq_some_iff.1 hy;obtain⟨x,hx,hwf⟩:=hF c y hy;have hcl:c.length=e.size:=dR.length e x c hx;have hcell: ∀m (hm:m<c.length),w.cell? (a.add (j*size+m))=some c[m]:=fun m hm=>by
   simp only[World.cells?,Nat.zero_le,if_true]at hc;have:=mapM_some_get hc m m (by simp_all);simp_all [addr_add_add]
  refine⟨x::xs,c++zs,by simp[h1],⟨c,zs,rfl,hcl,hx,h2⟩,fun m hm=> ?_,fun z hz=> ?_⟩
  all_goals grind
theorem NJ (hT:TOk P T) {n:Nat} {cs:List Value} (ih: ∀(t:TypeId) (cs:List Value) (y:DataW H×List MemPlace) (ty:Ty),(T.at t).known=true->(T.at t).ty=some ty->DataW.trod enc P w 0 spare held n t cs=some y-> ∃x:ty.den,dR w (fun b=>b<w.heap.size) ty x cs/\wfD ty x):
  ∀(fs:List (Nat×TypeId)) (off:Nat) (ty:Ty),jc T off fs=some ty->(∀p∈fs,∃y,DataW.trod enc P w 0 spare held n p.2 ((cs.drop p.1).take (P.cellsOf p.2))=some y)->
   ∃x:ty.den,dR w (fun b=>b<w.heap.size) ty x ((cs.drop off).take ty.size)/\wfD ty x
 |[],off,ty,h,_=>by
  simp only[jc,Option.some.injEq]at h;subst h;exact⟨(),by simp[dR,Ty.size],trivial⟩
 |(o,ft)::rest,off,ty,h,hall=>by
  simp only[jc]at h;split at h
  ·rename_i ho
   split at h
   ·rename_i a ha
    split at h
    ·rename_i hs
     split at h
     ·rename_i b hb
      simp only[Option.some.injEq]at h;subst h ho;obtain⟨y,hy⟩:=hall (o,ft) (by simp);simp only[Eo hT hs.2,<-hs.1]at hy;obtain⟨x1,h1,h2⟩:=ih ft _ y a hs.2 ha hy;obtain⟨x2,h3,h4⟩:=NJ hT ih rest _ b hb fun p hp=>hall p (au _ hp);refine⟨(x1,x2),⟨_,_, ?_,h1,h3⟩,h2,h4⟩;simp_all [Ty.size,List.take_add]
     ·cases h
    ·cases h
   ·cases h
  ·cases h
theorem PX (hT:TOk P T) (hK:T.allK=true): ∀(fuel:Nat) (t:TypeId) (cs:List Value) (y:DataW H×List MemPlace) (ty:Ty),(T.at t).known=true->(T.at t).ty=some ty->DataW.trod enc P w 0 spare held fuel t cs=some y->
  ∃x:ty.den,dR w (fun b=>b<w.heap.size) ty x cs/\wfD ty x
 |0,t,cs,y,ty,_,_,h=>by simp[DataW.trod]at h
 |fuel+1,t,cs,y,ty,hk,hty,h=>by
  obtain⟨hinfo,hund,hty2,hsz,-,-,-,-⟩:=hT t hk;obtain⟨d,hd,hdk⟩:=an4 hund;have hty3:jT T (T.at t).k=some ty:=by
   simp_all
  have hc:=Eo hT hk;have hsize:=hsz ty hty;cases d with
  |bool=>
   simp only[jD,Option.some.injEq]at hdk;rw[<-hdk]at hty3;simp only[jT,Option.some.injEq]at hty3;subst hty3;obtain⟨b,rfl,_⟩:=DataW.trod_bool hd h;exact⟨b,rfl,trivial⟩
  |int k=>
   simp only[jD,Option.some.injEq]at hdk;rw[<-hdk]at hty3;simp only[jT,Option.some.injEq]at hty3;subst hty3;obtain⟨b,rfl,_,hw⟩:=DataW.trod_int hd h;exact⟨b,rfl,hw⟩
  |string=>
   simp only[jD,Option.some.injEq]at hdk;rw[<-hdk]at hty3;simp only[jT,Option.some.injEq]at hty3;subst hty3;obtain⟨s,rfl,_,hw⟩:=DataW.trod_string hd h;exact⟨s.data.toList,by simp[dR],(show s.data.toList.length<=maxLen from by assumption)⟩
  |slice e=>
   simp only[jD,Option.some.injEq]at hdk;rw[<-hdk]at hty3;simp only[jT,Option.map_eq_some_iff]at hty3;obtain⟨ety,hety,rfl⟩:=hty3;have hek:=TT.allK_at T e hK (by rw[hety];rfl);have hes:ety.size=(T.at e).size:=(hT e hek).2.2.2.1 ety hety;have hec:=Eo hT hek;rcases DataW.trod_slice hd h with ⟨rfl,_⟩|⟨a,len,cap,elems,rest,n,hn,rfl,_,_,hl,hm,hlen,hel,_,_⟩
   ·exact⟨[],⟨none,0,[],rfl,ae _,rfl,.inl rfl⟩,Nat.zero_le _,fun x hx=>by cases hx⟩
   ·obtain rfl:n=fuel:=by omega
    have hrow: ∀i,i<len-> ∃y,(w.cells? 0 (a.add (i*P.cellsOf e)) (P.cellsOf e)).bind (DataW.trod enc P w 0 spare held n e)=some y:=fun i hi=>by
     simp_all
    obtain⟨xs,zs,h1,h2,h3,h4⟩:=Zu (w:=w) (e:=ety) (hes.trans hec.symm) (fun cs y hy=>PX hT hK n e cs y ety hek hety hy) hrow len 0 (by omega);refine⟨xs,⟨some a,cap,zs,by rw[h1],by omega,h2, ?_⟩,by rw[h1];omega,h4⟩;by_cases hz:zs=[]
    ·exact .inl hz
    ·have h0:=h3 0 (List.length_pos_iff.2 hz);rw[show a.add (0*P.cellsOf e+0)=a by simp[Addr.add]]at h0;obtain⟨q1,q2⟩:=aoo h0;obtain⟨ab,ao,asp⟩:=a;simp only at q1 q2;subst q2;refine .inr ⟨ab,ao,rfl,q1,fun j hj=> ?_⟩;simp_all [jo]
  |struct fs=>
   simp only[jD,Option.some.injEq]at hdk;rw[<-hdk]at hty3;simp only[jT]at hty3;obtain⟨xs,n,hn,_,hlen,hxl,hf⟩:=DataW.trod_struct hd h;obtain rfl:n=fuel:=by omega
   obtain⟨x,h1,h2⟩:=NJ (P:=P) (T:=T) (w:=w) (enc:=enc) (spare:=spare) (held:=held) (cs:=cs) hT (fun t cs y ty a b c=>PX hT hK n t cs y ty a b c) _ 0 ty hty3 (fun p hp=>by
    obtain⟨f,hfm,rfl⟩:=List.mem_map.1 hp;obtain⟨i,hi⟩:=List.getElem?_of_mem hfm
    grind)
   grind
  |func a b c=>
   grind [jD,jT]
  |array a b=>simp[jD]at hdk
  |_=>
   grind [jD,jT]
theorem abx (hT:TOk P T) (hK:T.allK=true) {t:TypeId} {v:Value} {d:DataW H} {ps:List MemPlace} {r:Reach} {b0:Nat} {ty:Ty} (hty:(T.at t).ty=some ty) (hval:Value.okWide P w r b0 t v) (h:DataW.Trod enc P w 0 spare held t v d ps):
  ∃x:ty.den,VD (jS w fun _=>False) ty x v/\wfD ty x:=by
 have hk:=TT.allK_at T t hK (by rw[hty];rfl);obtain⟨fuel,hf⟩:=h;obtain⟨x,h1,h2⟩:=PX hT hK fuel t _ _ ty hk hty hf;have h3:dR w (jS w fun _=>False).free ty x v.cells.toList:=dR.mono (fun b hb=>⟨⟨hb,(by rintro ⟨i,o,h,_⟩;simp[jS,di]at h),by simp[jS],fun h=>h⟩,rfl⟩) ty x _ h1;refine⟨x, ?_,h2⟩;obtain⟨hinfo,hund,hty2,-⟩:=hT t hk;obtain⟨d',hd,hdk⟩:=an4 hund;have hty3:jT T (T.at t).k=some ty:=by
  rcases hty2 with h1|h1
  ·rw[h1]at hty;cases hty
  ·rw[<-h1,hty]
 cases ha:ty.isAgg with
 |true=>
  cases d' with
  |struct fs=>
   obtain⟨cs,rfl,_⟩:=Go.WideShapes.okWide_struct hd hval;exact(VD.agg ha).2 ⟨cs,rfl,h3⟩
  |array a b=>simp[jD]at hdk
  |slice e=>
   simp only[jD,Option.some.injEq]at hdk;rw[<-hdk]at hty3;simp only[jT,Option.map_eq_some_iff]at hty3;obtain⟨ety,_,rfl⟩:=hty3;cases ha
  |_=>
   simp only[jD,Option.some.injEq]at hdk;rw[<-hdk]at hty3;simp[jT]at hty3
   all_goals (subst hty3;cases ha)
 |false=>
  rw[VD.leaf ha];have hv:v.cells= #[v]:=by
   cases d' with
   |struct fs=>
    simp only[jD,Option.some.injEq]at hdk;rw[<-hdk]at hty3;simp only[jT]at hty3;exfalso;cases hfs:(fs.toList.map fun f=>(f.offset,f.type))with
    |nil=>rw[hfs]at hty3;simp only[jc,Option.some.injEq]at hty3;subst hty3;cases ha
    |cons p l=>
     rw[hfs]at hty3;simp only[jc]at hty3;split at hty3
     ·split at hty3
      ·split at hty3
       ·split at hty3
        ·simp only[Option.some.injEq]at hty3;subst hty3;cases ha
        ·cases hty3
       ·cases hty3
      ·cases hty3
     ·cases hty3
   |array a b=>simp[jD]at hdk
   |bool=>obtain⟨b,rfl⟩:=Go.WideShapes.okWide_bool hd hval;rfl
   |int k=>obtain⟨b,rfl⟩:=Go.WideShapes.okWide_int hd hval;rfl
   |string=>obtain⟨b,rfl⟩:=Go.WideShapes.okWide_string hd hval;rfl
   |slice e=>obtain⟨a,b,c,rfl⟩:=Go.WideShapes.okWide_slice hd hval;rfl
   |_=>
    simp only[jD,Option.some.injEq]at hdk;rw[<-hdk]at hty3;simp[jT]at hty3
  rw[hv]at h3;exact h3
end
abbrev eG:Type:=Int×(List UInt8)×(Int×Int×Unit)
abbrev bV:Ty:=.int .i64
abbrev ed:Type:=Int×Int×Int×Int×Unit
abbrev bH:Type:=List UInt8
abbrev Qa:Ty:=.pair bV (.pair bV .unit)
abbrev jX:Type:=Int×Int×Int×Int×Bool×Unit
abbrev taE:Type:=(List eG)×Int×(List ed)×Int×Int×Unit
abbrev rJ:Ty:=.pair bV (.pair bV Qa)
abbrev tyD:Ty:=.pair bV (.pair .str Qa)
abbrev Xf:Ty:=.pair bV (.pair bV (.pair bV (.pair .bool .unit)))
abbrev taF:Type:=(List eG)×bH×(List ed)×Int×Int×Int×Unit
abbrev uI:Type:=Int×Int×Int×Bool×Unit
abbrev mg:Type:=Int×Int×Unit
abbrev ou:Type:=Bool×Unit
abbrev KW:Ty:=.pair .str (.pair .bool .unit)
abbrev gX:Type:=List (Int)
abbrev W9:Type:=(List mg)×Bool×Int×Unit
abbrev wu:Type:=List (bH×ou)
abbrev yA:Type:=taE×(Unit)
abbrev o9:Ty:=.list tyD
abbrev tX:Type:=Int×Int
abbrev taO:Type:=bH×(List uI)×Int×wu×Bool×(List eG)×(List ed)×Unit
abbrev E9:Type:=taF×(Unit)
abbrev taQ:Type:=Int×Int×bH×(Unit)
abbrev H9:Ty:=.pair bV Xf
abbrev EU:Type:=Int×Unit
abbrev tyI:Ty:=.pair bV (.pair bV (.pair .str .unit))
abbrev tyJ:Ty:=.pair (.list KW) (.pair .bool .unit)
abbrev KN:Ty:=.list rJ
abbrev Xe:Type:=bH×Unit
abbrev DJ:List (Ty×Bool):=[(.list tyD,false),(.int .i64,false),(.list rJ,true),(.int .i64,false),(.int .i64,false)]
abbrev tzB:List (Ty×Bool):=[(.list Qa,true),(.bool,false),(.int .i64,false)]
abbrev tzC:List (Ty×Bool):=[(.str,false),(.list Xf,false),(.int .i64,false),(.list KW,false),(.bool,false),(.list tyD,false),(.list rJ,false)]
abbrev Tc:List (Ty×Bool):=[(.bool,false)]
abbrev tzE:List (Ty×Bool):=[(.int .i64,false)]
abbrev tzF:List (Ty×Bool):=[(.str,false)]
abbrev tzG:List (Ty×Bool):=[(.pair bV (.pair bV (.pair bV (.pair .bool .unit))),false),(.pair bV tyJ,false)]
end
section
open Bool renaming and_eq_true → af, not_true → ax
open Nat renaming eq_of_beq_eq_true → aj
open Tryz
open Go.RowKit
def iw:TI:=⟨true,.fn,1,8,none,[.nilfn],false,false,true⟩
def ti2:TI:=⟨true,(.int .i64),1,8,some (.int .i64),[.val (.int .i64) 0],false,false,true⟩
def ti4:TI:=⟨true,.bool,1,1,some .bool,[.val .bool false],false,false,true⟩
def ti5:TI:=⟨true,(.int .u8),1,1,some (.int .u8),[.val (.int .u8) 0],false,false,true⟩
def ti7:TI:=⟨true,(.struct [(0,2),(1,3),(2,4),(3,6)]),4,24,none,[.val (.int .i64) 0,.val (.int .i64) 0,.val .bool false,.val (.int .u8) 0],false,false,true⟩
def ti9:TI:=⟨true,.str,1,16,some .str,[.val .str []],false,false,true⟩
def avU:TI:=⟨true,(.int .u64),1,8,some (.int .u64),[.val (.int .u64) 0],false,false,true⟩
def axC:TI:=⟨true,(.struct [(0,9),(1,12)]),2,24,some (.pair .str (.pair (.int .u64) .unit)),[.val .str [],.val (.int .u64) 0],false,false,true⟩
def ayw:TI:=⟨true,(.ptr 247),1,8,none,[.nilp],false,false,true⟩
def ayx:TI:=⟨true,(.ptr 250),1,8,none,[.nilp],false,false,true⟩
def ayy:TI:=⟨true,(.ptr 257),1,8,none,[.nilp],false,false,true⟩
def axM:TI:=⟨true,(.struct [(0,17)]),1,8,none,[.nilp],false,false,true⟩
def avV:TI:=⟨true,(.int .i32),1,4,some (.int .i32),[.val (.int .i32) 0],false,false,true⟩
def ayA:TI:=⟨true,(.slice 29),1,24,some (.list (.pair (.int .i64) (.pair (.int .i64) (.pair .str .unit)))),[.nils],false,false,true⟩
def ayB:TI:=⟨true,(.struct [(0,3),(1,3),(2,9)]),3,32,some (.pair (.int .i64) (.pair (.int .i64) (.pair .str .unit))),[.val (.int .i64) 0,.val (.int .i64) 0,.val .str []],false,false,true⟩
def ayC:TI:=⟨true,(.struct [(0,3),(1,3),(2,9)]),3,32,some (.pair (.int .i64) (.pair (.int .i64) (.pair .str .unit))),[.val (.int .i64) 0,.val (.int .i64) 0,.val .str []],true,false,true⟩
def ayD:TI:=⟨true,(.ptr 45),1,8,none,[.nilp],false,false,true⟩
def ayE:TI:=⟨true,(.struct [(0,3),(1,3),(2,3),(3,4)]),4,32,some (.pair (.int .i64) (.pair (.int .i64) (.pair (.int .i64) (.pair .bool .unit)))),[.val (.int .i64) 0,.val (.int .i64) 0,.val (.int .i64) 0,.val .bool false],false,false,true⟩
def ayF:TI:=⟨true,(.struct [(0,3),(1,3),(2,3),(3,4)]),4,32,some (.pair (.int .i64) (.pair (.int .i64) (.pair (.int .i64) (.pair .bool .unit)))),[.val (.int .i64) 0,.val (.int .i64) 0,.val (.int .i64) 0,.val .bool false],true,false,true⟩
def ayG:TI:=⟨true,(.slice 65),1,24,some (.list (.pair .str (.pair .bool .unit))),[.nils],false,false,true⟩
def ayH:TI:=⟨true,(.struct [(0,3),(1,38),(2,4)]),3,40,some (.pair (.int .i64) (.pair (.list (.pair .str (.pair .bool .unit))) (.pair .bool .unit))),[.val (.int .i64) 0,.nils,.val .bool false],false,false,true⟩
def ayI:TI:=⟨true,(.struct [(0,3),(1,38),(2,4)]),3,40,some (.pair (.int .i64) (.pair (.list (.pair .str (.pair .bool .unit))) (.pair .bool .unit))),[.val (.int .i64) 0,.nils,.val .bool false],false,false,false⟩
def ayJ:TI:=⟨true,(.slice 35),1,24,some (.list (.pair (.int .i64) (.pair (.int .i64) (.pair (.int .i64) (.pair .bool .unit))))),[.nils],false,false,true⟩
def ayK:TI:=⟨true,(.slice 60),1,24,some (.list (.pair (.int .i64) (.pair .str (.pair (.int .i64) (.pair (.int .i64) .unit))))),[.nils],false,false,true⟩
def ayL:TI:=⟨true,(.slice 58),1,24,some (.list (.pair (.int .i64) (.pair (.int .i64) (.pair (.int .i64) (.pair (.int .i64) .unit))))),[.nils],false,false,true⟩
def axW:TI:=⟨true,(.struct [(0,9),(1,41),(2,40),(5,42),(6,43)]),7,128,some (.pair .str (.pair (.list (.pair (.int .i64) (.pair (.int .i64) (.pair (.int .i64) (.pair .bool .unit))))) (.pair (.pair (.int .i64) (.pair (.list (.pair .str (.pair .bool .unit))) (.pair .bool .unit))) (.pair (.list (.pair (.int .i64) (.pair .str (.pair (.int .i64) (.pair (.int .i64) .unit))))) (.pair (.list (.pair (.int .i64) (.pair (.int .i64) (.pair (.int .i64) (.pair (.int .i64) .unit))))) .unit))))),[.val .str [],.nils,.val (.int .i64) 0,.nils,.val .bool false,.nils,.nils],false,false,true⟩
def ayM:TI:=⟨true,(.ptr 88),1,8,none,[.nilp],false,false,true⟩
def ayN:TI:=⟨true,(.struct [(0,3),(1,3),(2,3),(3,3)]),4,32,some (.pair (.int .i64) (.pair (.int .i64) (.pair (.int .i64) (.pair (.int .i64) .unit)))),[.val (.int .i64) 0,.val (.int .i64) 0,.val (.int .i64) 0,.val (.int .i64) 0],false,false,true⟩
def ayO:TI:=⟨true,(.struct [(0,3),(1,3),(2,3),(3,3)]),4,32,some (.pair (.int .i64) (.pair (.int .i64) (.pair (.int .i64) (.pair (.int .i64) .unit)))),[.val (.int .i64) 0,.val (.int .i64) 0,.val (.int .i64) 0,.val (.int .i64) 0],true,false,true⟩
def ayP:TI:=⟨true,(.struct [(0,3),(1,9),(2,3),(3,3)]),4,40,some (.pair (.int .i64) (.pair .str (.pair (.int .i64) (.pair (.int .i64) .unit)))),[.val (.int .i64) 0,.val .str [],.val (.int .i64) 0,.val (.int .i64) 0],false,false,true⟩
def ayQ:TI:=⟨true,(.struct [(0,3),(1,9),(2,3),(3,3)]),4,40,some (.pair (.int .i64) (.pair .str (.pair (.int .i64) (.pair (.int .i64) .unit)))),[.val (.int .i64) 0,.val .str [],.val (.int .i64) 0,.val (.int .i64) 0],true,false,true⟩
def ayR:TI:=⟨true,(.struct [(0,9),(1,4)]),2,24,some (.pair .str (.pair .bool .unit)),[.val .str [],.val .bool false],false,false,true⟩
def ayS:TI:=⟨true,(.struct [(0,9),(1,4)]),2,24,some (.pair .str (.pair .bool .unit)),[.val .str [],.val .bool false],true,false,true⟩
def ayT:TI:=⟨true,(.ptr 69),1,8,none,[.nilp],false,false,true⟩
def ayU:TI:=⟨true,(.slice 5),1,24,some (.list (.int .u8)),[.nils],false,false,true⟩
def ayV:TI:=⟨true,(.struct [(0,66),(1,67)]),2,32,none,[.nilp,.nils],false,false,true⟩
def ayW:TI:=⟨true,(.struct [(0,66),(1,67)]),2,32,none,[.nilp,.nils],false,true,true⟩
def ayX:TI:=⟨true,(.slice 3),1,24,some (.list (.int .i64)),[.nils],false,false,true⟩
def axX:TI:=⟨true,(.struct [(0,3),(1,80)]),2,32,some (.pair (.int .i64) (.pair (.list (.int .i64)) .unit)),[.val (.int .i64) 0,.nils],false,false,true⟩
def ayZ:TI:=⟨true,(.ptr 101),1,8,none,[.nilp],false,false,true⟩
def arZ:TI:=⟨true,(.struct [(0,42),(1,9),(2,43),(3,3),(4,3),(5,3)]),6,88,some (.pair (.list (.pair (.int .i64) (.pair .str (.pair (.int .i64) (.pair (.int .i64) .unit))))) (.pair .str (.pair (.list (.pair (.int .i64) (.pair (.int .i64) (.pair (.int .i64) (.pair (.int .i64) .unit))))) (.pair (.int .i64) (.pair (.int .i64) (.pair (.int .i64) .unit)))))),[.nils,.val .str [],.nils,.val (.int .i64) 0,.val (.int .i64) 0,.val (.int .i64) 0],false,false,true⟩
def axA:TI:=⟨true,(.ptr 5),1,8,none,[.nilp],false,false,true⟩
def axB:TI:=⟨true,(.ptr 115),1,8,none,[.nilp],false,false,true⟩
def ar0:TI:=⟨true,(.struct [(0,42),(1,3),(2,43),(3,3),(4,3)]),5,72,some (.pair (.list (.pair (.int .i64) (.pair .str (.pair (.int .i64) (.pair (.int .i64) .unit))))) (.pair (.int .i64) (.pair (.list (.pair (.int .i64) (.pair (.int .i64) (.pair (.int .i64) (.pair (.int .i64) .unit))))) (.pair (.int .i64) (.pair (.int .i64) .unit))))),[.nils,.val (.int .i64) 0,.nils,.val (.int .i64) 0,.val (.int .i64) 0],false,false,true⟩
def axD:TI:=⟨true,(.slice 9),1,24,some (.list .str),[.nils],false,false,true⟩
def ar1:TI:=⟨true,(.struct [(0,9),(1,80),(2,4)]),3,48,some (.pair .str (.pair (.list (.int .i64)) (.pair .bool .unit))),[.val .str [],.nils,.val .bool false],false,false,true⟩
def axE:TI:=⟨true,(.slice 140),1,24,some (.list (.pair .bool (.pair .bool (.pair .str .unit)))),[.nils],false,false,true⟩
def axF:TI:=⟨true,(.struct [(0,4),(1,4),(2,9)]),3,24,some (.pair .bool (.pair .bool (.pair .str .unit))),[.val .bool false,.val .bool false,.val .str []],false,false,true⟩
def axG:TI:=⟨true,(.struct [(0,4),(1,4),(2,9)]),3,24,some (.pair .bool (.pair .bool (.pair .str .unit))),[.val .bool false,.val .bool false,.val .str []],true,false,true⟩
def axH:TI:=⟨true,(.slice 161),1,24,some (.list (.pair (.int .i64) (.pair (.int .i64) (.pair (.int .i64) (.pair (.int .i64) (.pair .bool .unit)))))),[.nils],false,false,true⟩
def axI:TI:=⟨true,(.struct [(0,3),(1,3),(2,3),(3,3),(4,4)]),5,40,some (.pair (.int .i64) (.pair (.int .i64) (.pair (.int .i64) (.pair (.int .i64) (.pair .bool .unit))))),[.val (.int .i64) 0,.val (.int .i64) 0,.val (.int .i64) 0,.val (.int .i64) 0,.val .bool false],false,false,true⟩
def axJ:TI:=⟨true,(.struct [(0,3),(1,3),(2,3),(3,3),(4,4)]),5,40,some (.pair (.int .i64) (.pair (.int .i64) (.pair (.int .i64) (.pair (.int .i64) (.pair .bool .unit))))),[.val (.int .i64) 0,.val (.int .i64) 0,.val (.int .i64) 0,.val (.int .i64) 0,.val .bool false],true,false,true⟩
def axK:TI:=⟨true,(.int .u32),1,4,some (.int .u32),[.val (.int .u32) 0],false,false,true⟩
def axL:TI:=⟨true,(.slice 134),1,24,some (.list (.pair .str (.pair (.list (.int .i64)) (.pair .bool .unit)))),[.nils],false,false,true⟩
def axN:TI:=⟨true,(.ptr 213),1,8,none,[.nilp],false,false,true⟩
def axO:TI:=⟨true,(.slice 211),1,24,some (.list (.pair (.int .i64) (.pair (.int .i64) .unit))),[.nils],false,false,true⟩
def axP:TI:=⟨true,(.ptr 218),1,8,none,[.nilp],false,false,true⟩
def axQ:TI:=⟨true,(.ptr 205),1,8,none,[.nilp],false,false,true⟩
def axR:TI:=⟨true,(.struct [(0,3),(1,3)]),2,16,some (.pair (.int .i64) (.pair (.int .i64) .unit)),[.val (.int .i64) 0,.val (.int .i64) 0],false,false,true⟩
def axS:TI:=⟨true,(.struct [(0,3),(1,3)]),2,16,some (.pair (.int .i64) (.pair (.int .i64) .unit)),[.val (.int .i64) 0,.val (.int .i64) 0],true,false,true⟩
def ar2:TI:=⟨true,(.struct [(0,187),(1,4),(2,3)]),3,40,some (.pair (.list (.pair (.int .i64) (.pair (.int .i64) .unit))) (.pair .bool (.pair (.int .i64) .unit))),[.nils,.val .bool false,.val (.int .i64) 0],false,false,true⟩
def axT:TI:=⟨true,(.map 3 3),1,8,none,[.undef],false,false,true⟩
def ar4:TI:=⟨true,(.struct [(0,9),(1,158),(2,216)]),3,48,none,[.val .str [],.nils,.undef],false,false,true⟩
def axU:TI:=⟨true,(.ptr 230),1,8,none,[.nilp],false,false,true⟩
def ar5:TI:=⟨true,(.struct [(0,158),(1,80)]),2,48,some (.pair (.list (.pair (.int .i64) (.pair (.int .i64) (.pair (.int .i64) (.pair (.int .i64) (.pair .bool .unit)))))) (.pair (.list (.int .i64)) .unit)),[.nils,.nils],false,false,true⟩
def axV:TI:=⟨true,(.ptr 161),1,8,none,[.nilp],false,false,true⟩
def ar6:TI:=⟨true,(.struct [(0,5),(1,5)]),2,2,some (.pair (.int .u8) (.pair (.int .u8) .unit)),[.val (.int .u8) 0,.val (.int .u8) 0],false,false,true⟩
def ar7:TI:=⟨true,(.struct [(0,17),(1,17),(2,17),(3,9)]),4,40,none,[.nilp,.nilp,.nilp,.val .str []],false,false,true⟩
def ar8:TI:=⟨true,(.struct [(0,12),(1,12),(2,168),(3,251),(4,5),(5,5),(6,252),(7,253),(8,108),(9,254),(10,255)]),11,48,none,[.val (.int .u64) 0,.val (.int .u64) 0,.val (.int .u32) 0,.val (.int .u8) 0,.val (.int .u8) 0,.val (.int .u8) 0,.val (.int .u8) 0,.nilfn,.nilp,.val (.int .i32) 0,.val (.int .i32) 0],false,false,true⟩
def tt:TT:=(.node 122 iw (.node 60 ayQ (.node 30 iw (.node 15 ayw (.node 8 ti7 (.node 4 ti4 (.node 2 ti2 (.node 1 iw .nil .nil) (.node 3 ti2 .nil .nil)) (.node 7 ti7 (.node 5 ti5 .nil .nil) .nil)) (.node 12 avU (.node 10 ti9 (.node 9 ti9 .nil .nil) (.node 11 ti9 .nil .nil)) (.node 14 axC (.node 13 axC .nil .nil) .nil))) (.node 23 iw (.node 19 axM (.node 17 ayy (.node 16 ayx .nil .nil) (.node 18 axM .nil .nil)) (.node 22 iw (.node 21 avV .nil .nil) .nil)) (.node 27 iw (.node 25 iw (.node 24 ayA .nil .nil) (.node 26 iw .nil .nil)) (.node 29 ayC (.node 28 ayB .nil .nil) .nil)))) (.node 45 axW (.node 38 ayG (.node 34 ayE (.node 32 ayD (.node 31 iw .nil .nil) (.node 33 iw .nil .nil)) (.node 37 iw (.node 35 ayF .nil .nil) .nil)) (.node 42 ayK (.node 40 ayI (.node 39 ayH .nil .nil) (.node 41 ayJ .nil .nil)) (.node 44 axW (.node 43 ayL .nil .nil) .nil))) (.node 52 iw (.node 49 iw (.node 47 ayM (.node 46 iw .nil .nil) (.node 48 iw .nil .nil)) (.node 51 iw (.node 50 iw .nil .nil) .nil)) (.node 57 ayN (.node 55 iw (.node 54 iw .nil .nil) (.node 56 iw .nil .nil)) (.node 59 ayP (.node 58 ayO .nil .nil) .nil))))) (.node 92 iw (.node 77 iw (.node 67 ayU (.node 64 ayR (.node 62 iw (.node 61 iw .nil .nil) (.node 63 iw .nil .nil)) (.node 66 ayT (.node 65 ayS .nil .nil) .nil)) (.node 71 iw (.node 69 ayW (.node 68 ayV .nil .nil) (.node 70 iw .nil .nil)) (.node 76 iw (.node 72 iw .nil .nil) .nil))) (.node 84 iw (.node 81 iw (.node 79 iw (.node 78 iw .nil .nil) (.node 80 ayX .nil .nil)) (.node 83 iw (.node 82 iw .nil .nil) .nil)) (.node 88 axX (.node 86 iw (.node 85 iw .nil .nil) (.node 87 axX .nil .nil)) (.node 91 iw (.node 89 iw .nil .nil) .nil)))) (.node 109 iw (.node 101 arZ (.node 98 iw (.node 95 iw (.node 93 ti2 .nil .nil) (.node 97 iw .nil .nil)) (.node 100 arZ (.node 99 ayZ .nil .nil) .nil)) (.node 106 iw (.node 103 iw (.node 102 iw .nil .nil) (.node 104 iw .nil .nil)) (.node 108 axA (.node 107 iw .nil .nil) .nil))) (.node 116 iw (.node 113 axB (.node 111 iw (.node 110 iw .nil .nil) (.node 112 iw .nil .nil)) (.node 115 ar0 (.node 114 ar0 .nil .nil) .nil)) (.node 119 iw (.node 118 iw (.node 117 iw .nil .nil) .nil) (.node 121 iw (.node 120 iw .nil .nil) .nil)))))) (.node 185 iw (.node 154 iw (.node 138 iw (.node 130 axD (.node 126 iw (.node 124 iw (.node 123 iw .nil .nil) (.node 125 iw .nil .nil)) (.node 129 iw (.node 128 iw .nil .nil) .nil)) (.node 135 iw (.node 133 ar1 (.node 132 iw .nil .nil) (.node 134 ar1 .nil .nil)) (.node 137 axE (.node 136 iw .nil .nil) .nil))) (.node 147 iw (.node 143 avU (.node 140 axG (.node 139 axF .nil .nil) (.node 141 iw .nil .nil)) (.node 145 iw (.node 144 iw .nil .nil) .nil)) (.node 151 iw (.node 149 iw (.node 148 iw .nil .nil) (.node 150 iw .nil .nil)) (.node 153 iw (.node 152 avU .nil .nil) .nil)))) (.node 171 iw (.node 161 axJ (.node 158 axH (.node 156 iw (.node 155 iw .nil .nil) (.node 157 iw .nil .nil)) (.node 160 axI (.node 159 iw .nil .nil) .nil)) (.node 166 iw (.node 164 iw (.node 163 iw .nil .nil) (.node 165 iw .nil .nil)) (.node 170 iw (.node 168 axK .nil .nil) .nil))) (.node 178 iw (.node 175 iw (.node 173 iw (.node 172 iw .nil .nil) (.node 174 iw .nil .nil)) (.node 177 iw (.node 176 iw .nil .nil) .nil)) (.node 182 iw (.node 180 iw (.node 179 axL .nil .nil) (.node 181 iw .nil .nil)) (.node 184 axN (.node 183 iw .nil .nil) .nil))))) (.node 221 iw (.node 203 iw (.node 193 axP (.node 190 iw (.node 187 axO (.node 186 iw .nil .nil) (.node 189 iw .nil .nil)) (.node 192 iw (.node 191 iw .nil .nil) .nil)) (.node 197 iw (.node 195 iw (.node 194 iw .nil .nil) (.node 196 iw .nil .nil)) (.node 200 iw (.node 198 iw .nil .nil) .nil))) (.node 213 ar2 (.node 210 axR (.node 208 iw (.node 207 iw .nil .nil) (.node 209 axQ .nil .nil)) (.node 212 ar2 (.node 211 axS .nil .nil) .nil)) (.node 217 ar4 (.node 215 iw (.node 214 iw .nil .nil) (.node 216 axT .nil .nil)) (.node 219 iw (.node 218 ar4 .nil .nil) .nil)))) (.node 237 ar6 (.node 229 ar5 (.node 226 iw (.node 224 iw (.node 222 iw .nil .nil) (.node 225 iw .nil .nil)) (.node 228 axU (.node 227 iw .nil .nil) .nil)) (.node 233 iw (.node 231 iw (.node 230 ar5 .nil .nil) (.node 232 axV .nil .nil)) (.node 235 iw (.node 234 iw .nil .nil) .nil))) (.node 247 ar7 (.node 244 iw (.node 240 iw (.node 238 ar6 .nil .nil) (.node 242 iw .nil .nil)) (.node 246 ar7 (.node 245 iw .nil .nil) .nil)) (.node 255 avV (.node 254 avV (.node 253 iw .nil .nil) .nil) (.node 257 ar8 (.node 256 ar8 .nil .nil) .nil)))))))
theorem aq1 {P:Program} {t:TypeId} {j:TypeInfo} {k:IntKind} (h:(P.info? t).map (·.zero)=some (some (.int k 0))) (hj:P.info? t=some j):j.zero=some (.int k 0):=by rw[hj]at h;simpa using h
theorem tkN {P:Program} {T:TT} {t:TypeId} {i:TI} (h1:(P.info? t).map (fun f=>(f.size,f.bytes,f.zero.map fun z=>(z.cells.toList.map ug,z.cells.toList.all Value.oneCell')))=some (i.size,i.bytes,some (i.zero,true)):=by kernel_rfl)
  (h2:(P.underlying t).map jD=some (some i.k):=by kernel_rfl) (h3:(match i.ty with|none=>none|some _=>i.ty)=(match i.ty with|none=>none|some _=>jT T i.k):=by kernel_rfl) (h4:(match i.ty with|none=>true|some y=>Nat.beq y.size i.size)=true:=by kernel_rfl) (h5:(i.isAgg||Nat.beq i.size 1)=true:=by kernel_rfl)
  (h6:(!i.eq||(!P.eqGuardType P.depth t&&(!P.stoodInHeld t&&((P.underlying t).map (fun d=>match d with|.struct fs=>fs.toList.all fun f=>f.name != "_" |_=>false)).getD false)))=true:=by kernel_rfl)
  (h7:(P.underlying t).map (fun d=>match d with|.struct fs=>fs.toList.all fun f=>(P.info? f.type).isSome|_=>true)=some true:=by kernel_rfl) (h8:Nat.beq i.zero.length i.size=true:=by kernel_rfl)
  (h9:(match i.ty with|some (.int .u8)=>Nat.beq t mM|_=>true)=true:=by kernel_rfl) (h10:(!i.bld||Nat.beq t QM)=true:=by kernel_rfl)
  (h11:(match i.k with|.int _=>(P.info? t).map (fun j:TypeInfo=>j.zero)|_=>none)=(match i.k with|.int k=>some (some (Value.int k 0))|_=>none):=by kernel_rfl):asf P T t i:=fun _=>by
 refine⟨h1,h2, ?_,fun y hy=> ?_, ?_,fun he=> ?_,h7,aj h8,fun hu=> ?_,fun hb=> ?_,fun k hk j hj=> ?_⟩
 ·cases hi:i.ty with
  |none=>exact .inl rfl
  |some y=>rw[hi]at h3;exact .inr h3
 ·rw[hy]at h4;exact aj h4
 ·rw[Bool.or_eq_true]at h5;exact h5.imp id aj
 ·rw[he]at h6;simp only[ax,Bool.false_or,af,Bool.not_eq_true']at h6;refine⟨h6.1,h6.2.1, ?_⟩;have h:=h6.2.2;generalize (P.underlying t).map _=o at h ⊢;cases o with
  |none=>cases h
  |some b=>exact congrArg some h
 ·rw[hu]at h9;exact aj h9
 ·rw[hb]at h10;exact aj h10
 ·rw[hk]at h11;exact aq1 h11 hj
theorem tok:TOk prog tt:=TOk.of_all (by repeat' first|exact trivial|refine⟨tkN, ?_, ?_⟩)
def au4 (P:Program):Bool:=P.funcs.toList.all fun fn=>fn.body.isNone|| !(fn.name== "runtime.NumGoroutine")
theorem alN {P:Program} (h:au4 P=true):Fb P:=fun f fn c hf hb=>by
 have h1:=List.all_eq_true.1 h fn (by have:=Array.mem_of_getElem? hf;simpa using this);simpa [hb] using h1
theorem J9:Fb prog:=alN (by kernel_rfl)
theorem mixed:prog.follows .mixedOrders=true:=by kernel_rfl
noncomputable def sg0 (g:FuncId):Option Sum:=bif Nat.beq g 220 then some aeT else none
theorem amz: ∀g s,sg0 g=some s->dN prog g s:=fun g s h=>by
 unfold sg0 at h;rw[cond_eq_ite]at h;split at h
 ·rename_i hg
  obtain rfl:g=220:=aj hg;cases h;exact(ZQ func220 (by kernel_rfl) (by kernel_rfl) (by kernel_rfl) (by kernel_rfl))
 cases h
def ai8:Go.Shelf.Ren:=⟨fun|240=>55|276=>84|n=>n,fun|0=>0|4=>4|9=>9|20=>20|37=>67|70=>66|72=>69|164=>127|n=>n,fun n=>n⟩
theorem acr:Go.Proofs.Lays.n240 prog ai8:={
 mixed:=mixed,
 f240:=(func55).trans (by kernel_rfl),
 f276:=(func84).trans (by kernel_rfl),
 t0:=underlying0,a0:=isAgg0,z0:=sizeOf0,v0:=zeroValue0,
 t4:=underlying4,a4:=isAgg4,z4:=sizeOf4,v4:=zeroValue4,
 t9:=underlying9,a9:=isAgg9,z9:=sizeOf9,v9:=zeroValue9,
 t20:=underlying20,a20:=isAgg20,z20:=sizeOf20,v20:=zeroValue20,
 t70:=underlying66,a70:=isAgg66,z70:=sizeOf66,v70:=zeroValue66,
 t72:=underlying69,a72:=isAgg69,z72:=sizeOf69,v72:=zeroValue69,
 t164:=underlying127,a164:=isAgg127,z164:=sizeOf127,v164:=zeroValue127}
theorem awh:Go.Proofs.Builder.X72 prog ai8:={sizeBuilder:=by kernel_rfl,liesBuilder:=by kernel_rfl}
theorem Nl (g:FuncId) (h:F8 g=true):yB prog g:=by
 simp only[F8,af]at h;obtain rfl:g=55:=aj h.1;exact fun w b hs hf=>⟨rO J9 func55 (show f55.body=some ((f55.body).getD .skip) by kernel_rfl) _ _,fun h0=>Any.Builder_copyCheck_used acr awh b w h0,fun h0=>Any.Builder_copyCheck_fresh acr awh b w h0 hs hf⟩
noncomputable def ajj:Env:={P:=prog,T:=tt,cl:=true,kp:=fun _ _=>none,sg:=sg0,lp:=fun _ _=>none,bf:=F8}
theorem Zt: ∀E,qf prog E->aae E:=fun E h f k iW bd hr=>aqL h f k iW bd hr
theorem acx:dm ajj:=⟨tok,mixed,J9,amz,fun f fn c _ _=>jf (fun _=>rfl) (fun _=>rfl) c,Zt _ fun f fn c _ _=>jf (fun _=>rfl) (fun _=>rfl) c,Nl,fun _ _ h=>by cases h⟩
abbrev uJ:Ty:=(.pair .str (.pair .bool .unit))
def sW (l:List uJ.den):Option (List uJ.den):=bif dY l 24 then some l else none
theorem TF (xs:List uJ.den):jU ajj 1000000 (.call 137 [.lst uJ xs false]) ⟨[],[],[],0⟩ (fun v st=>iU true [(.list uJ,true)] (KT 1 v) st.hp)=(bif dY xs 24 then some (xs,())else none):=by kernel_rfl
theorem TJ:jU ajj 1000000 (.call 137 [.lst uJ [] true]) ⟨[],[],[],0⟩ (fun v st=>match v,st.hp with|.nils,[]=>some ()|_,_=>none)=some ():=by kernel_rfl
def pz (l:List uJ.den):Option (List uJ.den×Unit):=match sW l with|some y=>some (y,())|none=>none
def vZ:Sum:=⟨[.list uJ],[(.list uJ,true)],fun x=>pz x.1⟩
theorem uB:dN prog 137 vZ:=by
 have base:=zM acx (e:=uJ) (e2:=uJ) (g:=137) (f:=sW) (show 0<uJ.size by decide) (show 0<uJ.size by decide) (fun xs y h=>by
  unfold sW at h;rw[TF];cases hf:dY xs 24 with
  |true=>rw[hf]at h;cases h;rfl
  |false=>rw[hf]at h;cases h) fun y h=>by
  have e:sW []=some []:=rfl;rw[e]at h;cases h;exact⟨rfl,TJ⟩
 intro w bar args' x y hp hb hd hy;refine base w bar args' x y hp hb hd ?_;have hy:pz x.1=some y:=hy;unfold pz at hy;cases hc:sW x.1 with
 |none=>rw[hc]at hy;cases hy
 |some z=>rw[hc]at hy;simp only[hc];exact hy
abbrev uK:Ty:=(.pair (.int .i64) (.pair (.int .i64) .unit))
def pq (l:List uK.den):Option (List uK.den):=bif dY l 16 then some l else none
theorem TG (xs:List uK.den):jU ajj 1000000 (.call 240 [.lst uK xs false]) ⟨[],[],[],0⟩ (fun v st=>iU true [(.list uK,true)] (KT 1 v) st.hp)=(bif dY xs 16 then some (xs,())else none):=by kernel_rfl
theorem TL:jU ajj 1000000 (.call 240 [.lst uK [] true]) ⟨[],[],[],0⟩ (fun v st=>match v,st.hp with|.nils,[]=>some ()|_,_=>none)=some ():=by kernel_rfl
def lS (l:List uK.den):Option (List uK.den×Unit):=match pq l with|some y=>some (y,())|none=>none
def wo:Sum:=⟨[.list uK],[(.list uK,true)],fun x=>lS x.1⟩
theorem uC:dN prog 240 wo:=by
 have base:=zM acx (e:=uK) (e2:=uK) (g:=240) (f:=pq) (show 0<uK.size by decide) (show 0<uK.size by decide) (fun xs y h=>by
  unfold pq at h;rw[TG];cases hf:dY xs 16 with
  |true=>rw[hf]at h;cases h;rfl
  |false=>rw[hf]at h;cases h) fun y h=>by
  have e:pq []=some []:=rfl;rw[e]at h;cases h;exact⟨rfl,TL⟩
 intro w bar args' x y hp hb hd hy;refine base w bar args' x y hp hb hd ?_;have hy:lS x.1=some y:=hy;unfold lS at hy;cases hc:pq x.1 with
 |none=>rw[hc]at hy;cases hy
 |some z=>rw[hc]at hy;simp only[hc];exact hy
noncomputable def sg1 (g:FuncId):Option Sum:=bif Nat.beq g 137 then some vZ else bif Nat.beq g 240 then some wo else sg0 g
theorem amA: ∀g s,sg1 g=some s->dN prog g s:=fun g s h=>by
 unfold sg1 at h;rw[cond_eq_ite]at h;split at h
 ·rename_i hg
  obtain rfl:g=137:=aj hg;cases h;exact uB
 rw[cond_eq_ite]at h;split at h
 ·rename_i hg
  obtain rfl:g=240:=aj hg;cases h;exact uC
 exact amz g s h
noncomputable def ayk:Env:={P:=prog,T:=tt,cl:=true,kp:=fun _ _=>none,sg:=sg1,lp:=fun _ _=>none,bf:=F8}
theorem ax1:dm ayk:=⟨tok,mixed,J9,amA,fun f fn c _ _=>jf (fun _=>rfl) (fun _=>rfl) c,Zt _ fun f fn c _ _=>jf (fun _=>rfl) (fun _=>rfl) c,Nl,fun _ _ h=>by cases h⟩
end
section
open Go.ChangeShapes Go.WideShapes Go.RowKit
end
section
open Tryz
open Go.RowKit
theorem lpS {E:Env} {f:FuncId} {c:Code} {k:dE} {l la lb:SP} {ex exb:Ex} {D:Nat} {lp:Nat->l.den->Option (la.den⊕lb.den)}
  (st:{γ:Type}->(l.den->Option γ)->(la.den->Option γ)->(lb.den->Option γ)->l.den->Option γ)
  (hk:E.kp f (bP c)=some k:=by kernel_rfl) (h0: ∀v,lp 0 v=none:=by intro _;rfl) (hs: ∀n v,lp (n+1) v=st (lp n) (fun e=>some (.inl e)) (fun r=>some (.inr r)) v:=by intro _ _;rfl)
  (h1: ∀{R:Type} (d n:Nat) (K:Ex->St->Option R) (v:l.den),iter (some k) (zt E (d+D) f c) (n+1) (jg l v) K=st (fun v=>iter (some k) (zt E (d+D) f c) n (jg l v) K) (fun e=>K ex (jg la e)) (fun r=>K exb (jg lb r)) v:=by intro _ d n K v;kernel_rfl)
  (h2: ∀{γ δ:Type} (x:l.den->Option γ) (y:la.den->Option γ) (z:lb.den->Option γ) (v:l.den) (K:γ->Option δ),aZ (st x y z v) K=st (fun v=>aZ (x v) K) (fun e=>aZ (y e) K) (fun r=>aZ (z r) K) v):
  dV E f c (iO k l la lb ex (fun v=>lp bC v) D exb):=by
 refine ahh hk fun R d K v o h=>⟨bC, ?_⟩;have it: ∀(n:Nat) (v:l.den),iter (some k) (zt E (d+D) f c) n (jg l v) K=aZ (lp n v) fun o=>dA o (fun a=>K ex (jg la a)) fun b=>K exb (jg lb b):=by
  intro n
  induction n with
  |zero=>intro v;rw[h0];rfl
  |succ n ih=>intro v;rw[h1,hs,h2,funext ih];rfl
 exact(it bC v).trans (congrArg (fun o=>aZ o _) h)
theorem lW {E:Env} {f:FuncId} {c:Code} {k:dE} {l la lb:SQ} {ex exb:Ex} {D:Nat} {lp:Nat->l.den->Option (la.den⊕lb.den)}
  (st:{γ:Type}->(l.den->Option γ)->(la.den->Option γ)->(lb.den->Option γ)->l.den->Option γ)
  (hk:E.kp f (bP c)=some k:=by kernel_rfl) (h0: ∀v,lp 0 v=none:=by intro _;rfl) (hs: ∀n v,lp (n+1) v=st (lp n) (fun e=>some (.inl e)) (fun r=>some (.inr r)) v:=by intro _ _;rfl)
  (h1: ∀{R:Type} (d n:Nat) (K:Ex->St->Option R) (v:l.den),iter (some k) (zt E (d+D) f c) (n+1) (uq l v) K=st (fun v=>iter (some k) (zt E (d+D) f c) n (uq l v) K) (fun e=>K ex (uq la e)) (fun r=>K exb (uq lb r)) v:=by intro _ d n K v;kernel_rfl)
  (h2: ∀{γ δ:Type} (x:l.den->Option γ) (y:la.den->Option γ) (z:lb.den->Option γ) (v:l.den) (K:γ->Option δ),aZ (st x y z v) K=st (fun v=>aZ (x v) K) (fun e=>aZ (y e) K) (fun r=>aZ (z r) K) v):
  dV E f c (fE k l la lb ex (fun v=>lp bC v) D exb):=by
 refine abo hk fun R d K v o h=>⟨bC, ?_⟩;have it: ∀(n:Nat) (v:l.den),iter (some k) (zt E (d+D) f c) n (uq l v) K=aZ (lp n v) fun o=>dA o (fun a=>K ex (uq la a)) fun b=>K exb (uq lb b):=by
  intro n
  induction n with
  |zero=>intro v;rw[h0];rfl
  |succ n ih=>intro v;rw[h1,hs,h2,funext ih];rfl
 exact(it bC v).trans (congrArg (fun o=>aZ o _) h)
theorem ayv {E:Env} (hE:dm E) {g:FuncId} {s:Sum} (hn:news s.rs<=1) (h: ∀x,Wl E g s.ps s.rs x=s.f x):dN E.P g s:=
 PO hE hn fun x y hy=>(h x).trans hy
theorem fL {E:Env} {f:FuncId} {c:Code} {L:dw} (h1:E.lp f (bP c)=some L) (h2:dV E f c L): ∀L',E.lp f (bP c)=some L'->dV E f c L':=fun L' h=>by
 simp_all
theorem fC {E:Env} {f:FuncId} {c:Code} {L:dw} (h1:E.lp f (800000+bP c)=some L) (h2:zI E f c L): ∀L',E.lp f (800000+bP c)=some L'->zI E f c L':=fun L' h=>by
 simp_all
theorem aC {α:Type} {p:α->Prop} {a:α} {l:List α} (h:p a/\ ∀x∈l,p x): ∀x∈a::l,p x:=List.forall_mem_cons.2 h
theorem aN {α:Type} {p:α->Prop}: ∀x∈([]:List α),p x:=fun _ h=>absurd h List.not_mem_nil
theorem axw {E:Env} (hE:dm E) {g:FuncId} {s:fV} (h: ∀x y,aqN E g s.bt s.cs s.ps s.rs x y=s.f x y):dO E.P g s:=ZP hE fun x y _ hy=>(h x y).trans hy
theorem uA {P:Program} {g:FuncId} {s:fV} (h: ∀x y,s.f x y=none):dO P g s:=fun W0 c x y z _ _ _ _ args' _ hz=>nomatch (show(none:Option _)=some z from(h x y).symm.trans hz)
theorem aD {α:Type} {p:α->Prop} {a:α} {l:List α} (h:p a) (h2: ∀x∈l,p x): ∀x∈a::l,p x:=aC ⟨h,h2⟩
theorem fM {E:Env} {f:FuncId} {c:Code} {L:dw} (h2:dV E f c L) (h1:E.lp f (bP c)=some L:=by kernel_rfl): ∀L',E.lp f (bP c)=some L'->dV E f c L':=fL h1 h2
theorem sA {E:Env} (hE:dm E) {g:FuncId} {s:Sum} (hn:news s.rs<=1:=by decide) (h: ∀x,Wl E g s.ps s.rs x=s.f x:=by intro x;kernel_rfl):dN E.P g s:=ayv hE hn h
theorem sB {E:Env} (hE:dm E) {g:FuncId} {s:fV} (h: ∀x y,aqN E g s.bt s.cs s.ps s.rs x y=s.f x y:=by intro x y;kernel_rfl):dO E.P g s:=axw hE h
theorem zK {E:Env} {f:FuncId} {c:Code} (l:List Code) (h: ∀d∈l,∀L,E.lp f (bP d)=some L->dV E f d L) (hl:iG c=l:=by kernel_rfl) (k:UW E f c=true:=by kernel_rfl) (hrf: ∀id,E.rf f id=false:=by intro _;rfl):dJ E f c:=abp c hrf (by rw[hl];exact h) k
theorem eA {f:FuncId} {sg:List (FuncId×Sum)} {kp:List (Nat×dE)} {lp:List (Nat×dw)} {sb:List (FuncId×fV)} (fn:Func) (hs: ∀e∈sg,dN prog e.1 e.2) (hl:dJ (gz prog tt f sg kp lp sb) f (fn.body.getD .skip):=by exact jf (fun _=>rfl) (fun _=>rfl) _) (hf:prog.funcs[f]? =some fn:=by kernel_rfl) (hb:fn.body=some (fn.body.getD .skip):=by kernel_rfl) (hx: ∀e∈sb,dO prog e.1 e.2:=by simp):dm (gz prog tt f sg kp lp sb):=ajS tok mixed J9 hs hf hb hl Zt Nl hx
theorem eB {sg:List (FuncId×Sum)} {kp:List (FuncId×Nat×dE)} {lp:List (FuncId×Nat×dw)} {rf:List FuncId} {sb:List (FuncId×fV)} (hs: ∀e∈sg,dN prog e.1 e.2) (fs:List FuncId) (hl: ∀g∈fs,∃fn c,prog.funcs[g]? =some fn/\fn.body=some c/\dJ (dK prog tt sg kp lp rf sb) g c) (hx: ∀e∈sb,dO prog e.1 e.2:=by simp) (hall:(lp.all fun e=>fs.any fun g=>Nat.beq e.1 g)=true:=by kernel_rfl) (hall2:(rf.all fun e=>fs.any fun g=>Nat.beq e g)=true:=by kernel_rfl):dm (dK prog tt sg kp lp rf sb):=agD tok mixed J9 hs fs hall hall2 hl Zt Nl hx
end
section
open Tryz
open Go.RowKit
def rF (x0:List mg) (x1:Bool) (x2 x3:Int):Option (W9×(Unit)):=bif(fU x0 (eY .i64 (bi x0) 1))then bif(nH (bU (eY .i64 (bi x0) 1)) x0)then some (((gp x0 (bU (eY .i64 (bi x0) 1)) (x3,((bY x0 (0,(0,())) (bU (eY .i64 (bi x0) 1))).2.1,()))),(x1,(x2,()))),())else none else none
def WT:fV:=⟨213,tzB,[bV],[],fun x y=>rF x.1 x.2.1 x.2.2.1 y.1⟩
noncomputable def atd:Env:=dK prog tt [] [] [] []
theorem afW:dm atd:=eB aN [] aN
theorem Ju:dO prog 206 WT:=sB afW
def ui (x0:List mg) (x1:Bool) (x2:Int):Option (W9×(Unit)):=bif(iq 1 (bi x0))then bif(gW (bi x0) 0 (eY .i64 (bi x0) 1))then some (((takeN x0 (bU (eY .i64 (bi x0) 1))),(x1,(x2,()))),())else none else some ((x0,(x1,(x2,()))),())
def ET:fV:=⟨213,tzB,[],[],fun x y=>ui x.1 x.2.1 x.2.2.1⟩
noncomputable def ate:Env:=dK prog tt [] [] [] []
theorem afX:dm ate:=eB aN [] aN
theorem tV:dO prog 207 ET:=sB afX
def ac4 (x0:List mg) (x1:Bool) (x2:Int):Option (W9×EU):=bif(fU x0 (yY (eY .i64 (bi x0) 2) 0))then bif(nH (bU (yY (eY .i64 (bi x0) 2) 0)) x0)then some ((x0,(x1,(x2,()))),((bY x0 (0,(0,())) (bU (yY (eY .i64 (bi x0) 2) 0))).1,()))else none else none
def anw:fV:=⟨213,tzB,[],[bV],fun x y=>ac4 x.1 x.2.1 x.2.2.1⟩
noncomputable def atn:Env:=dK prog tt [] [] [] []
theorem af9:dm atn:=eB aN [] aN
theorem aij:dO prog 235 anw:=sB af9
def JL (x0:List mg) (x1:Bool) (x2 x3:Int):Option (W9×ou):=bif(bD x3 40)then aZ (rF x0 x1 x2 3) fun y0=>some ((y0.1.1,(true,(y0.1.2.2.1,()))),(true,()))else bif(bD x3 123)then aZ (ac4 x0 x1 x2) fun y0=>bif(bD y0.2.1 5)then bif(bD y0.2.1 5)then aZ (rF y0.1.1 y0.1.2.1 y0.1.2.2.1 8) fun y1=>some ((y1.1.1,(y1.1.2.1,(y1.1.2.2.1,()))),(true,()))else aZ (rF y0.1.1 y0.1.2.1 y0.1.2.2.1 7) fun y1=>some ((y1.1.1,(y1.1.2.1,(y1.1.2.2.1,()))),(true,()))else bif(bD y0.2.1 8)then aZ (rF y0.1.1 y0.1.2.1 y0.1.2.2.1 8) fun y1=>some ((y1.1.1,(y1.1.2.1,(y1.1.2.2.1,()))),(true,()))else aZ (rF y0.1.1 y0.1.2.1 y0.1.2.2.1 7) fun y1=>some ((y1.1.1,(y1.1.2.1,(y1.1.2.2.1,()))),(true,()))else bif(bD x3 36)then aZ (ui x0 x1 x2) fun y0=>some ((y0.1.1,(y0.1.2.1,(y0.1.2.2.1,()))),(true,()))else aZ (ui x0 x1 x2) fun y0=>some ((y0.1.1,(y0.1.2.1,(y0.1.2.2.1,()))),(false,()))
def anm:fV:=⟨213,tzB,[.int .u8],[.bool],fun x y=>JL x.1 x.2.1 x.2.2.1 y.1⟩
noncomputable def atc:Env:=dK prog tt [] [] [] [] [(206,WT),(207,ET),(235,anw)]
theorem afV:dm atc:=eB aN [] aN (hx:=(aD Ju (aD tV (aD aij aN))))
theorem aia:dO prog 205 anm:=sB afV
noncomputable def Xl:Code:=(f139.body).getD .skip
noncomputable def uN:Code:=cB (cB (cB (cB (cB (cB (cB (cA (cA (cB (Xl))))))))))
noncomputable def uO:Code:=cB (cB (Xl))
noncomputable def uP:Code:=cB (cA (cB (cA (cB (cB (Xl))))))
noncomputable def uQ:Code:=cB (cB (cB (cA (cB (cA (cB (cB (Xl))))))))
def uZ:dE:=⟨[0,18,900011],[],[0],[],[2],[]⟩
def ve:dE:=⟨[0,900012],[],[2],[],[2],[]⟩
def vg:dE:=⟨[33,34,900020],[],[],[],[2],[]⟩
def vz:dE:=⟨[42,900026],[],[],[],[2],[]⟩
def Be:SP:=⟨us [.v (.int .u8),.u,.u,.u,.u,.u,.u,.u,.u,.u,.u,.u,.u,.u,.u,.u,.u,.u,.v .bool] 29,[]⟩
def oP:SP:=⟨us [.v (.int .u8)] 47,[]⟩
def oU:SP:=⟨us [.u,.u,.v bV] 45,[]⟩
def zy {γ:Type} (kE kR:Int->Option γ) (v0:Int) (v1:Bool):Option γ:=bif v1 then kR 5 else kE v0
def jI (v0:Int) (v1:Bool):Option (oP.den⊕oU.den):=zy (fun e0=>some (.inl ((e0,()),()))) (fun r0=>some (.inr ((r0,()),()))) v0 v1
noncomputable def GL:dw:=iO uZ Be oP oU (.exit 999999) (fun v=>jI v.1.1 v.1.2.1) 6
def Bh:SP:=⟨[.u,.u,.u,.u,.u,.u,.u,.u,.u,.u,.u,.u,.u,.u,.u,.u,.u,.u,.u,.u,.u,.u,.u,.u,.u,.u,.u,.u,.u,.u,.u,.u,.u,.u,.u,.u,.u,.u,.u,.u,.u,.u,.v .bool,.u,.u,.u,.u,.u],[]⟩
def sJ:SP:=⟨us [] 48,[]⟩
def sO:SP:=⟨us [.u,.u,.v bV] 45,[]⟩
def zC {γ:Type} (kE:Option γ) (kR:Int->Option γ) (v0:Bool):Option γ:=bif v0 then kR 4 else kE
def jJ (v0:Bool):Option (sJ.den⊕sO.den):=zC (some (.inl ((),()))) (fun r0=>some (.inr ((r0,()),()))) v0
noncomputable def GR:dw:=iO vz Bh sJ sO (.exit 999999) (fun v=>jJ v.1.1) 12
def Bg:SP:=⟨us [.u,.u,.u,.u,.u,.u,.u,.u,.u,.u,.u,.u,.u,.u,.u,.u,.u,.u,.u,.u,.u,.u,.u,.u,.u,.u,.u,.u,.u,.u,.u,.u,.u,.v (.int .u8),.v .bool] 13,[]⟩
def sH:SP:=⟨us [] 48,[]⟩
def sN:SP:=⟨us [.u,.u,.v bV] 45,[]⟩
def zB {γ:Type} (kE:Option γ) (kR:Int->Option γ) (v0:Int) (v1:Bool):Option γ:=bif v1 then kR 3 else bif(bD v0 92)then aZ (jJ (bD v0 92)) fun y0=>dA y0 (fun a1=>kE) (fun b1=>kR b1.1.1)else bif(bD v0 39)then aZ (jJ (bD v0 39)) fun y0=>dA y0 (fun a1=>kE) (fun b1=>kR b1.1.1)else bif(bD v0 34)then aZ (jJ (bD v0 34)) fun y0=>dA y0 (fun a1=>kE) (fun b1=>kR b1.1.1)else bif(bD v0 96)then aZ (jJ (bD v0 96)) fun y0=>dA y0 (fun a1=>kE) (fun b1=>kR b1.1.1)else aZ (jJ (bD v0 36)) fun y0=>dA y0 (fun a1=>kE) (fun b1=>kR b1.1.1)
def iZ (v0:Int) (v1:Bool):Option (sH.den⊕sN.den):=zB (some (.inl ((),()))) (fun r0=>some (.inr ((r0,()),()))) v0 v1
noncomputable def GN:dw:=iO vg Bg sH sN (.exit 999999) (fun v=>iZ v.1.1 v.1.2.1) 18
def Bf:SP:=⟨us [.v (.int .u8)] 47,[]⟩
def sG:SP:=⟨[],[]⟩
def sK:SP:=⟨us [.u,.u,.v bV] 45,[]⟩
def zA {γ:Type} (kE:Option γ) (kR:Int->Option γ) (v0:Int):Option γ:=bif(bD v0 124)then aZ (iZ v0 (bD v0 124)) fun y0=>dA y0 (fun a1=>kR 0) (fun b1=>kR b1.1.1)else bif(bD v0 38)then aZ (iZ v0 (bD v0 38)) fun y0=>dA y0 (fun a1=>kR 0) (fun b1=>kR b1.1.1)else bif(bD v0 59)then aZ (iZ v0 (bD v0 59)) fun y0=>dA y0 (fun a1=>kR 0) (fun b1=>kR b1.1.1)else bif(bD v0 60)then aZ (iZ v0 (bD v0 60)) fun y0=>dA y0 (fun a1=>kR 0) (fun b1=>kR b1.1.1)else bif(bD v0 62)then aZ (iZ v0 (bD v0 62)) fun y0=>dA y0 (fun a1=>kR 0) (fun b1=>kR b1.1.1)else bif(bD v0 40)then aZ (iZ v0 (bD v0 40)) fun y0=>dA y0 (fun a1=>kR 0) (fun b1=>kR b1.1.1)else aZ (iZ v0 (bD v0 41)) fun y0=>dA y0 (fun a1=>kR 0) (fun b1=>kR b1.1.1)
def rV (v0:Int):Option (sG.den⊕sK.den):=zA (some (.inl ((),()))) (fun r0=>some (.inr ((r0,()),()))) v0
noncomputable def GM:dw:=iO ve Bf sG sK (.exit 0) (fun v=>rV v.1.1) 24
def FX (y0:oP.den⊕oU.den):Option EU:=dA y0 (fun a1=>aZ (rV a1.1.1) fun y2=>dA y2 (fun a3=>none) (fun b3=>some (b3.1.1,()))) (fun b1=>some (b1.1.1,()))
def KY (x0:Int):Option EU:=bif(leI 65 x0)then bif(leI x0 90)then aZ (jI x0 (leI x0 90)) fun y0=>FX y0 else aZ (jI x0 (bD x0 95)) fun y0=>FX y0 else aZ (jI x0 (bD x0 95)) fun y0=>FX y0
def acK (x0:Int):Option EU:=bif(bD x0 10)then some (2,())else bif(leI 48 x0)then bif(leI x0 57)then some (6,())else bif(leI 97 x0)then bif(leI x0 122)then aZ (jI x0 (leI x0 122)) fun y0=>FX y0 else KY x0 else KY x0 else bif(leI 97 x0)then bif(leI x0 122)then aZ (jI x0 (leI x0 122)) fun y0=>FX y0 else KY x0 else KY x0
def DL (x0:Int):Option EU:=bif(bD x0 32)then bif(bD x0 32)then some (1,())else acK x0 else bif(bD x0 9)then some (1,())else acK x0
def BP:Sum:=⟨[.int .u8],tzE,fun x=>DL x.1⟩
noncomputable def nM:Env:=gz prog tt 139 [] [(800011,uZ),(800012,ve),(800020,vg),(800026,vz)] [(800011,GL),(800026,GR),(800020,GN),(800012,GM)]
theorem Pv {R:Type} (d:Nat) (K:Ex->St->Option R) (v0:Int) (v1:Bool):
  iter (some uZ) (DF (zt nM (d+6) 139 uN)) 1 (jg Be ((v0,v1,()),())) K=
   zy (fun e0=>K (.exit 999999) (jg oP ((e0,()),()))) (fun r0=>K .ret (jg oU ((r0,()),()))) v0 v1:=by kernel_rfl
theorem Ux {R:Type} (d:Nat) (K:Ex->St->Option R) (v0:Int) (v1:Bool):
  iter (some uZ) (DF (zt nM (d+6) 139 uN)) 1 (jg Be ((v0,v1,()),())) K=aZ (jI v0 v1) fun o=>dA o (fun a=>K (.exit 999999) (jg oP a)) fun b=>K .ret (jg oU b):=by
  rw[Pv];simp only[jI,zy,cO,cZ,aY,bW,dh]
  try simp only[dA]
theorem UZ:zI nM 139 uN GL:=Ae (by kernel_rfl) fun R d K v o h=>⟨1,(Ux d K (v.1.1) (v.1.2.1)).trans (congrArg (fun o=>aZ o _) h)⟩
theorem Pz {R:Type} (d:Nat) (K:Ex->St->Option R) (v0:Bool):
  iter (some vz) (DF (zt nM (d+12) 139 uQ)) 1 (jg Bh ((v0,()),())) K=
   zC (K (.exit 999999) (jg sJ ((),()))) (fun r0=>K .ret (jg sO ((r0,()),()))) v0:=by kernel_rfl
theorem UA {R:Type} (d:Nat) (K:Ex->St->Option R) (v0:Bool):
  iter (some vz) (DF (zt nM (d+12) 139 uQ)) 1 (jg Bh ((v0,()),())) K=aZ (jJ v0) fun o=>dA o (fun a=>K (.exit 999999) (jg sJ a)) fun b=>K .ret (jg sO b):=by
  rw[Pz];simp only[jJ,zC,cO,cZ,aY,bW,dh]
  try simp only[dA]
theorem U2:zI nM 139 uQ GR:=Ae (by kernel_rfl) fun R d K v o h=>⟨1,(UA d K (v.1.1)).trans (congrArg (fun o=>aZ o _) h)⟩
theorem Py {R:Type} (d:Nat) (K:Ex->St->Option R) (v0:Int) (v1:Bool):
  iter (some vg) (DF (zt nM (d+18) 139 uP)) 1 (jg Bg ((v0,v1,()),())) K=
   zB (K (.exit 999999) (jg sH ((),()))) (fun r0=>K .ret (jg sN ((r0,()),()))) v0 v1:=by kernel_rfl
theorem Uz {R:Type} (d:Nat) (K:Ex->St->Option R) (v0:Int) (v1:Bool):
  iter (some vg) (DF (zt nM (d+18) 139 uP)) 1 (jg Bg ((v0,v1,()),())) K=aZ (iZ v0 v1) fun o=>dA o (fun a=>K (.exit 999999) (jg sH a)) fun b=>K .ret (jg sN b):=by
  rw[Py];simp only[iZ,zB,cO,cZ,aY,bW,dh]
  try simp only[dA]
theorem U1:zI nM 139 uP GN:=Ae (by kernel_rfl) fun R d K v o h=>⟨1,(Uz d K (v.1.1) (v.1.2.1)).trans (congrArg (fun o=>aZ o _) h)⟩
theorem Px {R:Type} (d:Nat) (K:Ex->St->Option R) (v0:Int):
  iter (some ve) (DF (zt nM (d+24) 139 uO)) 1 (jg Bf ((v0,()),())) K=
   zA (K (.exit 0) (jg sG ((),()))) (fun r0=>K .ret (jg sK ((r0,()),()))) v0:=by kernel_rfl
theorem Uy {R:Type} (d:Nat) (K:Ex->St->Option R) (v0:Int):
  iter (some ve) (DF (zt nM (d+24) 139 uO)) 1 (jg Bf ((v0,()),())) K=aZ (rV v0) fun o=>dA o (fun a=>K (.exit 0) (jg sG a)) fun b=>K .ret (jg sK b):=by
  rw[Px];simp only[rV,zA,cO,cZ,aY,bW,dh]
  try simp only[dA]
theorem U0:zI nM 139 uO GM:=Ae (by kernel_rfl) fun R d K v o h=>⟨1,(Uy d K (v.1.1)).trans (congrArg (fun o=>aZ o _) h)⟩
theorem auo:iG Xl=[]:=by kernel_rfl
theorem asx:IC nM 139 Xl=[uN,uO,uP,uQ]:=by kernel_rfl
theorem auz:dJ nM 139 Xl:=AO Xl (fun x _ hx=>absurd (show false=true from hx) (by decide)) (by rw[auo];exact aN) (Gf (by rw[asx];exact(aD (fC (by kernel_rfl) (UZ)) (aD (fC (by kernel_rfl) (U0)) (aD (fC (by kernel_rfl) (U1)) (aD (fC (by kernel_rfl) (U2)) aN))))))
theorem afp:dm nM:=eA f139 aN (auz)
theorem pX:dN prog 139 BP:=sA afp
def DN (x0:Int):Option ou:=aZ (DL x0) fun y0=>bif(bD y0.1 1)then bif(bD y0.1 1)then some (true,())else some (false,())else bif(bD y0.1 2)then bif(bD y0.1 2)then some (true,())else some (false,())else bif(bD y0.1 3)then some (true,())else some (false,())
def ab6:Sum:=⟨[.int .u8],Tc,fun x=>DN x.1⟩
noncomputable def atb:Env:=gz prog tt 204 [(139,BP)] [] []
theorem afU:dm atb:=eA f204 (aD pX aN)
theorem SN:dN prog 204 ab6:=sA afU
def uj (x0:List mg) (x1:Bool) (x2 x3:Int):Option (W9×(Unit)):=bif(bD x3 x3)then bif(bD x2 x2)then bif(dY (bF x0 [(x3,(x2,()))]) 16)then bif(bD x3 x3)then bif(bD x2 x2)then bif((bD x3 x3)&&((bD x2 x2)&&true))then some (((bF x0 [(x3,(x2,()))]),(x1,(x2,()))),())else none else none else none else none else none else none
def Jv:fV:=⟨213,tzB,[bV],[],fun x y=>uj x.1 x.2.1 x.2.2.1 y.1⟩
noncomputable def atp:Env:=dK prog tt [] [] [] []
theorem agb:dm atp:=eB aN [] aN
theorem yw:dO prog 237 Jv:=sB agb
def NQ (x0:List mg) (x1:Bool) (x2 x3:Int):Option (W9×ou):=bif(bD x3 92)then aZ (uj x0 x1 x2 13) fun y0=>some ((y0.1.1,(y0.1.2.1,(y0.1.2.2.1,()))),(true,()))else bif(bD x3 36)then aZ (uj x0 x1 x2 12) fun y0=>some ((y0.1.1,(y0.1.2.1,(y0.1.2.2.1,()))),(true,()))else bif(bD x3 96)then aZ (uj x0 x1 x2 6) fun y0=>some ((y0.1.1,(y0.1.2.1,(y0.1.2.2.1,()))),(true,()))else some ((x0,(x1,(x2,()))),(false,()))
def WV:fV:=⟨213,tzB,[.int .u8],[.bool],fun x y=>NQ x.1 x.2.1 x.2.2.1 y.1⟩
noncomputable def atE:Env:=dK prog tt [] [] [] [] [(237,Jv)]
theorem agv:dm atE:=eB aN [] aN (hx:=(aD yw aN))
theorem Jw:dO prog 263 WV:=sB agv
def FZ (x4:Int) (x0:List mg) (x2:Int):Option (W9×(Unit)):=aZ (DN x4) fun y0=>some ((x0,(y0.1,(x2,()))),())
def Q3 (x0:List mg) (x1:Bool) (x2 x3 x4:Int):Option (W9×(Unit)):=bif(bD x4 92)then aZ (uj x0 x1 x2 13) fun y0=>some ((y0.1.1,(y0.1.2.1,(y0.1.2.2.1,()))),())else bif(bD x4 35)then bif x1 then aZ (uj x0 x1 x2 14) fun y0=>some ((y0.1.1,(y0.1.2.1,(y0.1.2.2.1,()))),())else FZ x4 x0 x2 else bif(bD x4 40)then bif(!(bD x3 0))then aZ (uj x0 x1 x2 2) fun y0=>aZ (DN x4) fun y1=>some ((y0.1.1,(y1.1,(y0.1.2.2.1,()))),())else FZ x4 x0 x2 else bif(bD x4 41)then bif(!(bD x3 0))then aZ (ui x0 x1 x2) fun y0=>some ((y0.1.1,((!(bD x3 1)),(y0.1.2.2.1,()))),())else some ((x0,((!(bD x3 1)),(x2,()))),())else bif(bD x4 39)then aZ (uj x0 x1 x2 4) fun y0=>aZ (DN x4) fun y1=>some ((y0.1.1,(y1.1,(y0.1.2.2.1,()))),())else bif(bD x4 34)then aZ (uj x0 x1 x2 5) fun y0=>aZ (DN x4) fun y1=>some ((y0.1.1,(y1.1,(y0.1.2.2.1,()))),())else bif(bD x4 36)then bif(bD x4 36)then aZ (NQ x0 x1 x2 x4) fun y0=>aZ (DN x4) fun y1=>some ((y0.1.1,(y1.1,(y0.1.2.2.1,()))),())else FZ x4 x0 x2 else bif(bD x4 96)then aZ (NQ x0 x1 x2 x4) fun y0=>aZ (DN x4) fun y1=>some ((y0.1.1,(y1.1,(y0.1.2.2.1,()))),())else FZ x4 x0 x2
def anx:fV:=⟨213,tzB,[bV,.int .u8],[],fun x y=>Q3 x.1 x.2.1 x.2.2.1 y.1 y.2.1⟩
noncomputable def ato:Env:=dK prog tt [(204,ab6)] [] [] [] [(207,ET),(237,Jv),(263,WV)]
theorem aga:dm ato:=eB (aD SN aN) [] aN (hx:=(aD tV (aD yw (aD Jw aN))))
theorem aik:dO prog 236 anx:=sB aga
def ac5 (x0:List mg) (x1:Bool) (x2 x3 x4:Int):Option (W9×(Unit)):=aZ (NQ x0 x1 x2 x4) fun y0=>bif y0.2.1 then some ((y0.1.1,(y0.1.2.1,(y0.1.2.2.1,()))),())else bif(bD x4 40)then aZ (uj y0.1.1 y0.1.2.1 y0.1.2.2.1 10) fun y1=>some ((y1.1.1,(y1.1.2.1,(y1.1.2.2.1,()))),())else bif(bD x4 41)then bif(bD x3 10)then aZ (ui y0.1.1 y0.1.2.1 y0.1.2.2.1) fun y1=>some ((y1.1.1,(y1.1.2.1,(y1.1.2.2.1,()))),())else bif(bD x4 41)then aZ (rF y0.1.1 y0.1.2.1 y0.1.2.2.1 11) fun y1=>some ((y1.1.1,(y1.1.2.1,(y1.1.2.2.1,()))),())else some ((y0.1.1,(y0.1.2.1,(y0.1.2.2.1,()))),())else bif(bD x4 41)then aZ (rF y0.1.1 y0.1.2.1 y0.1.2.2.1 11) fun y1=>some ((y1.1.1,(y1.1.2.1,(y1.1.2.2.1,()))),())else some ((y0.1.1,(y0.1.2.1,(y0.1.2.2.1,()))),())
def anz:fV:=⟨213,tzB,[bV,.int .u8],[],fun x y=>ac5 x.1 x.2.1 x.2.2.1 y.1 y.2.1⟩
noncomputable def atq:Env:=dK prog tt [] [] [] [] [(206,WT),(207,ET),(237,Jv),(263,WV)]
theorem agc:dm atq:=eB aN [] aN (hx:=(aD Ju (aD tV (aD yw (aD Jw aN)))))
theorem ail:dO prog 238 anz:=sB agc
def Ug (x4 x3:Int) (y0:(W9×ou)):Option (W9×(Unit)):=bif(bD x4 39)then bif(bD x3 7)then aZ (uj y0.1.1 y0.1.2.1 y0.1.2.2.1 4) fun y1=>some ((y1.1.1,(y1.1.2.1,(y1.1.2.2.1,()))),())else some ((y0.1.1,(y0.1.2.1,(y0.1.2.2.1,()))),())else some ((y0.1.1,(y0.1.2.1,(y0.1.2.2.1,()))),())
def Uh (x4:Int) (y0:(W9×ou)) (x3:Int):Option (W9×(Unit)):=bif(bD x4 34)then aZ (uj y0.1.1 y0.1.2.1 y0.1.2.2.1 5) fun y1=>some ((y1.1.1,(y1.1.2.1,(y1.1.2.2.1,()))),())else bif(bD x4 125)then bif(!(bD x3 5))then aZ (ui y0.1.1 y0.1.2.1 y0.1.2.2.1) fun y1=>some ((y1.1.1,(y1.1.2.1,(y1.1.2.2.1,()))),())else Ug x4 x3 y0 else Ug x4 x3 y0
def ac6 (x0:List mg) (x1:Bool) (x2 x3 x4:Int):Option (W9×(Unit)):=aZ (NQ x0 x1 x2 x4) fun y0=>bif y0.2.1 then some ((y0.1.1,(y0.1.2.1,(y0.1.2.2.1,()))),())else bif(bD x4 34)then bif(bD x3 5)then aZ (ui y0.1.1 y0.1.2.1 y0.1.2.2.1) fun y1=>some ((y1.1.1,(y1.1.2.1,(y1.1.2.2.1,()))),())else Uh x4 y0 x3 else Uh x4 y0 x3
def anA:fV:=⟨213,tzB,[bV,.int .u8],[],fun x y=>ac6 x.1 x.2.1 x.2.2.1 y.1 y.2.1⟩
noncomputable def atr:Env:=dK prog tt [] [] [] [] [(207,ET),(237,Jv),(263,WV)]
theorem agd:dm atr:=eB aN [] aN (hx:=(aD tV (aD yw (aD Jw aN))))
theorem aim:dO prog 239 anA:=sB agd
def yN (x3:Int) (x0:List mg) (x1:Bool) (x2 x4:Int):Option (W9×(Unit)):=bif(bD x3 13)then aZ (ui x0 x1 x2) fun y0=>bif y0.1.2.1 then some ((y0.1.1,((bD x4 10),(y0.1.2.2.1,()))),())else some ((y0.1.1,(false,(y0.1.2.2.1,()))),())else bif(bD x3 4)then bif(bD x4 39)then aZ (ui x0 x1 x2) fun y0=>some ((y0.1.1,(y0.1.2.1,(y0.1.2.2.1,()))),())else some ((x0,(x1,(x2,()))),())else bif(bD x3 14)then bif(bD x4 10)then aZ (ui x0 x1 x2) fun y0=>some ((y0.1.1,(true,(y0.1.2.2.1,()))),())else some ((x0,(x1,(x2,()))),())else bif(bD x3 6)then bif(bD x4 96)then aZ (ui x0 x1 x2) fun y0=>some ((y0.1.1,(y0.1.2.1,(y0.1.2.2.1,()))),())else bif(bD x4 92)then aZ (uj x0 x1 x2 13) fun y0=>some ((y0.1.1,(y0.1.2.1,(y0.1.2.2.1,()))),())else some ((x0,(x1,(x2,()))),())else bif(bD x3 9)then bif(bD x3 9)then aZ (ac5 x0 x1 x2 x3 x4) fun y0=>some ((y0.1.1,(y0.1.2.1,(y0.1.2.2.1,()))),())else aZ (ac6 x0 x1 x2 x3 x4) fun y0=>some ((y0.1.1,(y0.1.2.1,(y0.1.2.2.1,()))),())else bif(bD x3 10)then aZ (ac5 x0 x1 x2 x3 x4) fun y0=>some ((y0.1.1,(y0.1.2.1,(y0.1.2.2.1,()))),())else aZ (ac6 x0 x1 x2 x3 x4) fun y0=>some ((y0.1.1,(y0.1.2.1,(y0.1.2.2.1,()))),())
def JM (x0:List mg) (x1:Bool) (x2 x3 x4:Int):Option (W9×(Unit)):=bif(bD x3 0)then bif(bD x3 0)then aZ (Q3 x0 x1 x2 x3 x4) fun y0=>some ((y0.1.1,(y0.1.2.1,(y0.1.2.2.1,()))),())else yN x3 x0 x1 x2 x4 else bif(bD x3 1)then bif(bD x3 1)then aZ (Q3 x0 x1 x2 x3 x4) fun y0=>some ((y0.1.1,(y0.1.2.1,(y0.1.2.2.1,()))),())else yN x3 x0 x1 x2 x4 else bif(bD x3 2)then aZ (Q3 x0 x1 x2 x3 x4) fun y0=>some ((y0.1.1,(y0.1.2.1,(y0.1.2.2.1,()))),())else yN x3 x0 x1 x2 x4
def ann:fV:=⟨213,tzB,[bV,.int .u8],[],fun x y=>JM x.1 x.2.1 x.2.2.1 y.1 y.2.1⟩
noncomputable def atf:Env:=dK prog tt [] [] [] [] [(207,ET),(236,anx),(237,Jv),(238,anz),(239,anA)]
theorem afY:dm atf:=eB aN [] aN (hx:=(aD tV (aD aik (aD yw (aD ail (aD aim aN))))))
theorem aib:dO prog 208 ann:=sB afY
noncomputable def asq:Code:=(f174.body).getD .skip
noncomputable def TC:Code:=cA (cA (cA (cB (cB (cA (asq))))))
def aa0:dE:=⟨[0,1,100002],[],[0],[],[],[]⟩
def ao9:dE:=⟨[0,1],[],[],[],[],[]⟩
def Vg:SQ:=⟨us [.ptr 0 0,.v (.int .u8)] 63,[[.ptr 0 0]],[.arr 2000002 Qa,.box 0 213 [.slc 2000002,.v .bool,.v bV],.arr 1 Qa]⟩
def VB:SQ:=⟨us [.ptr 0 0] 64,[[.ptr 0 0]],[.arr 2000002 Qa,.box 0 213 [.slc 2000002,.v .bool,.v bV],.arr 1 Qa]⟩
def VU:SQ:=⟨us [] 65,[[.ptr 0 0]],[]⟩
def WB {γ:Type} (rec:Int->(List mg)->Bool->Int->(List mg)->Option γ) (kE:(List mg)->Bool->Int->(List mg)->Option γ) (kR:Option γ) (v0:Int) (v1:List mg) (v2:Bool) (v3:Int) (v4:List mg):Option γ:=bif(fU v1 (eY .i64 (bi v1) 1))then bif(nH (bU (eY .i64 (bi v1) 1)) v1)then bif(bD (bY v1 (0,(0,())) (bU (eY .i64 (bi v1) 1))).1 12)then aZ (JL v1 v2 v3 v0) fun y0=>bif y0.2.1 then kE y0.1.1 y0.1.2.1 y0.1.2.2.1 v4 else rec v0 y0.1.1 y0.1.2.1 y0.1.2.2.1 v4 else bif(bD (bY v1 (0,(0,())) (bU (eY .i64 (bi v1) 1))).1 3)then bif(bD v0 40)then aZ (rF v1 v2 v3 9) fun y0=>kE y0.1.1 false y0.1.2.2.1 v4 else aZ (rF v1 v2 v3 1) fun y0=>rec v0 y0.1.1 y0.1.2.1 y0.1.2.2.1 v4 else bif(bD (bY v1 (0,(0,())) (bU (eY .i64 (bi v1) 1))).1 11)then bif(bD v0 41)then aZ (ui v1 v2 v3) fun y0=>kE y0.1.1 y0.1.2.1 y0.1.2.2.1 v4 else aZ (rF v1 v2 v3 9) fun y0=>rec v0 y0.1.1 y0.1.2.1 y0.1.2.2.1 v4 else aZ (JM v1 v2 v3 (bY v1 (0,(0,())) (bU (eY .i64 (bi v1) 1))).1 v0) fun y0=>kE y0.1.1 y0.1.2.1 y0.1.2.2.1 v4 else none else none
def UM:Nat->Int->(List mg)->Bool->Int->(List mg)->Option (VB.den⊕VU.den)
 |0,_,_,_,_,_=>none
 |n+1,v0,v1,v2,v3,v4=>WB (UM n) (fun e0 e1 e2 e3=>some (.inl ((),((),()),(e0,(e1,e2,()),e3,())))) (some (.inr ((),((),()),()))) v0 v1 v2 v3 v4
def apS (n:Nat) (v:Vg.den):=UM n v.1.1 v.2.2.1 v.2.2.2.1.1 v.2.2.2.1.2.1 v.2.2.2.2.1
noncomputable def UT:dw:=fE aa0 Vg VB VU (.exit 0) (apS bC) 6
def G6:SQ:=⟨us [.ptr 0 0,.v (.int .u8)] 63,[[.ptr 0 0]],[.box 0 213 [.slc 1,.v .bool,.v bV],.arr 1 Qa]⟩
def I4:SQ:=⟨us [.ptr 0 0] 64,[[.ptr 0 0]],[.box 0 213 [.slc 1,.v .bool,.v bV],.arr 1 Qa]⟩
def Ja:SQ:=⟨us [] 65,[[.ptr 0 0]],[]⟩
def yg {γ:Type} (rec:Int->Bool->Int->(List mg)->Option γ) (kE:Bool->Int->(List mg)->Option γ) (kR:Option γ) (v0:Int) (v1:Bool) (v2:Int) (v3:List mg):Option γ:=bif(fU v3 (eY .i64 (bi v3) 1))then bif(nH (bU (eY .i64 (bi v3) 1)) v3)then bif(bD (bY v3 (0,(0,())) (bU (eY .i64 (bi v3) 1))).1 12)then aZ (JL v3 v1 v2 v0) fun y0=>bif y0.2.1 then kE y0.1.2.1 y0.1.2.2.1 y0.1.1 else rec v0 y0.1.2.1 y0.1.2.2.1 y0.1.1 else bif(bD (bY v3 (0,(0,())) (bU (eY .i64 (bi v3) 1))).1 3)then bif(bD v0 40)then aZ (rF v3 v1 v2 9) fun y0=>kE false y0.1.2.2.1 y0.1.1 else aZ (rF v3 v1 v2 1) fun y0=>rec v0 y0.1.2.1 y0.1.2.2.1 y0.1.1 else bif(bD (bY v3 (0,(0,())) (bU (eY .i64 (bi v3) 1))).1 11)then bif(bD v0 41)then aZ (ui v3 v1 v2) fun y0=>kE y0.1.2.1 y0.1.2.2.1 y0.1.1 else aZ (rF v3 v1 v2 9) fun y0=>rec v0 y0.1.2.1 y0.1.2.2.1 y0.1.1 else aZ (JM v3 v1 v2 (bY v3 (0,(0,())) (bU (eY .i64 (bi v3) 1))).1 v0) fun y0=>kE y0.1.2.1 y0.1.2.2.1 y0.1.1 else none else none
def tu:Nat->Int->Bool->Int->(List mg)->Option (I4.den⊕Ja.den)
 |0,_,_,_,_=>none
 |n+1,v0,v1,v2,v3=>yg (tu n) (fun e0 e1 e2=>some (.inl ((),((),()),((e0,e1,()),e2,())))) (some (.inr ((),((),()),()))) v0 v1 v2 v3
def ahl (n:Nat) (v:G6.den):=tu n v.1.1 v.2.2.1.1 v.2.2.1.2.1 v.2.2.2.1
noncomputable def IM:dw:=fE aa0 G6 I4 Ja (.exit 0) (ahl bC) 12
def QZ (x0:List mg) (x1:Bool) (x2 x3:Int):Option (W9×(Unit)):=bif(bD (bi x0) 0)then aZ (UM bC x3 [(0,(0,()))] true 0 x0) fun y0=>dA y0 (fun a1=>some ((a1.2.2.1,(a1.2.2.2.1.1,((bT .i64 a1.2.2.2.1.2.1 1),()))),())) (fun b1=>none)else aZ (tu bC x3 x1 x2 x0) fun y0=>dA y0 (fun a1=>some ((a1.2.2.2.1,(a1.2.2.1.1,((bT .i64 a1.2.2.1.2.1 1),()))),())) (fun b1=>none)
def WS:fV:=⟨213,tzB,[.int .u8],[],fun x y=>QZ x.1 x.2.1 x.2.2.1 y.1⟩
noncomputable def Nw:Env:=dK prog tt [] [(174,2,aa0),(174,600001,ao9)] [(174,2,lg UT IM)] [] [(205,anm),(206,WT),(207,ET),(208,ann)]
def aem {γ:Type} (a:Vg.den->Option γ) (b:VB.den->Option γ) (c:VU.den->Option γ) (v:Vg.den):Option γ:=WB (fun v0 v1 v2 v3 v4=>a ((v0,()),((),()),(v1,(v2,v3,()),v4,()))) (fun e0 e1 e2 e3=>b ((),((),()),(e0,(e1,e2,()),e3,()))) (c ((),((),()),())) v.1.1 v.2.2.1 v.2.2.2.1.1 v.2.2.2.1.2.1 v.2.2.2.2.1
theorem aqe:dV Nw 174 TC UT:=lW (aem) (h2:=by intros;simp only[aem,WB,cO,cZ,aY,bW,dh])
def Sm {γ:Type} (a:G6.den->Option γ) (b:I4.den->Option γ) (c:Ja.den->Option γ) (v:G6.den):Option γ:=yg (fun v0 v1 v2 v3=>a ((v0,()),((),()),((v1,v2,()),v3,()))) (fun e0 e1 e2=>b ((),((),()),((e0,e1,()),e2,()))) (c ((),((),()),())) v.1.1 v.2.2.1.1 v.2.2.1.2.1 v.2.2.2.1
theorem aht:dV Nw 174 TC IM:=lW (Sm) (h2:=by intros;simp only[Sm,yg,cO,cZ,aY,bW,dh])
theorem auG:dJ Nw 174 asq:=zK [TC] (aD (fun L h=>by rw[show(Nw).lp 174 (bP TC)=some (lg UT IM) by kernel_rfl]at h;cases h;exact pK aqe aht) aN)
theorem afI:dm Nw:=eB aN [174] (aD ⟨f174,asq,by kernel_rfl,by kernel_rfl,auG⟩ aN) (hx:=(aD aia (aD Ju (aD tV (aD aib aN)))))
theorem Jt:dO prog 174 WS:=sB afI
def Q5 (x0:Int):Option EU:=bif(bD x0 3)then some (1,())else bif(bD x0 11)then some (9,())else some (x0,())
def anF:Sum:=⟨[bV],tzE,fun x=>Q5 x.1⟩
noncomputable def atG:Env:=gz prog tt 264 [] [] []
theorem agw:dm atG:=eA f264 aN
theorem air:dN prog 264 anF:=sA agw
noncomputable def aok:Code:=(Tryz.f241.body).getD .skip
noncomputable def ai1:Code:=cA (cA (cB (cA (cB (aok)))))
noncomputable def ai2:Code:=cA (cA (cB (cB (cB (aok)))))
def ak0:dE:=⟨[0,1,2,6,100002],[],[0,1],[],[],[]⟩
def ak1:dE:=⟨[0,77,78,79,100009],[],[],[],[],[]⟩
def Vm:SQ:=⟨us [.ptr 0 0,.v (.list Qa),.v bV,.u,.u,.u,.v bV] 141,[[.ptr 0 0]],[.box 0 230 [.slc 1,.slc 2],.arr 1 H9,.arr 2 bV]⟩
def VH:SQ:=⟨us [.ptr 0 0,.v (.list Qa)] 146,[[.ptr 0 0]],[.box 0 230 [.slc 1,.slc 2],.arr 1 H9,.arr 2 bV]⟩
def VZ:SQ:=⟨us [] 148,[[.ptr 0 0]],[]⟩
def iK (v4:gX) (v2:Int):=bY v4 0 (bU (eY .i64 v2 1))
def tK (v3:List jX) (v4:gX) (v2 v1:Int):=gp v3 (bU (iK v4 v2)) ((bY v3 (0,(0,(0,(0,(false,()))))) (bU (iK v4 v2))).1,((bY v3 (0,(0,(0,(0,(false,()))))) (bU (iK v4 v2))).2.1,((bT .i64 v1 1),((bY v3 (0,(0,(0,(0,(false,()))))) (bU (iK v4 v2))).2.2.2.1,((bY v3 (0,(0,(0,(0,(false,()))))) (bU (iK v4 v2))).2.2.2.2.1,())))))
def tN (v3:List jX) (v4:gX) (v2 v1:Int):=bY (tK v3 v4 v2 v1) (0,(0,(0,(0,(false,()))))) (bU (iK v4 v2))
def Dp {γ:Type} (v3:List jX) (v4:gX) (v2 v1:Int) (rec:(List mg)->Int->Int->(List jX)->gX->Option γ) (v0:List mg):Option γ:=bif(fU v3 (iK v4 v2))then bif(nH (bU (iK v4 v2)) v3)then bif(fU (tK v3 v4 v2 v1) (iK v4 v2))then bif(nH (bU (iK v4 v2)) (tK v3 v4 v2 v1))then bif(gW (bi v4) 0 (eY .i64 v2 1))then rec v0 v1 (eY .i64 v2 1) (gp (tK v3 v4 v2 v1) (bU (iK v4 v2)) ((tN v3 v4 v2 v1).1,((tN v3 v4 v2 v1).2.1,((tN v3 v4 v2 v1).2.2.1,((tN v3 v4 v2 v1).2.2.2.1,(false,())))))) (takeN v4 (bU (eY .i64 v2 1)))else none else none else none else none else none
def LW {γ:Type} (rec:(List mg)->Int->Int->(List jX)->gX->Option γ) (kE:(List mg)->(List jX)->gX->Option γ) (kR:Option γ) (v0:List mg) (v1 v2:Int) (v3:List jX) (v4:gX):Option γ:=bif(iq 0 v2)then bif(fU v4 (eY .i64 v2 1))then bif(nH (bU (eY .i64 v2 1)) v4)then bif(leI v2 (bi v0))then bif(fU v0 (eY .i64 v2 1))then bif(fU v3 (iK v4 v2))then bif(nH (bU (iK v4 v2)) v3)then bif(bD (eu v0 (0,(0,())) (eY .i64 v2 1)).2.1 (bY v3 (0,(0,(0,(0,(false,()))))) (bU (iK v4 v2))).2.1)then kE v0 v3 v4 else Dp v3 v4 v2 v1 rec v0 else none else none else none else Dp v3 v4 v2 v1 rec v0 else none else none else kE v0 v3 v4
def GH:Nat->(List mg)->Int->Int->(List jX)->gX->Option (VH.den⊕VZ.den)
 |0,_,_,_,_,_=>none
 |n+1,v0,v1,v2,v3,v4=>LW (GH n) (fun e0 e1 e2=>some (.inl ((e0,()),((),()),((),e1,e2,())))) (some (.inr ((),((),()),()))) v0 v1 v2 v3 v4
def apX (n:Nat) (v:Vm.den):=GH n v.1.1 v.1.2.1 v.1.2.2.1 v.2.2.2.1 v.2.2.2.2.1
noncomputable def adG:dw:=fE ak0 Vm VH VZ (.exit 0) (apX bC) 6
def Vo:SQ:=⟨us [.ptr 0 0,.u,.u,.u,.u,.u,.u,.u,.u,.u,.u,.u,.u,.u,.u,.u,.u,.u,.u,.u,.u,.u,.u,.u,.u,.u,.u,.u,.u,.u,.u,.u,.u,.u,.u,.u,.u,.u,.u,.u,.u,.u,.u,.u,.u,.u,.u,.u,.u,.u,.u,.u,.u,.u,.u,.u,.u,.u,.u,.u,.u,.u,.u,.u,.u,.u,.u,.u,.u,.u,.u,.u,.u,.u,.u,.u,.u,.v (.list Qa),.v bV,.v bV] 68,[[.ptr 0 0]],[.box 0 230 [.slc 1,.slc 2],.arr 1 H9,.arr 2 bV]⟩
def VI:SQ:=⟨us [] 148,[[.ptr 0 0]],[.box 0 230 [.slc 1,.slc 2],.arr 1 H9,.arr 2 bV]⟩
def V3:SQ:=⟨us [] 148,[[.ptr 0 0]],[]⟩
def jr (v3:List jX) (v4:gX) (v2:Int):=bY v3 (0,(0,(0,(0,(false,()))))) (bU (bY v4 0 (bU v2)))
def ku (v0:List mg) (v2:Int):=bD (eu v0 (0,(0,())) v2).2.1 (eu v0 (0,(0,())) v2).2.1
def kw (v0:List mg) (v2:Int):=bD (eu v0 (0,(0,())) v2).1 (eu v0 (0,(0,())) v2).1
def zF {γ:Type} (rec:(List mg)->Int->Int->(List jX)->gX->Option γ) (kE:(List jX)->gX->Option γ) (kR:Option γ) (v0:List mg) (v1 v2:Int) (v3:List jX) (v4:gX):Option γ:=bif(iq v2 v1)then bif(fU v0 v2)then bif(iq v2 (bi v4))then bif(fU v4 v2)then bif(nH (bU v2) v4)then aZ (Q5 (eu v0 (0,(0,())) v2).1) fun y0=>bif(fU v3 (bY v4 0 (bU v2)))then bif(nH (bU (bY v4 0 (bU v2))) v3)then bif(fU (gp v3 (bU (bY v4 0 (bU v2))) (y0.1,((jr v3 v4 v2).2.1,((jr v3 v4 v2).2.2.1,((jr v3 v4 v2).2.2.2.1,((jr v3 v4 v2).2.2.2.2.1,())))))) (bY v4 0 (bU v2)))then bif((eqN (bU (bY v4 0 (bU v2))) (bU (bY v4 0 (bU v2))))&&true)then rec v0 v1 (bT .i64 v2 1) (gp v3 (bU (bY v4 0 (bU v2))) (y0.1,((jr v3 v4 v2).2.1,((jr v3 v4 v2).2.2.1,((jr v3 v4 v2).2.2.2.1,((jr v3 v4 v2).2.2.2.2.1,())))))) v4 else none else none else none else none else none else none else bif(iq 0 v2)then bif(fU v4 (eY .i64 v2 1))then bif(nH (bU (eY .i64 v2 1)) v4)then bif(dY (bF v4 [(bi v3)]) 8)then bif(bD (bi v3) (bi v3))then aZ (Q5 (eu v0 (0,(0,())) v2).1) fun y0=>bif(kw v0 v2)then bif(ku v0 v2)then bif(bD (bY v4 0 (bU (eY .i64 v2 1))) (bY v4 0 (bU (eY .i64 v2 1))))then bif(((kw v0 v2)&&true)&&((bD y0.1 y0.1)&&true))then bif(dY (bF v3 [(y0.1,((eu v0 (0,(0,())) v2).2.1,(0,((bY v4 0 (bU (eY .i64 v2 1))),(true,())))))]) 40)then bif(kw v0 v2)then bif(ku v0 v2)then bif(bD (bY v4 0 (bU (eY .i64 v2 1))) (bY v4 0 (bU (eY .i64 v2 1))))then bif((bD y0.1 y0.1)&&((ku v0 v2)&&((bD 0 0)&&((bD (bY v4 0 (bU (eY .i64 v2 1))) (bY v4 0 (bU (eY .i64 v2 1))))&&((Qc true true)&&true)))))then rec v0 v1 (bT .i64 v2 1) (bF v3 [(y0.1,((eu v0 (0,(0,())) v2).2.1,(0,((bY v4 0 (bU (eY .i64 v2 1))),(true,())))))]) (bF v4 [(bi v3)])else none else none else none else none else none else none else none else none else none else none else none else none else none else bif(dY (bF v4 [(bi v3)]) 8)then bif(bD (bi v3) (bi v3))then aZ (Q5 (eu v0 (0,(0,())) v2).1) fun y0=>bif(kw v0 v2)then bif(ku v0 v2)then bif(bD (-1) (-1))then bif(((kw v0 v2)&&true)&&((bD y0.1 y0.1)&&true))then bif(dY (bF v3 [(y0.1,((eu v0 (0,(0,())) v2).2.1,(0,((-1),(true,())))))]) 40)then bif(kw v0 v2)then bif(ku v0 v2)then bif(bD (-1) (-1))then bif((bD y0.1 y0.1)&&((ku v0 v2)&&((bD 0 0)&&((bD (-1) (-1))&&((Qc true true)&&true)))))then rec v0 v1 (bT .i64 v2 1) (bF v3 [(y0.1,((eu v0 (0,(0,())) v2).2.1,(0,((-1),(true,())))))]) (bF v4 [(bi v3)])else none else none else none else none else none else none else none else none else none else none else none else none else kE v3 v4
def qi:Nat->(List mg)->Int->Int->(List jX)->gX->Option (VI.den⊕V3.den)
 |0,_,_,_,_,_=>none
 |n+1,v0,v1,v2,v3,v4=>zF (qi n) (fun e0 e1=>some (.inl ((),((),()),((),e0,e1,())))) (some (.inr ((),((),()),()))) v0 v1 v2 v3 v4
def apY (n:Nat) (v:Vo.den):=qi n v.1.1 v.1.2.1 v.1.2.2.1 v.2.2.2.1 v.2.2.2.2.1
noncomputable def adH:dw:=fE ak1 Vo VI V3 (.exit 2) (apY bC) 12
def X3 (x0:List jX) (x1:gX) (x2:List mg) (x3:Int):Option (((List jX)×gX×Unit)×(Unit)):=bif(gW (bi x2) 1 (bi x2))then aZ (GH bC (sub x2 1 (bi x2)) x3 (bi x1) x0 x1) fun y0=>dA y0 (fun a1=>aZ (qi bC a1.1.1 (bi a1.1.1) 0 a1.2.2.2.1 a1.2.2.2.2.1) fun y2=>dA y2 (fun a3=>some ((a3.2.2.2.1,(a3.2.2.2.2.1,())),())) (fun b3=>none)) (fun b1=>none)else none
def anB:fV:=⟨230,[(.list H9,true),(.list bV,true)],[.list Qa,bV],[],fun x y=>X3 x.1 x.2.1 y.1 y.2.1⟩
noncomputable def TV:Env:=dK prog tt [(264,anF)] [(241,2,ak0),(241,9,ak1)] [(241,2,adG),(241,9,adH)] []
def aer {γ:Type} (a:Vm.den->Option γ) (b:VH.den->Option γ) (c:VZ.den->Option γ) (v:Vm.den):Option γ:=LW (fun v0 v1 v2 v3 v4=>a ((v0,v1,v2,()),((),()),((),v3,v4,()))) (fun e0 e1 e2=>b ((e0,()),((),()),((),e1,e2,()))) (c ((),((),()),())) v.1.1 v.1.2.1 v.1.2.2.1 v.2.2.2.1 v.2.2.2.2.1
theorem aqj:dV TV 241 ai1 adG:=lW (aer) (h2:=by intros;simp only[aer,LW,cO,cZ,aY,bW,dh,iK,tK,tN,Dp])
def aes {γ:Type} (a:Vo.den->Option γ) (b:VI.den->Option γ) (c:V3.den->Option γ) (v:Vo.den):Option γ:=zF (fun v0 v1 v2 v3 v4=>a ((v0,v1,v2,()),((),()),((),v3,v4,()))) (fun e0 e1=>b ((),((),()),((),e0,e1,()))) (c ((),((),()),())) v.1.1 v.1.2.1 v.1.2.2.1 v.2.2.2.1 v.2.2.2.2.1
theorem aqk:dV TV 241 ai2 adH:=lW (aes) (h2:=by intros;simp only[aes,zF,cO,cZ,aY,bW,dh,jr,ku,kw])
theorem auL:dJ TV 241 aok:=zK [ai1,ai2] (aD (fM (aqj)) (aD (fM (aqk)) aN))
theorem age:dm TV:=eB (aD air aN) [241] (aD ⟨Tryz.f241,aok,by kernel_rfl,by kernel_rfl,auL⟩ aN)
theorem ain:dO prog 241 anB:=sB age
def XZ (x0:Int):Option ou:=aZ (DL x0) fun y0=>some ((bD y0.1 6),())
def ab5:Sum:=⟨[.int .u8],Tc,fun x=>XZ x.1⟩
noncomputable def as9:Env:=gz prog tt 188 [(139,BP)] [] []
theorem afR:dm as9:=eA f188 (aD pX aN)
theorem SL:dN prog 188 ab5:=sA afR
noncomputable def MM:Code:=(f187.body).getD .skip
noncomputable def Nh:Code:=cA (cA (cA (cB (cB (cB (cA (cB (MM))))))))
def Om:dE:=⟨[0,1,2,7,188000004],[],[7],[],[6],[]⟩
def ao8:dE:=⟨[0,1],[],[],[],[],[]⟩
def Yw:dE:=⟨[0,1,2,7],[],[],[],[],[]⟩
def zk:SQ:=⟨us [.v .str,.v bV,.fn 188 [],.u,.u,.u,.u,.v bV] 25,[[.v .str,.v bV,.u,.u,.u,.v .str,.v bV,.u],[]],[]⟩
def Bv:SQ:=⟨us [.u,.u,.u,.u,.u,.u,.u,.v bV] 25,[[.v .str,.v bV,.u,.u,.u,.v .str,.v bV,.u],[]],[]⟩
def BH:SQ:=⟨us [] 33,[[.v .str,.v bV,.u,.u,.u,.v .str,.v bV,.u],[]],[]⟩
def vX {γ:Type} (rec:bH->Int->Int->bH->Int->bH->Int->Option γ) (kE:Int->bH->Int->bH->Int->Option γ) (kR:bH->Int->bH->Int->Option γ) (v0:bH) (v1 v2:Int) (v3:bH) (v4:Int) (v5:bH) (v6:Int):Option γ:=bif(iq (bT .i64 v1 v2) (bi v0))then bif(fU v0 (bT .i64 v1 v2))then aZ (XZ (bK v0 (bT .i64 v1 v2))) fun y0=>bif(!y0.1)then kE v2 v3 v4 v5 v6 else rec v0 v1 (bT .i64 v2 1) v3 v4 v5 v6 else none else kE v2 v3 v4 v5 v6
def nY:Nat->bH->Int->Int->bH->Int->bH->Int->Option (Bv.den⊕BH.den)
 |0,_,_,_,_,_,_,_=>none
 |n+1,v0,v1,v2,v3,v4,v5,v6=>vX (nY n) (fun e0 e1 e2 e3 e4=>some (.inl ((e0,()),((e1,e2,e3,e4,()),(),()),()))) (fun r0 r1 r2 r3=>some (.inr ((),((r0,r1,r2,r3,()),(),()),()))) v0 v1 v2 v3 v4 v5 v6
def YP (n:Nat) (v:zk.den):=nY n v.1.1 v.1.2.1 v.1.2.2.1 v.2.1.1.1 v.2.1.1.2.1 v.2.1.1.2.2.1 v.2.1.1.2.2.2.1
noncomputable def J5:dw:=fE Om zk Bv BH (.exit 0) (YP bC) 6
def xK (x0:bH) (x1:Int):Option EU:=bif(iq x1 0)then some (0,())else bif(leI (bi x0) x1)then some (0,())else aZ (nY bC x0 x1 0 x0 x1 x0 x1) fun y0=>dA y0 (fun a1=>some (a1.1.1,())) (fun b1=>none)
def WR:Sum:=⟨[.str,bV],tzE,fun x=>xK x.1 x.2.1⟩
noncomputable def aay:Env:=dK prog tt [(188,ab5)] [(187,4,Om),(154,600001,ao8),(187,600006,Yw)] [(187,4,J5)] []
def KH {γ:Type} (a:zk.den->Option γ) (b:Bv.den->Option γ) (c:BH.den->Option γ) (v:zk.den):Option γ:=vX (fun v0 v1 v2 v3 v4 v5 v6=>a ((v0,v1,v2,()),((v3,v4,v5,v6,()),(),()),())) (fun e0 e1 e2 e3 e4=>b ((e0,()),((e1,e2,e3,e4,()),(),()),())) (fun r0 r1 r2 r3=>c ((),((r0,r1,r2,r3,()),(),()),())) v.1.1 v.1.2.1 v.1.2.2.1 v.2.1.1.1 v.2.1.1.2.1 v.2.1.1.2.2.1 v.2.1.1.2.2.2.1
theorem Y8:dV aay 187 Nh J5:=lW (KH) (h2:=by intros;simp only[KH,vX,cO,cZ,aY,bW,dh])
theorem abl:dJ aay 187 MM:=zK [Nh] (aD (fM (Y8)) aN)
theorem afE:dm aay:=eB (aD SL aN) [187] (aD ⟨f187,MM,by kernel_rfl,by kernel_rfl,abl⟩ aN)
theorem Js:dN prog 154 WR:=sA afE
def X5 (x0:Int):Option ou:=aZ (DL x0) fun y0=>some ((bD y0.1 5),())
def anH:Sum:=⟨[.int .u8],Tc,fun x=>X5 x.1⟩
noncomputable def atK:Env:=gz prog tt 273 [(139,BP)] [] []
theorem agC:dm atK:=eA f273 (aD pX aN)
theorem ait:dN prog 273 anH:=sA agC
noncomputable def MO:Code:=(f187.body).getD .skip
noncomputable def yG:Code:=cA (cA (cA (cB (cB (cB (cA (cB (MO))))))))
def EC:dE:=⟨[0,1,2,7,188000004],[],[7],[],[6],[]⟩
def apj:dE:=⟨[0,1],[],[],[],[],[]⟩
def apk:dE:=⟨[0,1],[],[],[],[],[]⟩
def YA:dE:=⟨[0,1,2,7],[],[],[],[],[]⟩
def zn:SQ:=⟨us [.v .str,.v bV,.fn 274 [],.u,.u,.u,.u,.v bV] 25,[[.v .str,.v bV,.u,.u,.u,.u,.u,.u,.u,.v .str,.v bV,.u],[]],[]⟩
def BA:SQ:=⟨us [.u,.u,.u,.u,.u,.u,.u,.v bV] 25,[[.v .str,.v bV,.u,.u,.u,.u,.u,.u,.u,.v .str,.v bV,.u],[]],[]⟩
def BJ:SQ:=⟨us [] 33,[[.v .str,.v bV,.u,.u,.u,.u,.u,.u,.u,.v .str,.v bV,.u],[]],[]⟩
def vY {γ:Type} (rec:bH->Int->Int->bH->Int->bH->Int->Option γ) (kE:Int->bH->Int->bH->Int->Option γ) (kR:bH->Int->bH->Int->Option γ) (v0:bH) (v1 v2:Int) (v3:bH) (v4:Int) (v5:bH) (v6:Int):Option γ:=bif(iq (bT .i64 v1 v2) (bi v0))then bif(fU v0 (bT .i64 v1 v2))then aZ (X5 (bK v0 (bT .i64 v1 v2))) fun y0=>bif y0.1 then rec v0 v1 (bT .i64 v2 1) v3 v4 v5 v6 else aZ (XZ (bK v0 (bT .i64 v1 v2))) fun y1=>bif(!y1.1)then kE v2 v3 v4 v5 v6 else rec v0 v1 (bT .i64 v2 1) v3 v4 v5 v6 else none else kE v2 v3 v4 v5 v6
def lL:Nat->bH->Int->Int->bH->Int->bH->Int->Option (BA.den⊕BJ.den)
 |0,_,_,_,_,_,_,_=>none
 |n+1,v0,v1,v2,v3,v4,v5,v6=>vY (lL n) (fun e0 e1 e2 e3 e4=>some (.inl ((e0,()),((e1,e2,e3,e4,()),(),()),()))) (fun r0 r1 r2 r3=>some (.inr ((),((r0,r1,r2,r3,()),(),()),()))) v0 v1 v2 v3 v4 v5 v6
def YR (n:Nat) (v:zn.den):=lL n v.1.1 v.1.2.1 v.1.2.2.1 v.2.1.1.1 v.2.1.1.2.1 v.2.1.1.2.2.1 v.2.1.1.2.2.2.1
noncomputable def AZ:dw:=fE EC zn BA BJ (.exit 0) (YR bC) 6
def sF:SQ:=⟨us [.v .str,.v bV,.fn 273 [],.u,.u,.u,.u,.v bV] 25,[[.v .str,.v bV,.u,.u,.u,.v .str,.v bV,.u,.u,.u,.u,.u],[]],[]⟩
def wR:SQ:=⟨us [.u,.u,.u,.u,.u,.u,.u,.v bV] 25,[[.v .str,.v bV,.u,.u,.u,.v .str,.v bV,.u,.u,.u,.u,.u],[]],[]⟩
def wY:SQ:=⟨us [] 33,[[.v .str,.v bV,.u,.u,.u,.v .str,.v bV,.u,.u,.u,.u,.u],[]],[]⟩
def qx {γ:Type} (rec:bH->Int->Int->bH->Int->bH->Int->Option γ) (kE:Int->bH->Int->bH->Int->Option γ) (kR:bH->Int->bH->Int->Option γ) (v0:bH) (v1 v2:Int) (v3:bH) (v4:Int) (v5:bH) (v6:Int):Option γ:=bif(iq (bT .i64 v1 v2) (bi v0))then bif(fU v0 (bT .i64 v1 v2))then aZ (X5 (bK v0 (bT .i64 v1 v2))) fun y0=>bif(!y0.1)then kE v2 v3 v4 v5 v6 else rec v0 v1 (bT .i64 v2 1) v3 v4 v5 v6 else none else kE v2 v3 v4 v5 v6
def kV:Nat->bH->Int->Int->bH->Int->bH->Int->Option (wR.den⊕wY.den)
 |0,_,_,_,_,_,_,_=>none
 |n+1,v0,v1,v2,v3,v4,v5,v6=>qx (kV n) (fun e0 e1 e2 e3 e4=>some (.inl ((e0,()),((e1,e2,e3,e4,()),(),()),()))) (fun r0 r1 r2 r3=>some (.inr ((),((r0,r1,r2,r3,()),(),()),()))) v0 v1 v2 v3 v4 v5 v6
def Ql (n:Nat) (v:sF.den):=kV n v.1.1 v.1.2.1 v.1.2.2.1 v.2.1.1.1 v.2.1.1.2.1 v.2.1.1.2.2.1 v.2.1.1.2.2.2.1
noncomputable def wK:dw:=fE EC sF wR wY (.exit 0) (Ql bC) 12
def Uk (x1:Int) (x0:bH):Option EU:=bif(bD 0 0)then some (0,())else bif(iq x1 0)then some (0,())else bif(leI (bi x0) x1)then some (0,())else aZ (lL bC x0 x1 0 x0 x1 x0 x1) fun y0=>dA y0 (fun a1=>some (a1.1.1,())) (fun b1=>none)
def NR (x0:bH) (x1:Int):Option EU:=bif(iq x1 0)then Uk x1 x0 else bif(leI (bi x0) x1)then Uk x1 x0 else aZ (kV bC x0 x1 0 x0 x1 x0 x1) fun y0=>dA y0 (fun a1=>bif(bD a1.1.1 0)then some (0,())else bif(iq a1.2.1.1.2.1 0)then some (0,())else bif(leI (bi a1.2.1.1.1) a1.2.1.1.2.1)then some (0,())else aZ (lL bC a1.2.1.1.1 a1.2.1.1.2.1 0 a1.2.1.1.1 a1.2.1.1.2.1 a1.2.1.1.1 a1.2.1.1.2.1) fun y2=>dA y2 (fun a3=>some (a3.1.1,())) (fun b3=>none)) (fun b1=>none)
def WW:Sum:=⟨[.str,bV],tzE,fun x=>NR x.1 x.2.1⟩
noncomputable def Ny:Env:=dK prog tt [(188,ab5),(273,anH)] [(187,4,EC),(265,600001,apj),(265,600003,apk),(187,600006,YA)] [(187,4,lg AZ wK)] []
def KJ {γ:Type} (a:zn.den->Option γ) (b:BA.den->Option γ) (c:BJ.den->Option γ) (v:zn.den):Option γ:=vY (fun v0 v1 v2 v3 v4 v5 v6=>a ((v0,v1,v2,()),((v3,v4,v5,v6,()),(),()),())) (fun e0 e1 e2 e3 e4=>b ((e0,()),((e1,e2,e3,e4,()),(),()),())) (fun r0 r1 r2 r3=>c ((),((r0,r1,r2,r3,()),(),()),())) v.1.1 v.1.2.1 v.1.2.2.1 v.2.1.1.1 v.2.1.1.2.1 v.2.1.1.2.2.1 v.2.1.1.2.2.2.1
theorem Za:dV Ny 187 yG AZ:=lW (KJ) (h2:=by intros;simp only[KJ,vY,cO,cZ,aY,bW,dh])
def Ec {γ:Type} (a:sF.den->Option γ) (b:wR.den->Option γ) (c:wY.den->Option γ) (v:sF.den):Option γ:=qx (fun v0 v1 v2 v3 v4 v5 v6=>a ((v0,v1,v2,()),((v3,v4,v5,v6,()),(),()),())) (fun e0 e1 e2 e3 e4=>b ((e0,()),((e1,e2,e3,e4,()),(),()),())) (fun r0 r1 r2 r3=>c ((),((r0,r1,r2,r3,()),(),()),())) v.1.1 v.1.2.1 v.1.2.2.1 v.2.1.1.1 v.2.1.1.2.1 v.2.1.1.2.2.1 v.2.1.1.2.2.2.1
theorem Qv:dV Ny 187 yG wK:=lW (Ec) (h2:=by intros;simp only[Ec,qx,cO,cZ,aY,bW,dh])
theorem abn:dJ Ny 187 MO:=zK [yG] (aD (fun L h=>by rw[show(Ny).lp 187 (bP yG)=some (lg AZ wK) by kernel_rfl]at h;cases h;exact pK Za Qv) aN)
theorem agx:dm Ny:=eB (aD SL (aD ait aN)) [187] (aD ⟨f187,MO,by kernel_rfl,by kernel_rfl,abn⟩ aN)
theorem Jy:dN prog 265 WW:=sA agx
def Q4 (x0:bH) (x1:Int):Option EU:=aZ (NR x0 x1) fun y0=>bif(iq 0 y0.1)then some (y0.1,())else bif(iq x1 0)then some (0,())else bif(leI (bi x0) x1)then some (0,())else bif(fU x0 x1)then bif(bD (bK x0 x1) 64)then bif(bD (bK x0 x1) 64)then some (1,())else aZ (xK x0 x1) fun y1=>some ((EF y1.1 1),())else bif(bD (bK x0 x1) 42)then bif(bD (bK x0 x1) 42)then some (1,())else aZ (xK x0 x1) fun y1=>some ((EF y1.1 1),())else bif(bD (bK x0 x1) 35)then bif(bD (bK x0 x1) 35)then some (1,())else aZ (xK x0 x1) fun y1=>some ((EF y1.1 1),())else bif(bD (bK x0 x1) 63)then bif(bD (bK x0 x1) 63)then some (1,())else aZ (xK x0 x1) fun y1=>some ((EF y1.1 1),())else bif(bD (bK x0 x1) 45)then bif(bD (bK x0 x1) 45)then some (1,())else aZ (xK x0 x1) fun y1=>some ((EF y1.1 1),())else bif(bD (bK x0 x1) 36)then bif(bD (bK x0 x1) 36)then some (1,())else aZ (xK x0 x1) fun y1=>some ((EF y1.1 1),())else bif(bD (bK x0 x1) 33)then some (1,())else aZ (xK x0 x1) fun y1=>some ((EF y1.1 1),())else none
def anC:Sum:=⟨[.str,bV],tzE,fun x=>Q4 x.1 x.2.1⟩
noncomputable def att:Env:=gz prog tt 242 [(154,WR),(265,WW)] [] []
theorem agf:dm att:=eA f242 (aD Js (aD Jy aN))
theorem aio:dN prog 242 anC:=sA agf
noncomputable def aoj:Code:=(f213.body).getD .skip
noncomputable def aiZ:Code:=cA (cA (cB (cA (cB (cB (cB (aoj)))))))
noncomputable def acn:Code:=cA (cA (cB (cA (cB (cB (cB (cB (aoj))))))))
def akY:dE:=⟨[0,3,4,12,13,100004],[(100000900,.pair (.list .unit) H9),(100000901,.pair (.list .unit) bV)],[0,3],[],[2],[(2,H9)]⟩
def ado:dE:=⟨[0,3,31,32,100010],[],[3],[],[2],[(2,H9)]⟩
def apf:dE:=⟨[0,3],[],[],[],[],[]⟩
def apg:dE:=⟨[0,3,4,5,12,13],[],[],[],[],[]⟩
def Vk:SP:=⟨us [.v .str,.u,.u,.ptr 1000009 0,.ptr 2000004 0,.u,.u,.u,.u,.u,.u,.u,.v bV,.v bV] 65,[.box 2000004 213 [.slc 2000002,.v .bool,.v bV],.arr 2000002 Qa,.arr 1502009 bV,.arr 1500009 H9,.box 1000009 230 [.slc 1500009,.slc 1502009]]⟩
def VF:SP:=⟨us [.v .str,.u,.u,.ptr 1000009 0] 75,[.arr 1502009 bV,.arr 1500009 H9,.box 1000009 230 [.slc 1500009,.slc 1502009]]⟩
def VX:SP:=⟨us [.u,.u,.v (.list H9)] 76,[]⟩
def LU {γ:Type} (rec:bH->Int->Int->Bool->Int->(List mg)->gX->(List jX)->Option γ) (kE:bH->gX->(List jX)->Option γ) (kR:(List jX)->Option γ) (v0:bH) (v1 v2:Int) (v3:Bool) (v4:Int) (v5:List mg) (v6:gX) (v7:List jX):Option γ:=bif(iq v2 v1)then bif(fU v0 v2)then aZ (QZ v5 v3 v4 (bK v0 v2)) fun y0=>bif(bD (bi y0.1.1) 0)then aZ (X3 v7 v6 [(0,(0,()))] v2) fun y1=>rec v0 v1 (bT .i64 v2 1) y0.1.2.1 y0.1.2.2.1 y0.1.1 y1.1.2.1 y1.1.1 else aZ (lS y0.1.1) fun y1=>aZ (X3 v7 v6 y1.1 v2) fun y2=>rec v0 v1 (bT .i64 v2 1) y0.1.2.1 y0.1.2.2.1 y0.1.1 y2.1.2.1 y2.1.1 else none else kE v0 v6 v7
def GG:Nat->bH->Int->Int->Bool->Int->(List mg)->gX->(List jX)->Option (VF.den⊕VX.den)
 |0,_,_,_,_,_,_,_,_=>none
 |n+1,v0,v1,v2,v3,v4,v5,v6,v7=>LU (GG n) (fun e0 e1 e2=>some (.inl ((e0,()),(e1,e2,(),())))) (fun r0=>some (.inr ((r0,()),()))) v0 v1 v2 v3 v4 v5 v6 v7
def apV (n:Nat) (v:Vk.den):=GG n v.1.1 v.1.2.1 v.1.2.2.1 v.2.1.1 v.2.1.2.1 v.2.2.1 v.2.2.2.1 v.2.2.2.2.1
noncomputable def adE:dw:=iO akY Vk VF VX (.exit 0) (apV bC) 6
def Lj:SP:=⟨us [.v .str,.u,.u,.ptr 1000009 0,.u,.u,.u,.u,.u,.u,.u,.u,.u,.u,.u,.u,.u,.u,.u,.u,.u,.u,.u,.u,.u,.u,.u,.u,.u,.u,.u,.v bV,.v bV] 46,[.arr 1502009 bV,.arr 1500009 H9,.box 1000009 230 [.slc 1500009,.slc 1502009]]⟩
def OM:SP:=⟨us [.u,.u,.u,.ptr 1000009 0] 75,[.arr 1502009 bV,.arr 1500009 H9,.box 1000009 230 [.slc 1500009,.slc 1502009]]⟩
def OV:SP:=⟨us [.u,.u,.v (.list H9)] 76,[]⟩
def dI (v4:List jX) (v2:Int):=bY v4 (0,(0,(0,(0,(false,()))))) (bU v2)
def iJ (v4:List jX) (v2:Int) (v0:bH):=gp v4 (bU v2) ((dI v4 v2).1,((dI v4 v2).2.1,((bi v0),((dI v4 v2).2.2.2.1,((dI v4 v2).2.2.2.2.1,())))))
def dM (v4:List jX) (v2:Int) (v0:bH):=bY (iJ v4 v2 v0) (0,(0,(0,(0,(false,()))))) (bU v2)
def Ht {γ:Type} (rec:bH->Int->Int->gX->(List jX)->Option γ) (kE:gX->(List jX)->Option γ) (kR:(List jX)->Option γ) (v0:bH) (v1 v2:Int) (v3:gX) (v4:List jX):Option γ:=bif(iq v2 v1)then bif(fU v4 v2)then bif(nH (bU v2) v4)then bif(dI v4 v2).2.2.2.2.1 then bif(nH (bU v2) v4)then bif(nH (bU v2) (iJ v4 v2 v0))then bif(bD (dM v4 v2 v0).1 12)then bif(nH (bU v2) (iJ v4 v2 v0))then bif(nH (bU v2) (iJ v4 v2 v0))then aZ (Q4 v0 (bT .i64 (dM v4 v2 v0).2.1 1)) fun y0=>bif(nH (bU v2) (iJ v4 v2 v0))then bif((eqN (bU v2) (bU v2))&&true)then bif((eqN (bU v2) (bU v2))&&true)then bif(nH (bU v2) (gp (iJ v4 v2 v0) (bU v2) ((dM v4 v2 v0).1,((dM v4 v2 v0).2.1,((bT .i64 (bT .i64 (dM v4 v2 v0).2.1 1) y0.1),((dM v4 v2 v0).2.2.2.1,((dM v4 v2 v0).2.2.2.2.1,())))))))then bif((eqN (bU v2) (bU v2))&&true)then rec v0 v1 (bT .i64 v2 1) v3 (gp (gp (iJ v4 v2 v0) (bU v2) ((dM v4 v2 v0).1,((dM v4 v2 v0).2.1,((bT .i64 (bT .i64 (dM v4 v2 v0).2.1 1) y0.1),((dM v4 v2 v0).2.2.2.1,((dM v4 v2 v0).2.2.2.2.1,())))))) (bU v2) ((bY (gp (iJ v4 v2 v0) (bU v2) ((dM v4 v2 v0).1,((dM v4 v2 v0).2.1,((bT .i64 (bT .i64 (dM v4 v2 v0).2.1 1) y0.1),((dM v4 v2 v0).2.2.2.1,((dM v4 v2 v0).2.2.2.2.1,())))))) (0,(0,(0,(0,(false,()))))) (bU v2)).1,((bY (gp (iJ v4 v2 v0) (bU v2) ((dM v4 v2 v0).1,((dM v4 v2 v0).2.1,((bT .i64 (bT .i64 (dM v4 v2 v0).2.1 1) y0.1),((dM v4 v2 v0).2.2.2.1,((dM v4 v2 v0).2.2.2.2.1,())))))) (0,(0,(0,(0,(false,()))))) (bU v2)).2.1,((bY (gp (iJ v4 v2 v0) (bU v2) ((dM v4 v2 v0).1,((dM v4 v2 v0).2.1,((bT .i64 (bT .i64 (dM v4 v2 v0).2.1 1) y0.1),((dM v4 v2 v0).2.2.2.1,((dM v4 v2 v0).2.2.2.2.1,())))))) (0,(0,(0,(0,(false,()))))) (bU v2)).2.2.1,((bY (gp (iJ v4 v2 v0) (bU v2) ((dM v4 v2 v0).1,((dM v4 v2 v0).2.1,((bT .i64 (bT .i64 (dM v4 v2 v0).2.1 1) y0.1),((dM v4 v2 v0).2.2.2.1,((dM v4 v2 v0).2.2.2.2.1,())))))) (0,(0,(0,(0,(false,()))))) (bU v2)).2.2.2.1,(false,()))))))else none else none else none else none else none else none else none else rec v0 v1 (bT .i64 v2 1) v3 (iJ v4 v2 v0)else none else none else bif(nH (bU v2) v4)then bif(bD (dI v4 v2).1 12)then bif(nH (bU v2) v4)then bif(nH (bU v2) v4)then aZ (Q4 v0 (bT .i64 (dI v4 v2).2.1 1)) fun y0=>bif(nH (bU v2) v4)then bif((eqN (bU v2) (bU v2))&&true)then bif((eqN (bU v2) (bU v2))&&true)then bif(nH (bU v2) (gp v4 (bU v2) ((dI v4 v2).1,((dI v4 v2).2.1,((bT .i64 (bT .i64 (dI v4 v2).2.1 1) y0.1),((dI v4 v2).2.2.2.1,((dI v4 v2).2.2.2.2.1,())))))))then bif((eqN (bU v2) (bU v2))&&true)then rec v0 v1 (bT .i64 v2 1) v3 (gp (gp v4 (bU v2) ((dI v4 v2).1,((dI v4 v2).2.1,((bT .i64 (bT .i64 (dI v4 v2).2.1 1) y0.1),((dI v4 v2).2.2.2.1,((dI v4 v2).2.2.2.2.1,())))))) (bU v2) ((bY (gp v4 (bU v2) ((dI v4 v2).1,((dI v4 v2).2.1,((bT .i64 (bT .i64 (dI v4 v2).2.1 1) y0.1),((dI v4 v2).2.2.2.1,((dI v4 v2).2.2.2.2.1,())))))) (0,(0,(0,(0,(false,()))))) (bU v2)).1,((bY (gp v4 (bU v2) ((dI v4 v2).1,((dI v4 v2).2.1,((bT .i64 (bT .i64 (dI v4 v2).2.1 1) y0.1),((dI v4 v2).2.2.2.1,((dI v4 v2).2.2.2.2.1,())))))) (0,(0,(0,(0,(false,()))))) (bU v2)).2.1,((bY (gp v4 (bU v2) ((dI v4 v2).1,((dI v4 v2).2.1,((bT .i64 (bT .i64 (dI v4 v2).2.1 1) y0.1),((dI v4 v2).2.2.2.1,((dI v4 v2).2.2.2.2.1,())))))) (0,(0,(0,(0,(false,()))))) (bU v2)).2.2.1,((bY (gp v4 (bU v2) ((dI v4 v2).1,((dI v4 v2).2.1,((bT .i64 (bT .i64 (dI v4 v2).2.1 1) y0.1),((dI v4 v2).2.2.2.1,((dI v4 v2).2.2.2.2.1,())))))) (0,(0,(0,(0,(false,()))))) (bU v2)).2.2.2.1,(false,()))))))else none else none else none else none else none else none else none else rec v0 v1 (bT .i64 v2 1) v3 v4 else none else none else none else kE v3 v4
def xR:Nat->bH->Int->Int->gX->(List jX)->Option (OM.den⊕OV.den)
 |0,_,_,_,_,_=>none
 |n+1,v0,v1,v2,v3,v4=>Ht (xR n) (fun e0 e1=>some (.inl ((),(e0,e1,(),())))) (fun r0=>some (.inr ((r0,()),()))) v0 v1 v2 v3 v4
def alz (n:Nat) (v:Lj.den):=xR n v.1.1 v.1.2.1 v.1.2.2.1 v.2.1 v.2.2.1
noncomputable def YS:dw:=iO ado Lj OM OV (.exit 2) (alz bC) 12
def ac1 (x0:bH):Option ((List jX)×Unit):=aZ (GG bC x0 (bi x0) 0 true 0 [(0,(0,()))] [] []) fun y0=>dA y0 (fun a1=>aZ (xR bC a1.1.1 (bi a1.2.2.1) 0 a1.2.1 a1.2.2.1) fun y2=>dA y2 (fun a3=>some (a3.2.2.1,())) (fun b3=>some (b3.1.1,()))) (fun b1=>some (b1.1.1,()))
def anq:Sum:=⟨[.str],[(.list H9,false)],fun x=>ac1 x.1⟩
noncomputable def TU:Env:=dK prog tt [(240,wo),(242,anC)] [(213,4,akY),(213,10,ado),(213,600002,apf),(213,600007,apg)] [(213,4,adE),(213,10,YS)] [] [(174,WS),(241,anB)]
def aep {γ:Type} (a:Vk.den->Option γ) (b:VF.den->Option γ) (c:VX.den->Option γ) (v:Vk.den):Option γ:=LU (fun v0 v1 v2 v3 v4 v5 v6 v7=>a ((v0,v1,v2,()),((v3,v4,()),v5,v6,v7,(),()))) (fun e0 e1 e2=>b ((e0,()),(e1,e2,(),()))) (fun r0=>c ((r0,()),())) v.1.1 v.1.2.1 v.1.2.2.1 v.2.1.1 v.2.1.2.1 v.2.2.1 v.2.2.2.1 v.2.2.2.2.1
theorem aqh:dV TU 213 aiZ adE:=lpS (aep) (h2:=by intros;simp only[aep,LU,cO,cZ,aY,bW,dh])
def Zv {γ:Type} (a:Lj.den->Option γ) (b:OM.den->Option γ) (c:OV.den->Option γ) (v:Lj.den):Option γ:=Ht (fun v0 v1 v2 v3 v4=>a ((v0,v1,v2,()),(v3,v4,(),()))) (fun e0 e1=>b ((),(e0,e1,(),()))) (fun r0=>c ((r0,()),())) v.1.1 v.1.2.1 v.1.2.2.1 v.2.1 v.2.2.1
theorem alR:dV TU 213 acn YS:=lpS (Zv) (h2:=by intros;simp only[Zv,Ht,cO,cZ,aY,bW,dh,dI,iJ,dM])
theorem auJ:dJ TU 213 aoj:=zK [aiZ,acn] (aD (fM (aqh)) (aD (fM (alR)) aN))
theorem af1:dm TU:=eB (aD uC (aD aio aN)) [213] (aD ⟨f213,aoj,by kernel_rfl,by kernel_rfl,auJ⟩ aN) (hx:=(aD Jt (aD ain aN)))
theorem aie:dN prog 213 anq:=sA af1
def ac0 (x0:List mg) (x1:Bool) (x2:Int):Option (W9×ou):=bif x1 then some ((x0,(x1,(x2,()))),(true,()))else some ((x0,(x1,(x2,()))),((bD (bi x0) 0),()))
def ano:fV:=⟨213,tzB,[],[.bool],fun x y=>ac0 x.1 x.2.1 x.2.2.1⟩
noncomputable def atg:Env:=dK prog tt [] [] [] []
theorem afZ:dm atg:=eB aN [] aN
theorem aic:dO prog 210 ano:=sB afZ
noncomputable def asr:Code:=(f175.body).getD .skip
noncomputable def aiX:Code:=cA (cA (cB (cA (cB (cB (asr))))))
def akW:dE:=⟨[0,4,8,9,100003],[],[4],[],[2,3],[(2,Qa)]⟩
def apa:dE:=⟨[0],[],[],[],[],[]⟩
def apb:dE:=⟨[4],[],[],[],[],[]⟩
def Vh:SP:=⟨us [.v .str,.u,.u,.u,.ptr 2000004 0,.u,.u,.u,.v bV,.v bV] 12,[.box 2000004 213 [.slc 2000002,.v .bool,.v bV],.arr 2000002 Qa]⟩
def VC:SP:=⟨us [.u,.u,.u,.u,.ptr 2000004 0] 17,[.box 2000004 213 [.slc 2000002,.v .bool,.v bV],.arr 2000002 Qa]⟩
def VV:SP:=⟨us [.u,.u,.v (.list Qa),.v .bool] 18,[]⟩
def LP {γ:Type} (rec:bH->Int->Int->Bool->Int->(List mg)->Option γ) (kE:Bool->Int->(List mg)->Option γ) (kR:(List mg)->Bool->Option γ) (v0:bH) (v1 v2:Int) (v3:Bool) (v4:Int) (v5:List mg):Option γ:=bif(iq v2 v1)then bif(fU v0 v2)then aZ (QZ v5 v3 v4 (bK v0 v2)) fun y0=>rec v0 v1 (bT .i64 v2 1) y0.1.2.1 y0.1.2.2.1 y0.1.1 else none else kE v3 v4 v5
def Gx:Nat->bH->Int->Int->Bool->Int->(List mg)->Option (VC.den⊕VV.den)
 |0,_,_,_,_,_,_=>none
 |n+1,v0,v1,v2,v3,v4,v5=>LP (Gx n) (fun e0 e1 e2=>some (.inl ((),((e0,e1,()),e2,())))) (fun r0 r1=>some (.inr ((r0,r1,()),()))) v0 v1 v2 v3 v4 v5
def apT (n:Nat) (v:Vh.den):=Gx n v.1.1 v.1.2.1 v.1.2.2.1 v.2.1.1 v.2.1.2.1 v.2.2.1
noncomputable def adC:dw:=iO akW Vh VC VV (.exit 0) (apT bC) 6
def acS (x0:bH):Option ((List mg)×Bool×Unit):=aZ (Gx bC x0 (bi x0) 0 true 0 [(0,(0,()))]) fun y0=>dA y0 (fun a1=>bif(bD (bi a1.2.2.1) 0)then aZ (ac0 a1.2.2.1 a1.2.1.1 a1.2.1.2.1) fun y2=>some ([(0,(0,()))],(y2.2.1,()))else aZ (lS a1.2.2.1) fun y2=>aZ (ac0 a1.2.2.1 a1.2.1.1 a1.2.1.2.1) fun y3=>some (y2.1,(y3.2.1,()))) (fun b1=>some (b1.1.1,(b1.1.2.1,())))
def ane:Sum:=⟨[.str],[(.list Qa,false),(.bool,false)],fun x=>acS x.1⟩
noncomputable def aaz:Env:=dK prog tt [(240,wo)] [(175,3,akW),(175,600001,apa),(175,600007,apb)] [(175,3,adC)] [] [(174,WS),(210,ano)]
def aen {γ:Type} (a:Vh.den->Option γ) (b:VC.den->Option γ) (c:VV.den->Option γ) (v:Vh.den):Option γ:=LP (fun v0 v1 v2 v3 v4 v5=>a ((v0,v1,v2,()),((v3,v4,()),v5,()))) (fun e0 e1 e2=>b ((),((e0,e1,()),e2,()))) (fun r0 r1=>c ((r0,r1,()),())) v.1.1 v.1.2.1 v.1.2.2.1 v.2.1.1 v.2.1.2.1 v.2.2.1
theorem aqf:dV aaz 175 aiX adC:=lpS (aen) (h2:=by intros;simp only[aen,LP,cO,cZ,aY,bW,dh])
theorem auH:dJ aaz 175 asr:=zK [aiX] (aD (fM (aqf)) aN)
theorem afJ:dm aaz:=eB (aD uC aN) [175] (aD ⟨f175,asr,by kernel_rfl,by kernel_rfl,auH⟩ aN) (hx:=(aD Jt (aD aic aN)))
theorem ah2:dN prog 175 ane:=sA afJ
def acR (x0:List mg) (x1:Bool) (x2 x3:Int):Option (W9×ou):=aZ (DN x3) fun y0=>bif(!y0.1)then some ((x0,(x1,(x2,()))),(false,()))else bif(bD (bi x0) 1)then some ((x0,(x1,(x2,()))),(true,()))else bif(bD (bi x0) 2)then bif(fU x0 1)then bif(nH (bU 1) x0)then bif(bD (bY x0 (0,(0,())) (bU 1)).1 12)then some ((x0,(x1,(x2,()))),((!(bD x3 40)),()))else some ((x0,(x1,(x2,()))),(false,()))else none else none else some ((x0,(x1,(x2,()))),(false,()))
def anc:fV:=⟨213,tzB,[.int .u8],[.bool],fun x y=>acR x.1 x.2.1 x.2.2.1 y.1⟩
noncomputable def as1:Env:=dK prog tt [(204,ab6)] [] [] []
theorem afH:dm as1:=eB (aD SN aN) [] aN
theorem ah1:dO prog 173 anc:=sB afH
noncomputable def aso:Code:=(f144.body).getD .skip
noncomputable def aiV:Code:=cA (cA (cA (cB (cB (cB (aso))))))
def akU:dE:=⟨[0,1,5,100004],[],[1],[],[4],[]⟩
def ao2:dE:=⟨[0,1],[],[],[],[],[]⟩
def Ve:SP:=⟨us [.v .str,.v bV,.u,.u,.u,.ptr 2000004 0] 27,[.box 2000004 213 [.slc 2000002,.v .bool,.v bV],.arr 2000002 Qa]⟩
def Vz:SP:=⟨us [.u,.v bV] 31,[]⟩
def VS:SP:=⟨us [.u,.u,.u,.u,.v bV] 28,[]⟩
def LM {γ:Type} (rec:bH->Int->Bool->Int->(List mg)->Option γ) (kE kR:Int->Option γ) (v0:bH) (v1:Int) (v2:Bool) (v3:Int) (v4:List mg):Option γ:=bif(iq v1 (bi v0))then bif(fU v0 v1)then aZ (acR v4 v2 v3 (bK v0 v1)) fun y0=>bif y0.2.1 then kR v1 else bif(fU v0 v1)then aZ (QZ y0.1.1 y0.1.2.1 y0.1.2.2.1 (bK v0 v1)) fun y1=>rec v0 (bT .i64 v1 1) y1.1.2.1 y1.1.2.2.1 y1.1.1 else none else none else kE v1
def Gu:Nat->bH->Int->Bool->Int->(List mg)->Option (Vz.den⊕VS.den)
 |0,_,_,_,_,_=>none
 |n+1,v0,v1,v2,v3,v4=>LM (Gu n) (fun e0=>some (.inl ((e0,()),()))) (fun r0=>some (.inr ((r0,()),()))) v0 v1 v2 v3 v4
def apQ (n:Nat) (v:Ve.den):=Gu n v.1.1 v.1.2.1 v.2.1.1 v.2.1.2.1 v.2.2.1
noncomputable def adA:dw:=iO akU Ve Vz VS (.exit 0) (apQ bC) 6
def XV (x0:bH) (x1:Int):Option EU:=bif(iq x1 0)then some ((-1),())else bif(iq (bi x0) x1)then some ((-1),())else aZ (Gu bC x0 x1 true 0 [(0,(0,()))]) fun y0=>dA y0 (fun a1=>some (a1.1.1,())) (fun b1=>some (b1.1.1,()))
def am3:Sum:=⟨[.str,bV],tzE,fun x=>XV x.1 x.2.1⟩
noncomputable def aav:Env:=dK prog tt [] [(144,4,akU),(144,600003,ao2)] [(144,4,adA)] [] [(173,anc),(174,WS)]
def aek {γ:Type} (a:Ve.den->Option γ) (b:Vz.den->Option γ) (c:VS.den->Option γ) (v:Ve.den):Option γ:=LM (fun v0 v1 v2 v3 v4=>a ((v0,v1,()),((v2,v3,()),v4,()))) (fun e0=>b ((e0,()),())) (fun r0=>c ((r0,()),())) v.1.1 v.1.2.1 v.2.1.1 v.2.1.2.1 v.2.2.1
theorem aqc:dV aav 144 aiV adA:=lpS (aek) (h2:=by intros;simp only[aek,LM,cO,cZ,aY,bW,dh])
theorem auB:dJ aav 144 aso:=zK [aiV] (aD (fM (aqc)) aN)
theorem afu:dm aav:=eB aN [144] (aD ⟨f144,aso,by kernel_rfl,by kernel_rfl,auB⟩ aN) (hx:=(aD ah1 (aD Jt aN)))
theorem ahU:dN prog 144 am3:=sA afu
def FY (x0:Int):Option Xe:=bif(bD x0 9)then some ([41,41],())else bif(bD x0 13)then bif(bD x0 13)then some ([10],())else some ([],())else bif(bD x0 14)then some ([10],())else some ([],())
def acU (x0:Int):Option Xe:=bif(bD x0 1)then bif(bD x0 1)then some ([41],())else FY x0 else bif(bD x0 3)then bif(bD x0 3)then some ([41],())else FY x0 else bif(bD x0 2)then bif(bD x0 2)then some ([41],())else FY x0 else bif(bD x0 10)then bif(bD x0 10)then some ([41],())else FY x0 else bif(bD x0 11)then some ([41],())else FY x0
def acT (x0:Int):Option Xe:=bif(bD x0 4)then some ([39],())else bif(bD x0 5)then some ([34],())else bif(bD x0 6)then some ([96],())else bif(bD x0 7)then bif(bD x0 7)then some ([125],())else acU x0 else bif(bD x0 8)then some ([125],())else acU x0
def anf:Sum:=⟨[bV],tzF,fun x=>acT x.1⟩
noncomputable def as2:Env:=gz prog tt 177 [] [] []
theorem afK:dm as2:=eA f177 aN
theorem ah3:dN prog 177 anf:=sA afK
noncomputable def Tu:Code:=(f145.body).getD .skip
noncomputable def MH:Code:=(f211.body).getD .skip
noncomputable def MX:Code:=cA (cA (cB (MH)))
def Og:dE:=⟨[0,1,3,212000001],[],[],[],[],[]⟩
def apz:dE:=⟨[2,5],[],[],[],[],[]⟩
def ao3:dE:=⟨[2,3,5],[],[],[],[],[]⟩
def Yp:dE:=⟨[0,1,3],[],[],[],[],[]⟩
def yZ:SQ:=⟨us [.yld 1700014,.ptr 2000001 0,.u,.v bV] 15,[us [.u,.u,.v .str,.u,.u,.ptr 1000005 0] 15,[.yld 1700014],[]],[.lp 1700014 145 (us [.u,.u,.v .str,.u,.u,.ptr 1000005 0] 15) [14] 5 0 none,.box 2000001 187 [.v (.list Qa)],.box 1000005 67 [.slc 1500005],.arr 1500005 (.int .u8)]⟩
def Bj:SQ:=⟨us [] 19,[us [.u,.u,.v .str,.u,.u,.ptr 1000005 0] 15,[.yld 1700014],[]],[.lp 1700014 145 (us [.u,.u,.v .str,.u,.u,.ptr 1000005 0] 15) [14] 5 0 none,.box 2000001 187 [.v (.list Qa)],.box 1000005 67 [.slc 1500005],.arr 1500005 (.int .u8)]⟩
def BC:SQ:=⟨us [] 19,[us [.u,.u,.v .str,.u,.u,.ptr 1000005 0] 15,[.yld 1700014],[]],[]⟩
def qW {γ:Type} (rec:Int->bH->bH->(List mg)->gX->Option γ) (kE:bH->bH->(List mg)->gX->Option γ) (kR:bH->Option γ) (v0:Int) (v1 v2:bH) (v3:List mg) (v4:gX):Option γ:=bif(leI 0 v0)then bif(fU v3 v0)then aZ (acT (eu v3 (0,(0,())) v0).1) fun y0=>bif(dY (bF v4 (bJ y0.1)) 1)then bif(bD (eu v3 (0,(0,())) v0).1 (eu v3 (0,(0,())) v0).1)then rec (eY .i64 v0 1) v1 v2 v3 (bF v4 (bJ y0.1))else none else none else none else kE v1 v2 v3 v4
def nV:Nat->Int->bH->bH->(List mg)->gX->Option (Bj.den⊕BC.den)
 |0,_,_,_,_,_=>none
 |n+1,v0,v1,v2,v3,v4=>qW (nV n) (fun e0 e1 e2 e3=>some (.inl ((),((e0,()),(),(),()),((e1,()),(e2,()),(),e3,())))) (fun r0=>some (.inr ((),((r0,()),(),(),()),()))) v0 v1 v2 v3 v4
def YK (n:Nat) (v:yZ.den):=nV n v.1.1 v.2.1.1.1 v.2.2.1.1 v.2.2.2.1.1 v.2.2.2.2.2.1
noncomputable def JX:dw:=fE Og yZ Bj BC (.exit 0) (YK bC) 6
def acL (x0:bH):Option Xe:=aZ (acS x0) fun y0=>aZ (nV bC (eY .i64 (bi y0.1) 1) [] [] y0.1 []) fun y1=>dA y1 (fun a2=>some ((ofBytes a2.2.2.2.2.2.1),())) (fun b2=>none)
def am4:Sum:=⟨[.str],tzF,fun x=>acL x.1⟩
noncomputable def TS:Env:=dK prog tt [(175,ane),(177,anf)] [(211,1,Og),(145,500005,apz),(145,600003,ao3),(211,600003,Yp)] [(211,1,JX)] [145]
def KC {γ:Type} (a:yZ.den->Option γ) (b:Bj.den->Option γ) (c:BC.den->Option γ) (v:yZ.den):Option γ:=qW (fun v0 v1 v2 v3 v4=>a ((v0,()),((v1,()),(),(),()),((v2,()),(v3,()),(),v4,()))) (fun e0 e1 e2 e3=>b ((),((e0,()),(),(),()),((e1,()),(e2,()),(),e3,()))) (fun r0=>c ((),((r0,()),(),(),()),())) v.1.1 v.2.1.1.1 v.2.2.1.1 v.2.2.2.1.1 v.2.2.2.2.2.1
theorem Y3:dV TS 211 MX JX:=lW (KC) (h2:=by intros;simp only[KC,qW,cO,cZ,aY,bW,dh])
theorem aup:iG Tu=[]:=by kernel_rfl
theorem avG:iI Tu=[(cA (cA (cB (cA (cB (cB (cB (Tu))))))),cB (cA (cB (cA (cB (cB (cB (Tu))))))))]:=by kernel_rfl
theorem auC:dJ TS 145 Tu:=kH Tu (by rw[avG];exact(aD (fun _=>(show mW 145 5=some (cA (cA (cB (cA (cB (cB (cB (Tu))))))),cB (cA (cB (cA (cB (cB (cB (Tu)))))))) by kernel_rfl)) aN)) (by rw[aup];exact aN)
theorem abf:dJ TS 211 MH:=zK [MX] (aD (fM (Y3)) aN)
theorem afv:dm TS:=eB (aD ah2 (aD ah3 aN)) [145,211] (aD ⟨f145,Tu,by kernel_rfl,by kernel_rfl,auC⟩ (aD ⟨f211,MH,by kernel_rfl,by kernel_rfl,abf⟩ aN))
theorem ahV:dN prog 145 am4:=sA afv
def arj (x0:Int):Option Xe:=bif(bD x0 10)then some ([62,124],())else bif(bD x0 11)then some ([60],())else bif(bD x0 12)then some ([62],())else bif(bD x0 13)then some ([38],())else bif(bD x0 14)then some ([59],())else bif(bD x0 15)then some ([124],())else bif(bD x0 16)then some ([40],())else bif(bD x0 17)then some ([41],())else some ([],())
def anp:Sum:=⟨[bV],tzF,fun x=>arj x.1⟩
noncomputable def ath:Env:=gz prog tt 212 [] [] []
theorem af0:dm ath:=eA f212 aN
theorem aid:dN prog 212 anp:=sA af0
def acV (x0:Int):Option Xe:=bif(bD x0 1)then some ([38,38],())else bif(bD x0 2)then some ([124,124],())else bif(bD x0 3)then some ([59,59],())else bif(bD x0 4)then some ([60,60],())else bif(bD x0 5)then some ([60,60,45],())else bif(bD x0 6)then some ([62,62],())else bif(bD x0 7)then some ([60,38],())else bif(bD x0 8)then some ([62,38],())else bif(bD x0 9)then some ([60,62],())else aZ (arj x0) fun y0=>some (y0.1,())
def ang:Sum:=⟨[bV],tzF,fun x=>acV x.1⟩
noncomputable def as3:Env:=gz prog tt 178 [(212,anp)] [] []
theorem afL:dm as3:=eA f178 (aD aid aN)
theorem ah4:dN prog 178 ang:=sA afL
noncomputable def awd:Code:=(f146.body).getD .skip
noncomputable def aiW:Code:=cA (cA (cB (cA (cB (cB (awd))))))
def akV:dE:=⟨[0,3,100004],[],[],[],[2],[]⟩
def Vf:SP:=⟨us [.v .str,.u,.u,.v bV] 11,[]⟩
def VA:SP:=⟨us [] 15,[]⟩
def VT:SP:=⟨us [.u,.u,.v bV] 12,[]⟩
def Hr {γ:Type} (rec:bH->Int->Option γ) (kE:Option γ) (kR:Int->Option γ) (v0:bH) (v1:Int):Option γ:=bif(leI v1 17)then aZ (acV v1) fun y0=>bif(gQ y0.1 v0)then kR v1 else rec v0 (bT .i64 v1 1)else kE
def yT:Nat->bH->Int->Option (VA.den⊕VT.den)
 |0,_,_=>none
 |n+1,v0,v1=>Hr (yT n) (some (.inl ((),()))) (fun r0=>some (.inr ((r0,()),()))) v0 v1
def apR (n:Nat) (v:Vf.den):=yT n v.1.1 v.1.2.1
noncomputable def adB:dw:=iO akV Vf VA VT (.exit 0) (apR bC) 6
def JK (x0:bH):Option EU:=bif(gQ x0 [])then some (0,())else aZ (yT bC x0 1) fun y0=>dA y0 (fun a1=>some (0,())) (fun b1=>some (b1.1.1,()))
def WP:Sum:=⟨[.str],tzE,fun x=>JK x.1⟩
noncomputable def aaw:Env:=gz prog tt 146 [(178,ang)] [(4,akV)] [(4,adB)]
def ael {γ:Type} (a:Vf.den->Option γ) (b:VA.den->Option γ) (c:VT.den->Option γ) (v:Vf.den):Option γ:=Hr (fun v0 v1=>a ((v0,v1,()),())) (b ((),())) (fun r0=>c ((r0,()),())) v.1.1 v.1.2.1
theorem aqd:dV aaw 146 aiW adB:=lpS (ael) (h2:=by intros;simp only[ael,Hr,cO,cZ,aY,bW,dh])
theorem auD:dJ aaw 146 awd:=zK [aiW] (aD (fM (aqd)) aN)
theorem afw:dm aaw:=eA f146 (aD ah4 aN) (auD)
theorem Jq:dN prog 146 WP:=sA afw
noncomputable def av9:Code:=(Tryz.f138.body).getD .skip
noncomputable def aiT:Code:=cA (cA (cA (cB (cB (cB (cA (cB (av9))))))))
def akS:dE:=⟨[0,1,4,5,100004],[],[4,5],[],[4,5],[]⟩
def Vb:SP:=⟨us [.v .str,.v bV,.u,.u,.v bV,.v bV] 35,[]⟩
def Vx:SP:=⟨us [.u,.u,.u,.u,.v bV,.v bV] 35,[]⟩
def VQ:SP:=⟨us [.u,.u,.u,.u,.v bV,.v bV] 35,[]⟩
def LJ {γ:Type} (rec:bH->Int->Int->Int->Option γ) (kE kR:Int->Int->Option γ) (v0:bH) (v1 v2 v3:Int):Option γ:=bif(iq 0 v3)then bif(gW (bi v0) v1 (bT .i64 v1 v3))then aZ (JK (sub v0 v1 (bT .i64 v1 v3))) fun y0=>bif(!(bD y0.1 0))then kE y0.1 v3 else rec v0 v1 y0.1 (eY .i64 v3 1)else none else kE v2 v3
def Gs:Nat->bH->Int->Int->Int->Option (Vx.den⊕VQ.den)
 |0,_,_,_,_=>none
 |n+1,v0,v1,v2,v3=>LJ (Gs n) (fun e0 e1=>some (.inl ((e0,e1,()),()))) (fun r0 r1=>some (.inr ((r0,r1,()),()))) v0 v1 v2 v3
def apO (n:Nat) (v:Vb.den):=Gs n v.1.1 v.1.2.1 v.1.2.2.1 v.1.2.2.2.1
noncomputable def ady:dw:=iO akS Vb Vx VQ (.exit 0) (apO bC) 6
def acJ (x0:bH) (x1:Int):Option mg:=bif(iq x1 0)then some (0,(0,()))else bif(leI (bi x0) x1)then some (0,(0,()))else bif(fU x0 x1)then aZ (DL (bK x0 x1)) fun y0=>bif(!(bD y0.1 3))then some (0,(0,()))else aZ (Gs bC x0 x1 0 (EF 3 (eY .i64 (bi x0) x1))) fun y1=>dA y1 (fun a2=>some (a2.1.1,(a2.1.2.1,()))) (fun b2=>some (b2.1.1,(b2.1.2.1,())))else none
def am0:Sum:=⟨[.str,bV],[(.int .i64,false),(.int .i64,false)],fun x=>acJ x.1 x.2.1⟩
noncomputable def aat:Env:=gz prog tt 138 [(139,BP),(146,WP)] [(4,akS)] [(4,ady)]
def aei {γ:Type} (a:Vb.den->Option γ) (b:Vx.den->Option γ) (c:VQ.den->Option γ) (v:Vb.den):Option γ:=LJ (fun v0 v1 v2 v3=>a ((v0,v1,v2,v3,()),())) (fun e0 e1=>b ((e0,e1,()),())) (fun r0 r1=>c ((r0,r1,()),())) v.1.1 v.1.2.1 v.1.2.2.1 v.1.2.2.2.1
theorem aqa:dV aat 138 aiT ady:=lpS (aei) (h2:=by intros;simp only[aei,LJ,cO,cZ,aY,bW,dh])
theorem auy:dJ aat 138 av9:=zK [aiT] (aD (fM (aqa)) aN)
theorem afo:dm aat:=eA Tryz.f138 (aD pX (aD Jq aN)) (auy)
theorem ahR:dN prog 138 am0:=sA afo
def aks (x0 x1:bH):Option ou:=bif(leI (bi x1) (bi x0))then bif(gW (bi x0) 0 (bi x1))then some ((gQ (sub x0 0 (bi x1)) x1),())else none else some (false,())
def anl:Sum:=⟨[.str,.str],Tc,fun x=>aks x.1 x.2.1⟩
noncomputable def ata:Env:=gz prog tt 203 [] [] []
theorem afT:dm ata:=eA f203 aN
theorem ah9:dN prog 203 anl:=sA afT
def acQ (x0 x1:bH):Option ou:=aZ (aks x0 x1) fun y0=>some (y0.1,())
def anb:Sum:=⟨[.str,.str],Tc,fun x=>acQ x.1 x.2.1⟩
noncomputable def asZ:Env:=gz prog tt 171 [(203,anl)] [] []
theorem afG:dm asZ:=eA Tryz.f171 (aD ah9 aN)
theorem ah0:dN prog 171 anb:=sA afG
def XQ (x0:bH) (x1:Int):Option ou:=bif(gW (bi x0) x1 (bi x0))then aZ (acQ (sub x0 x1 (bi x0)) [92,10]) fun y0=>some (y0.1,())else none
def ab1:Sum:=⟨[.str,bV],Tc,fun x=>XQ x.1 x.2.1⟩
noncomputable def asP:Env:=gz prog tt 140 [(171,anb)] [] []
theorem afq:dm asP:=eA f140 (aD ah0 aN)
theorem SG:dN prog 140 ab1:=sA afq
noncomputable def awc:Code:=(f141.body).getD .skip
noncomputable def aiU:Code:=cA (cA (cA (cB (awc))))
def akT:dE:=⟨[0,1,100001],[],[1],[],[4],[]⟩
def Vd:SP:=⟨us [.v .str,.v bV] 23,[]⟩
def Vy:SP:=⟨us [.u,.v bV] 23,[]⟩
def VR:SP:=⟨us [.u,.u,.u,.u,.v bV] 20,[]⟩
def LK {γ:Type} (rec:bH->Int->Option γ) (kE kR:Int->Option γ) (v0:bH) (v1:Int):Option γ:=bif(iq v1 (bi v0))then bif(fU v0 v1)then aZ (DL (bK v0 v1)) fun y0=>bif(bD y0.1 1)then rec v0 (bT .i64 v1 1)else aZ (XQ v0 v1) fun y1=>bif y1.1 then rec v0 (bT .i64 v1 2)else kR v1 else none else kE v1
def Gt:Nat->bH->Int->Option (Vy.den⊕VR.den)
 |0,_,_=>none
 |n+1,v0,v1=>LK (Gt n) (fun e0=>some (.inl ((e0,()),()))) (fun r0=>some (.inr ((r0,()),()))) v0 v1
def apP (n:Nat) (v:Vd.den):=Gt n v.1.1 v.1.2.1
noncomputable def adz:dw:=iO akT Vd Vy VR (.exit 0) (apP bC) 6
def XR (x0:bH) (x1:Int):Option EU:=aZ (Gt bC x0 x1) fun y0=>dA y0 (fun a1=>some (a1.1.1,())) (fun b1=>some (b1.1.1,()))
def am1:Sum:=⟨[.str,bV],tzE,fun x=>XR x.1 x.2.1⟩
noncomputable def aau:Env:=gz prog tt 141 [(139,BP),(140,ab1)] [(1,akT)] [(1,adz)]
def aej {γ:Type} (a:Vd.den->Option γ) (b:Vy.den->Option γ) (c:VR.den->Option γ) (v:Vd.den):Option γ:=LK (fun v0 v1=>a ((v0,v1,()),())) (fun e0=>b ((e0,()),())) (fun r0=>c ((r0,()),())) v.1.1 v.1.2.1
theorem aqb:dV aau 141 aiU adz:=lpS (aej) (h2:=by intros;simp only[aej,LK,cO,cZ,aY,bW,dh])
theorem auA:dJ aau 141 awc:=zK [aiU] (aD (fM (aqb)) aN)
theorem afr:dm aau:=eA f141 (aD pX (aD SG aN)) (auA)
theorem ahS:dN prog 141 am1:=sA afr
def acW (x0:bH) (x1:Int):Option EU:=some ((ibW x0 x1),())
def anh:Sum:=⟨[.str,.int .u8],tzE,fun x=>acW x.1 x.2.1⟩
noncomputable def as4:Env:=gz prog tt 181 [(220,aeT)] [] []
theorem afM:dm as4:=eA f181 (aD (ZQ func220 (by kernel_rfl) (by kernel_rfl) (by kernel_rfl) (by kernel_rfl)) aN)
theorem ah5:dN prog 181 anh:=sA afM
def XW (x0:bH) (x1:Int):Option EU:=aZ (acW x0 x1) fun y0=>some (y0.1,())
def ab3:Sum:=⟨[.str,.int .u8],tzE,fun x=>XW x.1 x.2.1⟩
noncomputable def asU:Env:=gz prog tt 148 [(181,anh)] [] []
theorem afy:dm asU:=eA f148 (aD ah5 aN)
theorem SI:dN prog 148 ab3:=sA afy
def XT (x0:bH) (x1:Int):Option (Int×Bool×Unit):=bif(gW (bi x0) x1 (bi x0))then aZ (XW (sub x0 x1 (bi x0)) 10) fun y0=>bif(leI 0 y0.1)then some ((bT .i64 x1 y0.1),(true,()))else some ((bi x0),(false,()))else none
def ab2:Sum:=⟨[.str,bV],[(.int .i64,false),(.bool,false)],fun x=>XT x.1 x.2.1⟩
noncomputable def asQ:Env:=gz prog tt 142 [(148,ab3)] [] []
theorem afs:dm asQ:=eA f142 (aD SI aN)
theorem SH:dN prog 142 ab2:=sA afs
def XU (x0:bH) (x1:Int):Option EU:=aZ (xK x0 x1) fun y0=>bif(iq x1 (bT .i64 x1 y0.1))then bif(iq (bT .i64 x1 y0.1) (bi x0))then bif(fU x0 (bT .i64 x1 y0.1))then bif(bD (bK x0 (bT .i64 x1 y0.1)) 60)then some ((bT .i64 x1 y0.1),())else bif(fU x0 (bT .i64 x1 y0.1))then bif(bD (bK x0 (bT .i64 x1 y0.1)) 62)then some ((bT .i64 x1 y0.1),())else some (x1,())else none else none else some (x1,())else some (x1,())
def am2:Sum:=⟨[.str,bV],tzE,fun x=>XU x.1 x.2.1⟩
noncomputable def asT:Env:=gz prog tt 143 [(154,WR)] [] []
theorem aft:dm asT:=eA Tryz.f143 (aD Js aN)
theorem ahT:dN prog 143 am2:=sA aft
def Ue (x0:bH) (x1:Int) (y0:mg):Option (uI×Unit):=bif(fU x0 x1)then bif(bD (bK x0 x1) 10)then some ((2,(x1,((bT .i64 x1 1),(false,())))),())else bif(fU x0 x1)then bif(bD (bK x0 x1) 35)then aZ (XT x0 x1) fun y2=>some ((3,(x1,(y2.1,(false,())))),())else bif(iq 0 y0.2.1)then some ((4,(x1,((bT .i64 x1 y0.2.1),(false,())))),())else aZ (XU x0 x1) fun y2=>bif(iq x1 y2.1)then aZ (XU x0 x1) fun y3=>some ((5,(x1,(y3.1,(false,())))),())else aZ (XV x0 x1) fun y3=>bif(gW (bi x0) x1 y3.1)then aZ (acL (sub x0 x1 y3.1)) fun y4=>some ((6,(x1,(y3.1,((!(gQ y4.1 [])),())))),())else none else none else none
def acC (x0:bH) (x1:Int):Option (uI×Unit):=aZ (acJ x0 x1) fun y0=>bif(fU x0 x1)then aZ (DL (bK x0 x1)) fun y1=>bif(bD y1.1 1)then bif(bD y1.1 1)then aZ (XR x0 x1) fun y2=>some ((1,(x1,(y2.1,(false,())))),())else Ue x0 x1 y0 else aZ (XQ x0 x1) fun y2=>bif y2.1 then aZ (XR x0 x1) fun y3=>some ((1,(x1,(y3.1,(false,())))),())else Ue x0 x1 y0 else none
def amT:Sum:=⟨[.str,bV],[(.pair bV (.pair bV (.pair bV (.pair .bool .unit))),false)],fun x=>acC x.1 x.2.1⟩
noncomputable def asG:Env:=gz prog tt 109 [(138,am0),(139,BP),(140,ab1),(141,am1),(142,ab2),(143,am2),(144,am3),(145,am4)] [] []
theorem afc:dm asG:=eA f109 (aD ahR (aD pX (aD SG (aD ahS (aD SH (aD ahT (aD ahU (aD ahV aN))))))))
theorem ahK:dN prog 109 amT:=sA afc
noncomputable def awe:Code:=(f199.body).getD .skip
noncomputable def aiY:Code:=cA (cA (cA (cB (awe))))
def akX:dE:=⟨[0,1,100001],[],[0],[],[4],[]⟩
def Vj:SP:=⟨us [.v .str,.v (.int .u8)] 15,[]⟩
def VE:SP:=⟨us [.v .str] 16,[]⟩
def VW:SP:=⟨us [.u,.u,.u,.u,.v .str] 12,[]⟩
def LQ {γ:Type} (rec:bH->Int->Option γ) (kE kR:bH->Option γ) (v0:bH) (v1:Int):Option γ:=bif(iq 0 (bi v0))then bif(fU v0 0)then bif(bD (bK v0 0) v1)then bif(gW (bi v0) 1 (bi v0))then rec (sub v0 1 (bi v0)) v1 else none else kE v0 else none else kE v0
def Gz:Nat->bH->Int->Option (VE.den⊕VW.den)
 |0,_,_=>none
 |n+1,v0,v1=>LQ (Gz n) (fun e0=>some (.inl ((e0,()),()))) (fun r0=>some (.inr ((r0,()),()))) v0 v1
def apU (n:Nat) (v:Vj.den):=Gz n v.1.1 v.1.2.1
noncomputable def adD:dw:=iO akX Vj VE VW (.exit 0) (apU bC) 6
def acZ (x0:bH) (x1:Int):Option Xe:=aZ (Gz bC x0 x1) fun y0=>dA y0 (fun a1=>some (a1.1.1,())) (fun b1=>some (b1.1.1,()))
def ank:Sum:=⟨[.str,.int .u8],tzF,fun x=>acZ x.1 x.2.1⟩
noncomputable def aaA:Env:=gz prog tt 199 [] [(1,akX)] [(1,adD)]
def aeo {γ:Type} (a:Vj.den->Option γ) (b:VE.den->Option γ) (c:VW.den->Option γ) (v:Vj.den):Option γ:=LQ (fun v0 v1=>a ((v0,v1,()),())) (fun e0=>b ((e0,()),())) (fun r0=>c ((r0,()),())) v.1.1 v.1.2.1
theorem aqg:dV aaA 199 aiY adD:=lpS (aeo) (h2:=by intros;simp only[aeo,LQ,cO,cZ,aY,bW,dh])
theorem auI:dJ aaA 199 awe:=zK [aiY] (aD (fM (aqg)) aN)
theorem afS:dm aaA:=eA f199 aN (auI)
theorem ah8:dN prog 199 ank:=sA afS
noncomputable def asn:Code:=(f136.body).getD .skip
noncomputable def aiS:Code:=cA (cA (cA (cB (cA (cB (asn))))))
def akR:dE:=⟨[0,1,5,100001],[],[1],[],[6,7],[]⟩
def ao1:dE:=⟨[0,5,8,9,10],[],[],[],[],[]⟩
def Va:SP:=⟨us [.v .str,.v bV,.u,.u,.u,.ptr 1000005 0] 33,[.box 1000005 65 [.v .str,.v .bool]]⟩
def Lr:SP:=⟨us [.u,.v bV] 37,[]⟩
def Ls:SP:=⟨us [.u,.u,.u,.u,.u,.u,.v bV,.v .bool] 31,[]⟩
def yf {γ:Type} (y0:(Int×Bool×Unit)) (v0:bH) (v1:Int) (v2:bH) (kR:Int->Bool->Option γ) (rec:bH->Int->bH->Bool->Option γ) (v3:Bool):Option γ:=bif y0.2.1 then bif(gQ (sub v0 v1 y0.1) v2)then kR (bT .i64 y0.1 1) true else rec v0 (bT .i64 y0.1 1) v2 v3 else bif(gQ (sub v0 v1 y0.1) v2)then kR y0.1 true else rec v0 y0.1 v2 v3
def LH {γ:Type} (rec:bH->Int->bH->Bool->Option γ) (kE:Int->Option γ) (kR:Int->Bool->Option γ) (v0:bH) (v1:Int) (v2:bH) (v3:Bool):Option γ:=bif(iq v1 (bi v0))then aZ (XT v0 v1) fun y0=>bif(gW (bi v0) v1 y0.1)then bif v3 then bif(gQ (sub v0 v1 y0.1) [])then yf y0 v0 v1 v2 kR rec v3 else bif(gQ [9] [])then yf y0 v0 v1 v2 kR rec v3 else bif(bD (bi [9]) 1)then bif(fU [9] 0)then bif(iq (bK [9] 0) 128)then bif(fU [9] 0)then aZ (acZ (sub v0 v1 y0.1) (bK [9] 0)) fun y1=>bif y0.2.1 then bif(gQ y1.1 v2)then kR (bT .i64 y0.1 1) true else rec v0 (bT .i64 y0.1 1) v2 v3 else bif(gQ y1.1 v2)then kR y0.1 true else rec v0 y0.1 v2 v3 else none else none else none else none else yf y0 v0 v1 v2 kR rec v3 else none else kE v1
def yS:Nat->bH->Int->bH->Bool->Option (Lr.den⊕Ls.den)
 |0,_,_,_,_=>none
 |n+1,v0,v1,v2,v3=>LH (yS n) (fun e0=>some (.inl ((e0,()),()))) (fun r0 r1=>some (.inr ((r0,r1,()),()))) v0 v1 v2 v3
def apN (n:Nat) (v:Va.den):=yS n v.1.1 v.1.2.1 v.2.1.1 v.2.1.2.1
noncomputable def adx:dw:=iO akR Va Lr Ls (.exit 0) (apN bC) 6
def acI (x0:bH) (x1:Int) (x2:bH×ou):Option (Int×Bool×Unit):=aZ (yS bC x0 x1 x2.1 x2.2.1) fun y0=>dA y0 (fun a1=>some (a1.1.1,(false,()))) (fun b1=>some (b1.1.1,(b1.1.2.1,())))
def amZ:Sum:=⟨[.str,bV,KW],[(.int .i64,false),(.bool,false)],fun x=>acI x.1 x.2.1 x.2.2.1⟩
noncomputable def aas:Env:=dK prog tt [(142,ab2),(199,ank)] [(136,1,akR),(136,600005,ao1)] [(136,1,adx)] []
def aeh {γ:Type} (a:Va.den->Option γ) (b:Lr.den->Option γ) (c:Ls.den->Option γ) (v:Va.den):Option γ:=LH (fun v0 v1 v2 v3=>a ((v0,v1,()),((v2,v3,()),()))) (fun e0=>b ((e0,()),())) (fun r0 r1=>c ((r0,r1,()),())) v.1.1 v.1.2.1 v.2.1.1 v.2.1.2.1
theorem ap9:dV aas 136 aiS adx:=lpS (aeh) (h2:=by intros;simp only[aeh,LH,cO,cZ,aY,bW,dh,yf])
theorem aux:dJ aas 136 asn:=zK [aiS] (aD (fM (ap9)) aN)
theorem afn:dm aas:=eB (aD SH (aD ah8 aN)) [136] (aD ⟨f136,asn,by kernel_rfl,by kernel_rfl,aux⟩ aN)
theorem ahQ:dN prog 136 amZ:=sA afn
def avl:SP:=⟨us [] 17,[]⟩
def avw:SP:=⟨us [.u,.u,.u,.u,.v .bool] 12,[]⟩
def abX {γ:Type} (rec:Int->bH->Int->Option γ) (kE:Option γ) (kR:Bool->Option γ) (v0:Int) (v1:bH) (v2:Int):Option γ:=bif(iq v2 (bi v1))then bif(fU v1 v2)then bif(bD (bK v1 v2) v0)then kR true else rec v0 v1 (bT .i64 v2 1)else none else kE
def AV:Nat->Int->bH->Int->Option (avl.den⊕avw.den)
 |0,_,_,_=>none
 |n+1,v0,v1,v2=>abX (AV n) (some (.inl ((),()))) (fun r0=>some (.inr ((r0,()),()))) v0 v1 v2
def F5 (x0:Int) (x1:bH):Option ou:=aZ (AV bC x0 x1 0) fun y0=>dA y0 (fun a1=>some (false,())) (fun b1=>some (b1.1.1,()))
def aaM (x0:Int):Option EU:=bif(bD x0 32)then some (1,())else bif(bD x0 9)then some (1,())else bif(bD x0 10)then some (2,())else aZ (F5 x0 [124,38,59,60,62,40,41]) fun y0=>bif y0.1 then some (3,())else aZ (F5 x0 [92,39,34,96,36]) fun y1=>bif y1.1 then some (4,())else aZ (F5 x0 [65,66,67,68,69,70,71,72,73,74,75,76,77,78,79,80,81,82,83,84,85,86,87,88,89,90,97,98,99,100,101,102,103,104,105,106,107,108,109,110,111,112,113,114,115,116,117,118,119,120,121,122,95]) fun y2=>bif y2.1 then some (5,())else aZ (F5 x0 [48,49,50,51,52,53,54,55,56,57]) fun y3=>bif y3.1 then some (6,())else some (0,())
def aqt:SP:=⟨us [] 31,[]⟩
def aqz:SP:=⟨us [.u,.u,.v .bool] 28,[]⟩
def aeA {γ:Type} (rec:bH->Int->Option γ) (kE:Option γ) (kR:Bool->Option γ) (v0:bH) (v1:Int):Option γ:=bif(iq v1 (bi v0))then bif(fU v0 v1)then aZ (aaM (bK v0 v1)) fun y0=>bif(!(bD y0.1 5))then bif(fU v0 v1)then aZ (aaM (bK v0 v1)) fun y1=>bif(!(bD y1.1 6))then kR false else rec v0 (bT .i64 v1 1)else none else rec v0 (bT .i64 v1 1)else none else kE
def Gv:Nat->bH->Int->Option (aqt.den⊕aqz.den)
 |0,_,_=>none
 |n+1,v0,v1=>aeA (Gv n) (some (.inl ((),()))) (fun r0=>some (.inr ((r0,()),()))) v0 v1
def XY (x0:bH):Option ou:=bif(bD (bi x0) 0)then some (false,())else bif(fU x0 0)then aZ (aaM (bK x0 0)) fun y0=>bif(!(bD y0.1 5))then some (false,())else aZ (Gv bC x0 1) fun y1=>dA y1 (fun a2=>some (true,())) (fun b2=>some (b2.1.1,()))else none
end
section
open Go.RowKit
def avj:SP:=⟨us [.u,.u,.u,.v .str] 29,[]⟩
def avu:SP:=⟨us [.u,.u,.v .str] 30,[]⟩
def avQ {γ:Type} (rec kE kR:bH->Option γ) (v0:bH):Option γ:=bif(iq 0 (bi v0))then bif(fU v0 (eY .i64 (bi v0) 1))then bif(bD (bK v0 (eY .i64 (bi v0) 1)) 32)then bif(gW (bi v0) 0 (eY .i64 (bi v0) 1))then rec (sub v0 0 (eY .i64 (bi v0) 1))else none else kE v0 else none else kE v0
def alx:Nat->bH->Option (avj.den⊕avu.den)
 |0,_=>none
 |n+1,v0=>avQ (alx n) (fun e0=>some (.inl ((e0,()),()))) (fun r0=>some (.inr ((r0,()),()))) v0
def awH (x0:Int):Option Xe:=bif(iq x0 1)then some ([],())else bif(iq 17 x0)then some ([],())else bif(gW (bi [38,38,32,124,124,32,59,59,32,60,60,32,60,60,45,62,62,32,60,38,32,62,38,32,60,62,32,62,124,32,60,32,32,62,32,32,38,32,32,59,32,32,124,32,32,40,32,32,41,32,32]) (ahq .i64 3 (eY .i64 x0 1)) (ahq .i64 3 x0))then aZ (alx bC (sub [38,38,32,124,124,32,59,59,32,60,60,32,60,60,45,62,62,32,60,38,32,62,38,32,60,62,32,62,124,32,60,32,32,62,32,32,38,32,32,59,32,32,124,32,32,40,32,32,41,32,32] (ahq .i64 3 (eY .i64 x0 1)) (ahq .i64 3 x0))) fun y0=>dA y0 (fun a1=>some (a1.1.1,())) (fun b1=>some (b1.1.1,()))else none
end
section
open Tryz
open Go.RowKit
def ako (x0:bH) (x1:Int) (x2:Int×wu×ou):Option (uI×(Int×wu×ou)×Unit):=bif(fU x2.2.1 0)then aZ (acI x0 x1 (eu x2.2.1 ([],(false,())) 0)) fun y0=>bif(!y0.2.1)then bif((bD x2.1 x2.1)&&((TY KW x2.2.1 x2.2.1)&&((Qc x2.2.2.1 x2.2.2.1)&&true)))then some ((7,(x1,(y0.1,((!y0.2.1),())))),((x2.1,(x2.2.1,(x2.2.2.1,()))),()))else none else bif(gW (bi x2.2.1) 1 (bi x2.2.1))then aZ (pz (sub x2.2.1 1 (bi x2.2.1))) fun y1=>bif(bD x2.1 x2.1)then bif(bD (bi y1.1) (bi y1.1))then bif(Qc (iq 0 (bi y1.1)) (iq 0 (bi y1.1)))then bif((bD x2.1 x2.1)&&((Qc (iq 0 (bi y1.1)) (iq 0 (bi y1.1)))&&true))then some ((7,(x1,(y0.1,((!y0.2.1),())))),((x2.1,(y1.1,((iq 0 (bi y1.1)),()))),()))else none else none else none else none else none else none
def amS:Sum:=⟨[.str,bV,.pair bV tyJ],tzG,fun x=>ako x.1 x.2.1 x.2.2.1⟩
noncomputable def asF:Env:=gz prog tt 108 [(136,amZ),(137,vZ)] [] []
theorem afb:dm asF:=eA f108 (aD ahQ (aD uB aN))
theorem ahJ:dN prog 108 amS:=sA afb
def X0 (x0:jX):Option ou:=bif(bD x0.1 12)then some ((bD x0.2.2.1 (bT .i64 x0.2.1 1)),())else some (false,())
def anr:Sum:=⟨[H9],Tc,fun x=>X0 x.1⟩
noncomputable def ati:Env:=gz prog tt 217 [] [] []
theorem af2:dm ati:=eA Tryz.f217 aN
theorem aif:dN prog 217 anr:=sA af2
def Ui (x0:jX):Option mg:=bif x0.2.2.2.2.1 then some ((bT .i64 x0.2.1 2),((yY (eY .i64 x0.2.2.1 0) (bT .i64 x0.2.1 2)),()))else some ((bT .i64 x0.2.1 2),((yY (eY .i64 x0.2.2.1 1) (bT .i64 x0.2.1 2)),()))
def ac8 (x0:jX):Option mg:=bif x0.2.2.2.2.1 then some ((bT .i64 x0.2.1 1),((yY (eY .i64 x0.2.2.1 0) (bT .i64 x0.2.1 1)),()))else some ((bT .i64 x0.2.1 1),((yY (eY .i64 x0.2.2.1 0) (bT .i64 x0.2.1 1)),()))
def ac9 (x0:jX):Option mg:=bif x0.2.2.2.2.1 then some ((bT .i64 x0.2.1 1),((yY (eY .i64 x0.2.2.1 0) (bT .i64 x0.2.1 1)),()))else some ((bT .i64 x0.2.1 1),((yY (eY .i64 x0.2.2.1 1) (bT .i64 x0.2.1 1)),()))
def Uj (x0:jX):Option mg:=bif(bD x0.1 9)then bif x0.2.2.2.2.1 then some ((bT .i64 x0.2.1 3),((yY (eY .i64 x0.2.2.1 0) (bT .i64 x0.2.1 3)),()))else some ((bT .i64 x0.2.1 3),((yY (eY .i64 x0.2.2.1 2) (bT .i64 x0.2.1 3)),()))else bif(bD x0.1 13)then bif(bD x0.1 13)then ac8 x0 else ac9 x0 else bif(bD x0.1 12)then ac8 x0 else ac9 x0
def ac7 (x0:jX):Option mg:=bif(bD x0.1 1)then bif(bD x0.1 1)then Ui x0 else Uj x0 else bif(bD x0.1 7)then bif(bD x0.1 7)then Ui x0 else Uj x0 else bif(bD x0.1 8)then Ui x0 else Uj x0
def anD:Sum:=⟨[H9],[(.int .i64,false),(.int .i64,false)],fun x=>ac7 x.1⟩
noncomputable def atu:Env:=gz prog tt 243 [] [] []
theorem agh:dm atu:=eA Tryz.f243 aN
theorem aip:dN prog 243 anD:=sA agh
noncomputable def Tv:Code:=(f147.body).getD .skip
noncomputable def MI:Code:=(f179.body).getD .skip
noncomputable def MJ:Code:=(f214.body).getD .skip
noncomputable def MK:Code:=(Tryz.f219.body).getD .skip
noncomputable def MZ:Code:=cA (cA (cB (cA (cB (cB (MI))))))
noncomputable def Na:Code:=cA (cA (cB (cA (cB (cB (cB (cA (cB (MJ)))))))))
noncomputable def Nb:Code:=cA (cA (cB (cA (cB (cB (cB (cB (MK))))))))
def Oh:dE:=⟨[3,15,16,17,180000003],[],[3],[],[2],[]⟩
def Oi:dE:=⟨[1,2,3,4,5,215000004],[(300000300,.pair (.list .unit) (.int .u8))],[4],[],[],[]⟩
def Oj:dE:=⟨[0,2,8,9,10,11,220000005],[(9,(.int .u8))],[2,9,10],[],[6],[]⟩
def apB:dE:=⟨[2,3],[],[],[],[],[]⟩
def ao4:dE:=⟨[0,2,3],[],[],[],[],[]⟩
def ao5:dE:=⟨[3,4],[],[],[],[],[]⟩
def ao6:dE:=⟨[3],[],[],[],[],[]⟩
def aa1:dE:=⟨[0,1],[],[],[],[],[]⟩
def Yq:dE:=⟨[1,2,3,4,5],[],[],[],[],[]⟩
def UD:dE:=⟨[1,2,3,4,5,6],[],[],[],[],[]⟩
def UE:dE:=⟨[1,2,3,4,5,8,9],[],[],[],[],[]⟩
def UF:dE:=⟨[1,2,3,4,5,6],[],[],[],[],[]⟩
def UC:dE:=⟨[1,2,3,4,5,6],[],[],[],[],[]⟩
def UG:dE:=⟨[4],[],[],[],[],[]⟩
def Yr:dE:=⟨[1,3],[],[],[],[],[]⟩
def Yt:dE:=⟨[0,2,8,9,10,11],[],[],[],[],[]⟩
def UH:dE:=⟨[0,2,8,9,10,12],[],[],[],[],[]⟩
def Yu:dE:=⟨[0,2,8,9,12],[],[],[],[],[]⟩
def Yv:dE:=⟨[0,2,8,12],[],[],[],[],[]⟩
def UI:dE:=⟨[2,9],[],[],[],[],[]⟩
def zf:SQ:=⟨us [.u,.u,.u,.ptr 2000011 0,.u,.u,.u,.u,.u,.u,.u,.u,.u,.u,.u,.v (.list H9),.v bV,.v bV] 14,[us [.v .str,.u,.v .str,.ptr 1000003 0,.u,.v .str] 7,[]],[.box 2000011 218 [.v .str,.v (.list H9),.mpv 2000009],.mp 2000009 .i64 .i64,.box 1000003 69 [.slf 1000003,.slc 1500003],.arr 1500003 (.int .u8)]⟩
def Bl:SQ:=⟨us [.u,.u,.u,.ptr 2000011 0] 28,[us [.v .str,.u,.v .str,.ptr 1000003 0,.u,.v .str] 7,[]],[.box 2000011 218 [.v .str,.v (.list H9),.mpv 2000009],.mp 2000009 .i64 .i64,.box 1000003 69 [.slf 1000003,.slc 1500003],.arr 1500003 (.int .u8)]⟩
def BD:SQ:=⟨us [] 112,[us [.u,.u,.v .str,.ptr 1000003 0] 9,[.yld 1700008],[]],[.box 2000011 218 [.v .str,.v (.list H9),.mpv 2000009],.mp 2000009 .i64 .i64,.box 2000001 193 [.ptr 2000011 0],.lp 1700008 147 (us [.u,.u,.v .str,.ptr 1000003 0] 9) [8] 4 0 none,.arr 1500003 (.int .u8),.box 1000003 69 [.slf 1000003,.slc 1500003]]⟩
def vT {γ:Type} (rec:(List jX)->Int->Int->bH->bH->bH->bH->(List jX)->(List tX)->gX->Option γ) (kE:bH->bH->bH->bH->(List jX)->(List tX)->gX->Option γ) (kR:bH->bH->(List jX)->(List tX)->bH->gX->Option γ) (v0:List jX) (v1 v2:Int) (v3 v4 v5 v6:bH) (v7:List jX) (v8:List tX) (v9:gX):Option γ:=bif(iq v2 v1)then bif(fU v0 v2)then rec v0 v1 (bT .i64 v2 1) v3 v4 v5 v6 v7 (rH v8 (eu v0 (0,(0,(0,(0,(false,()))))) v2).2.1 (bT .i64 v2 1)) v9 else none else kE v3 v4 v5 v6 v7 v8 v9
def nX:Nat->(List jX)->Int->Int->bH->bH->bH->bH->(List jX)->(List tX)->gX->Option (Bl.den⊕BD.den)
 |0,_,_,_,_,_,_,_,_,_,_=>none
 |n+1,v0,v1,v2,v3,v4,v5,v6,v7,v8,v9=>vT (nX n) (fun e0 e1 e2 e3 e4 e5 e6=>some (.inl ((),((e0,e1,e2,()),(),()),((e3,e4,()),e5,(),e6,())))) (fun r0 r1 r2 r3 r4 r5=>some (.inr ((),((r0,()),(),(),()),((r1,r2,()),r3,(),(r4,()),r5,(),())))) v0 v1 v2 v3 v4 v5 v6 v7 v8 v9
def YL (n:Nat) (v:zf.den):=nX n v.1.1 v.1.2.1 v.1.2.2.1 v.2.1.1.1 v.2.1.1.2.1 v.2.1.1.2.2.1 v.2.2.1.1 v.2.2.1.2.1 v.2.2.2.1 v.2.2.2.2.2.1
noncomputable def JY:dw:=fE Oh zf Bl BD (.exit 0) (YL bC) 6
def zh:SQ:=⟨us [.ptr 2000011 0,.u,.yld 1700008,.u,.u,.u,.u,.u,.v bV,.slc 4800009,.v .bool,.v bV] 83,[[.u,.ptr 2000001 0,.ptr 3000002 0,.ptr 3000003 0,.fn 215 [(3000003,0),(3000002,0)],.v bV,.ptr 3000006 0,.u,.u,.u,.u,.u,.u,.u,.u,.u,.u,.u,.u,.u,.u,.u,.u,.u,.u,.u,.u,.u,.u,.u,.u,.u,.u,.u,.u,.u,.u,.u,.u,.u,.u,.u,.u,.u,.u,.u,.u,.u,.u,.u,.u,.u,.u,.u,.u,.u,.u,.u,.u,.u,.u,.u,.u,.u,.u,.u,.u,.u,.u,.u,.u,.u,.u,.u,.u,.u,.u,.u,.u,.u,.u,.u,.u,.u,.u,.u,.u,.u,.u,.u,.u,.u,.u,.u,.u,.u,.u,.u,.u,.u,.u,.fn 215 [(3000003,0),(3000002,0)],.v .bool,.v .bool,.ptr 2000011 0,.v H9,.yld 1700008,.u,.u,.u,.u,.u],us [.u,.u,.v .str,.ptr 1000003 0] 9,[.yld 1700008],[]],[.arr 4800009 (.int .u8),.box 3000006 161 [.v bV,.v bV,.v bV,.v bV,.v .bool],.arr 3500003 (.int .u8),.box 3000003 67 [.nils],.box 3000002 219 [.yld 1700008],.box 2000011 218 [.v .str,.v (.list H9),.mpv 2000009],.mp 2000009 .i64 .i64,.box 2000001 193 [.ptr 2000011 0],.lp 1700008 147 (us [.u,.u,.v .str,.ptr 1000003 0] 9) [8] 4 0 none,.arr 1500003 (.int .u8),.box 1000003 69 [.slf 1000003,.slc 1500003]]⟩
def vM:SQ:=⟨us [.u,.u,.yld 1700008,.u,.u,.u,.u,.u,.u,.slc 4800009,.v .bool] 84,[[.u,.ptr 2000001 0,.ptr 3000002 0,.ptr 3000003 0,.fn 215 [(3000003,0),(3000002,0)],.v bV,.ptr 3000006 0,.u,.u,.u,.u,.u,.u,.u,.u,.u,.u,.u,.u,.u,.u,.u,.u,.u,.u,.u,.u,.u,.u,.u,.u,.u,.u,.u,.u,.u,.u,.u,.u,.u,.u,.u,.u,.u,.u,.u,.u,.u,.u,.u,.u,.u,.u,.u,.u,.u,.u,.u,.u,.u,.u,.u,.u,.u,.u,.u,.u,.u,.u,.u,.u,.u,.u,.u,.u,.u,.u,.u,.u,.u,.u,.u,.u,.u,.u,.u,.u,.u,.u,.u,.u,.u,.u,.u,.u,.u,.u,.u,.u,.u,.u,.fn 215 [(3000003,0),(3000002,0)],.v .bool,.v .bool,.ptr 2000011 0,.v H9,.yld 1700008,.u,.u,.u,.u,.u],us [.u,.u,.v .str,.ptr 1000003 0] 9,[.yld 1700008],[]],[.arr 4800009 (.int .u8),.box 3000006 161 [.v bV,.v bV,.v bV,.v bV,.v .bool],.arr 3500003 (.int .u8),.box 3000003 67 [.nils],.box 3000002 219 [.yld 1700008],.box 2000011 218 [.v .str,.v (.list H9),.mpv 2000009],.mp 2000009 .i64 .i64,.box 2000001 193 [.ptr 2000011 0],.lp 1700008 147 (us [.u,.u,.v .str,.ptr 1000003 0] 9) [8] 4 0 none,.arr 1500003 (.int .u8),.box 1000003 69 [.slf 1000003,.slc 1500003]]⟩
def vN:SQ:=⟨us [] 112,[us [.u,.u,.v .str,.ptr 1000003 0] 9,[.yld 1700008],[]],[.box 2000011 218 [.v .str,.v (.list H9),.mpv 2000009],.mp 2000009 .i64 .i64,.box 2000001 193 [.ptr 2000011 0],.lp 1700008 147 (us [.u,.u,.v .str,.ptr 1000003 0] 9) [8] 4 0 none,.arr 1500003 (.int .u8),.box 1000003 69 [.slf 1000003,.slc 1500003]]⟩
def dL (v16:List jX) (v17:List tX) (v2:Int):=eu v16 (0,(0,(0,(0,(false,()))))) (eY .i64 (og v17 v2) 1)
def gV (v15:bH) (v16:List jX) (v17:List tX) (v2:Int):=bK v15 (bT .i64 (dL v16 v17 v2).2.1 1)
def jm (v15:bH) (v16:List jX) (v17:List tX) (v2:Int):=bJ (sub v15 (dL v16 v17 v2).2.1 (dL v16 v17 v2).2.2.1)
def kX {γ:Type} (v8:gX) (v15:bH) (v16:List jX) (v17:List tX) (v2:Int) (rec:Int->Bool->Int->Int->Bool->Bool->jX->bH->gX->Int->Int->Int->Int->Bool->gX->bH->(List jX)->(List tX)->bH->gX->Option γ) (v0:Int) (v1:Bool) (v3:Int) (v4 v5:Bool) (v6:jX) (v7:bH) (v9 v10 v11 v12:Int) (v13:Bool) (v14:gX) (v18:bH) (v19:gX):Option γ:=bif(dY (bF v8 (bJ (ofBytes [(gV v15 v16 v17 v2)]))) 1)then rec v0 v1 (dL v16 v17 v2).2.2.1 v3 v4 v5 v6 v7 (bF v8 (bJ (ofBytes [(gV v15 v16 v17 v2)]))) v9 v10 v11 v12 v13 v14 v15 v16 v17 v18 v19 else none
def kY {γ:Type} (v15:bH) (v16:List jX) (v17:List tX) (v2:Int) (v8:gX) (rec:Int->Bool->Int->Int->Bool->Bool->jX->bH->gX->Int->Int->Int->Int->Bool->gX->bH->(List jX)->(List tX)->bH->gX->Option γ) (v0:Int) (v1:Bool) (v3:Int) (v4 v5:Bool) (v6:jX) (v7:bH) (v9 v10 v11 v12:Int) (v13:Bool) (v14:gX) (v18:bH) (v19:gX):Option γ:=bif(bD (gV v15 v16 v17 v2) 10)then bif(dY (bF v8 (bJ [])) 1)then rec v0 v1 (dL v16 v17 v2).2.2.1 v3 v4 v5 v6 v7 (bF v8 (bJ [])) v9 v10 v11 v12 v13 v14 v15 v16 v17 v18 v19 else none else bif(gW (bi v15) (dL v16 v17 v2).2.1 (dL v16 v17 v2).2.2.1)then bif(dY (bF v8 (jm v15 v16 v17 v2)) 1)then rec v0 v1 (dL v16 v17 v2).2.2.1 v3 v4 v5 v6 v7 (bF v8 (jm v15 v16 v17 v2)) v9 v10 v11 v12 v13 v14 v15 v16 v17 v18 v19 else none else none
def vV {γ:Type} (rec:Int->Bool->Int->Int->Bool->Bool->jX->bH->gX->Int->Int->Int->Int->Bool->gX->bH->(List jX)->(List tX)->bH->gX->Option γ) (kE:Bool->Int->Bool->Bool->jX->bH->gX->Int->Int->Int->Int->Bool->gX->bH->(List jX)->(List tX)->bH->gX->Option γ) (kR:bH->bH->(List jX)->(List tX)->bH->gX->Option γ) (v0:Int) (v1:Bool) (v2 v3:Int) (v4 v5:Bool) (v6:jX) (v7:bH) (v8:gX) (v9 v10 v11 v12:Int) (v13:Bool) (v14:gX) (v15:bH) (v16:List jX) (v17:List tX) (v18:bH) (v19:gX):Option γ:=bif(iq v2 v0)then bif(bD (og v17 v2) 0)then bif(fU v15 v2)then bif(dY (bF v8 [(bK v15 v2)]) 1)then rec v0 v1 (bT .i64 v2 1) v3 v4 v5 v6 v7 (bF v8 [(bK v15 v2)]) v9 v10 v11 v12 v13 v14 v15 v16 v17 v18 v19 else none else none else bif(fU v16 (eY .i64 (og v17 v2) 1))then aZ (X0 ((dL v16 v17 v2).1,((dL v16 v17 v2).2.1,((dL v16 v17 v2).2.2.1,((dL v16 v17 v2).2.2.2.1,((dL v16 v17 v2).2.2.2.2.1,())))))) fun y0=>bif y0.1 then bif(fU v15 v2)then bif(dY (bF v8 [(bK v15 v2)]) 1)then rec v0 v1 (bT .i64 v2 1) v3 v4 v5 v6 v7 (bF v8 [(bK v15 v2)]) v9 v10 v11 v12 v13 v14 v15 v16 v17 v18 v19 else none else none else bif(bD (dL v16 v17 v2).1 13)then bif(iq (eY .i64 (dL v16 v17 v2).2.2.1 (dL v16 v17 v2).2.1) 2)then bif(dY (bF v8 (bJ [])) 1)then rec v0 v1 (dL v16 v17 v2).2.2.1 v3 v4 v5 v6 v7 (bF v8 (bJ [])) v9 v10 v11 v12 v13 v14 v15 v16 v17 v18 v19 else none else bif(fU v15 (bT .i64 (dL v16 v17 v2).2.1 1))then bif(bD (gV v15 v16 v17 v2) 36)then bif(bD (gV v15 v16 v17 v2) 36)then kX v8 v15 v16 v17 v2 rec v0 v1 v3 v4 v5 v6 v7 v9 v10 v11 v12 v13 v14 v18 v19 else kY v15 v16 v17 v2 v8 rec v0 v1 v3 v4 v5 v6 v7 v9 v10 v11 v12 v13 v14 v18 v19 else bif(bD (gV v15 v16 v17 v2) 96)then bif(bD (gV v15 v16 v17 v2) 96)then kX v8 v15 v16 v17 v2 rec v0 v1 v3 v4 v5 v6 v7 v9 v10 v11 v12 v13 v14 v18 v19 else kY v15 v16 v17 v2 v8 rec v0 v1 v3 v4 v5 v6 v7 v9 v10 v11 v12 v13 v14 v18 v19 else bif(bD (gV v15 v16 v17 v2) 34)then bif(bD (gV v15 v16 v17 v2) 34)then kX v8 v15 v16 v17 v2 rec v0 v1 v3 v4 v5 v6 v7 v9 v10 v11 v12 v13 v14 v18 v19 else kY v15 v16 v17 v2 v8 rec v0 v1 v3 v4 v5 v6 v7 v9 v10 v11 v12 v13 v14 v18 v19 else bif(bD (gV v15 v16 v17 v2) 92)then kX v8 v15 v16 v17 v2 rec v0 v1 v3 v4 v5 v6 v7 v9 v10 v11 v12 v13 v14 v18 v19 else kY v15 v16 v17 v2 v8 rec v0 v1 v3 v4 v5 v6 v7 v9 v10 v11 v12 v13 v14 v18 v19 else none else bif(iq 0 (bi v8))then bif(dY (bF v19 (bJ (ofBytes v8))) 1)then bif(gW (bi v15) (dL v16 v17 v2).2.1 (dL v16 v17 v2).2.2.1)then bif(dY (bF (bF v19 (bJ (ofBytes v8))) (jm v15 v16 v17 v2)) 1)then rec v0 true (dL v16 v17 v2).2.2.1 v3 v4 v5 v6 v7 [] v9 v10 v11 v12 v13 v14 v15 v16 v17 v18 (bF (bF v19 (bJ (ofBytes v8))) (jm v15 v16 v17 v2))else none else none else none else bif(gW (bi v15) (dL v16 v17 v2).2.1 (dL v16 v17 v2).2.2.1)then bif(dY (bF v19 (jm v15 v16 v17 v2)) 1)then rec v0 true (dL v16 v17 v2).2.2.1 v3 v4 v5 v6 v7 [] v9 v10 v11 v12 v13 v14 v15 v16 v17 v18 (bF v19 (jm v15 v16 v17 v2))else none else none else none else kE v1 v3 v4 v5 v6 v7 v8 v9 v10 v11 v12 v13 v14 v15 v16 v17 v18 v19
def jK:Nat->Int->Bool->Int->Int->Bool->Bool->jX->bH->gX->Int->Int->Int->Int->Bool->gX->bH->(List jX)->(List tX)->bH->gX->Option (vM.den⊕vN.den)
 |0,_,_,_,_,_,_,_,_,_,_,_,_,_,_,_,_,_,_,_,_=>none
 |n+1,v0,v1,v2,v3,v4,v5,v6,v7,v8,v9,v10,v11,v12,v13,v14,v15,v16,v17,v18,v19=>vV (jK n) (fun e0 e1 e2 e3 e4 e5 e6 e7 e8 e9 e10 e11 e12 e13 e14 e15 e16 e17=>some (.inl ((e0,()),((e1,e2,e3,e4,()),(e5,()),(),(),()),(e6,(e7,e8,e9,e10,e11,()),e12,(),(),(e13,e14,()),e15,(),(e16,()),e17,(),())))) (fun r0 r1 r2 r3 r4 r5=>some (.inr ((),((r0,()),(),(),()),((r1,r2,()),r3,(),(r4,()),r5,(),())))) v0 v1 v2 v3 v4 v5 v6 v7 v8 v9 v10 v11 v12 v13 v14 v15 v16 v17 v18 v19
def YN (n:Nat) (v:zh.den):=jK n v.1.1 v.1.2.1 v.1.2.2.1 v.2.1.1.1 v.2.1.1.2.1 v.2.1.1.2.2.1 v.2.1.1.2.2.2.1 v.2.1.2.1.1 v.2.2.1 v.2.2.2.1.1 v.2.2.2.1.2.1 v.2.2.2.1.2.2.1 v.2.2.2.1.2.2.2.1 v.2.2.2.1.2.2.2.2.1 v.2.2.2.2.1 v.2.2.2.2.2.2.2.1.1 v.2.2.2.2.2.2.2.1.2.1 v.2.2.2.2.2.2.2.2.1 v.2.2.2.2.2.2.2.2.2.2.1.1 v.2.2.2.2.2.2.2.2.2.2.2.1
noncomputable def J3:dw:=fE Oj zh vM vN (.exit 0) (YN bC) 12
def zg:SQ:=⟨us [.u,.ptr 2000001 0,.ptr 3000002 0,.ptr 3000003 0,.fn 215 [(3000003,0),(3000002,0)],.v bV] 106,[us [.u,.u,.v .str,.ptr 1000003 0] 9,[.yld 1700008],[]],[.arr 3500003 (.int .u8),.box 3000003 67 [.slc 3500003],.box 3000002 219 [.yld 1700008],.box 2000011 218 [.v .str,.v (.list H9),.mpv 2000009],.mp 2000009 .i64 .i64,.box 2000001 193 [.ptr 2000011 0],.lp 1700008 147 (us [.u,.u,.v .str,.ptr 1000003 0] 9) [8] 4 0 none,.arr 1500003 (.int .u8),.box 1000003 69 [.slf 1000003,.slc 1500003]]⟩
def Bo:SQ:=⟨us [.u,.u,.u,.u,.fn 215 [(3000003,0),(3000002,0)]] 107,[us [.u,.u,.v .str,.ptr 1000003 0] 9,[.yld 1700008],[]],[.arr 3500003 (.int .u8),.box 3000003 67 [.slc 3500003],.box 3000002 219 [.yld 1700008],.box 2000011 218 [.v .str,.v (.list H9),.mpv 2000009],.mp 2000009 .i64 .i64,.box 2000001 193 [.ptr 2000011 0],.lp 1700008 147 (us [.u,.u,.v .str,.ptr 1000003 0] 9) [8] 4 0 none,.arr 1500003 (.int .u8),.box 1000003 69 [.slf 1000003,.slc 1500003]]⟩
def BF:SQ:=⟨us [] 112,[us [.u,.u,.v .str,.ptr 1000003 0] 9,[.yld 1700008],[]],[.box 2000011 218 [.v .str,.v (.list H9),.mpv 2000009],.mp 2000009 .i64 .i64,.box 2000001 193 [.ptr 2000011 0],.lp 1700008 147 (us [.u,.u,.v .str,.ptr 1000003 0] 9) [8] 4 0 none,.arr 1500003 (.int .u8),.box 1000003 69 [.slf 1000003,.slc 1500003]]⟩
def bG (v4:List jX) (v5:List tX) (v0:Int):=eu v4 (0,(0,(0,(0,(false,()))))) (eY .i64 (og v5 v0) 1)
def mX (v4:List jX) (v5:List tX) (v0:Int):=ac7 ((bG v4 v5 v0).1,((bG v4 v5 v0).2.1,((bG v4 v5 v0).2.2.1,((bG v4 v5 v0).2.2.2.1,((bG v4 v5 v0).2.2.2.2.1,())))))
def jk (v3:bH) (v4:List jX) (v5:List tX) (v0:Int):=sub v3 (bT .i64 (bG v4 v5 v0).2.1 1) (bG v4 v5 v0).2.2.1
def jl (v3:bH) (v4:List jX) (v5:List tX) (v0:Int):=bJ (sub v3 (bG v4 v5 v0).2.1 (bG v4 v5 v0).2.2.1)
def gG (v7 v2:gX):=bF v7 (bJ (ofBytes v2))
def ql {γ:Type} (v3:bH) (v4:List jX) (v5:List tX) (v0:Int) (v2:gX) (rec:Int->bH->gX->bH->(List jX)->(List tX)->bH->gX->Option γ) (v1 v6:bH) (v7:gX):Option γ:=bif(gW (bi v3) (bG v4 v5 v0).2.1 (bG v4 v5 v0).2.2.1)then bif(dY (bF v2 (jl v3 v4 v5 v0)) 1)then rec (bG v4 v5 v0).2.2.1 v1 (bF v2 (jl v3 v4 v5 v0)) v3 v4 v5 v6 v7 else none else none
def qm {γ:Type} (v4:List jX) (v5:List tX) (v0:Int) (v3:bH) (v2 v7:gX) (rec:Int->bH->gX->bH->(List jX)->(List tX)->bH->gX->Option γ) (v1 v6:bH):Option γ:=bif(bD (bG v4 v5 v0).1 4)then aZ (mX v4 v5 v0) fun y1=>bif(gW (bi v3) y1.1 y1.2.1)then bif(gQ (ofBytes v2) [])then bif(dY (bF v7 (bJ (sub v3 y1.1 y1.2.1))) 1)then rec (bG v4 v5 v0).2.2.1 v1 [] v3 v4 v5 v6 (bF v7 (bJ (sub v3 y1.1 y1.2.1)))else none else bif(dY (gG v7 v2) 1)then bif(dY (bF (gG v7 v2) (bJ (sub v3 y1.1 y1.2.1))) 1)then rec (bG v4 v5 v0).2.2.1 v1 [] v3 v4 v5 v6 (bF (gG v7 v2) (bJ (sub v3 y1.1 y1.2.1)))else none else none else none else bif(gW (bi v3) (bT .i64 (bG v4 v5 v0).2.1 1) (bG v4 v5 v0).2.2.1)then bif(!(gQ (jk v3 v4 v5 v0) []))then bif(!(gQ (jk v3 v4 v5 v0) [10]))then bif(gQ (ofBytes v2) [])then bif(dY (bF v7 (bJ (jk v3 v4 v5 v0))) 1)then rec (bG v4 v5 v0).2.2.1 v1 [] v3 v4 v5 v6 (bF v7 (bJ (jk v3 v4 v5 v0)))else none else bif(dY (gG v7 v2) 1)then bif(dY (bF (gG v7 v2) (bJ (jk v3 v4 v5 v0))) 1)then rec (bG v4 v5 v0).2.2.1 v1 [] v3 v4 v5 v6 (bF (gG v7 v2) (bJ (jk v3 v4 v5 v0)))else none else none else rec (bG v4 v5 v0).2.2.1 v1 v2 v3 v4 v5 v6 v7 else rec (bG v4 v5 v0).2.2.1 v1 v2 v3 v4 v5 v6 v7 else none
def qo {γ:Type} (y2:vM.den⊕vN.den) (rec:Int->bH->gX->bH->(List jX)->(List tX)->bH->gX->Option γ) (kR:bH->bH->(List jX)->(List tX)->bH->gX->Option γ):Option γ:=dA y2 (fun a3=>bif(bD (bi a3.2.2.1) 0)then bif a3.1.1 then bif a3.2.1.1.2.2.1 then rec a3.2.1.1.1 a3.2.1.2.1.1 [] a3.2.2.2.2.2.2.2.1.1 a3.2.2.2.2.2.2.2.1.2.1 a3.2.2.2.2.2.2.2.2.1 a3.2.2.2.2.2.2.2.2.2.2.1.1 a3.2.2.2.2.2.2.2.2.2.2.2.1 else kR a3.2.1.2.1.1 a3.2.2.2.2.2.2.2.1.1 a3.2.2.2.2.2.2.2.1.2.1 a3.2.2.2.2.2.2.2.2.1 a3.2.2.2.2.2.2.2.2.2.2.1.1 a3.2.2.2.2.2.2.2.2.2.2.2.1 else bif(dY (bF a3.2.2.2.2.2.2.2.2.2.2.2.1 (bJ (ofBytes a3.2.2.1))) 1)then bif a3.2.1.1.2.2.1 then rec a3.2.1.1.1 a3.2.1.2.1.1 [] a3.2.2.2.2.2.2.2.1.1 a3.2.2.2.2.2.2.2.1.2.1 a3.2.2.2.2.2.2.2.2.1 a3.2.2.2.2.2.2.2.2.2.2.1.1 (bF a3.2.2.2.2.2.2.2.2.2.2.2.1 (bJ (ofBytes a3.2.2.1)))else kR a3.2.1.2.1.1 a3.2.2.2.2.2.2.2.1.1 a3.2.2.2.2.2.2.2.1.2.1 a3.2.2.2.2.2.2.2.2.1 a3.2.2.2.2.2.2.2.2.2.2.1.1 (bF a3.2.2.2.2.2.2.2.2.2.2.2.1 (bJ (ofBytes a3.2.2.1)))else none else bif(dY (bF a3.2.2.2.2.2.2.2.2.2.2.2.1 (bJ (ofBytes a3.2.2.1))) 1)then bif a3.2.1.1.2.2.1 then rec a3.2.1.1.1 a3.2.1.2.1.1 [] a3.2.2.2.2.2.2.2.1.1 a3.2.2.2.2.2.2.2.1.2.1 a3.2.2.2.2.2.2.2.2.1 a3.2.2.2.2.2.2.2.2.2.2.1.1 (bF a3.2.2.2.2.2.2.2.2.2.2.2.1 (bJ (ofBytes a3.2.2.1)))else kR a3.2.1.2.1.1 a3.2.2.2.2.2.2.2.1.1 a3.2.2.2.2.2.2.2.1.2.1 a3.2.2.2.2.2.2.2.2.1 a3.2.2.2.2.2.2.2.2.2.2.1.1 (bF a3.2.2.2.2.2.2.2.2.2.2.2.1 (bJ (ofBytes a3.2.2.1)))else none) (fun b3=>none)
def qp {γ:Type} (v4:List jX) (v5:List tX) (v0:Int) (v2:gX) (v1 v3 v6:bH) (v7:gX) (rec:Int->bH->gX->bH->(List jX)->(List tX)->bH->gX->Option γ) (kR:bH->bH->(List jX)->(List tX)->bH->gX->Option γ):Option γ:=bif(bD (bG v4 v5 v0).1 5)then bif(gQ (ofBytes v2) [])then aZ (mX v4 v5 v0) fun y1=>aZ (jK bC y1.2.1 false y1.1 (bG v4 v5 v0).2.2.1 true true ((bG v4 v5 v0).1,((bG v4 v5 v0).2.1,((bG v4 v5 v0).2.2.1,((bG v4 v5 v0).2.2.2.1,((bG v4 v5 v0).2.2.2.2.1,()))))) v1 [] (bG v4 v5 v0).1 (bG v4 v5 v0).2.1 (bG v4 v5 v0).2.2.1 (bG v4 v5 v0).2.2.2.1 (bG v4 v5 v0).2.2.2.2.1 v2 v3 v4 v5 v6 v7) fun y2=>qo y2 rec kR else bif(dY (gG v7 v2) 1)then aZ (mX v4 v5 v0) fun y1=>aZ (jK bC y1.2.1 false y1.1 (bG v4 v5 v0).2.2.1 true true ((bG v4 v5 v0).1,((bG v4 v5 v0).2.1,((bG v4 v5 v0).2.2.1,((bG v4 v5 v0).2.2.2.1,((bG v4 v5 v0).2.2.2.2.1,()))))) v1 [] (bG v4 v5 v0).1 (bG v4 v5 v0).2.1 (bG v4 v5 v0).2.2.1 (bG v4 v5 v0).2.2.2.1 (bG v4 v5 v0).2.2.2.2.1 v2 v3 v4 v5 v6 (gG v7 v2)) fun y2=>qo y2 rec kR else none else bif(gQ (ofBytes v2) [])then bif(gW (bi v3) (bG v4 v5 v0).2.1 (bG v4 v5 v0).2.2.1)then bif(dY (bF v7 (jl v3 v4 v5 v0)) 1)then rec (bG v4 v5 v0).2.2.1 v1 [] v3 v4 v5 v6 (bF v7 (jl v3 v4 v5 v0))else none else none else bif(dY (gG v7 v2) 1)then bif(gW (bi v3) (bG v4 v5 v0).2.1 (bG v4 v5 v0).2.2.1)then bif(dY (bF (gG v7 v2) (jl v3 v4 v5 v0)) 1)then rec (bG v4 v5 v0).2.2.1 v1 [] v3 v4 v5 v6 (bF (gG v7 v2) (jl v3 v4 v5 v0))else none else none else none
def qw {γ:Type} (v4:List jX) (v5:List tX) (v0:Int) (v3:bH) (v2 v7:gX) (rec:Int->bH->gX->bH->(List jX)->(List tX)->bH->gX->Option γ) (v1 v6:bH) (kR:bH->bH->(List jX)->(List tX)->bH->gX->Option γ):Option γ:=bif(bD (bG v4 v5 v0).1 13)then bif(bD (bG v4 v5 v0).1 13)then qm v4 v5 v0 v3 v2 v7 rec v1 v6 else qp v4 v5 v0 v2 v1 v3 v6 v7 rec kR else bif(bD (bG v4 v5 v0).1 4)then qm v4 v5 v0 v3 v2 v7 rec v1 v6 else qp v4 v5 v0 v2 v1 v3 v6 v7 rec kR
def vU {γ:Type} (rec:Int->bH->gX->bH->(List jX)->(List tX)->bH->gX->Option γ) (kE:bH->gX->bH->(List jX)->(List tX)->bH->gX->Option γ) (kR:bH->bH->(List jX)->(List tX)->bH->gX->Option γ) (v0:Int) (v1:bH) (v2:gX) (v3:bH) (v4:List jX) (v5:List tX) (v6:bH) (v7:gX):Option γ:=bif(iq v0 (bi v3))then bif(bD (og v5 v0) 0)then bif(fU v3 v0)then bif(gQ v3 v3)then bif(bD v0 v0)then bif(dY (bF v2 [(bK v3 v0)]) 1)then bif(gQ v3 v3)then bif(bD v0 v0)then bif(fU v3 v0)then bif(bD (bK v3 v0) (bK v3 v0))then rec (bT .i64 v0 1) v1 (bF v2 [(bK v3 v0)]) v3 v4 v5 v6 v7 else none else none else none else none else none else none else none else none else bif(fU v4 (eY .i64 (og v5 v0) 1))then aZ (X0 ((bG v4 v5 v0).1,((bG v4 v5 v0).2.1,((bG v4 v5 v0).2.2.1,((bG v4 v5 v0).2.2.2.1,((bG v4 v5 v0).2.2.2.2.1,())))))) fun y0=>bif y0.1 then bif y0.1 then ql v3 v4 v5 v0 v2 rec v1 v6 v7 else qw v4 v5 v0 v3 v2 v7 rec v1 v6 kR else bif(bD (bG v4 v5 v0).1 14)then ql v3 v4 v5 v0 v2 rec v1 v6 v7 else qw v4 v5 v0 v3 v2 v7 rec v1 v6 kR else none else kE v1 v2 v3 v4 v5 v6 v7
def iL:Nat->Int->bH->gX->bH->(List jX)->(List tX)->bH->gX->Option (Bo.den⊕BF.den)
 |0,_,_,_,_,_,_,_,_=>none
 |n+1,v0,v1,v2,v3,v4,v5,v6,v7=>vU (iL n) (fun e0 e1 e2 e3 e4 e5 e6=>some (.inl ((),((e0,()),(),(),()),(e1,(),(),(e2,e3,()),e4,(),(e5,()),e6,(),())))) (fun r0 r1 r2 r3 r4 r5=>some (.inr ((),((r0,()),(),(),()),((r1,r2,()),r3,(),(r4,()),r5,(),())))) v0 v1 v2 v3 v4 v5 v6 v7
def YM (n:Nat) (v:zg.den):=iL n v.1.1 v.2.1.1.1 v.2.2.1 v.2.2.2.2.2.1.1 v.2.2.2.2.2.1.2.1 v.2.2.2.2.2.2.1 v.2.2.2.2.2.2.2.2.1.1 v.2.2.2.2.2.2.2.2.2.1
noncomputable def JZ:dw:=fE Oi zg Bo BF (.exit 0) (YM bC) 18
def acM (x0:bH):Option Xe:=aZ (ac1 x0) fun y0=>aZ (nX bC y0.1 (bi y0.1) 0 x0 [] x0 x0 y0.1 [] []) fun y1=>dA y1 (fun a2=>aZ (iL bC 0 a2.2.1.1.2.1 [] a2.2.2.1.1 a2.2.2.1.2.1 a2.2.2.2.1 a2.2.1.1.2.1 a2.2.2.2.2.2.1) fun y3=>dA y3 (fun a4=>bif(gQ (ofBytes a4.2.2.1) [])then bif(bD (bi a4.2.2.2.2.2.2.2.2.2.1) (bi a4.2.2.2.2.2.2.2.2.2.1))then some ((ofBytes a4.2.2.2.2.2.2.2.2.2.1),())else none else bif(dY (bF a4.2.2.2.2.2.2.2.2.2.1 (bJ (ofBytes a4.2.2.1))) 1)then bif(bD (bi (bF a4.2.2.2.2.2.2.2.2.2.1 (bJ (ofBytes a4.2.2.1)))) (bi (bF a4.2.2.2.2.2.2.2.2.2.1 (bJ (ofBytes a4.2.2.1)))))then some ((ofBytes (bF a4.2.2.2.2.2.2.2.2.2.1 (bJ (ofBytes a4.2.2.1)))),())else none else none) (fun b4=>bif(bD (bi b4.2.2.2.2.2.2.1) (bi b4.2.2.2.2.2.2.1))then some ((ofBytes b4.2.2.2.2.2.2.1),())else none)) (fun b2=>none)
def am5:Sum:=⟨[.str],tzF,fun x=>acM x.1⟩
noncomputable def Af:Env:=dK prog tt [(213,anq),(217,anr),(243,anD)] [(179,3,Oh),(214,4,Oi),(219,5,Oj),(147,500004,apB),(147,600002,ao4),(147,600004,ao5),(147,600005,ao6),(28,600001,aa1),(214,600005,Yq),(214,600016,UD),(214,600017,UE),(214,600019,UF),(214,600010,UC),(214,600020,UG),(215,600003,Yr),(219,600006,Yt),(219,600016,UH),(219,600007,Yu),(219,600009,Yv),(219,600020,UI)] [(179,3,JY),(219,5,J3),(214,4,JZ)] [147]
def KD {γ:Type} (a:zf.den->Option γ) (b:Bl.den->Option γ) (c:BD.den->Option γ) (v:zf.den):Option γ:=vT (fun v0 v1 v2 v3 v4 v5 v6 v7 v8 v9=>a ((v0,v1,v2,()),((v3,v4,v5,()),(),()),((v6,v7,()),v8,(),v9,()))) (fun e0 e1 e2 e3 e4 e5 e6=>b ((),((e0,e1,e2,()),(),()),((e3,e4,()),e5,(),e6,()))) (fun r0 r1 r2 r3 r4 r5=>c ((),((r0,()),(),(),()),((r1,r2,()),r3,(),(r4,()),r5,(),()))) v.1.1 v.1.2.1 v.1.2.2.1 v.2.1.1.1 v.2.1.1.2.1 v.2.1.1.2.2.1 v.2.2.1.1 v.2.2.1.2.1 v.2.2.2.1 v.2.2.2.2.2.1
theorem Y4:dV Af 179 MZ JY:=lW (KD) (h2:=by intros;simp only[KD,vT,cO,cZ,aY,bW,dh])
def KF {γ:Type} (a:zh.den->Option γ) (b:vM.den->Option γ) (c:vN.den->Option γ) (v:zh.den):Option γ:=vV (fun v0 v1 v2 v3 v4 v5 v6 v7 v8 v9 v10 v11 v12 v13 v14 v15 v16 v17 v18 v19=>a ((v0,v1,v2,()),((v3,v4,v5,v6,()),(v7,()),(),(),()),(v8,(v9,v10,v11,v12,v13,()),v14,(),(),(v15,v16,()),v17,(),(v18,()),v19,(),()))) (fun e0 e1 e2 e3 e4 e5 e6 e7 e8 e9 e10 e11 e12 e13 e14 e15 e16 e17=>b ((e0,()),((e1,e2,e3,e4,()),(e5,()),(),(),()),(e6,(e7,e8,e9,e10,e11,()),e12,(),(),(e13,e14,()),e15,(),(e16,()),e17,(),()))) (fun r0 r1 r2 r3 r4 r5=>c ((),((r0,()),(),(),()),((r1,r2,()),r3,(),(r4,()),r5,(),()))) v.1.1 v.1.2.1 v.1.2.2.1 v.2.1.1.1 v.2.1.1.2.1 v.2.1.1.2.2.1 v.2.1.1.2.2.2.1 v.2.1.2.1.1 v.2.2.1 v.2.2.2.1.1 v.2.2.2.1.2.1 v.2.2.2.1.2.2.1 v.2.2.2.1.2.2.2.1 v.2.2.2.1.2.2.2.2.1 v.2.2.2.2.1 v.2.2.2.2.2.2.2.1.1 v.2.2.2.2.2.2.2.1.2.1 v.2.2.2.2.2.2.2.2.1 v.2.2.2.2.2.2.2.2.2.2.1.1 v.2.2.2.2.2.2.2.2.2.2.2.1
theorem Y6:dV Af 219 Nb J3:=lW (KF) (h2:=by intros;simp only[KF,vV,cO,cZ,aY,bW,dh,dL,gV,jm,kX,kY])
def KE {γ:Type} (a:zg.den->Option γ) (b:Bo.den->Option γ) (c:BF.den->Option γ) (v:zg.den):Option γ:=vU (fun v0 v1 v2 v3 v4 v5 v6 v7=>a ((v0,()),((v1,()),(),(),()),(v2,(),(),(v3,v4,()),v5,(),(v6,()),v7,(),()))) (fun e0 e1 e2 e3 e4 e5 e6=>b ((),((e0,()),(),(),()),(e1,(),(),(e2,e3,()),e4,(),(e5,()),e6,(),()))) (fun r0 r1 r2 r3 r4 r5=>c ((),((r0,()),(),(),()),((r1,r2,()),r3,(),(r4,()),r5,(),()))) v.1.1 v.2.1.1.1 v.2.2.1 v.2.2.2.2.2.1.1 v.2.2.2.2.2.1.2.1 v.2.2.2.2.2.2.1 v.2.2.2.2.2.2.2.2.1.1 v.2.2.2.2.2.2.2.2.2.1
theorem Y5:dV Af 214 Na JZ:=lW (KE) (h2:=by intros;simp only[KE,vU,cO,cZ,aY,bW,dh,bG,mX,jk,jl,gG,ql,qm,qo,qp,qw])
theorem auq:iG Tv=[]:=by kernel_rfl
theorem avH:iI Tv=[(cA (cA (cB (cA (cB (cB (Tv)))))),cB (cA (cB (cA (cB (cB (Tv)))))))]:=by kernel_rfl
theorem auE:dJ Af 147 Tv:=kH Tv (by rw[avH];exact(aD (fun _=>(show mW 147 4=some (cA (cA (cB (cA (cB (cB (Tv)))))),cB (cA (cB (cA (cB (cB (Tv))))))) by kernel_rfl)) aN)) (by rw[auq];exact aN)
theorem abg:dJ Af 179 MI:=zK [MZ] (aD (fM (Y4)) aN)
theorem abh:dJ Af 214 MJ:=zK [Na] (aD (fM (Y5)) aN)
theorem abj:dJ Af 219 MK:=zK [Nb] (aD (fM (Y6)) aN)
theorem afx:dm Af:=eB (aD aie (aD aif (aD aip aN))) [147,179,214,219] (aD ⟨f147,Tv,by kernel_rfl,by kernel_rfl,auE⟩ (aD ⟨f179,MI,by kernel_rfl,by kernel_rfl,abg⟩ (aD ⟨f214,MJ,by kernel_rfl,by kernel_rfl,abh⟩ (aD ⟨Tryz.f219,MK,by kernel_rfl,by kernel_rfl,abj⟩ aN))))
theorem ahW:dN prog 147 am5:=sA afx
def acD (x0:bH) (x1:Int) (x2:Int×wu×ou):Option ((Int×wu×ou)×Unit):=aZ (pz x2.2.1) fun y0=>bif(bD x1 1)then some ((x2.1,(y0.1,(false,()))),())else bif(bD x1 2)then some ((0,(y0.1,((iq 0 (bi y0.1)),()))),())else bif(bD x1 4)then aZ (JK x0) fun y1=>bif(bD y1.1 4)then some ((y1.1,(y0.1,(false,()))),())else bif(bD y1.1 5)then some ((y1.1,(y0.1,(false,()))),())else some ((0,(y0.1,(false,()))),())else bif(bD x1 6)then bif(!(bD x2.1 0))then aZ (acM x0) fun y1=>bif(gQ x0 x0)then bif(bD x2.1 x2.1)then bif(Qc (bD x2.1 5) (bD x2.1 5))then bif(((gQ x0 x0)&&true)&&((gQ y1.1 y1.1)&&true))then bif(dY (bF y0.1 [(y1.1,((bD x2.1 5),()))]) 24)then bif(gQ x0 x0)then bif(bD x2.1 x2.1)then bif(Qc (bD x2.1 5) (bD x2.1 5))then bif((gQ y1.1 y1.1)&&((Qc (bD x2.1 5) (bD x2.1 5))&&true))then some ((0,((bF y0.1 [(y1.1,((bD x2.1 5),()))]),(false,()))),())else none else none else none else none else none else none else none else none else none else some ((0,(y0.1,(false,()))),())else some ((0,(y0.1,(false,()))),())
def amU:Sum:=⟨[.str,bV,.pair bV tyJ],[(.pair bV tyJ,false)],fun x=>acD x.1 x.2.1 x.2.2.1⟩
noncomputable def asH:Env:=gz prog tt 110 [(137,vZ),(146,WP),(147,am5)] [] []
theorem afd:dm asH:=eA f110 (aD uB (aD Jq (aD ahW aN)))
theorem ahL:dN prog 110 amU:=sA afd
def aaN (x2:Int×wu×ou):Option (uI×(Int×wu×ou)×Unit):=bif((bD x2.1 x2.1)&&((TY KW x2.2.1 x2.2.1)&&((Qc x2.2.2.1 x2.2.2.1)&&true)))then some ((0,(0,(0,(false,())))),((x2.1,(x2.2.1,(x2.2.2.1,()))),()))else none
def aaO (x0:bH) (x1:Int) (x2:Int×wu×ou):Option (uI×(Int×wu×ou)×Unit):=aZ (acC x0 x1) fun y0=>bif(gW (bi x0) y0.1.2.1 y0.1.2.2.1)then aZ (acD (sub x0 y0.1.2.1 y0.1.2.2.1) y0.1.1 (x2.1,(x2.2.1,(x2.2.2.1,())))) fun y1=>bif((bD y0.1.1 y0.1.1)&&((bD y0.1.2.1 y0.1.2.1)&&((bD y0.1.2.2.1 y0.1.2.2.1)&&((Qc y0.1.2.2.2.1 y0.1.2.2.2.1)&&true))))then bif(gQ x0 x0)then bif(bD y0.1.2.1 y0.1.2.1)then bif(bD y0.1.2.2.1 y0.1.2.2.1)then bif(gQ x0 x0)then bif(bD y0.1.2.1 y0.1.2.1)then bif(bD y0.1.2.2.1 y0.1.2.2.1)then bif(gW (bi x0) y0.1.2.1 y0.1.2.2.1)then bif(gQ (sub x0 y0.1.2.1 y0.1.2.2.1) (sub x0 y0.1.2.1 y0.1.2.2.1))then bif(bD y0.1.1 y0.1.1)then bif((bD x2.1 x2.1)&&((TY KW x2.2.1 x2.2.1)&&((Qc x2.2.2.1 x2.2.2.1)&&true)))then some ((y0.1.1,(y0.1.2.1,(y0.1.2.2.1,(y0.1.2.2.2.1,())))),((y1.1.1,(y1.1.2.1,(y1.1.2.2.1,()))),()))else none else none else none else none else none else none else none else none else none else none else none else none
def aoN (x0:bH) (x1:Int) (x2:Int×wu×ou):Option (uI×(Int×wu×ou)×Unit):=bif(iq x1 0)then aaN x2 else bif(leI (bi x0) x1)then aaN x2 else bif x2.2.2.1 then bif(iq 0 (bi x2.2.1))then aZ (ako x0 x1 (x2.1,(x2.2.1,(x2.2.2.1,())))) fun y0=>some ((y0.1.1,(y0.1.2.1,(y0.1.2.2.1,(y0.1.2.2.2.1,())))),((y0.2.1.1,(y0.2.1.2.1,(y0.2.1.2.2.1,()))),()))else aaO x0 x1 x2 else aaO x0 x1 x2
def arT:Sum:=⟨[.str,bV,.pair bV tyJ],tzG,fun x=>aoN x.1 x.2.1 x.2.2.1⟩
noncomputable def aww:Env:=gz prog tt 86 [(108,amS),(109,amT),(110,amU)] [] []
theorem ajF:dm aww:=eA f86 (aD ahJ (aD ahK (aD ahL aN)))
theorem anT:dN prog 86 arT:=sA ajF
noncomputable def b31:Code:=(f31.body).getD .skip
noncomputable def aal:Code:=(f85.body).getD .skip
noncomputable def Xr:Code:=cA (cA (cB (cB (cB (aal)))))
def Ym:dE:=⟨[0,1,3,4,5,86000003],[(100000501,.pair (.list .unit) (.pair .unit KW)),(300000301,.pair (.list .unit) (.pair .unit KW))],[],[],[],[]⟩
def aun:dE:=⟨[2,3,4,5],[],[],[],[],[]⟩
def aud:dE:=⟨[0,2,3,4,5],[],[],[],[],[]⟩
def ag0:dE:=⟨[0,1,3,4],[],[],[],[],[]⟩
def G7:SQ:=⟨us [.yld 1700010,.ptr 2000001 0,.u,.ptr 3000003 0,.ptr 3000004 0,.v bV] 18,[us [.u,.u,.nils,.ptr 1000003 0,.ptr 1000004 0,.ptr 1000005 0] 13,[.yld 1700010],[]],[.box 3000004 35 [.v bV,.v bV,.v bV,.v .bool],.box 3000003 40 [.v bV,.v (.list KW),.v .bool],.box 2000001 9 [.v .str],.lp 1700010 31 (us [.u,.u,.nils,.ptr 1000003 0,.ptr 1000004 0,.ptr 1000005 0] 13) [10,11] 6 0 none,.arr 1500004 Xf,.box 1000005 40 [.v bV,.v (.list KW),.v .bool],.box 1000004 41 [.slc 1500004],.box 1000003 40 [.v bV,.nils,.v .bool]]⟩
def I5:SQ:=⟨us [] 24,[us [.u,.u,.nils,.ptr 1000003 0,.ptr 1000004 0,.ptr 1000005 0] 13,[.yld 1700010],[]],[.box 2000001 9 [.v .str],.lp 1700010 31 (us [.u,.u,.nils,.ptr 1000003 0,.ptr 1000004 0,.ptr 1000005 0] 13) [10,11] 6 0 none,.arr 1500004 Xf,.box 1000005 40 [.v bV,.v (.list KW),.v .bool],.box 1000004 41 [.slc 1500004],.box 1000003 40 [.v bV,.nils,.v .bool]]⟩
def Jb:SQ:=⟨us [] 24,[us [.u,.u,.nils,.ptr 1000003 0,.ptr 1000004 0,.ptr 1000005 0] 13,[.yld 1700010],[]],[]⟩
def Dq {γ:Type} (rec:Int->Int->Int->Int->Bool->Int->wu->Bool->bH->(List uI)->Int->wu->Bool->Int->Bool->Option γ) (kE:bH->(List uI)->Int->wu->Bool->Int->Bool->Option γ) (kR:Option γ) (v0 v1 v2 v3:Int) (v4:Bool) (v5:Int) (v6:wu) (v7:Bool) (v8:bH) (v9:List uI) (v10:Int) (v11:wu) (v12:Bool) (v13:Int) (v14:Bool):Option γ:=bif(iq v0 (bi v8))then aZ (aoN v8 v0 (v5,(v6,(v7,())))) fun y0=>bif((bD y0.2.1.1 y0.2.1.1)&&((TY KW y0.2.1.2.1 y0.2.1.2.1)&&((Qc y0.2.1.2.2.1 y0.2.1.2.2.1)&&true)))then bif(dY (bF v9 [(y0.1.1,(y0.1.2.1,(y0.1.2.2.1,(y0.1.2.2.2.1,()))))]) 32)then bif((bD y0.1.1 y0.1.1)&&((bD y0.1.2.1 y0.1.2.1)&&((bD y0.1.2.2.1 y0.1.2.2.1)&&((Qc y0.1.2.2.2.1 y0.1.2.2.2.1)&&true))))then bif((bD y0.2.1.1 y0.2.1.1)&&((TY KW y0.2.1.2.1 y0.2.1.2.1)&&((Qc y0.2.1.2.2.1 y0.2.1.2.2.1)&&true)))then bif((bD y0.2.1.1 y0.2.1.1)&&((TY KW y0.2.1.2.1 y0.2.1.2.1)&&((Qc y0.2.1.2.2.1 y0.2.1.2.2.1)&&true)))then rec y0.1.2.2.1 y0.1.1 y0.1.2.1 y0.1.2.2.1 y0.1.2.2.2.1 y0.2.1.1 y0.2.1.2.1 y0.2.1.2.2.1 v8 (bF v9 [(y0.1.1,(y0.1.2.1,(y0.1.2.2.1,(y0.1.2.2.2.1,()))))]) y0.2.1.1 y0.2.1.2.1 y0.2.1.2.2.1 v13 v14 else none else none else none else none else none else kE v8 v9 v10 v11 v12 v13 v14
def tC:Nat->Int->Int->Int->Int->Bool->Int->wu->Bool->bH->(List uI)->Int->wu->Bool->Int->Bool->Option (I5.den⊕Jb.den)
 |0,_,_,_,_,_,_,_,_,_,_,_,_,_,_,_=>none
 |n+1,v0,v1,v2,v3,v4,v5,v6,v7,v8,v9,v10,v11,v12,v13,v14=>Dq (tC n) (fun e0 e1 e2 e3 e4 e5 e6=>some (.inl ((),((),(),(),()),((e0,()),(),e1,(e2,e3,e4,()),(),(e5,e6,()),())))) (some (.inr ((),((),(),(),()),()))) v0 v1 v2 v3 v4 v5 v6 v7 v8 v9 v10 v11 v12 v13 v14
def ahm (n:Nat) (v:G7.den):=tC n v.1.1 v.2.2.1.1 v.2.2.1.2.1 v.2.2.1.2.2.1 v.2.2.1.2.2.2.1 v.2.2.2.1.1 v.2.2.2.1.2.1 v.2.2.2.1.2.2.1 v.2.2.2.2.1.1 v.2.2.2.2.2.2.1 v.2.2.2.2.2.2.2.1.1 v.2.2.2.2.2.2.2.1.2.1 v.2.2.2.2.2.2.2.1.2.2.1 v.2.2.2.2.2.2.2.2.2.1.1 v.2.2.2.2.2.2.2.2.2.1.2.1
noncomputable def Rn:dw:=fE Ym G7 I5 Jb (.exit 0) (ahm bC) 6
def akt (x0:bH):Option ((List uI)×(Int×wu×ou)×Unit):=aZ (tC bC 0 0 0 0 false 0 [] false x0 [] 0 [] false 0 false) fun y0=>dA y0 (fun a1=>some (a1.2.2.2.2.1,((a1.2.2.2.2.2.1.1,(a1.2.2.2.2.2.1.2.1,(a1.2.2.2.2.2.1.2.2.1,()))),()))) (fun b1=>none)
def aeQ:Sum:=⟨[.str],[(.list Xf,false),(.pair bV tyJ,false)],fun x=>akt x.1⟩
noncomputable def acz:Env:=dK prog tt [(86,arT)] [(85,3,Ym),(31,500006,aun),(31,600003,aud),(85,600006,ag0)] [(85,3,Rn)] [31]
def Sr {γ:Type} (a:G7.den->Option γ) (b:I5.den->Option γ) (c:Jb.den->Option γ) (v:G7.den):Option γ:=Dq (fun v0 v1 v2 v3 v4 v5 v6 v7 v8 v9 v10 v11 v12 v13 v14=>a ((v0,()),((),(),(),()),((v1,v2,v3,v4,()),(v5,v6,v7,()),(v8,()),(),v9,(v10,v11,v12,()),(),(v13,v14,()),()))) (fun e0 e1 e2 e3 e4 e5 e6=>b ((),((),(),(),()),((e0,()),(),e1,(e2,e3,e4,()),(),(e5,e6,()),()))) (c ((),((),(),(),()),())) v.1.1 v.2.2.1.1 v.2.2.1.2.1 v.2.2.1.2.2.1 v.2.2.1.2.2.2.1 v.2.2.2.1.1 v.2.2.2.1.2.1 v.2.2.2.1.2.2.1 v.2.2.2.2.1.1 v.2.2.2.2.2.2.1 v.2.2.2.2.2.2.2.1.1 v.2.2.2.2.2.2.2.1.2.1 v.2.2.2.2.2.2.2.1.2.2.1 v.2.2.2.2.2.2.2.2.2.1.1 v.2.2.2.2.2.2.2.2.2.1.2.1
theorem ahu:dV acz 85 Xr Rn:=lW (Sr) (h2:=by intros;simp only[Sr,Dq,cO,cZ,aY,bW,dh])
theorem aw0:iG b31=[]:=by kernel_rfl
theorem axo:iI b31=[(cA (cA (cB (cA (cB (cB (cB (b31))))))),cB (cA (cB (cA (cB (cB (cB (b31))))))))]:=by kernel_rfl
theorem aw5:dJ acz 31 b31:=kH b31 (by rw[axo];exact(aD (fun _=>(show mW 31 6=some (cA (cA (cB (cA (cB (cB (cB (b31))))))),cB (cA (cB (cA (cB (cB (cB (b31)))))))) by kernel_rfl)) aN)) (by rw[aw0];exact aN)
theorem alr:dJ acz 85 aal:=zK [Xr] (aD (fM (ahu)) aN)
theorem ajo:dm acz:=eB (aD anT aN) [31,85] (aD ⟨f31,b31,by kernel_rfl,by kernel_rfl,aw5⟩ (aD ⟨f85,aal,by kernel_rfl,by kernel_rfl,alr⟩ aN))
theorem PH:dN prog 31 aeQ:=sA ajo
def aoJ (x0:bH) (x1:uI):Option Xe:=bif(iq x1.2.1 0)then some ([],())else bif(iq x1.2.2.1 x1.2.1)then some ([],())else bif(iq (bi x0) x1.2.2.1)then some ([],())else bif(gW (bi x0) x1.2.1 x1.2.2.1)then some ((sub x0 x1.2.1 x1.2.2.1),())else none
def arN:Sum:=⟨[.str,Xf],tzF,fun x=>aoJ x.1 x.2.1⟩
noncomputable def awr:Env:=gz prog tt 57 [] [] []
theorem ajy:dm awr:=eA f57 aN
theorem anN:dN prog 57 arN:=sA ajy
noncomputable def b32:Code:=(f32.body).getD .skip
noncomputable def aq6:Code:=cA (cA (cB (cA (cB (b32)))))
def aro:dE:=⟨[0,4,7,8,9,100002],[(4,tyD)],[4],[],[4],[(4,tyD)]⟩
def adV:SP:=⟨us [.v .str,.u,.u,.u,.slc 1800004,.u,.u,.v (.list Xf),.v bV,.v bV] 42,[.arr 1800004 tyD]⟩
def abz:SP:=⟨us [.u,.u,.u,.u,.slc 1800004] 47,[.arr 1800004 tyD]⟩
def abI:SP:=⟨us [.u,.u,.u,.u,.v o9] 47,[]⟩
def dD (v1:List uI) (v3:Int):=eu v1 (0,(0,(0,(false,())))) v3
def qY (v1:List uI) (v3:Int):=bD (dD v1 v3).2.2.1 (dD v1 v3).2.2.1
def yh {γ:Type} (v0:bH) (v1:List uI) (v3:Int) (v4:List eG) (rec:bH->(List uI)->Int->Int->(List eG)->Option γ) (v2:Int):Option γ:=aZ (aoJ v0 ((dD v1 v3).1,((dD v1 v3).2.1,((dD v1 v3).2.2.1,((dD v1 v3).2.2.2.1,()))))) fun y0=>bif(bD (dD v1 v3).1 (dD v1 v3).1)then bif(gQ v0 v0)then bif((bD (dD v1 v3).1 (dD v1 v3).1)&&((bD (dD v1 v3).2.1 (dD v1 v3).2.1)&&((qY v1 v3)&&((Qc (dD v1 v3).2.2.2.1 (dD v1 v3).2.2.2.1)&&true))))then bif(bD (dD v1 v3).2.1 (dD v1 v3).2.1)then bif(qY v1 v3)then bif(((gQ v0 v0)&&(((bD (dD v1 v3).1 (dD v1 v3).1)&&((bD (dD v1 v3).2.1 (dD v1 v3).2.1)&&((qY v1 v3)&&((Qc (dD v1 v3).2.2.2.1 (dD v1 v3).2.2.2.1)&&true))))&&true))&&((gQ y0.1 y0.1)&&true))then bif(dY (bF v4 [((dD v1 v3).1,(y0.1,((dD v1 v3).2.1,((dD v1 v3).2.2.1,()))))]) 40)then bif(bD (dD v1 v3).1 (dD v1 v3).1)then bif(gQ v0 v0)then bif((bD (dD v1 v3).1 (dD v1 v3).1)&&((bD (dD v1 v3).2.1 (dD v1 v3).2.1)&&((qY v1 v3)&&((Qc (dD v1 v3).2.2.2.1 (dD v1 v3).2.2.2.1)&&true))))then bif(bD (dD v1 v3).2.1 (dD v1 v3).2.1)then bif(qY v1 v3)then bif((bD (dD v1 v3).1 (dD v1 v3).1)&&((gQ y0.1 y0.1)&&((bD (dD v1 v3).2.1 (dD v1 v3).2.1)&&((qY v1 v3)&&true))))then rec v0 v1 v2 (bT .i64 v3 1) (bF v4 [((dD v1 v3).1,(y0.1,((dD v1 v3).2.1,((dD v1 v3).2.2.1,()))))])else none else none else none else none else none else none else none else none else none else none else none else none else none
def WE {γ:Type} (rec:bH->(List uI)->Int->Int->(List eG)->Option γ) (kE kR:(List eG)->Option γ) (v0:bH) (v1:List uI) (v2 v3:Int) (v4:List eG):Option γ:=bif(iq v3 v2)then bif(fU v1 v3)then bif(iq (dD v1 v3).2.1 0)then rec v0 v1 v2 (bT .i64 v3 1) v4 else bif(iq (dD v1 v3).2.2.1 (dD v1 v3).2.1)then rec v0 v1 v2 (bT .i64 v3 1) v4 else bif(iq (bi v0) (dD v1 v3).2.2.1)then rec v0 v1 v2 (bT .i64 v3 1) v4 else bif(bD (dD v1 v3).1 4)then bif(bD (dD v1 v3).1 4)then yh v0 v1 v3 v4 rec v2 else rec v0 v1 v2 (bT .i64 v3 1) v4 else bif(bD (dD v1 v3).1 5)then bif(bD (dD v1 v3).1 5)then yh v0 v1 v3 v4 rec v2 else rec v0 v1 v2 (bT .i64 v3 1) v4 else bif(bD (dD v1 v3).1 6)then bif(bD (dD v1 v3).1 6)then yh v0 v1 v3 v4 rec v2 else rec v0 v1 v2 (bT .i64 v3 1) v4 else bif(bD (dD v1 v3).1 2)then yh v0 v1 v3 v4 rec v2 else rec v0 v1 v2 (bT .i64 v3 1) v4 else none else kE v4
def AU:Nat->bH->(List uI)->Int->Int->(List eG)->Option (abz.den⊕abI.den)
 |0,_,_,_,_,_=>none
 |n+1,v0,v1,v2,v3,v4=>WE (AU n) (fun e0=>some (.inl ((),(e0,())))) (fun r0=>some (.inr ((r0,()),()))) v0 v1 v2 v3 v4
def auS (n:Nat) (v:adV.den):=AU n v.1.1 v.1.2.1 v.1.2.2.1 v.1.2.2.2.1 v.2.1
noncomputable def alD:dw:=iO aro adV abz abI (.exit 0) (auS bC) 6
def aku (x0:bH) (x1:List uI):Option ((List eG)×Unit):=aZ (AU bC x0 x1 (bi x1) 0 []) fun y0=>dA y0 (fun a1=>some (a1.2.1,())) (fun b1=>some (b1.1.1,()))
def aeR:Sum:=⟨[.str,.list Xf],[(.list tyD,false)],fun x=>aku x.1 x.2.1⟩
noncomputable def ajp:Env:=gz prog tt 32 [(57,arN)] [(2,aro)] [(2,alD)]
def amo {γ:Type} (a:adV.den->Option γ) (b:abz.den->Option γ) (c:abI.den->Option γ) (v:adV.den):Option γ:=WE (fun v0 v1 v2 v3 v4=>a ((v0,v1,v2,v3,()),(v4,()))) (fun e0=>b ((),(e0,()))) (fun r0=>c ((r0,()),())) v.1.1 v.1.2.1 v.1.2.2.1 v.1.2.2.2.1 v.2.1
theorem au9:dV ajp 32 aq6 alD:=lpS (amo) (h2:=by intros;simp only[amo,WE,cO,cZ,aY,bW,dh,dD,qY,yh])
theorem aw6:dJ ajp 32 b32:=zK [aq6] (aD (fM (au9)) aN)
theorem ajq:dm ajp:=eA f32 (aD anN aN) (aw6)
theorem PK:dN prog 32 aeR:=sA ajq
end
section
open Tryz
open Go.RowKit
def ark (x0:Int):Option ou:=bif(leI 4 x0)then some ((leI x0 12),())else some (false,())
def ant:Sum:=⟨[bV],Tc,fun x=>ark x.1⟩
noncomputable def atj:Env:=gz prog tt 221 [] [] []
theorem af4:dm atj:=eA f221 aN
theorem aig:dN prog 221 ant:=sA af4
def acX (x0:bH):Option EU:=aZ (JK x0) fun y0=>bif(bD y0.1 1)then some (97,())else bif(bD y0.1 2)then some (111,())else bif(bD y0.1 3)then some (121,())else aZ (ark y0.1) fun y1=>bif y1.1 then some (60,())else bif(!(bD y0.1 0))then bif(fU x0 0)then some ((bK x0 0),())else none else some (63,())
def ani:Sum:=⟨[.str],[(.int .u8,false)],fun x=>acX x.1⟩
noncomputable def as5:Env:=gz prog tt 182 [(146,WP),(221,ant)] [] []
theorem afN:dm as5:=eA f182 (aD Jq (aD aig aN))
theorem ah6:dN prog 182 ani:=sA afN
def Uf (x0:bH):Option EU:=bif(gQ x0 [100,111])then some (100,())else bif(gQ x0 [100,111,110,101])then some (103,())else bif(gQ x0 [102,111,114])then some (114,())else bif(gQ x0 [105,110])then some (107,())else bif(gQ x0 [99,97,115,101])then some (99,())else bif(gQ x0 [101,115,97,99])then some (122,())else some (120,())
def KZ (x0:bH):Option EU:=bif(gQ x0 [105,102])then some (105,())else bif(gQ x0 [116,104,101,110])then some (116,())else bif(gQ x0 [101,108,105,102])then some (101,())else bif(gQ x0 [101,108,115,101])then some (108,())else bif(gQ x0 [102,105])then some (102,())else bif(gQ x0 [119,104,105,108,101])then bif(gQ x0 [119,104,105,108,101])then some (119,())else Uf x0 else bif(gQ x0 [117,110,116,105,108])then some (119,())else Uf x0
def acY (x0:bH):Option EU:=bif(gQ x0 [33])then bif(gQ x0 [33])then bif(fU x0 0)then some ((bK x0 0),())else none else KZ x0 else bif(gQ x0 [123])then bif(gQ x0 [123])then bif(fU x0 0)then some ((bK x0 0),())else none else KZ x0 else bif(gQ x0 [125])then bif(fU x0 0)then some ((bK x0 0),())else none else KZ x0
def anj:Sum:=⟨[.str],[(.int .u8,false)],fun x=>acY x.1⟩
noncomputable def as6:Env:=gz prog tt 183 [] [] []
theorem afO:dm as6:=eA f183 aN
theorem ah7:dN prog 183 anj:=sA afO
def NP (x0:eG):Option EU:=bif(bD x0.1 2)then some (110,())else bif(bD x0.1 4)then aZ (acX x0.2.1) fun y0=>some (y0.1,())else bif(bD x0.1 5)then some (35,())else bif(bD x0.1 6)then aZ (acY x0.2.1) fun y0=>some (y0.1,())else some (63,())
def am6:Sum:=⟨[tyD],[(.int .u8,false)],fun x=>NP x.1⟩
noncomputable def asV:Env:=gz prog tt 149 [(182,ani),(183,anj)] [] []
theorem afz:dm asV:=eA f149 (aD ah6 (aD ah7 aN))
theorem ahX:dN prog 149 am6:=sA afz
def uU (x0:List eG) (x1:Int) (x2:List ed) (x3 x4 x5:Int):Option (taE×EU):=bif(leI (bi x0) (bT .i64 x1 x5))then some ((x0,(x1,(x2,(x3,(x4,()))))),(0,()))else bif(fU x0 (bT .i64 x1 x5))then aZ (NP (eu x0 (0,([],(0,(0,())))) (bT .i64 x1 x5))) fun y0=>some ((x0,(x1,(x2,(x3,(x4,()))))),(y0.1,()))else none
def BO:fV:=⟨115,DJ,[bV],[.int .u8],fun x y=>uU x.1 x.2.1 x.2.2.1 x.2.2.2.1 x.2.2.2.2.1 y.1⟩
noncomputable def asJ:Env:=dK prog tt [(149,am6)] [] [] []
theorem aff:dm asJ:=eB (aD ahX aN) [] aN
theorem pW:dO prog 112 BO:=sB aff
def QX (x0:List eG) (x1:Int) (x2:List ed) (x3 x4:Int) (x5:bH):Option (taE×ou):=aZ (uU x0 x1 x2 x3 x4 0) fun y0=>bif(!(bD y0.2.1 0))then aZ (XW x5 y0.2.1) fun y1=>some ((y0.1.1,(y0.1.2.1,(y0.1.2.2.1,(y0.1.2.2.2.1,(y0.1.2.2.2.2.1,()))))),((leI 0 y1.1),()))else some ((y0.1.1,(y0.1.2.1,(y0.1.2.2.1,(y0.1.2.2.2.1,(y0.1.2.2.2.2.1,()))))),(false,()))
def WO:fV:=⟨115,DJ,[.str],[.bool],fun x y=>QX x.1 x.2.1 x.2.2.1 x.2.2.2.1 x.2.2.2.2.1 y.1⟩
noncomputable def asI:Env:=dK prog tt [(148,ab3)] [] [] [] [(112,BO)]
theorem afe:dm asI:=eB (aD SI aN) [] aN (hx:=(aD pW aN))
theorem Jp:dO prog 111 WO:=sB afe
def o8 (x0:List eG) (x1:Int) (x2:List ed) (x3 x4:Int) (x5:bH):Option (taE×ou):=aZ (QX x0 x1 x2 x3 x4 x5) fun y0=>bif(!y0.2.1)then some ((y0.1.1,(y0.1.2.1,(y0.1.2.2.1,(y0.1.2.2.2.1,(y0.1.2.2.2.2.1,()))))),(false,()))else some ((y0.1.1,((bT .i64 y0.1.2.1 1),(y0.1.2.2.1,(y0.1.2.2.2.1,(y0.1.2.2.2.2.1,()))))),(true,()))
def yx:fV:=⟨115,DJ,[.str],[.bool],fun x y=>o8 x.1 x.2.1 x.2.2.1 x.2.2.2.1 x.2.2.2.2.1 y.1⟩
noncomputable def awx:Env:=dK prog tt [] [] [] [] [(111,WO)]
theorem ajG:dm awx:=eB aN [] aN (hx:=(aD Jp aN))
theorem kU:dO prog 87 yx:=sB ajG
def XX (x0:List eG) (x1:Int) (x2:List ed) (x3 x4:Int):Option (taE×ou):=aZ (uU x0 x1 x2 x3 x4 0) fun y0=>bif(bD y0.2.1 60)then some ((y0.1.1,(y0.1.2.1,(y0.1.2.2.1,(y0.1.2.2.2.1,(y0.1.2.2.2.2.1,()))))),(true,()))else bif(bD y0.2.1 35)then aZ (uU y0.1.1 y0.1.2.1 y0.1.2.2.1 y0.1.2.2.2.1 y0.1.2.2.2.2.1 1) fun y1=>some ((y1.1.1,(y1.1.2.1,(y1.1.2.2.1,(y1.1.2.2.2.1,(y1.1.2.2.2.2.1,()))))),((bD y1.2.1 60),()))else some ((y0.1.1,(y0.1.2.1,(y0.1.2.2.1,(y0.1.2.2.2.1,(y0.1.2.2.2.2.1,()))))),(false,()))
def ab4:fV:=⟨115,DJ,[],[.bool],fun x y=>XX x.1 x.2.1 x.2.2.1 x.2.2.2.1 x.2.2.2.2.1⟩
noncomputable def asW:Env:=dK prog tt [] [] [] [] [(112,BO)]
theorem afA:dm asW:=eB aN [] aN (hx:=(aD pW aN))
theorem SK:dO prog 150 ab4:=sB afA
def QY (x0:List eG) (x1:Int) (x2:List ed) (x3 x4:Int):Option (taE×ou):=bif(iq x4 200)then aZ (QX x0 x1 x2 x3 x4 [123,40,105,119,114,99]) fun y0=>some ((y0.1.1,(y0.1.2.1,(y0.1.2.2.1,(y0.1.2.2.2.1,(y0.1.2.2.2.2.1,()))))),(y0.2.1,()))else some ((x0,(x1,(x2,(x3,(x4,()))))),(false,()))
def WQ:fV:=⟨115,DJ,[],[.bool],fun x y=>QY x.1 x.2.1 x.2.2.1 x.2.2.2.1 x.2.2.2.2.1⟩
noncomputable def asX:Env:=dK prog tt [] [] [] [] [(111,WO)]
theorem afB:dm asX:=eB aN [] aN (hx:=(aD Jp aN))
theorem Jr:dO prog 151 WQ:=sB afB
def XP (x0:List eG) (x1:Int) (x2:List ed) (x3 x4:Int):Option (taE×ou):=aZ (uU x0 x1 x2 x3 x4 0) fun y0=>bif(bD y0.2.1 120)then some ((y0.1.1,(y0.1.2.1,(y0.1.2.2.1,(y0.1.2.2.2.1,(y0.1.2.2.2.2.1,()))))),(true,()))else aZ (XX y0.1.1 y0.1.2.1 y0.1.2.2.1 y0.1.2.2.2.1 y0.1.2.2.2.2.1) fun y1=>bif y1.2.1 then some ((y1.1.1,(y1.1.2.1,(y1.1.2.2.1,(y1.1.2.2.2.1,(y1.1.2.2.2.2.1,()))))),(true,()))else aZ (QY y1.1.1 y1.1.2.1 y1.1.2.2.1 y1.1.2.2.2.1 y1.1.2.2.2.2.1) fun y2=>some ((y2.1.1,(y2.1.2.1,(y2.1.2.2.1,(y2.1.2.2.2.1,(y2.1.2.2.2.2.1,()))))),(y2.2.1,()))
def abZ:fV:=⟨115,DJ,[],[.bool],fun x y=>XP x.1 x.2.1 x.2.2.1 x.2.2.2.1 x.2.2.2.2.1⟩
noncomputable def asK:Env:=dK prog tt [] [] [] [] [(112,BO),(150,ab4),(151,WQ)]
theorem afg:dm asK:=eB aN [] aN (hx:=(aD pW (aD SK (aD Jr aN))))
theorem SE:dO prog 113 abZ:=sB afg
def Um (x0:List eG) (x1:Int) (x2:List ed) (x3 x4:Int):Option (taE×ou):=aZ (uU x0 x1 x2 x3 x4 0) fun y0=>bif(bD y0.2.1 33)then some ((y0.1.1,(y0.1.2.1,(y0.1.2.2.1,(y0.1.2.2.2.1,(y0.1.2.2.2.2.1,()))))),(true,()))else aZ (XP y0.1.1 y0.1.2.1 y0.1.2.2.1 y0.1.2.2.2.1 y0.1.2.2.2.2.1) fun y1=>some ((y1.1.1,(y1.1.2.1,(y1.1.2.2.1,(y1.1.2.2.2.1,(y1.1.2.2.2.2.1,()))))),(y1.2.1,()))
def SX:fV:=⟨115,DJ,[],[.bool],fun x y=>Um x.1 x.2.1 x.2.2.1 x.2.2.2.1 x.2.2.2.2.1⟩
noncomputable def awy:Env:=dK prog tt [] [] [] [] [(112,BO),(113,abZ)]
theorem ajH:dm awy:=eB aN [] aN (hx:=(aD pW (aD SE aN)))
theorem BU:dO prog 88 SX:=sB ajH
noncomputable def asl:Code:=(f115.body).getD .skip
noncomputable def aiR:Code:=cA (cA (cA (cB (cB (asl)))))
def akQ:dE:=⟨[0,3,100002],[],[3],[],[2],[]⟩
def U9:SQ:=⟨[.ptr 0 0,.u,.u,.v .bool,.u,.u,.u,.u,.u],[[.ptr 0 0]],[.box 0 115 [.v o9,.v bV,.slc 1,.v bV,.v bV],.arr 1 rJ]⟩
def Vu:SQ:=⟨[.u,.u,.u,.v .bool,.u,.u,.u,.u,.u],[[.ptr 0 0]],[.box 0 115 [.v o9,.v bV,.slc 1,.v bV,.v bV],.arr 1 rJ]⟩
def VO:SQ:=⟨us [.u,.u,.v .bool] 6,[[.ptr 0 0]],[]⟩
def LG {γ:Type} (rec kE:Bool->(List eG)->Int->Int->Int->(List ed)->Option γ) (kR:Bool->Option γ) (v0:Bool) (v1:List eG) (v2 v3 v4:Int) (v5:List ed):Option γ:=aZ (o8 v1 v2 v5 v3 v4 [110]) fun y0=>bif y0.2.1 then rec v0 y0.1.1 y0.1.2.1 y0.1.2.2.2.1 y0.1.2.2.2.2.1 y0.1.2.2.1 else kE v0 y0.1.1 y0.1.2.1 y0.1.2.2.2.1 y0.1.2.2.2.2.1 y0.1.2.2.1
def Gq:Nat->Bool->(List eG)->Int->Int->Int->(List ed)->Option (Vu.den⊕VO.den)
 |0,_,_,_,_,_,_=>none
 |n+1,v0,v1,v2,v3,v4,v5=>LG (Gq n) (fun e0 e1 e2 e3 e4 e5=>some (.inl ((e0,()),((),()),((e1,e2,e3,e4,()),e5,())))) (fun r0=>some (.inr ((r0,()),((),()),()))) v0 v1 v2 v3 v4 v5
def apM (n:Nat) (v:U9.den):=Gq n v.1.1 v.2.2.1.1 v.2.2.1.2.1 v.2.2.1.2.2.1 v.2.2.1.2.2.2.1 v.2.2.2.1
noncomputable def adw:dw:=fE akQ U9 Vu VO (.exit 0) (apM bC) 6
def mQ (x0:List eG) (x1:Int) (x2:List ed) (x3 x4:Int):Option (taE×ou):=aZ (o8 x0 x1 x2 x3 x4 [110]) fun y0=>aZ (Gq bC y0.2.1 y0.1.1 y0.1.2.1 y0.1.2.2.2.1 y0.1.2.2.2.2.1 y0.1.2.2.1) fun y1=>dA y1 (fun a2=>some ((a2.2.2.1.1,(a2.2.2.1.2.1,(a2.2.2.2.1,(a2.2.2.1.2.2.1,(a2.2.2.1.2.2.2.1,()))))),(a2.1.1,()))) (fun b2=>none)
def zG:fV:=⟨115,DJ,[],[.bool],fun x y=>mQ x.1 x.2.1 x.2.2.1 x.2.2.2.1 x.2.2.2.2.1⟩
noncomputable def aar:Env:=dK prog tt [] [(115,2,akQ)] [(115,2,adw)] [] [(87,yx)]
def aeg {γ:Type} (a:U9.den->Option γ) (b:Vu.den->Option γ) (c:VO.den->Option γ) (v:U9.den):Option γ:=LG (fun v0 v1 v2 v3 v4 v5=>a ((v0,()),((),()),((v1,v2,v3,v4,()),v5,()))) (fun e0 e1 e2 e3 e4 e5=>b ((e0,()),((),()),((e1,e2,e3,e4,()),e5,()))) (fun r0=>c ((r0,()),((),()),())) v.1.1 v.2.2.1.1 v.2.2.1.2.1 v.2.2.1.2.2.1 v.2.2.1.2.2.2.1 v.2.2.2.1
theorem ap8:dV aar 115 aiR adw:=lW (aeg) (h2:=by intros;simp only[aeg,LG,cO,cZ,aY,bW,dh])
theorem auw:dJ aar 115 asl:=zK [aiR] (aD (fM (ap8)) aN)
theorem afi:dm aar:=eB aN [115] (aD ⟨f115,asl,by kernel_rfl,by kernel_rfl,auw⟩ aN) (hx:=(aD kU aN))
theorem oq:dO prog 115 zG:=sB afi
def apc:dE:=⟨[0],[],[],[],[],[]⟩
def aa3:dE:=⟨[0,2,6,7],[],[],[],[],[]⟩
def uX (x0:List eG) (x1:Int) (x2:List ed) (x3 x4:Int):Option yA:=bif(bD 18 18)then bif(bD x1 x1)then bif(bD x3 x3)then bif(dY (bF x2 [(18,(x1,(0,(x3,()))))]) 32)then bif(bD 18 18)then bif(bD x1 x1)then bif(bD x3 x3)then bif((bD 18 18)&&((bD x1 x1)&&((bD 0 0)&&((bD x3 x3)&&true))))then bif(fU (bF x2 [(18,(x1,(0,(x3,()))))]) (bi x2))then bif(nH (bU (bi x2)) (bF x2 [(18,(x1,(0,(x3,()))))]))then some ((x0,(x1,((gp (bF x2 [(18,(x1,(0,(x3,()))))]) (bU (bi x2)) ((bY (bF x2 [(18,(x1,(0,(x3,()))))]) (0,(0,(0,(0,())))) (bU (bi x2))).1,((bY (bF x2 [(18,(x1,(0,(x3,()))))]) (0,(0,(0,(0,())))) (bU (bi x2))).2.1,(x1,((bY (bF x2 [(18,(x1,(0,(x3,()))))]) (0,(0,(0,(0,())))) (bU (bi x2))).2.2.2.1,()))))),(x3,(x4,()))))),())else none else none else none else none else none else none else none else none else none else none
def BQ:fV:=⟨115,DJ,[],[],fun x y=>uX x.1 x.2.1 x.2.2.1 x.2.2.2.1 x.2.2.2.2.1⟩
noncomputable def as7:Env:=dK prog tt [] [(184,600000,apc),(58,600003,aa3)] [] []
theorem afP:dm as7:=eB aN [] aN
theorem pY:dO prog 184 BQ:=sB afP
def X4 (x0:bH):Option ou:=bif(!(gQ x0 []))then aZ (NR x0 0) fun y0=>some ((bD y0.1 (bi x0)),())else some (false,())
def ab8:Sum:=⟨[.str],Tc,fun x=>X4 x.1⟩
noncomputable def atz:Env:=gz prog tt 253 [(265,WW)] [] []
theorem agq:dm atz:=eA f253 (aD Jy aN)
theorem SV:dN prog 253 ab8:=sA agq
def ac2 (x0:List eG) (x1:Int) (x2:List ed) (x3 x4:Int):Option (taE×ou):=aZ (uU x0 x1 x2 x3 x4 0) fun y0=>bif(bD y0.2.1 120)then aZ (uU y0.1.1 y0.1.2.1 y0.1.2.2.1 y0.1.2.2.2.1 y0.1.2.2.2.2.1 1) fun y1=>bif(bD y1.2.1 40)then bif(iq y1.1.2.2.2.2.1 200)then bif(fU y1.1.1 y1.1.2.1)then aZ (X4 (eu y1.1.1 (0,([],(0,(0,())))) y1.1.2.1).2.1) fun y2=>some ((y1.1.1,(y1.1.2.1,(y1.1.2.2.1,(y1.1.2.2.2.1,(y1.1.2.2.2.2.1,()))))),(y2.1,()))else none else some ((y1.1.1,(y1.1.2.1,(y1.1.2.2.1,(y1.1.2.2.2.1,(y1.1.2.2.2.2.1,()))))),(false,()))else some ((y1.1.1,(y1.1.2.1,(y1.1.2.2.1,(y1.1.2.2.2.1,(y1.1.2.2.2.2.1,()))))),(false,()))else some ((y0.1.1,(y0.1.2.1,(y0.1.2.2.1,(y0.1.2.2.2.1,(y0.1.2.2.2.2.1,()))))),(false,()))
def anu:fV:=⟨115,DJ,[],[.bool],fun x y=>ac2 x.1 x.2.1 x.2.2.1 x.2.2.2.1 x.2.2.2.2.1⟩
noncomputable def atl:Env:=dK prog tt [(253,ab8)] [] [] [] [(112,BO)]
theorem af6:dm atl:=eB (aD SV aN) [] aN (hx:=(aD pW aN))
theorem aih:dO prog 224 anu:=sB af6
def aui:dE:=⟨[1,2],[],[],[],[],[]⟩
def ag8:dE:=⟨[0,2,6,7],[],[],[],[],[]⟩
def NV (x0:List eG) (x1:Int) (x2:List ed) (x3 x4 x5:Int):Option yA:=bif(bD x5 x5)then bif(bD x1 x1)then bif(bD x3 x3)then bif(dY (bF x2 [(x5,(x1,(0,(x3,()))))]) 32)then bif(bD x5 x5)then bif(bD x1 x1)then bif(bD x3 x3)then bif((bD x5 x5)&&((bD x1 x1)&&((bD 0 0)&&((bD x3 x3)&&true))))then bif(fU (bF x2 [(x5,(x1,(0,(x3,()))))]) (bi x2))then bif(nH (bU (bi x2)) (bF x2 [(x5,(x1,(0,(x3,()))))]))then some ((x0,((bT .i64 x1 1),((gp (bF x2 [(x5,(x1,(0,(x3,()))))]) (bU (bi x2)) ((bY (bF x2 [(x5,(x1,(0,(x3,()))))]) (0,(0,(0,(0,())))) (bU (bi x2))).1,((bY (bF x2 [(x5,(x1,(0,(x3,()))))]) (0,(0,(0,(0,())))) (bU (bi x2))).2.1,((bT .i64 x1 1),((bY (bF x2 [(x5,(x1,(0,(x3,()))))]) (0,(0,(0,(0,())))) (bU (bi x2))).2.2.2.1,()))))),(x3,(x4,()))))),())else none else none else none else none else none else none else none else none else none else none
def ZO:fV:=⟨115,DJ,[bV],[],fun x y=>NV x.1 x.2.1 x.2.2.1 x.2.2.2.1 x.2.2.2.2.1 y.1⟩
noncomputable def awz:Env:=dK prog tt [] [(90,600001,aui),(58,600003,ag8)] [] []
theorem ajK:dm awz:=eB aN [] aN
theorem HY:dO prog 90 ZO:=sB ajK
def JP (x0:List eG) (x1:Int) (x2:List ed) (x3 x4:Int):Option (taE×ou):=bif(iq x1 (bi x0))then bif(fU x0 x1)then some ((x0,(x1,(x2,(x3,(x4,()))))),((bD (eu x0 (0,([],(0,(0,())))) x1).1 6),()))else none else some ((x0,(x1,(x2,(x3,(x4,()))))),(false,()))
def sum256:fV:=⟨115,DJ,[],[.bool],fun x y=>JP x.1 x.2.1 x.2.2.1 x.2.2.2.1 x.2.2.2.2.1⟩
noncomputable def atC:Env:=dK prog tt [] [] [] []
theorem agt:dm atC:=eB aN [] aN
theorem Dx:dO prog 256 sum256:=sB agt
def JO (x0:List eG) (x1:Int) (x2:List ed) (x3 x4:Int):Option yA:=aZ (JP x0 x1 x2 x3 x4) fun y0=>bif y0.2.1 then aZ (NV y0.1.1 y0.1.2.1 y0.1.2.2.1 y0.1.2.2.2.1 y0.1.2.2.2.2.1 7) fun y1=>some ((y1.1.1,(y1.1.2.1,(y1.1.2.2.1,(y1.1.2.2.2.1,(y1.1.2.2.2.2.1,()))))),())else aZ (uX y0.1.1 y0.1.2.1 y0.1.2.2.1 y0.1.2.2.2.1 y0.1.2.2.2.2.1) fun y1=>some ((y1.1.1,(y1.1.2.1,(y1.1.2.2.1,(y1.1.2.2.2.1,(y1.1.2.2.2.2.1,()))))),())
def PG:fV:=⟨115,DJ,[],[],fun x y=>JO x.1 x.2.1 x.2.2.1 x.2.2.2.1 x.2.2.2.2.1⟩
noncomputable def atA:Env:=dK prog tt [] [] [] [] [(90,ZO),(184,BQ),(256,sum256)]
theorem agr:dm atA:=eB aN [] aN (hx:=(aD HY (aD pY (aD Dx aN))))
theorem Dw:dO prog 254 PG:=sB agr
def api:dE:=⟨[1],[],[],[],[],[]⟩
def aa7:dE:=⟨[0,2,6,7],[],[],[],[],[]⟩
def xM (x0:List eG) (x1:Int) (x2:List ed) (x3 x4:Int):Option (taE×ou):=aZ (XX x0 x1 x2 x3 x4) fun y0=>bif(!y0.2.1)then some ((y0.1.1,(y0.1.2.1,(y0.1.2.2.1,(y0.1.2.2.2.1,(y0.1.2.2.2.2.1,()))))),(false,()))else bif(bD 8 8)then bif(bD y0.1.2.1 y0.1.2.1)then bif(bD y0.1.2.2.2.1 y0.1.2.2.2.1)then bif(dY (bF y0.1.2.2.1 [(8,(y0.1.2.1,(0,(y0.1.2.2.2.1,()))))]) 32)then bif(bD 8 8)then bif(bD y0.1.2.1 y0.1.2.1)then bif(bD y0.1.2.2.2.1 y0.1.2.2.2.1)then bif((bD 8 8)&&((bD y0.1.2.1 y0.1.2.1)&&((bD 0 0)&&((bD y0.1.2.2.2.1 y0.1.2.2.2.1)&&true))))then aZ (o8 y0.1.1 y0.1.2.1 (bF y0.1.2.2.1 [(8,(y0.1.2.1,(0,(y0.1.2.2.2.1,()))))]) (bi y0.1.2.2.1) y0.1.2.2.2.2.1 [35]) fun y1=>aZ (o8 y1.1.1 y1.1.2.1 y1.1.2.2.1 y1.1.2.2.2.1 y1.1.2.2.2.2.1 [60]) fun y2=>aZ (JO y2.1.1 y2.1.2.1 y2.1.2.2.1 y2.1.2.2.2.1 y2.1.2.2.2.2.1) fun y3=>bif(fU y3.1.2.2.1 (bi y0.1.2.2.1))then bif(nH (bU (bi y0.1.2.2.1)) y3.1.2.2.1)then some ((y3.1.1,(y3.1.2.1,((gp y3.1.2.2.1 (bU (bi y0.1.2.2.1)) ((bY y3.1.2.2.1 (0,(0,(0,(0,())))) (bU (bi y0.1.2.2.1))).1,((bY y3.1.2.2.1 (0,(0,(0,(0,())))) (bU (bi y0.1.2.2.1))).2.1,(y3.1.2.1,((bY y3.1.2.2.1 (0,(0,(0,(0,())))) (bU (bi y0.1.2.2.1))).2.2.2.1,()))))),(y0.1.2.2.2.1,(y3.1.2.2.2.2.1,()))))),(true,()))else none else none else none else none else none else none else none else none else none else none
def ab7:fV:=⟨115,DJ,[],[.bool],fun x y=>xM x.1 x.2.1 x.2.2.1 x.2.2.2.1 x.2.2.2.2.1⟩
noncomputable def aty:Env:=dK prog tt [] [(252,600003,api),(58,600003,aa7)] [] [] [(87,yx),(150,ab4),(254,PG)]
theorem agp:dm aty:=eB aN [] aN (hx:=(aD kU (aD SK (aD Dw aN))))
theorem SS:dO prog 252 ab7:=sB agp
def adb (x0:bH):Option (bH×bH×Bool×Unit):=aZ (NR x0 0) fun y0=>bif(bD y0.1 0)then some ([],([],(false,())))else bif(bD y0.1 (bi x0))then some ([],([],(false,())))else bif(fU x0 y0.1)then bif(!(bD (bK x0 y0.1) 61))then some ([],([],(false,())))else bif(gW (bi x0) 0 y0.1)then bif(gW (bi x0) (bT .i64 y0.1 1) (bi x0))then some ((sub x0 0 y0.1),((sub x0 (bT .i64 y0.1 1) (bi x0)),(true,())))else none else none else none
def anG:Sum:=⟨[.str],[(.str,false),(.str,false),(.bool,false)],fun x=>adb x.1⟩
noncomputable def atJ:Env:=gz prog tt 270 [(265,WW)] [] []
theorem agB:dm atJ:=eA f270 (aD Jy aN)
theorem ais:dN prog 270 anG:=sA agB
def ada (x0:bH):Option ou:=aZ (adb x0) fun y0=>some (y0.2.2.1,())
def anE:Sum:=⟨[.str],Tc,fun x=>ada x.1⟩
noncomputable def atD:Env:=gz prog tt 257 [(270,anG)] [] []
theorem agu:dm atD:=eA f257 (aD ais aN)
theorem aiq:dN prog 257 anE:=sA agu
noncomputable def ass:Code:=(f227.body).getD .skip
noncomputable def ai0:Code:=cA (cA (cB (cB (cA (ass)))))
def akZ:dE:=⟨[0,2,100003],[],[],[],[],[]⟩
def Vl:SQ:=⟨us [.ptr 0 0,.u,.v .bool] 28,[[.ptr 0 0]],[.box 0 115 [.v o9,.v bV,.slc 1,.v bV,.v bV],.arr 1 rJ]⟩
def VG:SQ:=⟨us [] 31,[[.ptr 0 0]],[.box 0 115 [.v o9,.v bV,.slc 1,.v bV,.v bV],.arr 1 rJ]⟩
def VY:SQ:=⟨us [] 31,[[.ptr 0 0]],[]⟩
def LV {γ:Type} (rec:Bool->(List eG)->Int->Int->Int->(List ed)->Option γ) (kE:(List eG)->Int->Int->Int->(List ed)->Option γ) (kR:Option γ) (v0:Bool) (v1:List eG) (v2 v3 v4:Int) (v5:List ed):Option γ:=aZ (xM v1 v2 v5 v3 v4) fun y0=>bif y0.2.1 then rec v0 y0.1.1 y0.1.2.1 y0.1.2.2.2.1 y0.1.2.2.2.2.1 y0.1.2.2.1 else aZ (JP y0.1.1 y0.1.2.1 y0.1.2.2.1 y0.1.2.2.2.1 y0.1.2.2.2.2.1) fun y1=>bif(!y1.2.1)then kE y1.1.1 y1.1.2.1 y1.1.2.2.2.1 y1.1.2.2.2.2.1 y1.1.2.2.1 else bif(!v0)then bif(fU y1.1.1 y1.1.2.1)then aZ (ada (eu y1.1.1 (0,([],(0,(0,())))) y1.1.2.1).2.1) fun y2=>bif y2.1 then aZ (NV y1.1.1 y1.1.2.1 y1.1.2.2.1 y1.1.2.2.2.1 y1.1.2.2.2.2.1 6) fun y3=>rec v0 y3.1.1 y3.1.2.1 y3.1.2.2.2.1 y3.1.2.2.2.2.1 y3.1.2.2.1 else aZ (NV y1.1.1 y1.1.2.1 y1.1.2.2.1 y1.1.2.2.2.1 y1.1.2.2.2.2.1 7) fun y3=>rec true y3.1.1 y3.1.2.1 y3.1.2.2.2.1 y3.1.2.2.2.2.1 y3.1.2.2.1 else none else aZ (NV y1.1.1 y1.1.2.1 y1.1.2.2.1 y1.1.2.2.2.1 y1.1.2.2.2.2.1 7) fun y2=>rec true y2.1.1 y2.1.2.1 y2.1.2.2.2.1 y2.1.2.2.2.2.1 y2.1.2.2.1
def CY:Nat->Bool->(List eG)->Int->Int->Int->(List ed)->Option (VG.den⊕VY.den)
 |0,_,_,_,_,_,_=>none
 |n+1,v0,v1,v2,v3,v4,v5=>LV (CY n) (fun e0 e1 e2 e3 e4=>some (.inl ((),((),()),((e0,e1,e2,e3,()),e4,())))) (some (.inr ((),((),()),()))) v0 v1 v2 v3 v4 v5
def apW (n:Nat) (v:Vl.den):=CY n v.1.1 v.2.2.1.1 v.2.2.1.2.1 v.2.2.1.2.2.1 v.2.2.1.2.2.2.1 v.2.2.2.1
noncomputable def adF:dw:=fE akZ Vl VG VY (.exit 0) (apW bC) 6
def ac3 (x0:List eG) (x1:Int) (x2:List ed) (x3 x4:Int):Option yA:=aZ (CY bC false x0 x1 x3 x4 x2) fun y0=>dA y0 (fun a1=>some ((a1.2.2.1.1,(a1.2.2.1.2.1,(a1.2.2.2.1,(a1.2.2.1.2.2.1,(a1.2.2.1.2.2.2.1,()))))),())) (fun b1=>none)
def anv:fV:=⟨115,DJ,[],[],fun x y=>ac3 x.1 x.2.1 x.2.2.1 x.2.2.2.1 x.2.2.2.2.1⟩
noncomputable def aaB:Env:=dK prog tt [(257,anE)] [(227,3,akZ)] [(227,3,adF)] [] [(90,ZO),(252,ab7),(256,sum256)]
def aeq {γ:Type} (a:Vl.den->Option γ) (b:VG.den->Option γ) (c:VY.den->Option γ) (v:Vl.den):Option γ:=LV (fun v0 v1 v2 v3 v4 v5=>a ((v0,()),((),()),((v1,v2,v3,v4,()),v5,()))) (fun e0 e1 e2 e3 e4=>b ((),((),()),((e0,e1,e2,e3,()),e4,()))) (c ((),((),()),())) v.1.1 v.2.2.1.1 v.2.2.1.2.1 v.2.2.1.2.2.1 v.2.2.1.2.2.2.1 v.2.2.2.1
theorem aqi:dV aaB 227 ai0 adF:=lW (aeq) (h2:=by intros;simp only[aeq,LV,cO,cZ,aY,bW,dh])
theorem auK:dJ aaB 227 ass:=zK [ai0] (aD (fM (aqi)) aN)
theorem af8:dm aaB:=eB (aD aiq aN) [227] (aD ⟨f227,ass,by kernel_rfl,by kernel_rfl,auK⟩ aN) (hx:=(aD HY (aD SS (aD Dx aN))))
theorem aii:dO prog 227 anv:=sB af8
def pg (x0:List eG) (x1:Int) (x2:List ed) (x3 x4:Int) (x5:bH):Option yA:=aZ (o8 x0 x1 x2 x3 x4 x5) fun y0=>bif(!y0.2.1)then aZ (uX y0.1.1 y0.1.2.1 y0.1.2.2.1 y0.1.2.2.2.1 y0.1.2.2.2.2.1) fun y1=>some ((y1.1.1,(y1.1.2.1,(y1.1.2.2.1,(y1.1.2.2.2.1,(y1.1.2.2.2.2.1,()))))),())else some ((y0.1.1,(y0.1.2.1,(y0.1.2.2.1,(y0.1.2.2.2.1,(y0.1.2.2.2.2.1,()))))),())
def BR:fV:=⟨115,DJ,[.str],[],fun x y=>pg x.1 x.2.1 x.2.2.1 x.2.2.2.1 x.2.2.2.2.1 y.1⟩
noncomputable def atB:Env:=dK prog tt [] [] [] [] [(87,yx),(184,BQ)]
theorem ags:dm atB:=eB aN [] aN (hx:=(aD kU (aD pY aN)))
theorem qc:dO prog 255 BR:=sB ags
structure gy where
 q89:(List eG)->Int->(List ed)->Int->Int->Option yA
 q114:(List eG)->Int->(List ed)->Int->Int->Option yA
 q152:(List eG)->Int->(List ed)->Int->Int->Option yA
 q186:(List eG)->Int->(List ed)->Int->Int->Option yA
 q226:(List eG)->Int->(List ed)->Int->Int->Option yA
 q223:(List eG)->Int->(List ed)->Int->Int->Option yA
 q266:(List eG)->Int->(List ed)->Int->Int->Option yA
 q245:(List eG)->Int->(List ed)->Int->Int->Option yA
 q246:(List eG)->Int->(List ed)->Int->Int->Option yA
 q247:(List eG)->Int->(List ed)->Int->Int->Option yA
 q248:(List eG)->Int->(List ed)->Int->Int->Option yA
 q249:(List eG)->Int->(List ed)->Int->Int->Option yA
 q250:(List eG)->Int->(List ed)->Int->Int->Option yA
 q268:(List eG)->Int->(List ed)->Int->Int->Option yA
 q267:(List eG)->Int->(List ed)->Int->Int->Option yA
def ab9 (q:gy):fV:=⟨115,DJ,[],[],fun x y=>q.q89 x.1 x.2.1 x.2.2.1 x.2.2.2.1 x.2.2.2.2.1⟩
def aeE (q:gy):fV:=⟨115,DJ,[],[],fun x y=>q.q114 x.1 x.2.1 x.2.2.1 x.2.2.2.1 x.2.2.2.2.1⟩
def aeG (q:gy):fV:=⟨115,DJ,[],[],fun x y=>q.q152 x.1 x.2.1 x.2.2.1 x.2.2.2.1 x.2.2.2.2.1⟩
def aeH (q:gy):fV:=⟨115,DJ,[],[],fun x y=>q.q186 x.1 x.2.1 x.2.2.1 x.2.2.2.1 x.2.2.2.2.1⟩
def aeI (q:gy):fV:=⟨115,DJ,[],[],fun x y=>q.q226 x.1 x.2.1 x.2.2.1 x.2.2.2.1 x.2.2.2.2.1⟩
def WU (q:gy):fV:=⟨115,DJ,[],[],fun x y=>q.q223 x.1 x.2.1 x.2.2.1 x.2.2.2.1 x.2.2.2.2.1⟩
def Dy (q:gy):fV:=⟨115,DJ,[],[],fun x y=>q.q266 x.1 x.2.1 x.2.2.1 x.2.2.2.1 x.2.2.2.2.1⟩
def aeJ (q:gy):fV:=⟨115,DJ,[],[],fun x y=>q.q245 x.1 x.2.1 x.2.2.1 x.2.2.2.1 x.2.2.2.2.1⟩
def aeK (q:gy):fV:=⟨115,DJ,[],[],fun x y=>q.q246 x.1 x.2.1 x.2.2.1 x.2.2.2.1 x.2.2.2.2.1⟩
def aeL (q:gy):fV:=⟨115,DJ,[],[],fun x y=>q.q247 x.1 x.2.1 x.2.2.1 x.2.2.2.1 x.2.2.2.2.1⟩
def aeM (q:gy):fV:=⟨115,DJ,[],[],fun x y=>q.q248 x.1 x.2.1 x.2.2.1 x.2.2.2.1 x.2.2.2.2.1⟩
def aeN (q:gy):fV:=⟨115,DJ,[],[],fun x y=>q.q249 x.1 x.2.1 x.2.2.1 x.2.2.2.1 x.2.2.2.2.1⟩
def aeO (q:gy):fV:=⟨115,DJ,[],[],fun x y=>q.q250 x.1 x.2.1 x.2.2.1 x.2.2.2.1 x.2.2.2.2.1⟩
def aeP (q:gy):fV:=⟨115,DJ,[],[],fun x y=>q.q268 x.1 x.2.1 x.2.2.1 x.2.2.2.1 x.2.2.2.2.1⟩
def WX (q:gy):fV:=⟨115,DJ,[],[],fun x y=>q.q267 x.1 x.2.1 x.2.2.1 x.2.2.2.1 x.2.2.2.2.1⟩
noncomputable def b89:Code:=(f89.body).getD .skip
noncomputable def aq9:Code:=cA (cA (cB (cA (b89))))
def ars:dE:=⟨[0,100000],[],[],[],[],[]⟩
def auh:dE:=⟨[0],[],[],[],[],[]⟩
def ag5:dE:=⟨[0,2,6,7],[],[],[],[],[]⟩
def adY:SQ:=⟨us [.ptr 0 0] 15,[[.ptr 0 0]],[.box 0 115 [.v o9,.v bV,.slc 1,.v bV,.v bV],.arr 1 rJ]⟩
def abC:SQ:=⟨us [] 16,[[.ptr 0 0]],[.box 0 115 [.v o9,.v bV,.slc 1,.v bV,.v bV],.arr 1 rJ]⟩
def abL:SQ:=⟨us [] 16,[[.ptr 0 0]],[]⟩
def WH (q:gy) {γ:Type} (rec kE:(List eG)->Int->Int->Int->(List ed)->Option γ) (kR:Option γ) (v0:List eG) (v1 v2 v3:Int) (v4:List ed):Option γ:=bif(bD 3 3)then bif(bD v1 v1)then bif(bD v2 v2)then bif(dY (bF v4 [(3,(v1,(0,(v2,()))))]) 32)then bif(bD 3 3)then bif(bD v1 v1)then bif(bD v2 v2)then bif((bD 3 3)&&((bD v1 v1)&&((bD 0 0)&&((bD v2 v2)&&true))))then aZ (q.q114 v0 v1 (bF v4 [(3,(v1,(0,(v2,()))))]) (bi v4) v3) fun y0=>bif(fU y0.1.2.2.1 (bi v4))then bif(nH (bU (bi v4)) y0.1.2.2.1)then aZ (o8 y0.1.1 y0.1.2.1 (gp y0.1.2.2.1 (bU (bi v4)) ((bY y0.1.2.2.1 (0,(0,(0,(0,())))) (bU (bi v4))).1,((bY y0.1.2.2.1 (0,(0,(0,(0,())))) (bU (bi v4))).2.1,(y0.1.2.1,((bY y0.1.2.2.1 (0,(0,(0,(0,())))) (bU (bi v4))).2.2.2.1,()))))) v2 y0.1.2.2.2.2.1 [59,38]) fun y1=>bif y1.2.1 then aZ (mQ y1.1.1 y1.1.2.1 y1.1.2.2.1 y1.1.2.2.2.1 y1.1.2.2.2.2.1) fun y2=>aZ (Um y2.1.1 y2.1.2.1 y2.1.2.2.1 y2.1.2.2.2.1 y2.1.2.2.2.2.1) fun y3=>bif(!y3.2.1)then kE y3.1.1 y3.1.2.1 y3.1.2.2.2.1 y3.1.2.2.2.2.1 y3.1.2.2.1 else rec y3.1.1 y3.1.2.1 y3.1.2.2.2.1 y3.1.2.2.2.2.1 y3.1.2.2.1 else aZ (mQ y1.1.1 y1.1.2.1 y1.1.2.2.1 y1.1.2.2.2.1 y1.1.2.2.2.2.1) fun y2=>bif(!y2.2.1)then kE y2.1.1 y2.1.2.1 y2.1.2.2.2.1 y2.1.2.2.2.2.1 y2.1.2.2.1 else aZ (Um y2.1.1 y2.1.2.1 y2.1.2.2.1 y2.1.2.2.2.1 y2.1.2.2.2.2.1) fun y3=>bif(!y3.2.1)then kE y3.1.1 y3.1.2.1 y3.1.2.2.2.1 y3.1.2.2.2.2.1 y3.1.2.2.1 else rec y3.1.1 y3.1.2.1 y3.1.2.2.2.1 y3.1.2.2.2.2.1 y3.1.2.2.1 else none else none else none else none else none else none else none else none else none else none
def AX (q:gy):Nat->(List eG)->Int->Int->Int->(List ed)->Option (abC.den⊕abL.den)
 |0,_,_,_,_,_=>none
 |n+1,v0,v1,v2,v3,v4=>WH q (AX q n) (fun e0 e1 e2 e3 e4=>some (.inl ((),((),()),((e0,e1,e2,e3,()),e4,())))) (some (.inr ((),((),()),()))) v0 v1 v2 v3 v4
def auV (q:gy) (n:Nat) (v:adY.den):=AX q n v.2.2.1.1 v.2.2.1.2.1 v.2.2.1.2.2.1 v.2.2.1.2.2.2.1 v.2.2.2.1
noncomputable def alG (q:gy):dw:=fE ars adY abC abL (.exit 0) (auV q bC) 6
def atV (q:gy) (x0:List eG) (x1:Int) (x2:List ed) (x3 x4:Int):Option yA:=aZ (AX q bC x0 x1 x3 x4 x2) fun y0=>dA y0 (fun a1=>some ((a1.2.2.1.1,(a1.2.2.1.2.1,(a1.2.2.2.1,(a1.2.2.1.2.2.1,(a1.2.2.1.2.2.2.1,()))))),())) (fun b1=>none)
noncomputable def ajI (q:gy):Env:=dK prog tt [] [(89,0,ars),(89,600000,auh),(58,600003,ag5)] [(89,0,alG q)] [] [(87,yx),(88,SX),(114,aeE q),(115,zG)]
def ams (q:gy) {γ:Type} (a:adY.den->Option γ) (b:abC.den->Option γ) (c:abL.den->Option γ) (v:adY.den):Option γ:=WH q (fun v0 v1 v2 v3 v4=>a ((),((),()),((v0,v1,v2,v3,()),v4,()))) (fun e0 e1 e2 e3 e4=>b ((),((),()),((e0,e1,e2,e3,()),e4,()))) (c ((),((),()),())) v.2.2.1.1 v.2.2.1.2.1 v.2.2.1.2.2.1 v.2.2.1.2.2.2.1 v.2.2.2.1
theorem avc (q:gy):dV (ajI q) 89 aq9 (alG q):=lW (ams q) (h2:=by intros;simp only[ams,WH,cO,cZ,aY,bW,dh])
theorem aw9 (q:gy):dJ (ajI q) 89 b89:=zK [aq9] (aD (fM (avc q)) aN)
abbrev Z7 (q:gy):Prop:=dO prog 89 (ab9 q)/\dO prog 114 (aeE q)/\dO prog 152 (aeG q)/\dO prog 186 (aeH q)/\dO prog 226 (aeI q)/\dO prog 223 (WU q)/\dO prog 266 (Dy q)/\dO prog 245 (aeJ q)/\dO prog 246 (aeK q)/\dO prog 247 (aeL q)/\dO prog 248 (aeM q)/\dO prog 249 (aeN q)/\dO prog 250 (aeO q)/\dO prog 268 (aeP q)/\dO prog 267 (WX q)
theorem ajJ (q:gy) (H:Z7 q):dm (ajI q):=eB aN [89] (aD ⟨f89,b89,by kernel_rfl,by kernel_rfl,aw9 q⟩ aN) (hx:=(aD kU (aD BU (aD H.2.1 (aD oq aN)))))
noncomputable def asj:Code:=(f114.body).getD .skip
noncomputable def aiQ:Code:=cA (cA (cB (asj)))
def akP:dE:=⟨[0,100001],[],[],[],[],[]⟩
def U8:SQ:=⟨us [.ptr 0 0] 9,[[.ptr 0 0]],[.box 0 115 [.v o9,.v bV,.slc 1,.v bV,.v bV],.arr 1 rJ]⟩
def Vt:SQ:=⟨us [] 10,[[.ptr 0 0]],[.box 0 115 [.v o9,.v bV,.slc 1,.v bV,.v bV],.arr 1 rJ]⟩
def VN:SQ:=⟨us [] 10,[[.ptr 0 0]],[]⟩
def LD (q:gy) {γ:Type} (rec kE:(List eG)->Int->Int->Int->(List ed)->Option γ) (kR:Option γ) (v0:List eG) (v1 v2 v3:Int) (v4:List ed):Option γ:=aZ (o8 v0 v1 v4 v2 v3 [97,111]) fun y0=>bif y0.2.1 then aZ (mQ y0.1.1 y0.1.2.1 y0.1.2.2.1 y0.1.2.2.2.1 y0.1.2.2.2.2.1) fun y1=>aZ (q.q152 y1.1.1 y1.1.2.1 y1.1.2.2.1 y1.1.2.2.2.1 y1.1.2.2.2.2.1) fun y2=>rec y2.1.1 y2.1.2.1 y2.1.2.2.2.1 y2.1.2.2.2.2.1 y2.1.2.2.1 else kE y0.1.1 y0.1.2.1 y0.1.2.2.2.1 y0.1.2.2.2.2.1 y0.1.2.2.1
def Gp (q:gy):Nat->(List eG)->Int->Int->Int->(List ed)->Option (Vt.den⊕VN.den)
 |0,_,_,_,_,_=>none
 |n+1,v0,v1,v2,v3,v4=>LD q (Gp q n) (fun e0 e1 e2 e3 e4=>some (.inl ((),((),()),((e0,e1,e2,e3,()),e4,())))) (some (.inr ((),((),()),()))) v0 v1 v2 v3 v4
def apL (q:gy) (n:Nat) (v:U8.den):=Gp q n v.2.2.1.1 v.2.2.1.2.1 v.2.2.1.2.2.1 v.2.2.1.2.2.2.1 v.2.2.2.1
noncomputable def adu (q:gy):dw:=fE akP U8 Vt VN (.exit 0) (apL q bC) 6
def aj8 (q:gy) (x0:List eG) (x1:Int) (x2:List ed) (x3 x4:Int):Option yA:=aZ (q.q152 x0 x1 x2 x3 x4) fun y0=>aZ (Gp q bC y0.1.1 y0.1.2.1 y0.1.2.2.2.1 y0.1.2.2.2.2.1 y0.1.2.2.1) fun y1=>dA y1 (fun a2=>some ((a2.2.2.1.1,(a2.2.2.1.2.1,(a2.2.2.2.1,(a2.2.2.1.2.2.1,(a2.2.2.1.2.2.2.1,()))))),())) (fun b2=>none)
noncomputable def aaq (q:gy):Env:=dK prog tt [] [(114,1,akP)] [(114,1,adu q)] [] [(87,yx),(115,zG),(152,aeG q)]
def aef (q:gy) {γ:Type} (a:U8.den->Option γ) (b:Vt.den->Option γ) (c:VN.den->Option γ) (v:U8.den):Option γ:=LD q (fun v0 v1 v2 v3 v4=>a ((),((),()),((v0,v1,v2,v3,()),v4,()))) (fun e0 e1 e2 e3 e4=>b ((),((),()),((e0,e1,e2,e3,()),e4,()))) (c ((),((),()),())) v.2.2.1.1 v.2.2.1.2.1 v.2.2.1.2.2.1 v.2.2.1.2.2.2.1 v.2.2.2.1
theorem ap7 (q:gy):dV (aaq q) 114 aiQ (adu q):=lW (aef q) (h2:=by intros;simp only[aef,LD,cO,cZ,aY,bW,dh])
theorem auv (q:gy):dJ (aaq q) 114 asj:=zK [aiQ] (aD (fM (ap7 q)) aN)
theorem afh (q:gy) (H:Z7 q):dm (aaq q):=eB aN [114] (aD ⟨f114,asj,by kernel_rfl,by kernel_rfl,auv q⟩ aN) (hx:=(aD kU (aD oq (aD H.2.2.1 aN))))
noncomputable def ML:Code:=(f185.body).getD .skip
noncomputable def Nc:Code:=cA (cA (cB (cB (ML))))
def Ol:dE:=⟨[0,186000002],[],[],[],[],[]⟩
def ao7:dE:=⟨[1],[],[],[],[],[]⟩
def aa2:dE:=⟨[0,2,6,7],[],[],[],[],[]⟩
def zi:SQ:=⟨us [.ptr 1000001 0] 10,[us [.ptr 0 0,.u,.fn 185 [(1000001,0)],.u,.u,.u,.v bV,.v bV,.u,.u,.u,.u,.u,.u,.u,.u,.u,.u,.u,.u,.u,.u,.u,.u,.u,.u,.u,.u,.u,.u,.u,.u,.u,.u,.u,.u,.u,.fn 185 [(1000001,0)]] 16,[.u,.ptr 1000001 0,.u,.u,.u,.u,.u,.ptr 0 0,.fn 185 [(1000001,0)],.u],[.ptr 0 0]],[.box 1000001 113 [.ptr 0 0],.box 0 115 [.v o9,.v bV,.slc 1,.v bV,.v bV],.arr 1 rJ]⟩
def Bq:SQ:=⟨us [] 11,[us [.ptr 0 0,.u,.fn 185 [(1000001,0)],.u,.u,.u,.v bV,.v bV,.u,.u,.u,.u,.u,.u,.u,.u,.u,.u,.u,.u,.u,.u,.u,.u,.u,.u,.u,.u,.u,.u,.u,.u,.u,.u,.u,.u,.u,.fn 185 [(1000001,0)]] 16,[.u,.ptr 1000001 0,.u,.u,.u,.u,.u,.ptr 0 0,.fn 185 [(1000001,0)],.u],[.ptr 0 0]],[.box 1000001 113 [.ptr 0 0],.box 0 115 [.v o9,.v bV,.slc 1,.v bV,.v bV],.arr 1 rJ]⟩
def BG:SQ:=⟨us [] 11,[us [.ptr 0 0,.u,.fn 185 [(1000001,0)],.u,.u,.u,.v bV,.v bV,.u,.u,.u,.u,.u,.u,.u,.u,.u,.u,.u,.u,.u,.u,.u,.u,.u,.u,.u,.u,.u,.u,.u,.u,.u,.u,.u,.u,.u,.fn 185 [(1000001,0)]] 16,[.u,.ptr 1000001 0,.u,.u,.u,.u,.u,.ptr 0 0,.fn 185 [(1000001,0)],.u],[.ptr 0 0]],[]⟩
def vW (q:gy) {γ:Type} (rec kE:Int->Int->(List eG)->Int->Int->Int->(List ed)->Option γ) (kR:Int->Int->Option γ) (v0 v1:Int) (v2:List eG) (v3 v4 v5:Int) (v6:List ed):Option γ:=aZ (o8 v2 v3 v6 v4 v5 [124]) fun y0=>bif y0.2.1 then aZ (mQ y0.1.1 y0.1.2.1 y0.1.2.2.1 y0.1.2.2.2.1 y0.1.2.2.2.2.1) fun y1=>aZ (q.q186 y1.1.1 y1.1.2.1 y1.1.2.2.1 y1.1.2.2.2.1 y1.1.2.2.2.2.1) fun y2=>rec v0 v1 y2.1.1 y2.1.2.1 y2.1.2.2.2.1 y2.1.2.2.2.2.1 y2.1.2.2.1 else kE v0 v1 y0.1.1 y0.1.2.1 y0.1.2.2.2.1 y0.1.2.2.2.2.1 y0.1.2.2.1
def qP (q:gy):Nat->Int->Int->(List eG)->Int->Int->Int->(List ed)->Option (Bq.den⊕BG.den)
 |0,_,_,_,_,_,_,_=>none
 |n+1,v0,v1,v2,v3,v4,v5,v6=>vW q (qP q n) (fun e0 e1 e2 e3 e4 e5 e6=>some (.inl ((),((e0,e1,()),(),(),()),((),(e2,e3,e4,e5,()),e6,())))) (fun r0 r1=>some (.inr ((),((r0,r1,()),(),(),()),()))) v0 v1 v2 v3 v4 v5 v6
def YO (q:gy) (n:Nat) (v:zi.den):=qP q n v.2.1.1.1 v.2.1.1.2.1 v.2.2.2.1.1 v.2.2.2.1.2.1 v.2.2.2.1.2.2.1 v.2.2.2.1.2.2.2.1 v.2.2.2.2.1
noncomputable def J4 (q:gy):dw:=fE Ol zi Bq BG (.exit 0) (YO q bC) 6
def XK (q:gy) (x0:List eG) (x1:Int) (x2:List ed) (x3 x4:Int):Option yA:=aZ (Um x0 x1 x2 x3 x4) fun y0=>bif(!y0.2.1)then aZ (uX y0.1.1 y0.1.2.1 y0.1.2.2.1 y0.1.2.2.2.1 y0.1.2.2.2.2.1) fun y1=>some ((y1.1.1,(y1.1.2.1,(y1.1.2.2.1,(y1.1.2.2.2.1,(y1.1.2.2.2.2.1,()))))),())else bif(bD 4 4)then bif(bD y0.1.2.1 y0.1.2.1)then bif(bD y0.1.2.2.2.1 y0.1.2.2.2.1)then bif(dY (bF y0.1.2.2.1 [(4,(y0.1.2.1,(0,(y0.1.2.2.2.1,()))))]) 32)then bif(bD 4 4)then bif(bD y0.1.2.1 y0.1.2.1)then bif(bD y0.1.2.2.2.1 y0.1.2.2.2.1)then bif((bD 4 4)&&((bD y0.1.2.1 y0.1.2.1)&&((bD 0 0)&&((bD y0.1.2.2.2.1 y0.1.2.2.2.1)&&true))))then aZ (o8 y0.1.1 y0.1.2.1 (bF y0.1.2.2.1 [(4,(y0.1.2.1,(0,(y0.1.2.2.2.1,()))))]) (bi y0.1.2.2.1) y0.1.2.2.2.2.1 [33]) fun y1=>aZ (q.q186 y1.1.1 y1.1.2.1 y1.1.2.2.1 y1.1.2.2.2.1 y1.1.2.2.2.2.1) fun y2=>aZ (qP q bC (bi y0.1.2.2.1) y0.1.2.2.2.1 y2.1.1 y2.1.2.1 y2.1.2.2.2.1 y2.1.2.2.2.2.1 y2.1.2.2.1) fun y3=>dA y3 (fun a4=>bif(fU a4.2.2.2.2.1 a4.2.1.1.1)then bif(nH (bU a4.2.1.1.1) a4.2.2.2.2.1)then some ((a4.2.2.2.1.1,(a4.2.2.2.1.2.1,((gp a4.2.2.2.2.1 (bU a4.2.1.1.1) ((bY a4.2.2.2.2.1 (0,(0,(0,(0,())))) (bU a4.2.1.1.1)).1,((bY a4.2.2.2.2.1 (0,(0,(0,(0,())))) (bU a4.2.1.1.1)).2.1,(a4.2.2.2.1.2.1,((bY a4.2.2.2.2.1 (0,(0,(0,(0,())))) (bU a4.2.1.1.1)).2.2.2.1,()))))),(a4.2.1.1.2.1,(a4.2.2.2.1.2.2.2.1,()))))),())else none else none) (fun b4=>none)else none else none else none else none else none else none else none else none
noncomputable def aax (q:gy):Env:=dK prog tt [] [(185,2,Ol),(152,600003,ao7),(58,600003,aa2)] [(185,2,J4 q)] [] [(87,yx),(88,SX),(115,zG),(184,BQ),(186,aeH q)]
def KG (q:gy) {γ:Type} (a:zi.den->Option γ) (b:Bq.den->Option γ) (c:BG.den->Option γ) (v:zi.den):Option γ:=vW q (fun v0 v1 v2 v3 v4 v5 v6=>a ((),((v0,v1,()),(),(),()),((),(v2,v3,v4,v5,()),v6,()))) (fun e0 e1 e2 e3 e4 e5 e6=>b ((),((e0,e1,()),(),(),()),((),(e2,e3,e4,e5,()),e6,()))) (fun r0 r1=>c ((),((r0,r1,()),(),(),()),())) v.2.1.1.1 v.2.1.1.2.1 v.2.2.2.1.1 v.2.2.2.1.2.1 v.2.2.2.1.2.2.1 v.2.2.2.1.2.2.2.1 v.2.2.2.2.1
theorem Y7 (q:gy):dV (aax q) 185 Nc (J4 q):=lW (KG q) (h2:=by intros;simp only[KG,vW,cO,cZ,aY,bW,dh])
theorem abk (q:gy):dJ (aax q) 185 ML:=zK [Nc] (aD (fM (Y7 q)) aN)
theorem afC (q:gy) (H:Z7 q):dm (aax q):=eB aN [185] (aD ⟨f185,ML,by kernel_rfl,by kernel_rfl,abk q⟩ aN) (hx:=(aD kU (aD BU (aD oq (aD pY (aD H.2.2.2.1 aN))))))
def apd:dE:=⟨[0],[],[],[],[],[]⟩
def ape:dE:=⟨[0],[],[],[],[],[]⟩
def aa4:dE:=⟨[0,2,6,7],[],[],[],[],[]⟩
def Yx:dE:=⟨[0,1,2],[],[],[],[],[]⟩
def aka (q:gy) (x0:List eG) (x1:Int) (x2:List ed) (x3 x4:Int):Option yA:=aZ (QY x0 x1 x2 x3 x4) fun y0=>bif y0.2.1 then aZ (q.q223 y0.1.1 y0.1.2.1 y0.1.2.2.1 y0.1.2.2.2.1 y0.1.2.2.2.2.1) fun y1=>some ((y1.1.1,(y1.1.2.1,(y1.1.2.2.1,(y1.1.2.2.2.1,(y1.1.2.2.2.2.1,()))))),())else aZ (ac2 y0.1.1 y0.1.2.1 y0.1.2.2.1 y0.1.2.2.2.1 y0.1.2.2.2.2.1) fun y1=>bif y1.2.1 then bif(bD 16 16)then bif(bD y1.1.2.1 y1.1.2.1)then bif(bD y1.1.2.2.2.1 y1.1.2.2.2.1)then bif(dY (bF y1.1.2.2.1 [(16,(y1.1.2.1,(0,(y1.1.2.2.2.1,()))))]) 32)then bif(bD 16 16)then bif(bD y1.1.2.1 y1.1.2.1)then bif(bD y1.1.2.2.2.1 y1.1.2.2.2.1)then bif((bD 16 16)&&((bD y1.1.2.1 y1.1.2.1)&&((bD 0 0)&&((bD y1.1.2.2.2.1 y1.1.2.2.2.1)&&true))))then aZ (q.q226 y1.1.1 y1.1.2.1 (bF y1.1.2.2.1 [(16,(y1.1.2.1,(0,(y1.1.2.2.2.1,()))))]) (bi y1.1.2.2.1) (bT .i64 y1.1.2.2.2.2.1 1)) fun y2=>bif(fU y2.1.2.2.1 (bi y1.1.2.2.1))then bif(nH (bU (bi y1.1.2.2.1)) y2.1.2.2.1)then some ((y2.1.1,(y2.1.2.1,((gp y2.1.2.2.1 (bU (bi y1.1.2.2.1)) ((bY y2.1.2.2.1 (0,(0,(0,(0,())))) (bU (bi y1.1.2.2.1))).1,((bY y2.1.2.2.1 (0,(0,(0,(0,())))) (bU (bi y1.1.2.2.1))).2.1,(y2.1.2.1,((bY y2.1.2.2.1 (0,(0,(0,(0,())))) (bU (bi y1.1.2.2.1))).2.2.2.1,()))))),(y1.1.2.2.2.1,((eY .i64 y2.1.2.2.2.2.1 1),()))))),())else none else none else none else none else none else none else none else none else none else none else aZ (XP y1.1.1 y1.1.2.1 y1.1.2.2.1 y1.1.2.2.2.1 y1.1.2.2.2.2.1) fun y2=>bif y2.2.1 then bif(bD 5 5)then bif(bD y2.1.2.1 y2.1.2.1)then bif(bD y2.1.2.2.2.1 y2.1.2.2.2.1)then bif(dY (bF y2.1.2.2.1 [(5,(y2.1.2.1,(0,(y2.1.2.2.2.1,()))))]) 32)then bif(bD 5 5)then bif(bD y2.1.2.1 y2.1.2.1)then bif(bD y2.1.2.2.2.1 y2.1.2.2.2.1)then bif((bD 5 5)&&((bD y2.1.2.1 y2.1.2.1)&&((bD 0 0)&&((bD y2.1.2.2.2.1 y2.1.2.2.2.1)&&true))))then aZ (ac3 y2.1.1 y2.1.2.1 (bF y2.1.2.2.1 [(5,(y2.1.2.1,(0,(y2.1.2.2.2.1,()))))]) (bi y2.1.2.2.1) y2.1.2.2.2.2.1) fun y3=>bif(fU y3.1.2.2.1 (bi y2.1.2.2.1))then bif(nH (bU (bi y2.1.2.2.1)) y3.1.2.2.1)then some ((y3.1.1,(y3.1.2.1,((gp y3.1.2.2.1 (bU (bi y2.1.2.2.1)) ((bY y3.1.2.2.1 (0,(0,(0,(0,())))) (bU (bi y2.1.2.2.1))).1,((bY y3.1.2.2.1 (0,(0,(0,(0,())))) (bU (bi y2.1.2.2.1))).2.1,(y3.1.2.1,((bY y3.1.2.2.1 (0,(0,(0,(0,())))) (bU (bi y2.1.2.2.1))).2.2.2.1,()))))),(y2.1.2.2.2.1,(y3.1.2.2.2.2.1,()))))),())else none else none else none else none else none else none else none else none else none else none else aZ (uX y2.1.1 y2.1.2.1 y2.1.2.2.1 y2.1.2.2.2.1 y2.1.2.2.2.2.1) fun y3=>some ((y3.1.1,(y3.1.2.1,(y3.1.2.2.1,(y3.1.2.2.2.1,(y3.1.2.2.2.2.1,()))))),())
noncomputable def as8 (q:gy):Env:=dK prog tt [] [(186,600004,apd),(186,600006,ape),(58,600003,aa4),(225,600001,Yx)] [] [] [(113,abZ),(151,WQ),(184,BQ),(223,WU q),(224,anu),(226,aeI q),(227,anv)]
theorem afQ (q:gy) (H:Z7 q):dm (as8 q):=eB aN [] aN (hx:=(aD SE (aD Jr (aD pY (aD H.2.2.2.2.2.1 (aD aih (aD H.2.2.2.2.1 (aD aii aN))))))))
def akf (q:gy) (x0:List eG) (x1:Int) (x2:List ed) (x3 x4:Int):Option yA:=aZ (JO x0 x1 x2 x3 x4) fun y0=>aZ (o8 y0.1.1 y0.1.2.1 y0.1.2.2.1 y0.1.2.2.2.1 y0.1.2.2.2.2.1 [40]) fun y1=>aZ (pg y1.1.1 y1.1.2.1 y1.1.2.2.1 y1.1.2.2.2.1 y1.1.2.2.2.2.1 [41]) fun y2=>aZ (mQ y2.1.1 y2.1.2.1 y2.1.2.2.1 y2.1.2.2.2.1 y2.1.2.2.2.2.1) fun y3=>aZ (QY y3.1.1 y3.1.2.1 y3.1.2.2.1 y3.1.2.2.2.1 y3.1.2.2.2.2.1) fun y4=>bif y4.2.1 then aZ (q.q223 y4.1.1 y4.1.2.1 y4.1.2.2.1 y4.1.2.2.2.1 y4.1.2.2.2.2.1) fun y5=>some ((y5.1.1,(y5.1.2.1,(y5.1.2.2.1,(y5.1.2.2.2.1,(y5.1.2.2.2.2.1,()))))),())else aZ (uX y4.1.1 y4.1.2.1 y4.1.2.2.1 y4.1.2.2.2.1 y4.1.2.2.2.2.1) fun y5=>some ((y5.1.1,(y5.1.2.1,(y5.1.2.2.1,(y5.1.2.2.2.1,(y5.1.2.2.2.2.1,()))))),())
noncomputable def atm (q:gy):Env:=dK prog tt [] [] [] [] [(87,yx),(115,zG),(151,WQ),(184,BQ),(223,WU q),(254,PG),(255,BR)]
theorem af7 (q:gy) (H:Z7 q):dm (atm q):=eB aN [] aN (hx:=(aD kU (aD oq (aD Jr (aD pY (aD H.2.2.2.2.2.1 (aD Dw (aD qc aN))))))))
noncomputable def MN:Code:=(f251.body).getD .skip
noncomputable def lH:Code:=cA (cA (cB (cB (MN))))
def nP:dE:=⟨[0,252000002],[],[],[],[],[]⟩
def ak7:dE:=⟨[1,2,3],[],[],[],[],[]⟩
def Yy:dE:=⟨[0,1,2],[],[],[],[],[]⟩
def aa5:dE:=⟨[0,2,6,7],[],[],[],[],[]⟩
def Yz:dE:=⟨[0,1],[],[],[],[],[]⟩
def zl:SQ:=⟨us [.ptr 1000001 0] 12,[us [.ptr 0 0,.u,.fn 251 [(1000001,0),(2000003,0)],.u,.u,.u,.v bV,.v bV,.u,.u,.u,.u,.u,.u,.u,.u,.u,.u,.u,.u,.u,.u,.u,.u,.u,.u,.u,.u,.u,.u,.u,.u,.u,.u,.u,.u,.u,.fn 251 [(1000001,0),(2000003,0)]] 16,us [.ptr 0 0,.v bV,.fn 251 [(1000001,0),(2000003,0)],.u,.u,.u,.u,.u,.u,.u,.u,.u,.u,.ptr 0 0,.v bV,.fn 251 [(1000001,0),(2000003,0)]] 8,[.u,.ptr 1000001 0,.v bV,.ptr 2000003 0,.u,.u,.u,.u,.u,.u,.u,.u,.u,.u,.u,.u,.u,.u,.u,.u,.u,.u,.u,.u,.u,.u,.u,.u,.ptr 0 0,.v bV,.fn 251 [(1000001,0),(2000003,0)],.u],[.ptr 0 0]],[.box 2000003 1 [.mfn 246 [(0,0)]],.box 1000001 113 [.ptr 0 0],.arr 1 rJ,.box 0 115 [.v o9,.v bV,.slc 1,.v bV,.v bV]]⟩
def Bz:SQ:=⟨us [] 13,[us [.ptr 0 0,.u,.fn 251 [(1000001,0),(2000003,0)],.u,.u,.u,.v bV,.v bV,.u,.u,.u,.u,.u,.u,.u,.u,.u,.u,.u,.u,.u,.u,.u,.u,.u,.u,.u,.u,.u,.u,.u,.u,.u,.u,.u,.u,.u,.fn 251 [(1000001,0),(2000003,0)]] 16,us [.ptr 0 0,.v bV,.fn 251 [(1000001,0),(2000003,0)],.u,.u,.u,.u,.u,.u,.u,.u,.u,.u,.ptr 0 0,.v bV,.fn 251 [(1000001,0),(2000003,0)]] 8,[.u,.ptr 1000001 0,.v bV,.ptr 2000003 0,.u,.u,.u,.u,.u,.u,.u,.u,.u,.u,.u,.u,.u,.u,.u,.u,.u,.u,.u,.u,.u,.u,.u,.u,.ptr 0 0,.v bV,.fn 251 [(1000001,0),(2000003,0)],.u],[.ptr 0 0]],[.box 2000003 1 [.mfn 246 [(0,0)]],.box 1000001 113 [.ptr 0 0],.arr 1 rJ,.box 0 115 [.v o9,.v bV,.slc 1,.v bV,.v bV]]⟩
def BI:SQ:=⟨us [] 13,[us [.ptr 0 0,.u,.fn 251 [(1000001,0),(2000003,0)],.u,.u,.u,.v bV,.v bV,.u,.u,.u,.u,.u,.u,.u,.u,.u,.u,.u,.u,.u,.u,.u,.u,.u,.u,.u,.u,.u,.u,.u,.u,.u,.u,.u,.u,.u,.fn 251 [(1000001,0),(2000003,0)]] 16,us [.ptr 0 0,.v bV,.fn 251 [(1000001,0),(2000003,0)],.u,.u,.u,.u,.u,.u,.u,.u,.u,.u,.ptr 0 0,.v bV,.fn 251 [(1000001,0),(2000003,0)]] 8,[.u,.ptr 1000001 0,.v bV,.ptr 2000003 0,.u,.u,.u,.u,.u,.u,.u,.u,.u,.u,.u,.u,.u,.u,.u,.u,.u,.u,.u,.u,.u,.u,.u,.u,.ptr 0 0,.v bV,.fn 251 [(1000001,0),(2000003,0)],.u],[.ptr 0 0]],[]⟩
def qX (q:gy) {γ:Type} (rec kE:Int->Int->Int->Int->Int->Int->(List ed)->(List eG)->Int->Int->Int->Option γ) (kR:Int->Int->Int->Int->Int->Int->Option γ) (v0 v1 v2 v3 v4 v5:Int) (v6:List ed) (v7:List eG) (v8 v9 v10:Int):Option γ:=aZ (xM v7 v8 v6 v9 v10) fun y0=>bif y0.2.1 then rec v0 v1 v2 v3 v4 v5 y0.1.2.2.1 y0.1.1 y0.1.2.1 y0.1.2.2.2.1 y0.1.2.2.2.2.1 else kE v0 v1 v2 v3 v4 v5 y0.1.2.2.1 y0.1.1 y0.1.2.1 y0.1.2.2.2.1 y0.1.2.2.2.2.1
def lK (q:gy):Nat->Int->Int->Int->Int->Int->Int->(List ed)->(List eG)->Int->Int->Int->Option (Bz.den⊕BI.den)
 |0,_,_,_,_,_,_,_,_,_,_,_=>none
 |n+1,v0,v1,v2,v3,v4,v5,v6,v7,v8,v9,v10=>qX q (lK q n) (fun e0 e1 e2 e3 e4 e5 e6 e7 e8 e9 e10=>some (.inl ((),((e0,e1,()),(e2,e3,()),(e4,e5,()),(),()),((),(),e6,(e7,e8,e9,e10,()),())))) (fun r0 r1 r2 r3 r4 r5=>some (.inr ((),((r0,r1,()),(r2,r3,()),(r4,r5,()),(),()),()))) v0 v1 v2 v3 v4 v5 v6 v7 v8 v9 v10
def YQ (q:gy) (n:Nat) (v:zl.den):=lK q n v.2.1.1.1 v.2.1.1.2.1 v.2.1.2.1.1 v.2.1.2.1.2.1 v.2.1.2.2.1.1 v.2.1.2.2.1.2.1 v.2.2.2.2.1 v.2.2.2.2.2.1.1 v.2.2.2.2.2.1.2.1 v.2.2.2.2.2.1.2.2.1 v.2.2.2.2.2.1.2.2.2.1
noncomputable def AY (q:gy):dw:=fE nP zl Bz BI (.exit 0) (YQ q bC) 6
def rX:SQ:=⟨us [.ptr 1000001 0] 12,[us [.ptr 0 0,.u,.fn 251 [(1000001,0),(2000003,0)],.u,.u,.u,.v bV,.v bV,.u,.u,.u,.u,.u,.u,.u,.u,.u,.u,.u,.u,.u,.u,.u,.u,.u,.u,.u,.u,.u,.u,.u,.u,.u,.u,.u,.u,.u,.fn 251 [(1000001,0),(2000003,0)]] 16,us [.ptr 0 0,.v bV,.fn 251 [(1000001,0),(2000003,0)],.u,.u,.u,.u,.u,.u,.u,.u,.u,.u,.ptr 0 0,.v bV,.fn 251 [(1000001,0),(2000003,0)]] 8,[.u,.ptr 1000001 0,.v bV,.ptr 2000003 0,.u,.u,.u,.u,.u,.u,.u,.u,.u,.u,.u,.u,.u,.u,.u,.u,.u,.u,.u,.u,.u,.u,.u,.u,.ptr 0 0,.v bV,.fn 251 [(1000001,0),(2000003,0)],.u],[.ptr 0 0]],[.box 2000003 1 [.mfn 247 [(0,0)]],.box 1000001 113 [.ptr 0 0],.arr 1 rJ,.box 0 115 [.v o9,.v bV,.slc 1,.v bV,.v bV]]⟩
def wL:SQ:=⟨us [] 13,[us [.ptr 0 0,.u,.fn 251 [(1000001,0),(2000003,0)],.u,.u,.u,.v bV,.v bV,.u,.u,.u,.u,.u,.u,.u,.u,.u,.u,.u,.u,.u,.u,.u,.u,.u,.u,.u,.u,.u,.u,.u,.u,.u,.u,.u,.u,.u,.fn 251 [(1000001,0),(2000003,0)]] 16,us [.ptr 0 0,.v bV,.fn 251 [(1000001,0),(2000003,0)],.u,.u,.u,.u,.u,.u,.u,.u,.u,.u,.ptr 0 0,.v bV,.fn 251 [(1000001,0),(2000003,0)]] 8,[.u,.ptr 1000001 0,.v bV,.ptr 2000003 0,.u,.u,.u,.u,.u,.u,.u,.u,.u,.u,.u,.u,.u,.u,.u,.u,.u,.u,.u,.u,.u,.u,.u,.u,.ptr 0 0,.v bV,.fn 251 [(1000001,0),(2000003,0)],.u],[.ptr 0 0]],[.box 2000003 1 [.mfn 247 [(0,0)]],.box 1000001 113 [.ptr 0 0],.arr 1 rJ,.box 0 115 [.v o9,.v bV,.slc 1,.v bV,.v bV]]⟩
def wS:SQ:=⟨us [] 13,[us [.ptr 0 0,.u,.fn 251 [(1000001,0),(2000003,0)],.u,.u,.u,.v bV,.v bV,.u,.u,.u,.u,.u,.u,.u,.u,.u,.u,.u,.u,.u,.u,.u,.u,.u,.u,.u,.u,.u,.u,.u,.u,.u,.u,.u,.u,.u,.fn 251 [(1000001,0),(2000003,0)]] 16,us [.ptr 0 0,.v bV,.fn 251 [(1000001,0),(2000003,0)],.u,.u,.u,.u,.u,.u,.u,.u,.u,.u,.ptr 0 0,.v bV,.fn 251 [(1000001,0),(2000003,0)]] 8,[.u,.ptr 1000001 0,.v bV,.ptr 2000003 0,.u,.u,.u,.u,.u,.u,.u,.u,.u,.u,.u,.u,.u,.u,.u,.u,.u,.u,.u,.u,.u,.u,.u,.u,.ptr 0 0,.v bV,.fn 251 [(1000001,0),(2000003,0)],.u],[.ptr 0 0]],[]⟩
def mY (q:gy) {γ:Type} (rec kE:Int->Int->Int->Int->Int->Int->(List ed)->(List eG)->Int->Int->Int->Option γ) (kR:Int->Int->Int->Int->Int->Int->Option γ) (v0 v1 v2 v3 v4 v5:Int) (v6:List ed) (v7:List eG) (v8 v9 v10:Int):Option γ:=aZ (xM v7 v8 v6 v9 v10) fun y0=>bif y0.2.1 then rec v0 v1 v2 v3 v4 v5 y0.1.2.2.1 y0.1.1 y0.1.2.1 y0.1.2.2.2.1 y0.1.2.2.2.2.1 else kE v0 v1 v2 v3 v4 v5 y0.1.2.2.1 y0.1.1 y0.1.2.1 y0.1.2.2.2.1 y0.1.2.2.2.2.1
def jM (q:gy):Nat->Int->Int->Int->Int->Int->Int->(List ed)->(List eG)->Int->Int->Int->Option (wL.den⊕wS.den)
 |0,_,_,_,_,_,_,_,_,_,_,_=>none
 |n+1,v0,v1,v2,v3,v4,v5,v6,v7,v8,v9,v10=>mY q (jM q n) (fun e0 e1 e2 e3 e4 e5 e6 e7 e8 e9 e10=>some (.inl ((),((e0,e1,()),(e2,e3,()),(e4,e5,()),(),()),((),(),e6,(e7,e8,e9,e10,()),())))) (fun r0 r1 r2 r3 r4 r5=>some (.inr ((),((r0,r1,()),(r2,r3,()),(r4,r5,()),(),()),()))) v0 v1 v2 v3 v4 v5 v6 v7 v8 v9 v10
def Qg (q:gy) (n:Nat) (v:rX.den):=jM q n v.2.1.1.1 v.2.1.1.2.1 v.2.1.2.1.1 v.2.1.2.1.2.1 v.2.1.2.2.1.1 v.2.1.2.2.1.2.1 v.2.2.2.2.1 v.2.2.2.2.2.1.1 v.2.2.2.2.2.1.2.1 v.2.2.2.2.2.1.2.2.1 v.2.2.2.2.2.1.2.2.2.1
noncomputable def wF (q:gy):dw:=fE nP rX wL wS (.exit 0) (Qg q bC) 12
def rY:SQ:=⟨us [.ptr 1000001 0] 12,[us [.ptr 0 0,.u,.fn 251 [(1000001,0),(2000003,0)],.u,.u,.u,.v bV,.v bV,.u,.u,.u,.u,.u,.u,.u,.u,.u,.u,.u,.u,.u,.u,.u,.u,.u,.u,.u,.u,.u,.u,.u,.u,.u,.u,.u,.u,.u,.fn 251 [(1000001,0),(2000003,0)]] 16,us [.ptr 0 0,.v bV,.fn 251 [(1000001,0),(2000003,0)],.u,.u,.u,.u,.u,.u,.u,.u,.u,.u,.ptr 0 0,.v bV,.fn 251 [(1000001,0),(2000003,0)]] 8,[.u,.ptr 1000001 0,.v bV,.ptr 2000003 0,.u,.u,.u,.u,.u,.u,.u,.u,.u,.u,.u,.u,.u,.u,.u,.u,.u,.u,.u,.u,.u,.u,.u,.u,.ptr 0 0,.v bV,.fn 251 [(1000001,0),(2000003,0)],.u],[.ptr 0 0]],[.box 2000003 1 [.mfn 248 [(0,0)]],.box 1000001 113 [.ptr 0 0],.arr 1 rJ,.box 0 115 [.v o9,.v bV,.slc 1,.v bV,.v bV]]⟩
def wM:SQ:=⟨us [] 13,[us [.ptr 0 0,.u,.fn 251 [(1000001,0),(2000003,0)],.u,.u,.u,.v bV,.v bV,.u,.u,.u,.u,.u,.u,.u,.u,.u,.u,.u,.u,.u,.u,.u,.u,.u,.u,.u,.u,.u,.u,.u,.u,.u,.u,.u,.u,.u,.fn 251 [(1000001,0),(2000003,0)]] 16,us [.ptr 0 0,.v bV,.fn 251 [(1000001,0),(2000003,0)],.u,.u,.u,.u,.u,.u,.u,.u,.u,.u,.ptr 0 0,.v bV,.fn 251 [(1000001,0),(2000003,0)]] 8,[.u,.ptr 1000001 0,.v bV,.ptr 2000003 0,.u,.u,.u,.u,.u,.u,.u,.u,.u,.u,.u,.u,.u,.u,.u,.u,.u,.u,.u,.u,.u,.u,.u,.u,.ptr 0 0,.v bV,.fn 251 [(1000001,0),(2000003,0)],.u],[.ptr 0 0]],[.box 2000003 1 [.mfn 248 [(0,0)]],.box 1000001 113 [.ptr 0 0],.arr 1 rJ,.box 0 115 [.v o9,.v bV,.slc 1,.v bV,.v bV]]⟩
def wU:SQ:=⟨us [] 13,[us [.ptr 0 0,.u,.fn 251 [(1000001,0),(2000003,0)],.u,.u,.u,.v bV,.v bV,.u,.u,.u,.u,.u,.u,.u,.u,.u,.u,.u,.u,.u,.u,.u,.u,.u,.u,.u,.u,.u,.u,.u,.u,.u,.u,.u,.u,.u,.fn 251 [(1000001,0),(2000003,0)]] 16,us [.ptr 0 0,.v bV,.fn 251 [(1000001,0),(2000003,0)],.u,.u,.u,.u,.u,.u,.u,.u,.u,.u,.ptr 0 0,.v bV,.fn 251 [(1000001,0),(2000003,0)]] 8,[.u,.ptr 1000001 0,.v bV,.ptr 2000003 0,.u,.u,.u,.u,.u,.u,.u,.u,.u,.u,.u,.u,.u,.u,.u,.u,.u,.u,.u,.u,.u,.u,.u,.u,.ptr 0 0,.v bV,.fn 251 [(1000001,0),(2000003,0)],.u],[.ptr 0 0]],[]⟩
def mZ (q:gy) {γ:Type} (rec kE:Int->Int->Int->Int->Int->Int->(List ed)->(List eG)->Int->Int->Int->Option γ) (kR:Int->Int->Int->Int->Int->Int->Option γ) (v0 v1 v2 v3 v4 v5:Int) (v6:List ed) (v7:List eG) (v8 v9 v10:Int):Option γ:=aZ (xM v7 v8 v6 v9 v10) fun y0=>bif y0.2.1 then rec v0 v1 v2 v3 v4 v5 y0.1.2.2.1 y0.1.1 y0.1.2.1 y0.1.2.2.2.1 y0.1.2.2.2.2.1 else kE v0 v1 v2 v3 v4 v5 y0.1.2.2.1 y0.1.1 y0.1.2.1 y0.1.2.2.2.1 y0.1.2.2.2.2.1
def jO (q:gy):Nat->Int->Int->Int->Int->Int->Int->(List ed)->(List eG)->Int->Int->Int->Option (wM.den⊕wU.den)
 |0,_,_,_,_,_,_,_,_,_,_,_=>none
 |n+1,v0,v1,v2,v3,v4,v5,v6,v7,v8,v9,v10=>mZ q (jO q n) (fun e0 e1 e2 e3 e4 e5 e6 e7 e8 e9 e10=>some (.inl ((),((e0,e1,()),(e2,e3,()),(e4,e5,()),(),()),((),(),e6,(e7,e8,e9,e10,()),())))) (fun r0 r1 r2 r3 r4 r5=>some (.inr ((),((r0,r1,()),(r2,r3,()),(r4,r5,()),(),()),()))) v0 v1 v2 v3 v4 v5 v6 v7 v8 v9 v10
def Qh (q:gy) (n:Nat) (v:rY.den):=jO q n v.2.1.1.1 v.2.1.1.2.1 v.2.1.2.1.1 v.2.1.2.1.2.1 v.2.1.2.2.1.1 v.2.1.2.2.1.2.1 v.2.2.2.2.1 v.2.2.2.2.2.1.1 v.2.2.2.2.2.1.2.1 v.2.2.2.2.2.1.2.2.1 v.2.2.2.2.2.1.2.2.2.1
noncomputable def wG (q:gy):dw:=fE nP rY wM wU (.exit 0) (Qh q bC) 18
def rZ:SQ:=⟨us [.ptr 1000001 0] 12,[us [.ptr 0 0,.u,.fn 251 [(1000001,0),(2000003,0)],.u,.u,.u,.v bV,.v bV,.u,.u,.u,.u,.u,.u,.u,.u,.u,.u,.u,.u,.u,.u,.u,.u,.u,.u,.u,.u,.u,.u,.u,.u,.u,.u,.u,.u,.u,.fn 251 [(1000001,0),(2000003,0)]] 16,us [.ptr 0 0,.v bV,.fn 251 [(1000001,0),(2000003,0)],.u,.u,.u,.u,.u,.u,.u,.u,.u,.u,.ptr 0 0,.v bV,.fn 251 [(1000001,0),(2000003,0)]] 8,[.u,.ptr 1000001 0,.v bV,.ptr 2000003 0,.u,.u,.u,.u,.u,.u,.u,.u,.u,.u,.u,.u,.u,.u,.u,.u,.u,.u,.u,.u,.u,.u,.u,.u,.ptr 0 0,.v bV,.fn 251 [(1000001,0),(2000003,0)],.u],[.ptr 0 0]],[.box 2000003 1 [.mfn 249 [(0,0)]],.box 1000001 113 [.ptr 0 0],.arr 1 rJ,.box 0 115 [.v o9,.v bV,.slc 1,.v bV,.v bV]]⟩
def wO:SQ:=⟨us [] 13,[us [.ptr 0 0,.u,.fn 251 [(1000001,0),(2000003,0)],.u,.u,.u,.v bV,.v bV,.u,.u,.u,.u,.u,.u,.u,.u,.u,.u,.u,.u,.u,.u,.u,.u,.u,.u,.u,.u,.u,.u,.u,.u,.u,.u,.u,.u,.u,.fn 251 [(1000001,0),(2000003,0)]] 16,us [.ptr 0 0,.v bV,.fn 251 [(1000001,0),(2000003,0)],.u,.u,.u,.u,.u,.u,.u,.u,.u,.u,.ptr 0 0,.v bV,.fn 251 [(1000001,0),(2000003,0)]] 8,[.u,.ptr 1000001 0,.v bV,.ptr 2000003 0,.u,.u,.u,.u,.u,.u,.u,.u,.u,.u,.u,.u,.u,.u,.u,.u,.u,.u,.u,.u,.u,.u,.u,.u,.ptr 0 0,.v bV,.fn 251 [(1000001,0),(2000003,0)],.u],[.ptr 0 0]],[.box 2000003 1 [.mfn 249 [(0,0)]],.box 1000001 113 [.ptr 0 0],.arr 1 rJ,.box 0 115 [.v o9,.v bV,.slc 1,.v bV,.v bV]]⟩
def wV:SQ:=⟨us [] 13,[us [.ptr 0 0,.u,.fn 251 [(1000001,0),(2000003,0)],.u,.u,.u,.v bV,.v bV,.u,.u,.u,.u,.u,.u,.u,.u,.u,.u,.u,.u,.u,.u,.u,.u,.u,.u,.u,.u,.u,.u,.u,.u,.u,.u,.u,.u,.u,.fn 251 [(1000001,0),(2000003,0)]] 16,us [.ptr 0 0,.v bV,.fn 251 [(1000001,0),(2000003,0)],.u,.u,.u,.u,.u,.u,.u,.u,.u,.u,.ptr 0 0,.v bV,.fn 251 [(1000001,0),(2000003,0)]] 8,[.u,.ptr 1000001 0,.v bV,.ptr 2000003 0,.u,.u,.u,.u,.u,.u,.u,.u,.u,.u,.u,.u,.u,.u,.u,.u,.u,.u,.u,.u,.u,.u,.u,.u,.ptr 0 0,.v bV,.fn 251 [(1000001,0),(2000003,0)],.u],[.ptr 0 0]],[]⟩
def ni (q:gy) {γ:Type} (rec kE:Int->Int->Int->Int->Int->Int->(List ed)->(List eG)->Int->Int->Int->Option γ) (kR:Int->Int->Int->Int->Int->Int->Option γ) (v0 v1 v2 v3 v4 v5:Int) (v6:List ed) (v7:List eG) (v8 v9 v10:Int):Option γ:=aZ (xM v7 v8 v6 v9 v10) fun y0=>bif y0.2.1 then rec v0 v1 v2 v3 v4 v5 y0.1.2.2.1 y0.1.1 y0.1.2.1 y0.1.2.2.2.1 y0.1.2.2.2.2.1 else kE v0 v1 v2 v3 v4 v5 y0.1.2.2.1 y0.1.1 y0.1.2.1 y0.1.2.2.2.1 y0.1.2.2.2.2.1
def jP (q:gy):Nat->Int->Int->Int->Int->Int->Int->(List ed)->(List eG)->Int->Int->Int->Option (wO.den⊕wV.den)
 |0,_,_,_,_,_,_,_,_,_,_,_=>none
 |n+1,v0,v1,v2,v3,v4,v5,v6,v7,v8,v9,v10=>ni q (jP q n) (fun e0 e1 e2 e3 e4 e5 e6 e7 e8 e9 e10=>some (.inl ((),((e0,e1,()),(e2,e3,()),(e4,e5,()),(),()),((),(),e6,(e7,e8,e9,e10,()),())))) (fun r0 r1 r2 r3 r4 r5=>some (.inr ((),((r0,r1,()),(r2,r3,()),(r4,r5,()),(),()),()))) v0 v1 v2 v3 v4 v5 v6 v7 v8 v9 v10
def Qi (q:gy) (n:Nat) (v:rZ.den):=jP q n v.2.1.1.1 v.2.1.1.2.1 v.2.1.2.1.1 v.2.1.2.1.2.1 v.2.1.2.2.1.1 v.2.1.2.2.1.2.1 v.2.2.2.2.1 v.2.2.2.2.2.1.1 v.2.2.2.2.2.1.2.1 v.2.2.2.2.2.1.2.2.1 v.2.2.2.2.2.1.2.2.2.1
noncomputable def wH (q:gy):dw:=fE nP rZ wO wV (.exit 0) (Qi q bC) 24
def su:SQ:=⟨us [.ptr 1000001 0] 12,[us [.ptr 0 0,.u,.fn 251 [(1000001,0),(2000003,0)],.u,.u,.u,.v bV,.v bV,.u,.u,.u,.u,.u,.u,.u,.u,.u,.u,.u,.u,.u,.u,.u,.u,.u,.u,.u,.u,.u,.u,.u,.u,.u,.u,.u,.u,.u,.fn 251 [(1000001,0),(2000003,0)]] 16,us [.ptr 0 0,.v bV,.fn 251 [(1000001,0),(2000003,0)],.u,.u,.u,.u,.u,.u,.u,.u,.u,.u,.ptr 0 0,.v bV,.fn 251 [(1000001,0),(2000003,0)]] 8,[.u,.ptr 1000001 0,.v bV,.ptr 2000003 0,.u,.u,.u,.u,.u,.u,.u,.u,.u,.u,.u,.u,.u,.u,.u,.u,.u,.u,.u,.u,.u,.u,.u,.u,.ptr 0 0,.v bV,.fn 251 [(1000001,0),(2000003,0)],.u],[.ptr 0 0]],[.box 2000003 1 [.mfn 250 [(0,0)]],.box 1000001 113 [.ptr 0 0],.arr 1 rJ,.box 0 115 [.v o9,.v bV,.slc 1,.v bV,.v bV]]⟩
def wP:SQ:=⟨us [] 13,[us [.ptr 0 0,.u,.fn 251 [(1000001,0),(2000003,0)],.u,.u,.u,.v bV,.v bV,.u,.u,.u,.u,.u,.u,.u,.u,.u,.u,.u,.u,.u,.u,.u,.u,.u,.u,.u,.u,.u,.u,.u,.u,.u,.u,.u,.u,.u,.fn 251 [(1000001,0),(2000003,0)]] 16,us [.ptr 0 0,.v bV,.fn 251 [(1000001,0),(2000003,0)],.u,.u,.u,.u,.u,.u,.u,.u,.u,.u,.ptr 0 0,.v bV,.fn 251 [(1000001,0),(2000003,0)]] 8,[.u,.ptr 1000001 0,.v bV,.ptr 2000003 0,.u,.u,.u,.u,.u,.u,.u,.u,.u,.u,.u,.u,.u,.u,.u,.u,.u,.u,.u,.u,.u,.u,.u,.u,.ptr 0 0,.v bV,.fn 251 [(1000001,0),(2000003,0)],.u],[.ptr 0 0]],[.box 2000003 1 [.mfn 250 [(0,0)]],.box 1000001 113 [.ptr 0 0],.arr 1 rJ,.box 0 115 [.v o9,.v bV,.slc 1,.v bV,.v bV]]⟩
def wW:SQ:=⟨us [] 13,[us [.ptr 0 0,.u,.fn 251 [(1000001,0),(2000003,0)],.u,.u,.u,.v bV,.v bV,.u,.u,.u,.u,.u,.u,.u,.u,.u,.u,.u,.u,.u,.u,.u,.u,.u,.u,.u,.u,.u,.u,.u,.u,.u,.u,.u,.u,.u,.fn 251 [(1000001,0),(2000003,0)]] 16,us [.ptr 0 0,.v bV,.fn 251 [(1000001,0),(2000003,0)],.u,.u,.u,.u,.u,.u,.u,.u,.u,.u,.ptr 0 0,.v bV,.fn 251 [(1000001,0),(2000003,0)]] 8,[.u,.ptr 1000001 0,.v bV,.ptr 2000003 0,.u,.u,.u,.u,.u,.u,.u,.u,.u,.u,.u,.u,.u,.u,.u,.u,.u,.u,.u,.u,.u,.u,.u,.u,.ptr 0 0,.v bV,.fn 251 [(1000001,0),(2000003,0)],.u],[.ptr 0 0]],[]⟩
def ny (q:gy) {γ:Type} (rec kE:Int->Int->Int->Int->Int->Int->(List ed)->(List eG)->Int->Int->Int->Option γ) (kR:Int->Int->Int->Int->Int->Int->Option γ) (v0 v1 v2 v3 v4 v5:Int) (v6:List ed) (v7:List eG) (v8 v9 v10:Int):Option γ:=aZ (xM v7 v8 v6 v9 v10) fun y0=>bif y0.2.1 then rec v0 v1 v2 v3 v4 v5 y0.1.2.2.1 y0.1.1 y0.1.2.1 y0.1.2.2.2.1 y0.1.2.2.2.2.1 else kE v0 v1 v2 v3 v4 v5 y0.1.2.2.1 y0.1.1 y0.1.2.1 y0.1.2.2.2.1 y0.1.2.2.2.2.1
def jQ (q:gy):Nat->Int->Int->Int->Int->Int->Int->(List ed)->(List eG)->Int->Int->Int->Option (wP.den⊕wW.den)
 |0,_,_,_,_,_,_,_,_,_,_,_=>none
 |n+1,v0,v1,v2,v3,v4,v5,v6,v7,v8,v9,v10=>ny q (jQ q n) (fun e0 e1 e2 e3 e4 e5 e6 e7 e8 e9 e10=>some (.inl ((),((e0,e1,()),(e2,e3,()),(e4,e5,()),(),()),((),(),e6,(e7,e8,e9,e10,()),())))) (fun r0 r1 r2 r3 r4 r5=>some (.inr ((),((r0,r1,()),(r2,r3,()),(r4,r5,()),(),()),()))) v0 v1 v2 v3 v4 v5 v6 v7 v8 v9 v10
def Qj (q:gy) (n:Nat) (v:su.den):=jQ q n v.2.1.1.1 v.2.1.1.2.1 v.2.1.2.1.1 v.2.1.2.1.2.1 v.2.1.2.2.1.1 v.2.1.2.2.1.2.1 v.2.2.2.2.1 v.2.2.2.2.2.1.1 v.2.2.2.2.2.1.2.1 v.2.2.2.2.2.1.2.2.1 v.2.2.2.2.2.1.2.2.2.1
noncomputable def wI (q:gy):dw:=fE nP su wP wW (.exit 0) (Qj q bC) 30
def sD:SQ:=⟨us [.ptr 1000001 0] 12,[us [.ptr 0 0,.u,.fn 251 [(1000001,0),(2000003,0)],.u,.u,.u,.v bV,.v bV,.u,.u,.u,.u,.u,.u,.u,.u,.u,.u,.u,.u,.u,.u,.u,.u,.u,.u,.u,.u,.u,.u,.u,.u,.u,.u,.u,.u,.u,.fn 251 [(1000001,0),(2000003,0)]] 16,us [.ptr 0 0,.v bV,.fn 251 [(1000001,0),(2000003,0)],.u,.u,.u,.u,.u,.u,.u,.u,.u,.u,.ptr 0 0,.v bV,.fn 251 [(1000001,0),(2000003,0)]] 8,[.u,.ptr 1000001 0,.v bV,.ptr 2000003 0,.u,.u,.u,.u,.u,.u,.u,.u,.u,.u,.u,.u,.u,.u,.u,.u,.u,.u,.u,.u,.u,.u,.u,.u,.ptr 0 0,.v bV,.fn 251 [(1000001,0),(2000003,0)],.u],[.ptr 0 0]],[.box 2000003 1 [.mfn 245 [(0,0)]],.box 1000001 113 [.ptr 0 0],.arr 1 rJ,.box 0 115 [.v o9,.v bV,.slc 1,.v bV,.v bV]]⟩
def wQ:SQ:=⟨us [] 13,[us [.ptr 0 0,.u,.fn 251 [(1000001,0),(2000003,0)],.u,.u,.u,.v bV,.v bV,.u,.u,.u,.u,.u,.u,.u,.u,.u,.u,.u,.u,.u,.u,.u,.u,.u,.u,.u,.u,.u,.u,.u,.u,.u,.u,.u,.u,.u,.fn 251 [(1000001,0),(2000003,0)]] 16,us [.ptr 0 0,.v bV,.fn 251 [(1000001,0),(2000003,0)],.u,.u,.u,.u,.u,.u,.u,.u,.u,.u,.ptr 0 0,.v bV,.fn 251 [(1000001,0),(2000003,0)]] 8,[.u,.ptr 1000001 0,.v bV,.ptr 2000003 0,.u,.u,.u,.u,.u,.u,.u,.u,.u,.u,.u,.u,.u,.u,.u,.u,.u,.u,.u,.u,.u,.u,.u,.u,.ptr 0 0,.v bV,.fn 251 [(1000001,0),(2000003,0)],.u],[.ptr 0 0]],[.box 2000003 1 [.mfn 245 [(0,0)]],.box 1000001 113 [.ptr 0 0],.arr 1 rJ,.box 0 115 [.v o9,.v bV,.slc 1,.v bV,.v bV]]⟩
def wX:SQ:=⟨us [] 13,[us [.ptr 0 0,.u,.fn 251 [(1000001,0),(2000003,0)],.u,.u,.u,.v bV,.v bV,.u,.u,.u,.u,.u,.u,.u,.u,.u,.u,.u,.u,.u,.u,.u,.u,.u,.u,.u,.u,.u,.u,.u,.u,.u,.u,.u,.u,.u,.fn 251 [(1000001,0),(2000003,0)]] 16,us [.ptr 0 0,.v bV,.fn 251 [(1000001,0),(2000003,0)],.u,.u,.u,.u,.u,.u,.u,.u,.u,.u,.ptr 0 0,.v bV,.fn 251 [(1000001,0),(2000003,0)]] 8,[.u,.ptr 1000001 0,.v bV,.ptr 2000003 0,.u,.u,.u,.u,.u,.u,.u,.u,.u,.u,.u,.u,.u,.u,.u,.u,.u,.u,.u,.u,.u,.u,.u,.u,.ptr 0 0,.v bV,.fn 251 [(1000001,0),(2000003,0)],.u],[.ptr 0 0]],[]⟩
def nz (q:gy) {γ:Type} (rec kE:Int->Int->Int->Int->Int->Int->(List ed)->(List eG)->Int->Int->Int->Option γ) (kR:Int->Int->Int->Int->Int->Int->Option γ) (v0 v1 v2 v3 v4 v5:Int) (v6:List ed) (v7:List eG) (v8 v9 v10:Int):Option γ:=aZ (xM v7 v8 v6 v9 v10) fun y0=>bif y0.2.1 then rec v0 v1 v2 v3 v4 v5 y0.1.2.2.1 y0.1.1 y0.1.2.1 y0.1.2.2.2.1 y0.1.2.2.2.2.1 else kE v0 v1 v2 v3 v4 v5 y0.1.2.2.1 y0.1.1 y0.1.2.1 y0.1.2.2.2.1 y0.1.2.2.2.2.1
def jR (q:gy):Nat->Int->Int->Int->Int->Int->Int->(List ed)->(List eG)->Int->Int->Int->Option (wQ.den⊕wX.den)
 |0,_,_,_,_,_,_,_,_,_,_,_=>none
 |n+1,v0,v1,v2,v3,v4,v5,v6,v7,v8,v9,v10=>nz q (jR q n) (fun e0 e1 e2 e3 e4 e5 e6 e7 e8 e9 e10=>some (.inl ((),((e0,e1,()),(e2,e3,()),(e4,e5,()),(),()),((),(),e6,(e7,e8,e9,e10,()),())))) (fun r0 r1 r2 r3 r4 r5=>some (.inr ((),((r0,r1,()),(r2,r3,()),(r4,r5,()),(),()),()))) v0 v1 v2 v3 v4 v5 v6 v7 v8 v9 v10
def Qk (q:gy) (n:Nat) (v:sD.den):=jR q n v.2.1.1.1 v.2.1.1.2.1 v.2.1.2.1.1 v.2.1.2.1.2.1 v.2.1.2.2.1.1 v.2.1.2.2.1.2.1 v.2.2.2.2.1 v.2.2.2.2.2.1.1 v.2.2.2.2.2.1.2.1 v.2.2.2.2.2.1.2.2.1 v.2.2.2.2.2.1.2.2.2.1
noncomputable def wJ (q:gy):dw:=fE nP sD wQ wX (.exit 0) (Qk q bC) 36
def xI (q:gy) (x0:List eG) (x1:Int) (x2:List ed) (x3 x4:Int):Option yA:=aZ (bif(bD 9 9)then(bif((((bD 9 9)&&true)&&(((TY rJ x2 x2)&&(((TY tyD x0 x0)&&((bD x1 x1)&&((bD x3 x3)&&((bD x4 x4)&&true))))&&true))&&true))&&true)then(some ())else(none))else(none)) fun y0=>aZ (uU x0 x1 x2 x3 x4 0) fun y1=>bif(bD y1.2.1 40)then bif(bD 10 10)then bif(bD y1.1.2.1 y1.1.2.1)then bif(bD y1.1.2.2.2.1 y1.1.2.2.2.1)then bif(dY (bF y1.1.2.2.1 [(10,(y1.1.2.1,(0,(y1.1.2.2.2.1,()))))]) 32)then bif(bD 10 10)then bif(bD y1.1.2.1 y1.1.2.1)then bif(bD y1.1.2.2.2.1 y1.1.2.2.2.1)then bif((bD 10 10)&&((bD y1.1.2.1 y1.1.2.1)&&((bD 0 0)&&((bD y1.1.2.2.2.1 y1.1.2.2.2.1)&&true))))then aZ (q.q246 y1.1.1 (bT .i64 y1.1.2.1 1) (bF y1.1.2.2.1 [(10,(y1.1.2.1,(0,(y1.1.2.2.2.1,()))))]) (bi y1.1.2.2.1) (bT .i64 y1.1.2.2.2.2.1 1)) fun y2=>aZ (lK q bC (bi y1.1.2.2.1) y1.1.2.2.2.1 10 10 10 10 y2.1.2.2.1 y2.1.1 y2.1.2.1 y2.1.2.2.2.1 y2.1.2.2.2.2.1) fun y3=>dA y3 (fun a4=>bif(fU a4.2.2.2.2.1 a4.2.1.1.1)then bif(nH (bU a4.2.1.1.1) a4.2.2.2.2.1)then some ((a4.2.2.2.2.2.1.1,(a4.2.2.2.2.2.1.2.1,((gp a4.2.2.2.2.1 (bU a4.2.1.1.1) ((bY a4.2.2.2.2.1 (0,(0,(0,(0,())))) (bU a4.2.1.1.1)).1,((bY a4.2.2.2.2.1 (0,(0,(0,(0,())))) (bU a4.2.1.1.1)).2.1,(a4.2.2.2.2.2.1.2.1,((bY a4.2.2.2.2.1 (0,(0,(0,(0,())))) (bU a4.2.1.1.1)).2.2.2.1,()))))),(a4.2.1.1.2.1,((eY .i64 a4.2.2.2.2.2.1.2.2.2.1 1),()))))),())else none else none) (fun b4=>none)else none else none else none else none else none else none else none else none else bif(bD y1.2.1 105)then bif(bD 11 11)then bif(bD y1.1.2.1 y1.1.2.1)then bif(bD y1.1.2.2.2.1 y1.1.2.2.2.1)then bif(dY (bF y1.1.2.2.1 [(11,(y1.1.2.1,(0,(y1.1.2.2.2.1,()))))]) 32)then bif(bD 11 11)then bif(bD y1.1.2.1 y1.1.2.1)then bif(bD y1.1.2.2.2.1 y1.1.2.2.2.1)then bif((bD 11 11)&&((bD y1.1.2.1 y1.1.2.1)&&((bD 0 0)&&((bD y1.1.2.2.2.1 y1.1.2.2.2.1)&&true))))then aZ (q.q247 y1.1.1 (bT .i64 y1.1.2.1 1) (bF y1.1.2.2.1 [(11,(y1.1.2.1,(0,(y1.1.2.2.2.1,()))))]) (bi y1.1.2.2.1) (bT .i64 y1.1.2.2.2.2.1 1)) fun y2=>aZ (jM q bC (bi y1.1.2.2.1) y1.1.2.2.2.1 11 11 11 11 y2.1.2.2.1 y2.1.1 y2.1.2.1 y2.1.2.2.2.1 y2.1.2.2.2.2.1) fun y3=>dA y3 (fun a4=>bif(fU a4.2.2.2.2.1 a4.2.1.1.1)then bif(nH (bU a4.2.1.1.1) a4.2.2.2.2.1)then some ((a4.2.2.2.2.2.1.1,(a4.2.2.2.2.2.1.2.1,((gp a4.2.2.2.2.1 (bU a4.2.1.1.1) ((bY a4.2.2.2.2.1 (0,(0,(0,(0,())))) (bU a4.2.1.1.1)).1,((bY a4.2.2.2.2.1 (0,(0,(0,(0,())))) (bU a4.2.1.1.1)).2.1,(a4.2.2.2.2.2.1.2.1,((bY a4.2.2.2.2.1 (0,(0,(0,(0,())))) (bU a4.2.1.1.1)).2.2.2.1,()))))),(a4.2.1.1.2.1,((eY .i64 a4.2.2.2.2.2.1.2.2.2.1 1),()))))),())else none else none) (fun b4=>none)else none else none else none else none else none else none else none else none else bif(bD y1.2.1 119)then bif(bD 12 12)then bif(bD y1.1.2.1 y1.1.2.1)then bif(bD y1.1.2.2.2.1 y1.1.2.2.2.1)then bif(dY (bF y1.1.2.2.1 [(12,(y1.1.2.1,(0,(y1.1.2.2.2.1,()))))]) 32)then bif(bD 12 12)then bif(bD y1.1.2.1 y1.1.2.1)then bif(bD y1.1.2.2.2.1 y1.1.2.2.2.1)then bif((bD 12 12)&&((bD y1.1.2.1 y1.1.2.1)&&((bD 0 0)&&((bD y1.1.2.2.2.1 y1.1.2.2.2.1)&&true))))then aZ (q.q248 y1.1.1 (bT .i64 y1.1.2.1 1) (bF y1.1.2.2.1 [(12,(y1.1.2.1,(0,(y1.1.2.2.2.1,()))))]) (bi y1.1.2.2.1) (bT .i64 y1.1.2.2.2.2.1 1)) fun y2=>aZ (jO q bC (bi y1.1.2.2.1) y1.1.2.2.2.1 12 12 12 12 y2.1.2.2.1 y2.1.1 y2.1.2.1 y2.1.2.2.2.1 y2.1.2.2.2.2.1) fun y3=>dA y3 (fun a4=>bif(fU a4.2.2.2.2.1 a4.2.1.1.1)then bif(nH (bU a4.2.1.1.1) a4.2.2.2.2.1)then some ((a4.2.2.2.2.2.1.1,(a4.2.2.2.2.2.1.2.1,((gp a4.2.2.2.2.1 (bU a4.2.1.1.1) ((bY a4.2.2.2.2.1 (0,(0,(0,(0,())))) (bU a4.2.1.1.1)).1,((bY a4.2.2.2.2.1 (0,(0,(0,(0,())))) (bU a4.2.1.1.1)).2.1,(a4.2.2.2.2.2.1.2.1,((bY a4.2.2.2.2.1 (0,(0,(0,(0,())))) (bU a4.2.1.1.1)).2.2.2.1,()))))),(a4.2.1.1.2.1,((eY .i64 a4.2.2.2.2.2.1.2.2.2.1 1),()))))),())else none else none) (fun b4=>none)else none else none else none else none else none else none else none else none else bif(bD y1.2.1 114)then bif(bD 13 13)then bif(bD y1.1.2.1 y1.1.2.1)then bif(bD y1.1.2.2.2.1 y1.1.2.2.2.1)then bif(dY (bF y1.1.2.2.1 [(13,(y1.1.2.1,(0,(y1.1.2.2.2.1,()))))]) 32)then bif(bD 13 13)then bif(bD y1.1.2.1 y1.1.2.1)then bif(bD y1.1.2.2.2.1 y1.1.2.2.2.1)then bif((bD 13 13)&&((bD y1.1.2.1 y1.1.2.1)&&((bD 0 0)&&((bD y1.1.2.2.2.1 y1.1.2.2.2.1)&&true))))then aZ (q.q249 y1.1.1 (bT .i64 y1.1.2.1 1) (bF y1.1.2.2.1 [(13,(y1.1.2.1,(0,(y1.1.2.2.2.1,()))))]) (bi y1.1.2.2.1) (bT .i64 y1.1.2.2.2.2.1 1)) fun y2=>aZ (jP q bC (bi y1.1.2.2.1) y1.1.2.2.2.1 13 13 13 13 y2.1.2.2.1 y2.1.1 y2.1.2.1 y2.1.2.2.2.1 y2.1.2.2.2.2.1) fun y3=>dA y3 (fun a4=>bif(fU a4.2.2.2.2.1 a4.2.1.1.1)then bif(nH (bU a4.2.1.1.1) a4.2.2.2.2.1)then some ((a4.2.2.2.2.2.1.1,(a4.2.2.2.2.2.1.2.1,((gp a4.2.2.2.2.1 (bU a4.2.1.1.1) ((bY a4.2.2.2.2.1 (0,(0,(0,(0,())))) (bU a4.2.1.1.1)).1,((bY a4.2.2.2.2.1 (0,(0,(0,(0,())))) (bU a4.2.1.1.1)).2.1,(a4.2.2.2.2.2.1.2.1,((bY a4.2.2.2.2.1 (0,(0,(0,(0,())))) (bU a4.2.1.1.1)).2.2.2.1,()))))),(a4.2.1.1.2.1,((eY .i64 a4.2.2.2.2.2.1.2.2.2.1 1),()))))),())else none else none) (fun b4=>none)else none else none else none else none else none else none else none else none else bif(bD y1.2.1 99)then bif(bD 14 14)then bif(bD y1.1.2.1 y1.1.2.1)then bif(bD y1.1.2.2.2.1 y1.1.2.2.2.1)then bif(dY (bF y1.1.2.2.1 [(14,(y1.1.2.1,(0,(y1.1.2.2.2.1,()))))]) 32)then bif(bD 14 14)then bif(bD y1.1.2.1 y1.1.2.1)then bif(bD y1.1.2.2.2.1 y1.1.2.2.2.1)then bif((bD 14 14)&&((bD y1.1.2.1 y1.1.2.1)&&((bD 0 0)&&((bD y1.1.2.2.2.1 y1.1.2.2.2.1)&&true))))then aZ (q.q250 y1.1.1 (bT .i64 y1.1.2.1 1) (bF y1.1.2.2.1 [(14,(y1.1.2.1,(0,(y1.1.2.2.2.1,()))))]) (bi y1.1.2.2.1) (bT .i64 y1.1.2.2.2.2.1 1)) fun y2=>aZ (jQ q bC (bi y1.1.2.2.1) y1.1.2.2.2.1 14 14 14 14 y2.1.2.2.1 y2.1.1 y2.1.2.1 y2.1.2.2.2.1 y2.1.2.2.2.2.1) fun y3=>dA y3 (fun a4=>bif(fU a4.2.2.2.2.1 a4.2.1.1.1)then bif(nH (bU a4.2.1.1.1) a4.2.2.2.2.1)then some ((a4.2.2.2.2.2.1.1,(a4.2.2.2.2.2.1.2.1,((gp a4.2.2.2.2.1 (bU a4.2.1.1.1) ((bY a4.2.2.2.2.1 (0,(0,(0,(0,())))) (bU a4.2.1.1.1)).1,((bY a4.2.2.2.2.1 (0,(0,(0,(0,())))) (bU a4.2.1.1.1)).2.1,(a4.2.2.2.2.2.1.2.1,((bY a4.2.2.2.2.1 (0,(0,(0,(0,())))) (bU a4.2.1.1.1)).2.2.2.1,()))))),(a4.2.1.1.2.1,((eY .i64 a4.2.2.2.2.2.1.2.2.2.1 1),()))))),())else none else none) (fun b4=>none)else none else none else none else none else none else none else none else none else bif(bD 9 9)then bif(bD y1.1.2.1 y1.1.2.1)then bif(bD y1.1.2.2.2.1 y1.1.2.2.2.1)then bif(dY (bF y1.1.2.2.1 [(9,(y1.1.2.1,(0,(y1.1.2.2.2.1,()))))]) 32)then bif(bD 9 9)then bif(bD y1.1.2.1 y1.1.2.1)then bif(bD y1.1.2.2.2.1 y1.1.2.2.2.1)then bif((bD 9 9)&&((bD y1.1.2.1 y1.1.2.1)&&((bD 0 0)&&((bD y1.1.2.2.2.1 y1.1.2.2.2.1)&&true))))then aZ (q.q245 y1.1.1 (bT .i64 y1.1.2.1 1) (bF y1.1.2.2.1 [(9,(y1.1.2.1,(0,(y1.1.2.2.2.1,()))))]) (bi y1.1.2.2.1) (bT .i64 y1.1.2.2.2.2.1 1)) fun y2=>aZ (jR q bC (bi y1.1.2.2.1) y1.1.2.2.2.1 9 9 9 9 y2.1.2.2.1 y2.1.1 y2.1.2.1 y2.1.2.2.2.1 y2.1.2.2.2.2.1) fun y3=>dA y3 (fun a4=>bif(fU a4.2.2.2.2.1 a4.2.1.1.1)then bif(nH (bU a4.2.1.1.1) a4.2.2.2.2.1)then some ((a4.2.2.2.2.2.1.1,(a4.2.2.2.2.2.1.2.1,((gp a4.2.2.2.2.1 (bU a4.2.1.1.1) ((bY a4.2.2.2.2.1 (0,(0,(0,(0,())))) (bU a4.2.1.1.1)).1,((bY a4.2.2.2.2.1 (0,(0,(0,(0,())))) (bU a4.2.1.1.1)).2.1,(a4.2.2.2.2.2.1.2.1,((bY a4.2.2.2.2.1 (0,(0,(0,(0,())))) (bU a4.2.1.1.1)).2.2.2.1,()))))),(a4.2.1.1.2.1,((eY .i64 a4.2.2.2.2.2.1.2.2.2.1 1),()))))),())else none else none) (fun b4=>none)else none else none else none else none else none else none else none else none
noncomputable def yK (q:gy):Env:=dK prog tt [] [(251,2,nP),(223,600013,ak7),(225,600001,Yy),(58,600003,aa5),(251,600001,Yz)] [(251,2,lg (AY q) (lg (wF q) (lg (wG q) (lg (wH q) (lg (wI q) ((wJ q)))))))] [] [(112,BO),(245,aeJ q),(246,aeK q),(247,aeL q),(248,aeM q),(249,aeN q),(250,aeO q),(252,ab7)]
def KI (q:gy) {γ:Type} (a:zl.den->Option γ) (b:Bz.den->Option γ) (c:BI.den->Option γ) (v:zl.den):Option γ:=qX q (fun v0 v1 v2 v3 v4 v5 v6 v7 v8 v9 v10=>a ((),((v0,v1,()),(v2,v3,()),(v4,v5,()),(),()),((),(),v6,(v7,v8,v9,v10,()),()))) (fun e0 e1 e2 e3 e4 e5 e6 e7 e8 e9 e10=>b ((),((e0,e1,()),(e2,e3,()),(e4,e5,()),(),()),((),(),e6,(e7,e8,e9,e10,()),()))) (fun r0 r1 r2 r3 r4 r5=>c ((),((r0,r1,()),(r2,r3,()),(r4,r5,()),(),()),())) v.2.1.1.1 v.2.1.1.2.1 v.2.1.2.1.1 v.2.1.2.1.2.1 v.2.1.2.2.1.1 v.2.1.2.2.1.2.1 v.2.2.2.2.1 v.2.2.2.2.2.1.1 v.2.2.2.2.2.1.2.1 v.2.2.2.2.2.1.2.2.1 v.2.2.2.2.2.1.2.2.2.1
theorem Y9 (q:gy):dV (yK q) 251 lH (AY q):=lW (KI q) (h2:=by intros;simp only[KI,qX,cO,cZ,aY,bW,dh])
def D7 (q:gy) {γ:Type} (a:rX.den->Option γ) (b:wL.den->Option γ) (c:wS.den->Option γ) (v:rX.den):Option γ:=mY q (fun v0 v1 v2 v3 v4 v5 v6 v7 v8 v9 v10=>a ((),((v0,v1,()),(v2,v3,()),(v4,v5,()),(),()),((),(),v6,(v7,v8,v9,v10,()),()))) (fun e0 e1 e2 e3 e4 e5 e6 e7 e8 e9 e10=>b ((),((e0,e1,()),(e2,e3,()),(e4,e5,()),(),()),((),(),e6,(e7,e8,e9,e10,()),()))) (fun r0 r1 r2 r3 r4 r5=>c ((),((r0,r1,()),(r2,r3,()),(r4,r5,()),(),()),())) v.2.1.1.1 v.2.1.1.2.1 v.2.1.2.1.1 v.2.1.2.1.2.1 v.2.1.2.2.1.1 v.2.1.2.2.1.2.1 v.2.2.2.2.1 v.2.2.2.2.2.1.1 v.2.2.2.2.2.1.2.1 v.2.2.2.2.2.1.2.2.1 v.2.2.2.2.2.1.2.2.2.1
theorem Qp (q:gy):dV (yK q) 251 lH (wF q):=lW (D7 q) (h2:=by intros;simp only[D7,mY,cO,cZ,aY,bW,dh])
def D8 (q:gy) {γ:Type} (a:rY.den->Option γ) (b:wM.den->Option γ) (c:wU.den->Option γ) (v:rY.den):Option γ:=mZ q (fun v0 v1 v2 v3 v4 v5 v6 v7 v8 v9 v10=>a ((),((v0,v1,()),(v2,v3,()),(v4,v5,()),(),()),((),(),v6,(v7,v8,v9,v10,()),()))) (fun e0 e1 e2 e3 e4 e5 e6 e7 e8 e9 e10=>b ((),((e0,e1,()),(e2,e3,()),(e4,e5,()),(),()),((),(),e6,(e7,e8,e9,e10,()),()))) (fun r0 r1 r2 r3 r4 r5=>c ((),((r0,r1,()),(r2,r3,()),(r4,r5,()),(),()),())) v.2.1.1.1 v.2.1.1.2.1 v.2.1.2.1.1 v.2.1.2.1.2.1 v.2.1.2.2.1.1 v.2.1.2.2.1.2.1 v.2.2.2.2.1 v.2.2.2.2.2.1.1 v.2.2.2.2.2.1.2.1 v.2.2.2.2.2.1.2.2.1 v.2.2.2.2.2.1.2.2.2.1
theorem Qq (q:gy):dV (yK q) 251 lH (wG q):=lW (D8 q) (h2:=by intros;simp only[D8,mZ,cO,cZ,aY,bW,dh])
def D9 (q:gy) {γ:Type} (a:rZ.den->Option γ) (b:wO.den->Option γ) (c:wV.den->Option γ) (v:rZ.den):Option γ:=ni q (fun v0 v1 v2 v3 v4 v5 v6 v7 v8 v9 v10=>a ((),((v0,v1,()),(v2,v3,()),(v4,v5,()),(),()),((),(),v6,(v7,v8,v9,v10,()),()))) (fun e0 e1 e2 e3 e4 e5 e6 e7 e8 e9 e10=>b ((),((e0,e1,()),(e2,e3,()),(e4,e5,()),(),()),((),(),e6,(e7,e8,e9,e10,()),()))) (fun r0 r1 r2 r3 r4 r5=>c ((),((r0,r1,()),(r2,r3,()),(r4,r5,()),(),()),())) v.2.1.1.1 v.2.1.1.2.1 v.2.1.2.1.1 v.2.1.2.1.2.1 v.2.1.2.2.1.1 v.2.1.2.2.1.2.1 v.2.2.2.2.1 v.2.2.2.2.2.1.1 v.2.2.2.2.2.1.2.1 v.2.2.2.2.2.1.2.2.1 v.2.2.2.2.2.1.2.2.2.1
theorem Qr (q:gy):dV (yK q) 251 lH (wH q):=lW (D9 q) (h2:=by intros;simp only[D9,ni,cO,cZ,aY,bW,dh])
def Ea (q:gy) {γ:Type} (a:su.den->Option γ) (b:wP.den->Option γ) (c:wW.den->Option γ) (v:su.den):Option γ:=ny q (fun v0 v1 v2 v3 v4 v5 v6 v7 v8 v9 v10=>a ((),((v0,v1,()),(v2,v3,()),(v4,v5,()),(),()),((),(),v6,(v7,v8,v9,v10,()),()))) (fun e0 e1 e2 e3 e4 e5 e6 e7 e8 e9 e10=>b ((),((e0,e1,()),(e2,e3,()),(e4,e5,()),(),()),((),(),e6,(e7,e8,e9,e10,()),()))) (fun r0 r1 r2 r3 r4 r5=>c ((),((r0,r1,()),(r2,r3,()),(r4,r5,()),(),()),())) v.2.1.1.1 v.2.1.1.2.1 v.2.1.2.1.1 v.2.1.2.1.2.1 v.2.1.2.2.1.1 v.2.1.2.2.1.2.1 v.2.2.2.2.1 v.2.2.2.2.2.1.1 v.2.2.2.2.2.1.2.1 v.2.2.2.2.2.1.2.2.1 v.2.2.2.2.2.1.2.2.2.1
theorem Qs (q:gy):dV (yK q) 251 lH (wI q):=lW (Ea q) (h2:=by intros;simp only[Ea,ny,cO,cZ,aY,bW,dh])
def Eb (q:gy) {γ:Type} (a:sD.den->Option γ) (b:wQ.den->Option γ) (c:wX.den->Option γ) (v:sD.den):Option γ:=nz q (fun v0 v1 v2 v3 v4 v5 v6 v7 v8 v9 v10=>a ((),((v0,v1,()),(v2,v3,()),(v4,v5,()),(),()),((),(),v6,(v7,v8,v9,v10,()),()))) (fun e0 e1 e2 e3 e4 e5 e6 e7 e8 e9 e10=>b ((),((e0,e1,()),(e2,e3,()),(e4,e5,()),(),()),((),(),e6,(e7,e8,e9,e10,()),()))) (fun r0 r1 r2 r3 r4 r5=>c ((),((r0,r1,()),(r2,r3,()),(r4,r5,()),(),()),())) v.2.1.1.1 v.2.1.1.2.1 v.2.1.2.1.1 v.2.1.2.1.2.1 v.2.1.2.2.1.1 v.2.1.2.2.1.2.1 v.2.2.2.2.1 v.2.2.2.2.2.1.1 v.2.2.2.2.2.1.2.1 v.2.2.2.2.2.1.2.2.1 v.2.2.2.2.2.1.2.2.2.1
theorem Qu (q:gy):dV (yK q) 251 lH (wJ q):=lW (Eb q) (h2:=by intros;simp only[Eb,nz,cO,cZ,aY,bW,dh])
theorem abm (q:gy):dJ (yK q) 251 MN:=zK [lH] (aD (fun L h=>by rw[show((yK q)).lp 251 (bP lH)=some (lg (AY q) (lg (wF q) (lg (wG q) (lg (wH q) (lg (wI q) ((wJ q))))))) by kernel_rfl]at h;cases h;exact pK (Y9 q) (pK (Qp q) (pK (Qq q) (pK (Qr q) (pK (Qs q) ((Qu q))))))) aN)
theorem af5 (q:gy) (H:Z7 q):dm (yK q):=eB aN [251] (aD ⟨f251,MN,by kernel_rfl,by kernel_rfl,abm q⟩ aN) (hx:=(aD pW (aD H.2.2.2.2.2.2.2.1 (aD H.2.2.2.2.2.2.2.2.1 (aD H.2.2.2.2.2.2.2.2.2.1 (aD H.2.2.2.2.2.2.2.2.2.2.1 (aD H.2.2.2.2.2.2.2.2.2.2.2.1 (aD H.2.2.2.2.2.2.2.2.2.2.2.2.1 (aD SS aN)))))))))
def apl:dE:=⟨[0],[],[],[],[],[]⟩
def aa8:dE:=⟨[0,2,6,7],[],[],[],[],[]⟩
def akl (q:gy) (x0:List eG) (x1:Int) (x2:List ed) (x3 x4:Int):Option yA:=aZ (mQ x0 x1 x2 x3 x4) fun y0=>aZ (Um y0.1.1 y0.1.2.1 y0.1.2.2.1 y0.1.2.2.2.1 y0.1.2.2.2.2.1) fun y1=>bif y1.2.1 then bif(bD 2 2)then bif(bD y1.1.2.1 y1.1.2.1)then bif(bD y1.1.2.2.2.1 y1.1.2.2.2.1)then bif(dY (bF y1.1.2.2.1 [(2,(y1.1.2.1,(0,(y1.1.2.2.2.1,()))))]) 32)then bif(bD 2 2)then bif(bD y1.1.2.1 y1.1.2.1)then bif(bD y1.1.2.2.2.1 y1.1.2.2.2.1)then bif((bD 2 2)&&((bD y1.1.2.1 y1.1.2.1)&&((bD 0 0)&&((bD y1.1.2.2.2.1 y1.1.2.2.2.1)&&true))))then aZ (q.q89 y1.1.1 y1.1.2.1 (bF y1.1.2.2.1 [(2,(y1.1.2.1,(0,(y1.1.2.2.2.1,()))))]) (bi y1.1.2.2.1) y1.1.2.2.2.2.1) fun y2=>bif(fU y2.1.2.2.1 (bi y1.1.2.2.1))then bif(nH (bU (bi y1.1.2.2.1)) y2.1.2.2.1)then some ((y2.1.1,(y2.1.2.1,((gp y2.1.2.2.1 (bU (bi y1.1.2.2.1)) ((bY y2.1.2.2.1 (0,(0,(0,(0,())))) (bU (bi y1.1.2.2.1))).1,((bY y2.1.2.2.1 (0,(0,(0,(0,())))) (bU (bi y1.1.2.2.1))).2.1,(y2.1.2.1,((bY y2.1.2.2.1 (0,(0,(0,(0,())))) (bU (bi y1.1.2.2.1))).2.2.2.1,()))))),(y1.1.2.2.2.1,(y2.1.2.2.2.2.1,()))))),())else none else none else none else none else none else none else none else none else none else none else aZ (uX y1.1.1 y1.1.2.1 y1.1.2.2.1 y1.1.2.2.2.1 y1.1.2.2.2.2.1) fun y2=>some ((y2.1.1,(y2.1.2.1,(y2.1.2.2.1,(y2.1.2.2.2.1,(y2.1.2.2.2.2.1,()))))),())
noncomputable def atH (q:gy):Env:=dK prog tt [] [(266,600002,apl),(58,600003,aa8)] [] [] [(88,SX),(89,ab9 q),(115,zG),(184,BQ)]
theorem agy (q:gy) (H:Z7 q):dm (atH q):=eB aN [] aN (hx:=(aD BU (aD H.1 (aD oq (aD pY aN)))))
def akg (q:gy) (x0:List eG) (x1:Int) (x2:List ed) (x3 x4:Int):Option yA:=aZ (q.q266 x0 x1 x2 x3 x4) fun y0=>aZ (pg y0.1.1 y0.1.2.1 y0.1.2.2.1 y0.1.2.2.2.1 y0.1.2.2.2.2.1 [125]) fun y1=>some ((y1.1.1,(y1.1.2.1,(y1.1.2.2.1,(y1.1.2.2.2.1,(y1.1.2.2.2.2.1,()))))),())
noncomputable def atv (q:gy):Env:=dK prog tt [] [] [] [] [(255,BR),(266,Dy q)]
theorem agi (q:gy) (H:Z7 q):dm (atv q):=eB aN [] aN (hx:=(aD qc (aD H.2.2.2.2.2.2.1 aN)))
def akh (q:gy) (x0:List eG) (x1:Int) (x2:List ed) (x3 x4:Int):Option yA:=aZ (q.q266 x0 x1 x2 x3 x4) fun y0=>aZ (pg y0.1.1 y0.1.2.1 y0.1.2.2.1 y0.1.2.2.2.1 y0.1.2.2.2.2.1 [41]) fun y1=>some ((y1.1.1,(y1.1.2.1,(y1.1.2.2.1,(y1.1.2.2.2.1,(y1.1.2.2.2.2.1,()))))),())
noncomputable def atw (q:gy):Env:=dK prog tt [] [] [] [] [(255,BR),(266,Dy q)]
theorem agj (q:gy) (H:Z7 q):dm (atw q):=eB aN [] aN (hx:=(aD qc (aD H.2.2.2.2.2.2.1 aN)))
noncomputable def ast:Code:=(f247.body).getD .skip
noncomputable def ai3:Code:=cA (cA (cA (cB (cB (cB (ast))))))
def ak2:dE:=⟨[0,100003],[],[0],[],[],[]⟩
def Vp:SQ:=⟨us [.ptr 0 0] 21,[[.ptr 0 0]],[.box 0 115 [.v o9,.v bV,.slc 1,.v bV,.v bV],.arr 1 rJ]⟩
def VJ:SQ:=⟨us [.ptr 0 0] 21,[[.ptr 0 0]],[.box 0 115 [.v o9,.v bV,.slc 1,.v bV,.v bV],.arr 1 rJ]⟩
def V4:SQ:=⟨us [] 22,[[.ptr 0 0]],[]⟩
def LX (q:gy) {γ:Type} (rec kE:(List eG)->Int->Int->Int->(List ed)->Option γ) (kR:Option γ) (v0:List eG) (v1 v2 v3:Int) (v4:List ed):Option γ:=aZ (o8 v0 v1 v4 v2 v3 [101]) fun y0=>bif y0.2.1 then aZ (q.q266 y0.1.1 y0.1.2.1 y0.1.2.2.1 y0.1.2.2.2.1 y0.1.2.2.2.2.1) fun y1=>aZ (pg y1.1.1 y1.1.2.1 y1.1.2.2.1 y1.1.2.2.2.1 y1.1.2.2.2.2.1 [116]) fun y2=>aZ (q.q266 y2.1.1 y2.1.2.1 y2.1.2.2.1 y2.1.2.2.2.1 y2.1.2.2.2.2.1) fun y3=>rec y3.1.1 y3.1.2.1 y3.1.2.2.2.1 y3.1.2.2.2.2.1 y3.1.2.2.1 else kE y0.1.1 y0.1.2.1 y0.1.2.2.2.1 y0.1.2.2.2.2.1 y0.1.2.2.1
def GI (q:gy):Nat->(List eG)->Int->Int->Int->(List ed)->Option (VJ.den⊕V4.den)
 |0,_,_,_,_,_=>none
 |n+1,v0,v1,v2,v3,v4=>LX q (GI q n) (fun e0 e1 e2 e3 e4=>some (.inl ((),((),()),((e0,e1,e2,e3,()),e4,())))) (some (.inr ((),((),()),()))) v0 v1 v2 v3 v4
def apZ (q:gy) (n:Nat) (v:Vp.den):=GI q n v.2.2.1.1 v.2.2.1.2.1 v.2.2.1.2.2.1 v.2.2.1.2.2.2.1 v.2.2.2.1
noncomputable def adI (q:gy):dw:=fE ak2 Vp VJ V4 (.exit 0) (apZ q bC) 6
def aki (q:gy) (x0:List eG) (x1:Int) (x2:List ed) (x3 x4:Int):Option yA:=aZ (q.q266 x0 x1 x2 x3 x4) fun y0=>aZ (pg y0.1.1 y0.1.2.1 y0.1.2.2.1 y0.1.2.2.2.1 y0.1.2.2.2.2.1 [116]) fun y1=>aZ (q.q266 y1.1.1 y1.1.2.1 y1.1.2.2.1 y1.1.2.2.2.1 y1.1.2.2.2.2.1) fun y2=>aZ (GI q bC y2.1.1 y2.1.2.1 y2.1.2.2.2.1 y2.1.2.2.2.2.1 y2.1.2.2.1) fun y3=>dA y3 (fun a4=>aZ (o8 a4.2.2.1.1 a4.2.2.1.2.1 a4.2.2.2.1 a4.2.2.1.2.2.1 a4.2.2.1.2.2.2.1 [108]) fun y5=>bif y5.2.1 then aZ (q.q266 y5.1.1 y5.1.2.1 y5.1.2.2.1 y5.1.2.2.2.1 y5.1.2.2.2.2.1) fun y6=>aZ (pg y6.1.1 y6.1.2.1 y6.1.2.2.1 y6.1.2.2.2.1 y6.1.2.2.2.2.1 [102]) fun y7=>some ((y7.1.1,(y7.1.2.1,(y7.1.2.2.1,(y7.1.2.2.2.1,(y7.1.2.2.2.2.1,()))))),())else aZ (pg y5.1.1 y5.1.2.1 y5.1.2.2.1 y5.1.2.2.2.1 y5.1.2.2.2.2.1 [102]) fun y6=>some ((y6.1.1,(y6.1.2.1,(y6.1.2.2.1,(y6.1.2.2.2.1,(y6.1.2.2.2.2.1,()))))),())) (fun b4=>none)
noncomputable def aaC (q:gy):Env:=dK prog tt [] [(247,3,ak2)] [(247,3,adI q)] [] [(87,yx),(255,BR),(266,Dy q)]
def aet (q:gy) {γ:Type} (a:Vp.den->Option γ) (b:VJ.den->Option γ) (c:V4.den->Option γ) (v:Vp.den):Option γ:=LX q (fun v0 v1 v2 v3 v4=>a ((),((),()),((v0,v1,v2,v3,()),v4,()))) (fun e0 e1 e2 e3 e4=>b ((),((),()),((e0,e1,e2,e3,()),e4,()))) (c ((),((),()),())) v.2.2.1.1 v.2.2.1.2.1 v.2.2.1.2.2.1 v.2.2.1.2.2.2.1 v.2.2.2.1
theorem aql (q:gy):dV (aaC q) 247 ai3 (adI q):=lW (aet q) (h2:=by intros;simp only[aet,LX,cO,cZ,aY,bW,dh])
theorem auM (q:gy):dJ (aaC q) 247 ast:=zK [ai3] (aD (fM (aql q)) aN)
theorem agk (q:gy) (H:Z7 q):dm (aaC q):=eB aN [247] (aD ⟨f247,ast,by kernel_rfl,by kernel_rfl,auM q⟩ aN) (hx:=(aD kU (aD qc (aD H.2.2.2.2.2.2.1 aN))))
def arf (q:gy) (x0:List eG) (x1:Int) (x2:List ed) (x3 x4:Int):Option yA:=aZ (q.q266 x0 x1 x2 x3 x4) fun y0=>aZ (q.q267 y0.1.1 y0.1.2.1 y0.1.2.2.1 y0.1.2.2.2.1 y0.1.2.2.2.2.1) fun y1=>some ((y1.1.1,(y1.1.2.1,(y1.1.2.2.1,(y1.1.2.2.2.1,(y1.1.2.2.2.2.1,()))))),())
noncomputable def atx (q:gy):Env:=dK prog tt [] [] [] [] [(266,Dy q),(267,WX q)]
theorem agl (q:gy) (H:Z7 q):dm (atx q):=eB aN [] aN (hx:=(aD H.2.2.2.2.2.2.1 (aD H.2.2.2.2.2.2.2.2.2.2.2.2.2.2 aN)))
noncomputable def asu:Code:=(f249.body).getD .skip
noncomputable def ai4:Code:=cA (cA (cA (cA (cB (cB (cB (cB (cA (cB (asu))))))))))
def ak3:dE:=⟨[0,100007],[],[0],[],[],[]⟩
def Vq:SQ:=⟨us [.ptr 0 0] 47,[[.ptr 0 0]],[.box 0 115 [.v o9,.v bV,.slc 1,.v bV,.v bV],.arr 1 rJ]⟩
def VK:SQ:=⟨us [.ptr 0 0] 47,[[.ptr 0 0]],[.box 0 115 [.v o9,.v bV,.slc 1,.v bV,.v bV],.arr 1 rJ]⟩
def V5:SQ:=⟨us [] 48,[[.ptr 0 0]],[]⟩
def LY (q:gy) {γ:Type} (rec kE:(List eG)->Int->Int->Int->(List ed)->Option γ) (kR:Option γ) (v0:List eG) (v1 v2 v3:Int) (v4:List ed):Option γ:=aZ (JP v0 v1 v4 v2 v3) fun y0=>bif y0.2.1 then aZ (NV y0.1.1 y0.1.2.1 y0.1.2.2.1 y0.1.2.2.2.1 y0.1.2.2.2.2.1 7) fun y1=>rec y1.1.1 y1.1.2.1 y1.1.2.2.2.1 y1.1.2.2.2.2.1 y1.1.2.2.1 else kE y0.1.1 y0.1.2.1 y0.1.2.2.2.1 y0.1.2.2.2.2.1 y0.1.2.2.1
def CZ (q:gy):Nat->(List eG)->Int->Int->Int->(List ed)->Option (VK.den⊕V5.den)
 |0,_,_,_,_,_=>none
 |n+1,v0,v1,v2,v3,v4=>LY q (CZ q n) (fun e0 e1 e2 e3 e4=>some (.inl ((),((),()),((e0,e1,e2,e3,()),e4,())))) (some (.inr ((),((),()),()))) v0 v1 v2 v3 v4
def ap0 (q:gy) (n:Nat) (v:Vq.den):=CZ q n v.2.2.1.1 v.2.2.1.2.1 v.2.2.1.2.2.1 v.2.2.1.2.2.2.1 v.2.2.2.1
noncomputable def adJ (q:gy):dw:=fE ak3 Vq VK V5 (.exit 0) (ap0 q bC) 6
def FU (q:gy) (y4:(taE×ou)):Option yA:=aZ (q.q267 y4.1.1 y4.1.2.1 y4.1.2.2.1 y4.1.2.2.2.1 y4.1.2.2.2.2.1) fun y5=>some ((y5.1.1,(y5.1.2.1,(y5.1.2.2.1,(y5.1.2.2.2.1,(y5.1.2.2.2.2.1,()))))),())
def KX (y2:yA) (q:gy):Option yA:=aZ (o8 y2.1.1 y2.1.2.1 y2.1.2.2.1 y2.1.2.2.2.1 y2.1.2.2.2.2.1 [59]) fun y3=>bif y3.2.1 then aZ (mQ y3.1.1 y3.1.2.1 y3.1.2.2.1 y3.1.2.2.2.1 y3.1.2.2.2.2.1) fun y4=>FU q y4 else aZ (mQ y3.1.1 y3.1.2.1 y3.1.2.2.1 y3.1.2.2.2.1 y3.1.2.2.2.2.1) fun y4=>aZ (o8 y4.1.1 y4.1.2.1 y4.1.2.2.1 y4.1.2.2.2.1 y4.1.2.2.2.2.1 [107]) fun y5=>bif y5.2.1 then aZ (CZ q bC y5.1.1 y5.1.2.1 y5.1.2.2.2.1 y5.1.2.2.2.2.1 y5.1.2.2.1) fun y6=>dA y6 (fun a7=>aZ (o8 a7.2.2.1.1 a7.2.2.1.2.1 a7.2.2.2.1 a7.2.2.1.2.2.1 a7.2.2.1.2.2.2.1 [59]) fun y8=>aZ (mQ y8.1.1 y8.1.2.1 y8.1.2.2.1 y8.1.2.2.2.1 y8.1.2.2.2.2.1) fun y9=>bif(!y9.2.1)then bif(!y8.2.1)then aZ (uX y9.1.1 y9.1.2.1 y9.1.2.2.1 y9.1.2.2.2.1 y9.1.2.2.2.2.1) fun y10=>aZ (q.q267 y10.1.1 y10.1.2.1 y10.1.2.2.1 y10.1.2.2.2.1 y10.1.2.2.2.2.1) fun y11=>some ((y11.1.1,(y11.1.2.1,(y11.1.2.2.1,(y11.1.2.2.2.1,(y11.1.2.2.2.2.1,()))))),())else FU q y9 else FU q y9) (fun b7=>none)else FU q y5
def akj (q:gy) (x0:List eG) (x1:Int) (x2:List ed) (x3 x4:Int):Option yA:=aZ (JP x0 x1 x2 x3 x4) fun y0=>bif y0.2.1 then bif(fU y0.1.1 y0.1.2.1)then aZ (X4 (eu y0.1.1 (0,([],(0,(0,())))) y0.1.2.1).2.1) fun y1=>bif y1.1 then aZ (NV y0.1.1 y0.1.2.1 y0.1.2.2.1 y0.1.2.2.2.1 y0.1.2.2.2.2.1 7) fun y2=>KX y2 q else aZ (uX y0.1.1 y0.1.2.1 y0.1.2.2.1 y0.1.2.2.2.1 y0.1.2.2.2.2.1) fun y2=>KX y2 q else none else aZ (uX y0.1.1 y0.1.2.1 y0.1.2.2.1 y0.1.2.2.2.1 y0.1.2.2.2.2.1) fun y1=>KX y1 q
noncomputable def aaD (q:gy):Env:=dK prog tt [(253,ab8)] [(249,7,ak3)] [(249,7,adJ q)] [] [(87,yx),(90,ZO),(115,zG),(184,BQ),(256,sum256),(267,WX q)]
def aeu (q:gy) {γ:Type} (a:Vq.den->Option γ) (b:VK.den->Option γ) (c:V5.den->Option γ) (v:Vq.den):Option γ:=LY q (fun v0 v1 v2 v3 v4=>a ((),((),()),((v0,v1,v2,v3,()),v4,()))) (fun e0 e1 e2 e3 e4=>b ((),((),()),((e0,e1,e2,e3,()),e4,()))) (c ((),((),()),())) v.2.2.1.1 v.2.2.1.2.1 v.2.2.1.2.2.1 v.2.2.1.2.2.2.1 v.2.2.2.1
theorem aqm (q:gy):dV (aaD q) 249 ai4 (adJ q):=lW (aeu q) (h2:=by intros;simp only[aeu,LY,cO,cZ,aY,bW,dh])
theorem auN (q:gy):dJ (aaD q) 249 asu:=zK [ai4] (aD (fM (aqm q)) aN)
theorem agm (q:gy) (H:Z7 q):dm (aaD q):=eB (aD SV aN) [249] (aD ⟨f249,asu,by kernel_rfl,by kernel_rfl,auN q⟩ aN) (hx:=(aD kU (aD HY (aD oq (aD pY (aD Dx (aD H.2.2.2.2.2.2.2.2.2.2.2.2.2.2 aN)))))))
noncomputable def asv:Code:=(f250.body).getD .skip
noncomputable def ai5:Code:=cA (cA (cA (cB (cB (cB (cB (cB (cA (asv)))))))))
def ak4:dE:=⟨[0,100004],[],[0],[],[],[]⟩
def aph:dE:=⟨[0],[],[],[],[],[]⟩
def aa6:dE:=⟨[0,2,6,7],[],[],[],[],[]⟩
def Vr:SQ:=⟨us [.ptr 0 0] 31,[[.ptr 0 0]],[.box 0 115 [.v o9,.v bV,.slc 1,.v bV,.v bV],.arr 1 rJ]⟩
def VL:SQ:=⟨us [.ptr 0 0] 31,[[.ptr 0 0]],[.box 0 115 [.v o9,.v bV,.slc 1,.v bV,.v bV],.arr 1 rJ]⟩
def V6:SQ:=⟨us [] 32,[[.ptr 0 0]],[]⟩
def LZ (q:gy) {γ:Type} (rec kE:(List eG)->Int->Int->Int->(List ed)->Option γ) (kR:Option γ) (v0:List eG) (v1 v2 v3:Int) (v4:List ed):Option γ:=aZ (QX v0 v1 v4 v2 v3 [40]) fun y0=>bif y0.2.1 then bif(bD 15 15)then bif(bD y0.1.2.1 y0.1.2.1)then bif(bD y0.1.2.2.2.1 y0.1.2.2.2.1)then bif(dY (bF y0.1.2.2.1 [(15,(y0.1.2.1,(0,(y0.1.2.2.2.1,()))))]) 32)then bif(bD 15 15)then bif(bD y0.1.2.1 y0.1.2.1)then bif(bD y0.1.2.2.2.1 y0.1.2.2.2.1)then bif((bD 15 15)&&((bD y0.1.2.1 y0.1.2.1)&&((bD 0 0)&&((bD y0.1.2.2.2.1 y0.1.2.2.2.1)&&true))))then aZ (q.q268 y0.1.1 y0.1.2.1 (bF y0.1.2.2.1 [(15,(y0.1.2.1,(0,(y0.1.2.2.2.1,()))))]) (bi y0.1.2.2.1) y0.1.2.2.2.2.1) fun y1=>bif(fU y1.1.2.2.1 (bi y0.1.2.2.1))then bif(nH (bU (bi y0.1.2.2.1)) y1.1.2.2.1)then aZ (o8 y1.1.1 y1.1.2.1 (gp y1.1.2.2.1 (bU (bi y0.1.2.2.1)) ((bY y1.1.2.2.1 (0,(0,(0,(0,())))) (bU (bi y0.1.2.2.1))).1,((bY y1.1.2.2.1 (0,(0,(0,(0,())))) (bU (bi y0.1.2.2.1))).2.1,(y1.1.2.1,((bY y1.1.2.2.1 (0,(0,(0,(0,())))) (bU (bi y0.1.2.2.1))).2.2.2.1,()))))) y0.1.2.2.2.1 y1.1.2.2.2.2.1 [121]) fun y2=>bif(!y2.2.1)then kE y2.1.1 y2.1.2.1 y2.1.2.2.2.1 y2.1.2.2.2.2.1 y2.1.2.2.1 else aZ (mQ y2.1.1 y2.1.2.1 y2.1.2.2.1 y2.1.2.2.2.1 y2.1.2.2.2.2.1) fun y3=>rec y3.1.1 y3.1.2.1 y3.1.2.2.2.1 y3.1.2.2.2.2.1 y3.1.2.2.1 else none else none else none else none else none else none else none else none else none else none else aZ (JP y0.1.1 y0.1.2.1 y0.1.2.2.1 y0.1.2.2.2.1 y0.1.2.2.2.2.1) fun y1=>bif y1.2.1 then aZ (uU y1.1.1 y1.1.2.1 y1.1.2.2.1 y1.1.2.2.2.1 y1.1.2.2.2.2.1 0) fun y2=>bif(!(bD y2.2.1 122))then bif(bD 15 15)then bif(bD y2.1.2.1 y2.1.2.1)then bif(bD y2.1.2.2.2.1 y2.1.2.2.2.1)then bif(dY (bF y2.1.2.2.1 [(15,(y2.1.2.1,(0,(y2.1.2.2.2.1,()))))]) 32)then bif(bD 15 15)then bif(bD y2.1.2.1 y2.1.2.1)then bif(bD y2.1.2.2.2.1 y2.1.2.2.2.1)then bif((bD 15 15)&&((bD y2.1.2.1 y2.1.2.1)&&((bD 0 0)&&((bD y2.1.2.2.2.1 y2.1.2.2.2.1)&&true))))then aZ (q.q268 y2.1.1 y2.1.2.1 (bF y2.1.2.2.1 [(15,(y2.1.2.1,(0,(y2.1.2.2.2.1,()))))]) (bi y2.1.2.2.1) y2.1.2.2.2.2.1) fun y3=>bif(fU y3.1.2.2.1 (bi y2.1.2.2.1))then bif(nH (bU (bi y2.1.2.2.1)) y3.1.2.2.1)then aZ (o8 y3.1.1 y3.1.2.1 (gp y3.1.2.2.1 (bU (bi y2.1.2.2.1)) ((bY y3.1.2.2.1 (0,(0,(0,(0,())))) (bU (bi y2.1.2.2.1))).1,((bY y3.1.2.2.1 (0,(0,(0,(0,())))) (bU (bi y2.1.2.2.1))).2.1,(y3.1.2.1,((bY y3.1.2.2.1 (0,(0,(0,(0,())))) (bU (bi y2.1.2.2.1))).2.2.2.1,()))))) y2.1.2.2.2.1 y3.1.2.2.2.2.1 [121]) fun y4=>bif(!y4.2.1)then kE y4.1.1 y4.1.2.1 y4.1.2.2.2.1 y4.1.2.2.2.2.1 y4.1.2.2.1 else aZ (mQ y4.1.1 y4.1.2.1 y4.1.2.2.1 y4.1.2.2.2.1 y4.1.2.2.2.2.1) fun y5=>rec y5.1.1 y5.1.2.1 y5.1.2.2.2.1 y5.1.2.2.2.2.1 y5.1.2.2.1 else none else none else none else none else none else none else none else none else none else none else kE y2.1.1 y2.1.2.1 y2.1.2.2.2.1 y2.1.2.2.2.2.1 y2.1.2.2.1 else kE y1.1.1 y1.1.2.1 y1.1.2.2.2.1 y1.1.2.2.2.2.1 y1.1.2.2.1
def C9 (q:gy):Nat->(List eG)->Int->Int->Int->(List ed)->Option (VL.den⊕V6.den)
 |0,_,_,_,_,_=>none
 |n+1,v0,v1,v2,v3,v4=>LZ q (C9 q n) (fun e0 e1 e2 e3 e4=>some (.inl ((),((),()),((e0,e1,e2,e3,()),e4,())))) (some (.inr ((),((),()),()))) v0 v1 v2 v3 v4
def ap1 (q:gy) (n:Nat) (v:Vr.den):=C9 q n v.2.2.1.1 v.2.2.1.2.1 v.2.2.1.2.2.1 v.2.2.1.2.2.2.1 v.2.2.2.1
noncomputable def adK (q:gy):dw:=fE ak4 Vr VL V6 (.exit 0) (ap1 q bC) 6
def akk (q:gy) (x0:List eG) (x1:Int) (x2:List ed) (x3 x4:Int):Option yA:=aZ (JO x0 x1 x2 x3 x4) fun y0=>aZ (mQ y0.1.1 y0.1.2.1 y0.1.2.2.1 y0.1.2.2.2.1 y0.1.2.2.2.2.1) fun y1=>aZ (pg y1.1.1 y1.1.2.1 y1.1.2.2.1 y1.1.2.2.2.1 y1.1.2.2.2.2.1 [107]) fun y2=>aZ (mQ y2.1.1 y2.1.2.1 y2.1.2.2.1 y2.1.2.2.2.1 y2.1.2.2.2.2.1) fun y3=>aZ (C9 q bC y3.1.1 y3.1.2.1 y3.1.2.2.2.1 y3.1.2.2.2.2.1 y3.1.2.2.1) fun y4=>dA y4 (fun a5=>aZ (pg a5.2.2.1.1 a5.2.2.1.2.1 a5.2.2.2.1 a5.2.2.1.2.2.1 a5.2.2.1.2.2.2.1 [122]) fun y6=>some ((y6.1.1,(y6.1.2.1,(y6.1.2.2.1,(y6.1.2.2.2.1,(y6.1.2.2.2.2.1,()))))),())) (fun b5=>none)
noncomputable def aaE (q:gy):Env:=dK prog tt [] [(250,4,ak4),(250,600005,aph),(58,600003,aa6)] [(250,4,adK q)] [] [(87,yx),(111,WO),(112,BO),(115,zG),(254,PG),(255,BR),(256,sum256),(268,aeP q)]
def aev (q:gy) {γ:Type} (a:Vr.den->Option γ) (b:VL.den->Option γ) (c:V6.den->Option γ) (v:Vr.den):Option γ:=LZ q (fun v0 v1 v2 v3 v4=>a ((),((),()),((v0,v1,v2,v3,()),v4,()))) (fun e0 e1 e2 e3 e4=>b ((),((),()),((e0,e1,e2,e3,()),e4,()))) (c ((),((),()),())) v.2.2.1.1 v.2.2.1.2.1 v.2.2.1.2.2.1 v.2.2.1.2.2.2.1 v.2.2.2.1
theorem aqn (q:gy):dV (aaE q) 250 ai5 (adK q):=lW (aev q) (h2:=by intros;simp only[aev,LZ,cO,cZ,aY,bW,dh])
theorem auO (q:gy):dJ (aaE q) 250 asv:=zK [ai5] (aD (fM (aqn q)) aN)
theorem agn (q:gy) (H:Z7 q):dm (aaE q):=eB aN [250] (aD ⟨f250,asv,by kernel_rfl,by kernel_rfl,auO q⟩ aN) (hx:=(aD kU (aD Jp (aD pW (aD oq (aD Dw (aD qc (aD Dx (aD H.2.2.2.2.2.2.2.2.2.2.2.2.2.1 aN)))))))))
noncomputable def asw:Code:=(f268.body).getD .skip
noncomputable def ai6:Code:=cA (cA (cA (cB (cB (asw)))))
def ak5:dE:=⟨[0,100002],[],[0],[],[],[]⟩
def apm:dE:=⟨[0],[],[],[],[],[]⟩
def aa9:dE:=⟨[0,2,6,7],[],[],[],[],[]⟩
def Vs:SQ:=⟨us [.ptr 0 0] 19,[[.ptr 0 0]],[.box 0 115 [.v o9,.v bV,.slc 1,.v bV,.v bV],.arr 1 rJ]⟩
def VM:SQ:=⟨us [.ptr 0 0] 19,[[.ptr 0 0]],[.box 0 115 [.v o9,.v bV,.slc 1,.v bV,.v bV],.arr 1 rJ]⟩
def V7:SQ:=⟨us [] 20,[[.ptr 0 0]],[]⟩
def L6 (q:gy) {γ:Type} (rec kE:(List eG)->Int->Int->Int->(List ed)->Option γ) (kR:Option γ) (v0:List eG) (v1 v2 v3:Int) (v4:List ed):Option γ:=aZ (o8 v0 v1 v4 v2 v3 [124]) fun y0=>bif y0.2.1 then aZ (JO y0.1.1 y0.1.2.1 y0.1.2.2.1 y0.1.2.2.2.1 y0.1.2.2.2.2.1) fun y1=>rec y1.1.1 y1.1.2.1 y1.1.2.2.2.1 y1.1.2.2.2.2.1 y1.1.2.2.1 else kE y0.1.1 y0.1.2.1 y0.1.2.2.2.1 y0.1.2.2.2.2.1 y0.1.2.2.1
def GK (q:gy):Nat->(List eG)->Int->Int->Int->(List ed)->Option (VM.den⊕V7.den)
 |0,_,_,_,_,_=>none
 |n+1,v0,v1,v2,v3,v4=>L6 q (GK q n) (fun e0 e1 e2 e3 e4=>some (.inl ((),((),()),((e0,e1,e2,e3,()),e4,())))) (some (.inr ((),((),()),()))) v0 v1 v2 v3 v4
def ap2 (q:gy) (n:Nat) (v:Vs.den):=GK q n v.2.2.1.1 v.2.2.1.2.1 v.2.2.1.2.2.1 v.2.2.1.2.2.2.1 v.2.2.2.1
noncomputable def adL (q:gy):dw:=fE ak5 Vs VM V7 (.exit 0) (ap2 q bC) 6
def akn (q:gy) (x0:List eG) (x1:Int) (x2:List ed) (x3 x4:Int):Option yA:=aZ (o8 x0 x1 x2 x3 x4 [40]) fun y0=>aZ (JO y0.1.1 y0.1.2.1 y0.1.2.2.1 y0.1.2.2.2.1 y0.1.2.2.2.2.1) fun y1=>aZ (GK q bC y1.1.1 y1.1.2.1 y1.1.2.2.2.1 y1.1.2.2.2.2.1 y1.1.2.2.1) fun y2=>dA y2 (fun a3=>aZ (pg a3.2.2.1.1 a3.2.2.1.2.1 a3.2.2.2.1 a3.2.2.1.2.2.1 a3.2.2.1.2.2.2.1 [41]) fun y4=>aZ (mQ y4.1.1 y4.1.2.1 y4.1.2.2.1 y4.1.2.2.2.1 y4.1.2.2.2.2.1) fun y5=>aZ (Um y5.1.1 y5.1.2.1 y5.1.2.2.1 y5.1.2.2.2.1 y5.1.2.2.2.2.1) fun y6=>bif y6.2.1 then bif(bD 2 2)then bif(bD y6.1.2.1 y6.1.2.1)then bif(bD y6.1.2.2.2.1 y6.1.2.2.2.1)then bif(dY (bF y6.1.2.2.1 [(2,(y6.1.2.1,(0,(y6.1.2.2.2.1,()))))]) 32)then bif(bD 2 2)then bif(bD y6.1.2.1 y6.1.2.1)then bif(bD y6.1.2.2.2.1 y6.1.2.2.2.1)then bif((bD 2 2)&&((bD y6.1.2.1 y6.1.2.1)&&((bD 0 0)&&((bD y6.1.2.2.2.1 y6.1.2.2.2.1)&&true))))then aZ (q.q89 y6.1.1 y6.1.2.1 (bF y6.1.2.2.1 [(2,(y6.1.2.1,(0,(y6.1.2.2.2.1,()))))]) (bi y6.1.2.2.1) y6.1.2.2.2.2.1) fun y7=>bif(fU y7.1.2.2.1 (bi y6.1.2.2.1))then bif(nH (bU (bi y6.1.2.2.1)) y7.1.2.2.1)then some ((y7.1.1,(y7.1.2.1,((gp y7.1.2.2.1 (bU (bi y6.1.2.2.1)) ((bY y7.1.2.2.1 (0,(0,(0,(0,())))) (bU (bi y6.1.2.2.1))).1,((bY y7.1.2.2.1 (0,(0,(0,(0,())))) (bU (bi y6.1.2.2.1))).2.1,(y7.1.2.1,((bY y7.1.2.2.1 (0,(0,(0,(0,())))) (bU (bi y6.1.2.2.1))).2.2.2.1,()))))),(y6.1.2.2.2.1,(y7.1.2.2.2.2.1,()))))),())else none else none else none else none else none else none else none else none else none else none else some ((y6.1.1,(y6.1.2.1,(y6.1.2.2.1,(y6.1.2.2.2.1,(y6.1.2.2.2.2.1,()))))),())) (fun b3=>none)
noncomputable def aaF (q:gy):Env:=dK prog tt [] [(268,2,ak5),(268,600007,apm),(58,600003,aa9)] [(268,2,adL q)] [] [(87,yx),(88,SX),(89,ab9 q),(115,zG),(254,PG),(255,BR)]
def aew (q:gy) {γ:Type} (a:Vs.den->Option γ) (b:VM.den->Option γ) (c:V7.den->Option γ) (v:Vs.den):Option γ:=L6 q (fun v0 v1 v2 v3 v4=>a ((),((),()),((v0,v1,v2,v3,()),v4,()))) (fun e0 e1 e2 e3 e4=>b ((),((),()),((e0,e1,e2,e3,()),e4,()))) (c ((),((),()),())) v.2.2.1.1 v.2.2.1.2.1 v.2.2.1.2.2.1 v.2.2.1.2.2.2.1 v.2.2.2.1
theorem aqo (q:gy):dV (aaF q) 268 ai6 (adL q):=lW (aew q) (h2:=by intros;simp only[aew,L6,cO,cZ,aY,bW,dh])
theorem auP (q:gy):dJ (aaF q) 268 asw:=zK [ai6] (aD (fM (aqo q)) aN)
theorem agA (q:gy) (H:Z7 q):dm (aaF q):=eB aN [268] (aD ⟨f268,asw,by kernel_rfl,by kernel_rfl,auP q⟩ aN) (hx:=(aD kU (aD BU (aD H.1 (aD oq (aD Dw (aD qc aN)))))))
def akm (q:gy) (x0:List eG) (x1:Int) (x2:List ed) (x3 x4:Int):Option yA:=aZ (pg x0 x1 x2 x3 x4 [100]) fun y0=>aZ (q.q266 y0.1.1 y0.1.2.1 y0.1.2.2.1 y0.1.2.2.2.1 y0.1.2.2.2.2.1) fun y1=>aZ (pg y1.1.1 y1.1.2.1 y1.1.2.2.1 y1.1.2.2.2.1 y1.1.2.2.2.2.1 [103]) fun y2=>some ((y2.1.1,(y2.1.2.1,(y2.1.2.2.1,(y2.1.2.2.2.1,(y2.1.2.2.2.2.1,()))))),())
noncomputable def atI (q:gy):Env:=dK prog tt [] [] [] [] [(255,BR),(266,Dy q)]
theorem agz (q:gy) (H:Z7 q):dm (atI q):=eB aN [] aN (hx:=(aD qc (aD H.2.2.2.2.2.2.1 aN)))
def fD:Nat->gy
 |0=>⟨(fun _ _ _ _ _=>none),(fun _ _ _ _ _=>none),(fun _ _ _ _ _=>none),(fun _ _ _ _ _=>none),(fun _ _ _ _ _=>none),(fun _ _ _ _ _=>none),(fun _ _ _ _ _=>none),(fun _ _ _ _ _=>none),(fun _ _ _ _ _=>none),(fun _ _ _ _ _=>none),(fun _ _ _ _ _=>none),(fun _ _ _ _ _=>none),(fun _ _ _ _ _=>none),(fun _ _ _ _ _=>none),(fun _ _ _ _ _=>none)⟩
 |r+1=>⟨atV (fD r),aj8 (fD r),XK (fD r),aka (fD r),akf (fD r),xI (fD r),akl (fD r),akg (fD r),akh (fD r),aki (fD r),arf (fD r),akj (fD r),akk (fD r),akn (fD r),akm (fD r)⟩
def at6 (x0:List eG) (x1:Int) (x2:List ed) (x3 x4:Int):Option yA:=(fD bC).q89 x0 x1 x2 x3 x4
def arU:fV:=⟨115,DJ,[],[],fun x y=>at6 x.1 x.2.1 x.2.2.1 x.2.2.2.1 x.2.2.2.2.1⟩
theorem amj: ∀r,Z7 (fD r)
 |0=>⟨uA fun _ _=>rfl,uA fun _ _=>rfl,uA fun _ _=>rfl,uA fun _ _=>rfl,uA fun _ _=>rfl,uA fun _ _=>rfl,uA fun _ _=>rfl,uA fun _ _=>rfl,uA fun _ _=>rfl,uA fun _ _=>rfl,uA fun _ _=>rfl,uA fun _ _=>rfl,uA fun _ _=>rfl,uA fun _ _=>rfl,uA fun _ _=>rfl⟩
 |r+1=>by
  have ih:=amj r;exact⟨sB (ajJ (fD r) ih),
   sB (afh (fD r) ih),
   sB (afC (fD r) ih),
   sB (afQ (fD r) ih),
   sB (af7 (fD r) ih),
   sB (af5 (fD r) ih),
   sB (agy (fD r) ih),
   sB (agi (fD r) ih),
   sB (agj (fD r) ih),
   sB (agk (fD r) ih),
   sB (agl (fD r) ih),
   sB (agm (fD r) ih),
   sB (agn (fD r) ih),
   sB (agA (fD r) ih),
   sB (agz (fD r) ih)⟩
theorem anU:dO prog 89 arU:=(amj bC).1
noncomputable def b59:Code:=(f59.body).getD .skip
noncomputable def aq8:Code:=cA (cA (cB (b59)))
def arq:dE:=⟨[0,2,100001],[],[],[],[],[]⟩
def aug:dE:=⟨[0],[],[],[],[],[]⟩
def ag4:dE:=⟨[0,2,6,7],[],[],[],[],[]⟩
def adX:SQ:=⟨us [.ptr 0 0,.u,.v .bool] 26,[[.ptr 0 0]],[.box 0 115 [.v o9,.v bV,.slc 1,.v bV,.v bV],.arr 1 rJ]⟩
def abB:SQ:=⟨us [] 29,[[.ptr 0 0]],[.box 0 115 [.v o9,.v bV,.slc 1,.v bV,.v bV],.arr 1 rJ]⟩
def abK:SQ:=⟨us [] 29,[[.ptr 0 0]],[]⟩
def WG {γ:Type} (rec:Bool->(List eG)->Int->Int->Int->(List ed)->Option γ) (kE:(List eG)->Int->Int->Int->(List ed)->Option γ) (kR:Option γ) (v0:Bool) (v1:List eG) (v2 v3 v4:Int) (v5:List ed):Option γ:=bif(iq v2 (bi v1))then aZ (o8 v1 v2 v5 v3 v4 [110]) fun y0=>bif y0.2.1 then rec v0 y0.1.1 y0.1.2.1 y0.1.2.2.2.1 y0.1.2.2.2.2.1 y0.1.2.2.1 else bif(!v0)then aZ (Um y0.1.1 y0.1.2.1 y0.1.2.2.1 y0.1.2.2.2.1 y0.1.2.2.2.2.1) fun y1=>bif y1.2.1 then bif(bD 2 2)then bif(bD y1.1.2.1 y1.1.2.1)then bif(bD y1.1.2.2.2.1 y1.1.2.2.2.1)then bif(dY (bF y1.1.2.2.1 [(2,(y1.1.2.1,(0,(y1.1.2.2.2.1,()))))]) 32)then bif(bD 2 2)then bif(bD y1.1.2.1 y1.1.2.1)then bif(bD y1.1.2.2.2.1 y1.1.2.2.2.1)then bif((bD 2 2)&&((bD y1.1.2.1 y1.1.2.1)&&((bD 0 0)&&((bD y1.1.2.2.2.1 y1.1.2.2.2.1)&&true))))then aZ (at6 y1.1.1 y1.1.2.1 (bF y1.1.2.2.1 [(2,(y1.1.2.1,(0,(y1.1.2.2.2.1,()))))]) (bi y1.1.2.2.1) y1.1.2.2.2.2.1) fun y2=>bif(fU y2.1.2.2.1 (bi y1.1.2.2.1))then bif(nH (bU (bi y1.1.2.2.1)) y2.1.2.2.1)then rec true y2.1.1 y2.1.2.1 y1.1.2.2.2.1 y2.1.2.2.2.2.1 (gp y2.1.2.2.1 (bU (bi y1.1.2.2.1)) ((bY y2.1.2.2.1 (0,(0,(0,(0,())))) (bU (bi y1.1.2.2.1))).1,((bY y2.1.2.2.1 (0,(0,(0,(0,())))) (bU (bi y1.1.2.2.1))).2.1,(y2.1.2.1,((bY y2.1.2.2.1 (0,(0,(0,(0,())))) (bU (bi y1.1.2.2.1))).2.2.2.1,())))))else none else none else none else none else none else none else none else none else none else none else aZ (NV y1.1.1 y1.1.2.1 y1.1.2.2.1 y1.1.2.2.2.1 y1.1.2.2.2.2.1 17) fun y2=>rec false y2.1.1 y2.1.2.1 y2.1.2.2.2.1 y2.1.2.2.2.2.1 y2.1.2.2.1 else aZ (NV y0.1.1 y0.1.2.1 y0.1.2.2.1 y0.1.2.2.2.1 y0.1.2.2.2.2.1 17) fun y1=>rec false y1.1.1 y1.1.2.1 y1.1.2.2.2.1 y1.1.2.2.2.2.1 y1.1.2.2.1 else kE v1 v2 v3 v4 v5
def IK:Nat->Bool->(List eG)->Int->Int->Int->(List ed)->Option (abB.den⊕abK.den)
 |0,_,_,_,_,_,_=>none
 |n+1,v0,v1,v2,v3,v4,v5=>WG (IK n) (fun e0 e1 e2 e3 e4=>some (.inl ((),((),()),((e0,e1,e2,e3,()),e4,())))) (some (.inr ((),((),()),()))) v0 v1 v2 v3 v4 v5
def auU (n:Nat) (v:adX.den):=IK n v.1.1 v.2.2.1.1 v.2.2.1.2.1 v.2.2.1.2.2.1 v.2.2.1.2.2.2.1 v.2.2.2.1
noncomputable def alF:dw:=fE arq adX abB abK (.exit 0) (auU bC) 6
def atW (x0:List eG) (x1:Int) (x2:List ed) (x3 x4:Int):Option yA:=aZ (IK bC false x0 x1 x3 x4 x2) fun y0=>dA y0 (fun a1=>some ((a1.2.2.1.1,(a1.2.2.1.2.1,(a1.2.2.2.1,(a1.2.2.1.2.2.1,(a1.2.2.1.2.2.2.1,()))))),())) (fun b1=>none)
def arO:fV:=⟨115,DJ,[],[],fun x y=>atW x.1 x.2.1 x.2.2.1 x.2.2.2.1 x.2.2.2.2.1⟩
noncomputable def ajz:Env:=dK prog tt [] [(59,1,arq),(59,600006,aug),(58,600003,ag4)] [(59,1,alF)] [] [(87,yx),(88,SX),(89,arU),(90,ZO)]
def amr {γ:Type} (a:adX.den->Option γ) (b:abB.den->Option γ) (c:abK.den->Option γ) (v:adX.den):Option γ:=WG (fun v0 v1 v2 v3 v4 v5=>a ((v0,()),((),()),((v1,v2,v3,v4,()),v5,()))) (fun e0 e1 e2 e3 e4=>b ((),((),()),((e0,e1,e2,e3,()),e4,()))) (c ((),((),()),())) v.1.1 v.2.2.1.1 v.2.2.1.2.1 v.2.2.1.2.2.1 v.2.2.1.2.2.2.1 v.2.2.2.1
theorem avb:dV ajz 59 aq8 alF:=lW (amr) (h2:=by intros;simp only[amr,WG,cO,cZ,aY,bW,dh])
theorem aw8:dJ ajz 59 b59:=zK [aq8] (aD (fM (avb)) aN)
theorem ajA:dm ajz:=eB aN [59] (aD ⟨f59,b59,by kernel_rfl,by kernel_rfl,aw8⟩ aN) (hx:=(aD kU (aD BU (aD anU (aD HY aN)))))
theorem anO:dO prog 59 arO:=sB ajA
def aue:dE:=⟨[3],[],[],[],[],[]⟩
def ag1:dE:=⟨[0,2,6,7],[],[],[],[],[]⟩
def Ul (x0:List eG):Option ((List ed)×Unit):=bif(bD 1 1)then bif(bD 0 0)then bif(bD (-1) (-1))then bif(dY [(1,(0,(0,((-1),()))))] 32)then bif(bD 1 1)then bif(bD 0 0)then bif(bD (-1) (-1))then bif((bD 1 1)&&((bD 0 0)&&((bD 0 0)&&((bD (-1) (-1))&&true))))then aZ (atW x0 0 [(1,(0,(0,((-1),()))))] 0 0) fun y0=>bif(fU y0.1.2.2.1 0)then bif(nH (bU 0) y0.1.2.2.1)then some ((gp y0.1.2.2.1 (bU 0) ((bY y0.1.2.2.1 (0,(0,(0,(0,())))) (bU 0)).1,((bY y0.1.2.2.1 (0,(0,(0,(0,())))) (bU 0)).2.1,(y0.1.2.1,((bY y0.1.2.2.1 (0,(0,(0,(0,())))) (bU 0)).2.2.2.1,()))))),())else none else none else none else none else none else none else none else none else none else none
def aeS:Sum:=⟨[o9],[(.list rJ,false)],fun x=>Ul x.1⟩
noncomputable def awn:Env:=dK prog tt [] [(33,600002,aue),(58,600003,ag1)] [] [] [(59,arO)]
theorem ajr:dm awn:=eB aN [] aN (hx:=(aD anO aN))
theorem PM:dN prog 33 aeS:=sA ajr
def avk:SP:=⟨us [] 30,[]⟩
def avv:SP:=⟨us [.u,.u,.v .bool] 27,[]⟩
def amO {γ:Type} (rec:bH->Int->Option γ) (kE:Option γ) (kR:Bool->Option γ) (v0:bH) (v1:Int):Option γ:=bif(leI (bT .i64 v1 (bi v0)) 65)then bif(gW (bi [32,33,32,123,32,125,32,99,97,115,101,32,100,111,32,100,111,110,101,32,101,108,105,102,32,101,108,115,101,32,101,115,97,99,32,102,105,32,102,111,114,32,105,102,32,105,110,32,116,104,101,110,32,117,110,116,105,108,32,119,104,105,108,101,32]) v1 (bT .i64 v1 (bi v0)))then bif(gQ (sub [32,33,32,123,32,125,32,99,97,115,101,32,100,111,32,100,111,110,101,32,101,108,105,102,32,101,108,115,101,32,101,115,97,99,32,102,105,32,102,111,114,32,105,102,32,105,110,32,116,104,101,110,32,117,110,116,105,108,32,119,104,105,108,101,32] v1 (bT .i64 v1 (bi v0))) v0)then kR true else rec v0 (bT .i64 v1 1)else none else kE
def UO:Nat->bH->Int->Option (avk.den⊕avv.den)
 |0,_,_=>none
 |n+1,v0,v1=>amO (UO n) (some (.inl ((),()))) (fun r0=>some (.inr ((r0,()),()))) v0 v1
def atZ (x0:bH):Option ou:=bif(bD (bi x0) 0)then some (false,())else aZ (F5 32 x0) fun y0=>bif y0.1 then some (false,())else bif(kT [32] x0)then bif(kT (bF [32] x0) [32])then aZ (UO bC (bF (bF [32] x0) [32]) 0) fun y1=>dA y1 (fun a2=>some (false,())) (fun b2=>some (b2.1.1,()))else none else none
def avi:SP:=⟨us [] 63,[]⟩
def avt:SP:=⟨us [.u,.u,.v .str] 60,[]⟩
def amN {γ:Type} (rec:Int->Int->bH->Int->Int->Option γ) (kE:Option γ) (kR:bH->Option γ) (v0 v1:Int) (v2:bH) (v3 v4:Int):Option γ:=bif(leI v0 17)then aZ (awH v0) fun y0=>bif(gQ y0.1 v2)then bif(gW (bi [97,111,121,60,60,60,60,60,60,60,60,60,38,59,124,40,41]) (eY .i64 v0 1) v0)then kR (sub [97,111,121,60,60,60,60,60,60,60,60,60,38,59,124,40,41] (eY .i64 v0 1) v0)else none else rec (bT .i64 v0 1) v1 v2 v3 v4 else kE
def UN:Nat->Int->Int->bH->Int->Int->Option (avi.den⊕avt.den)
 |0,_,_,_,_,_=>none
 |n+1,v0,v1,v2,v3,v4=>amN (UN n) (some (.inl ((),()))) (fun r0=>some (.inr ((r0,()),()))) v0 v1 v2 v3 v4
def Qd (x0:eG):Option Xe:=bif(bD x0.1 2)then some ([110],())else bif(bD x0.1 5)then some ([35],())else bif(bD x0.1 4)then aZ (UN bC 1 x0.1 x0.2.1 x0.2.2.1 x0.2.2.2.1) fun y0=>dA y0 (fun a1=>some ([63],())) (fun b1=>some (b1.1.1,()))else bif(!(bD x0.1 6))then some ([63],())else aZ (atZ x0.2.1) fun y0=>bif(!y0.1)then some ([120],())else bif(bD (bi x0.2.1) 1)then some (x0.2.1,())else bif(gQ x0.2.1 [105,102])then some ([105],())else bif(gQ x0.2.1 [105,110])then some ([107],())else bif(gQ x0.2.1 [101,108,115,101])then some ([108],())else bif(gQ x0.2.1 [101,115,97,99])then some ([122],())else bif(gQ x0.2.1 [102,111,114])then some ([114],())else bif(gQ x0.2.1 [100,111,110,101])then some ([103],())else bif(gQ x0.2.1 [117,110,116,105,108])then some ([119],())else bif(gW (bi x0.2.1) 0 1)then some ((sub x0.2.1 0 1),())else none
def aoL (x0:Int):Option ou:=bif(leI 9 x0)then bif(leI x0 14)then some (true,())else some ((bD x0 16),())else some ((bD x0 16),())
def Aw (x0:List eG) (x1:bH) (x2:List ed) (x3 x4 x5 x6:Int):Option (taF×EU):=bif(bD x6 x6)then bif(bD x3 x3)then bif(bD x4 x4)then bif(dY (bF x2 [(x6,(x3,(0,(x4,()))))]) 32)then bif(bD x6 x6)then bif(bD x3 x3)then bif(bD x4 x4)then bif((bD x6 x6)&&((bD x3 x3)&&((bD 0 0)&&((bD x4 x4)&&true))))then aZ (aoL x6) fun y0=>bif y0.1 then some ((x0,(x1,((bF x2 [(x6,(x3,(0,(x4,()))))]),(x3,((eY .i64 (bi (bF x2 [(x6,(x3,(0,(x4,()))))])) 1),((bT .i64 x5 1),())))))),(x4,()))else some ((x0,(x1,((bF x2 [(x6,(x3,(0,(x4,()))))]),(x3,((eY .i64 (bi (bF x2 [(x6,(x3,(0,(x4,()))))])) 1),(x5,())))))),(x4,()))else none else none else none else none else none else none else none else none
def lI (x0:List eG) (x1:bH) (x2:List ed) (x3 x4 x5:Int) (x6:bH):Option (taF×ou):=bif(iq x3 (bi x1))then bif(fU x1 x3)then aZ (F5 (bK x1 x3) x6) fun y0=>some ((x0,(x1,(x2,(x3,(x4,(x5,())))))),(y0.1,()))else none else some ((x0,(x1,(x2,(x3,(x4,(x5,())))))),(false,()))
def XO (x0:List eG) (x1:bH) (x2:List ed) (x3 x4 x5:Int):Option (taF×ou):=aZ (lI x0 x1 x2 x3 x4 x5 [60]) fun y0=>bif y0.2.1 then some ((y0.1.1,(y0.1.2.1,(y0.1.2.2.1,(y0.1.2.2.2.1,(y0.1.2.2.2.2.1,(y0.1.2.2.2.2.2.1,())))))),(true,()))else aZ (lI y0.1.1 y0.1.2.1 y0.1.2.2.1 y0.1.2.2.2.1 y0.1.2.2.2.2.1 y0.1.2.2.2.2.2.1 [35]) fun y1=>bif y1.2.1 then bif(iq (bT .i64 y1.1.2.2.2.1 1) (bi y1.1.2.1))then bif(fU y1.1.2.1 (bT .i64 y1.1.2.2.2.1 1))then some ((y1.1.1,(y1.1.2.1,(y1.1.2.2.1,(y1.1.2.2.2.1,(y1.1.2.2.2.2.1,(y1.1.2.2.2.2.2.1,())))))),((bD (bK y1.1.2.1 (bT .i64 y1.1.2.2.2.1 1)) 60),()))else none else some ((y1.1.1,(y1.1.2.1,(y1.1.2.2.1,(y1.1.2.2.2.1,(y1.1.2.2.2.2.1,(y1.1.2.2.2.2.2.1,())))))),(false,()))else some ((y1.1.1,(y1.1.2.1,(y1.1.2.2.1,(y1.1.2.2.2.1,(y1.1.2.2.2.2.1,(y1.1.2.2.2.2.2.1,())))))),(false,()))
def QW (x0:List eG) (x1:bH) (x2:List ed) (x3 x4 x5:Int):Option (taF×ou):=aZ (lI x0 x1 x2 x3 x4 x5 [123,40,105,119,114,99]) fun y0=>bif y0.2.1 then some ((y0.1.1,(y0.1.2.1,(y0.1.2.2.1,(y0.1.2.2.2.1,(y0.1.2.2.2.2.1,(y0.1.2.2.2.2.2.1,())))))),((iq y0.1.2.2.2.2.2.1 200),()))else some ((y0.1.1,(y0.1.2.1,(y0.1.2.2.1,(y0.1.2.2.2.1,(y0.1.2.2.2.2.1,(y0.1.2.2.2.2.2.1,())))))),(false,()))
def aoM (x0:List eG) (x1:bH) (x2:List ed) (x3 x4 x5:Int):Option (taF×ou):=aZ (lI x0 x1 x2 x3 x4 x5 [120]) fun y0=>bif y0.2.1 then some ((y0.1.1,(y0.1.2.1,(y0.1.2.2.1,(y0.1.2.2.2.1,(y0.1.2.2.2.2.1,(y0.1.2.2.2.2.2.1,())))))),(true,()))else aZ (XO y0.1.1 y0.1.2.1 y0.1.2.2.1 y0.1.2.2.2.1 y0.1.2.2.2.2.1 y0.1.2.2.2.2.2.1) fun y1=>bif y1.2.1 then some ((y1.1.1,(y1.1.2.1,(y1.1.2.2.1,(y1.1.2.2.2.1,(y1.1.2.2.2.2.1,(y1.1.2.2.2.2.2.1,())))))),(true,()))else aZ (QW y1.1.1 y1.1.2.1 y1.1.2.2.1 y1.1.2.2.2.1 y1.1.2.2.2.2.1 y1.1.2.2.2.2.2.1) fun y2=>some ((y2.1.1,(y2.1.2.1,(y2.1.2.2.1,(y2.1.2.2.2.1,(y2.1.2.2.2.2.1,(y2.1.2.2.2.2.2.1,())))))),(y2.2.1,()))
def NS (x0:List eG) (x1:bH) (x2:List ed) (x3 x4 x5:Int):Option (taF×ou):=aZ (lI x0 x1 x2 x3 x4 x5 [33]) fun y0=>bif y0.2.1 then some ((y0.1.1,(y0.1.2.1,(y0.1.2.2.1,(y0.1.2.2.2.1,(y0.1.2.2.2.2.1,(y0.1.2.2.2.2.2.1,())))))),(true,()))else aZ (aoM y0.1.1 y0.1.2.1 y0.1.2.2.1 y0.1.2.2.2.1 y0.1.2.2.2.2.1 y0.1.2.2.2.2.2.1) fun y1=>some ((y1.1.1,(y1.1.2.1,(y1.1.2.2.1,(y1.1.2.2.2.1,(y1.1.2.2.2.2.1,(y1.1.2.2.2.2.2.1,())))))),(y1.2.1,()))
end
end Go.Proofs.YtldbkoijjlaaeaaGreatDoor
