/- Parts of the proof, joined and shortened by a program: the plain machine, the functions as it prints them, and the mathematics over them. -/
import Derived.ChangeArms
import Derived.WideShapes
import Derived.Test.YtjegbhogodknhaaGreatDoorProg
import Derived.Shelf.Strings.Builder1
import Derived.Test.YtjegbhogodknhaaGreatDoorZ2
set_option linter.unusedVariables false
set_option linter.unusedSimpArgs false
set_option maxRecDepth 100000
set_option maxHeartbeats 4000000
namespace Go.Proofs.YtjegbhogodknhaaGreatDoor
section
open Option renaming some → a6, none → a7
open Bool renaming and_eq_true → ah, not_eq_true → bG
open List renaming mem_cons_of_mem → aB
open Nat renaming le_refl → af
open Go.RowKit
def TT.allK:TT->Bool
 |.nil=>true
 |.node _ i l r=>i.known&&(l.allK&&r.allK)
theorem TT.allK_at: ∀(T:TT) (t:TypeId),T.allK=true->(T.at t).ty.isSome=true->(T.at t).known=true
 |.nil,t,_,h=>by assumption
 |.node k i l r,t,h,d=>by
  simp only[TT.allK,ah]at h;simp only[TT.at]at d ⊢;by_cases e:Nat.beq k t=true
  .simp_all
  .have f:Nat.beq k t=false:=(bG _).mp e;simp only[f,ac]at d ⊢;by_cases e2:Nat.blt t k=true
   .simp only[e2,aa]at d ⊢;exact TT.allK_at l t h.2.1 d
   .have g:Nat.blt t k=false:=(bG _).mp e2;simp only[g,ac]at d ⊢;exact TT.allK_at r t h.2.2 d
def wfD:(t:Ty)->t.den->Prop
 |.unit,_=>True
 |.bool,_=>True
 |.int k,x=>(Lit.int k x).wf=true
 |.str,x=>x.length<=maxLen
 |.list e,d=>d.length<=maxLen/\ ∀x∈d,wfD e x
 |.pair a b,x=>wfD a x.1/\wfD b x.2
section
variable {P:Program} {T:TT} {w:World} {H:Type} {enc:TypeId×Value->H} {spare:Nat->Bool} {held:Bool}
theorem av4 {t:TypeId} {k:TK} (h:(P.underlying t).map nz=a6 (a6 k)): ∃d,P.underlying t=a6 d/\nz d=a6 k:=by
 simp_all
theorem Ju (hT:TOk P T) {t:TypeId} (hk:(T.at t).known=true):P.cellsOf t=(T.at t).size:=by
 obtain⟨h,_⟩:=hT t hk;unfold Program.cellsOf;cases hi:P.info? t with
 |none=>simp_all
 |some f=>
  simp_all
theorem awz {a:Addr} {v:Value} (h:w.cell? a=a6 v):a.block<w.heap.size/\a.spot=a7:=by
 unfold World.cell? at h;split at h
 .rename_i d
  refine⟨(Array.getElem?_eq_some_iff.1 d).1, ?_⟩;simp_all
 .cases h
theorem addr_add_add (a:Addr) (x m:Nat):(a.add x).add m=a.add (x+m):=by
 grind [Addr.add]
theorem afa {e:Ty} {size:Nat} (q:e.size=size) {a:Addr} {len:Nat} {F:List Value->Option (DataW H×List MemPlace)} (hF: ∀cs y,F cs=a6 y-> ∃x:e.den,fV w (fun b=>b<w.heap.size) e x cs/\wfD e x)
  (h: ∀i,i<len-> ∃y,(w.cells? 0 (a.add (i*size)) size).bind F=a6 y): ∀(k j:Nat),j+k<=len->
  ∃(xs:List e.den) (d:List Value),xs.length=k/\gV (fV w (fun b=>b<w.heap.size) e) e.size xs d/\(∀m (f:m<d.length),w.cell? (a.add (j*size+m))=a6 d[m])/\ ∀x∈xs,wfD e x
 |0,j,_=>⟨[],[],rfl,rfl,fun m f=>absurd f (by simp),fun x g=>by cases g⟩
 |k+1,j,B=>by
  obtain⟨xs,d,u,v,D,I⟩:=afa q hF h k (j+1) (by omega);obtain⟨y,l⟩:=h j (by omega);obtain⟨c,p,l⟩:=Option.bind_eq_some_iff.1 l;obtain⟨x,g,J⟩:=hF c y l;have A:c.length=e.size:=fV.length e x c g;have K: ∀m (f:m<c.length),w.cell? (a.add (j*size+m))=a6 c[m]:=fun m f=>by
   simp only[World.cells?,Nat.zero_le,if_true]at p;have:=mapM_some_get p m m (by simp_all);simp_all [addr_add_add]
  refine⟨x::xs,c++d,by simp[u],⟨c,d,rfl,A,g,v⟩,fun m f=> ?_,fun z L=> ?_⟩
  all_goals grind
theorem TS (hT:TOk P T) {n:Nat} {cs:List Value} (e: ∀(t:TypeId) (cs:List Value) (y:DataW H×List MemPlace) (ty:Ty),(T.at t).known=true->(T.at t).ty=a6 ty->DataW.trod enc P w 0 spare held n t cs=a6 y-> ∃x:ty.den,fV w (fun b=>b<w.heap.size) ty x cs/\wfD ty x):
  ∀(f:List (Nat×TypeId)) (off:Nat) (ty:Ty),lF T off f=a6 ty->(∀p∈f,∃y,DataW.trod enc P w 0 spare held n p.2 ((cs.drop p.1).take (P.cellsOf p.2))=a6 y)->
   ∃x:ty.den,fV w (fun b=>b<w.heap.size) ty x ((cs.drop off).take ty.size)/\wfD ty x
 |[],off,ty,h,_=>by
  simp only[lF,Option.some.injEq]at h;subst h;exact⟨(),by simp[fV,Ty.size],trivial⟩
 |(o,g)::l,off,ty,h,i=>by
  simp only[lF]at h;split at h
  .rename_i m
   split at h
   .rename_i a q
    split at h
    .rename_i d
     split at h
     .rename_i b u
      simp only[Option.some.injEq]at h;subst h m;obtain⟨y,j⟩:=i (o,g) (by simp);simp only[Ju hT d.2,<-d.1]at j;obtain⟨v,z,A⟩:=e g _ y a d.2 q j;obtain⟨B,D,I⟩:=TS hT e l _ b u fun p J=>i p (aB _ J);refine⟨(v,B),⟨_,_, ?_,z,D⟩,A,I⟩;simp_all [Ty.size,List.take_add]
     .cases h
    .cases h
   .cases h
  .cases h
theorem Wi (hT:TOk P T) (u:T.allK=true): ∀(m:Nat) (t:TypeId) (cs:List Value) (y:DataW H×List MemPlace) (ty:Ty),(T.at t).known=true->(T.at t).ty=a6 ty->DataW.trod enc P w 0 spare held m t cs=a6 y->
  ∃x:ty.den,fV w (fun b=>b<w.heap.size) ty x cs/\wfD ty x
 |0,t,cs,y,ty,_,_,h=>by simp[DataW.trod]at h
 |m+1,t,cs,y,ty,hk,N,h=>by
  obtain⟨ag,O,ai,S,-,-,-,-⟩:=hT t hk;obtain⟨d,hd,l⟩:=av4 O;have g:oh T (T.at t).k=a6 ty:=by
   simp_all
  have hc:=Ju hT hk;have aj:=S ty N;cases d with
  |bool=>
   simp only[nz,Option.some.injEq]at l;rw[<-l]at g;simp only[oh,Option.some.injEq]at g;subst g;obtain⟨b,rfl,_⟩:=DataW.trod_bool hd h;exact⟨b,rfl,trivial⟩
  |int k=>
   simp only[nz,Option.some.injEq]at l;rw[<-l]at g;simp only[oh,Option.some.injEq]at g;subst g;obtain⟨b,rfl,_,B⟩:=DataW.trod_int hd h;exact⟨b,rfl,B⟩
  |string=>
   simp only[nz,Option.some.injEq]at l;rw[<-l]at g;simp only[oh,Option.some.injEq]at g;subst g;obtain⟨s,rfl,_,B⟩:=DataW.trod_string hd h;exact⟨s.data.toList,by simp[fV],(show s.data.toList.length<=maxLen from by assumption)⟩
  |slice e=>
   simp only[nz,Option.some.injEq]at l;rw[<-l]at g;simp only[oh,Option.map_eq_some_iff]at g;obtain⟨q,v,rfl⟩:=g;have z:=TT.allK_at T e u (by rw[v];rfl);have U:q.size=(T.at e).size:=(hT e z).2.2.2.1 q v;have V:=Ju hT z;rcases DataW.trod_slice hd h with ⟨rfl,_⟩|⟨a,len,W,ak,al,n,X,rfl,_,_,hl,hm,Y,an,_,_⟩
   .exact⟨[],⟨a7,0,[],rfl,af _,rfl,.inl rfl⟩,Nat.zero_le _,fun x Z=>by cases Z⟩
   .obtain rfl:n=m:=by omega
    have ad: ∀i,i<len-> ∃y,(w.cells? 0 (a.add (i*P.cellsOf e)) (P.cellsOf e)).bind (DataW.trod enc P w 0 spare held n e)=a6 y:=fun i hi=>by
     simp_all
    obtain⟨D,I,A,J,h3,h4⟩:=afa (w:=w) (e:=q) (U.trans V.symm) (fun cs y hy=>Wi hT u n e cs y q z v hy) ad len 0 (by omega);refine⟨D,⟨a6 a,W,I,by rw[A],by omega,J, ?_⟩,by rw[A];omega,h4⟩;by_cases hz:I=[]
    .exact .inl hz
    .have K:=h3 0 (List.length_pos_iff.2 hz);rw[show a.add (0*P.cellsOf e+0)=a by simp[Addr.add]]at K;obtain⟨L,M⟩:=awz K;obtain⟨ab,ao,au⟩:=a;simp only at L M;subst M;refine .inr ⟨ab,ao,rfl,L,fun j hj=> ?_⟩;simp_all [mD]
  |struct fs=>
   simp only[nz,Option.some.injEq]at l;rw[<-l]at g;simp only[oh]at g;obtain⟨D,n,X,_,Y,av,hf⟩:=DataW.trod_struct hd h;obtain rfl:n=m:=by omega
   obtain⟨x,A,J⟩:=TS (P:=P) (T:=T) (w:=w) (enc:=enc) (spare:=spare) (held:=held) (cs:=cs) hT (fun t cs y ty a b c=>Wi hT u n t cs y ty a b c) _ 0 ty g (fun p hp=>by
    obtain⟨f,ae,rfl⟩:=List.mem_map.1 hp;obtain⟨i,hi⟩:=List.getElem?_of_mem ae
    grind)
   grind
  |func a b c=>
   grind [nz,oh]
  |array a b=>simp[nz]at l
  |_=>
   grind [nz,oh]
theorem UZ (hT:TOk P T) (z:T.allK=true) {t:TypeId} {v:Value} {d:DataW H} {D:List MemPlace} {r:Reach} {b0:Nat} {ty:Ty} (m:(T.at t).ty=a6 ty) (q:Value.okWide P w r b0 t v) (h:DataW.Trod enc P w 0 spare held t v d D):
  ∃x:ty.den,VD (lQ w fun _=>False) ty x v/\wfD ty x:=by
 have hk:=TT.allK_at T t z (by rw[m];rfl);obtain⟨I,J⟩:=h;obtain⟨x,u,K⟩:=Wi hT z I t _ _ ty hk m J;have y:fV w (lQ w fun _=>False).free ty x v.cells.toList:=fV.mono (fun b L=>⟨⟨L,(by rintro ⟨i,o,h,_⟩;simp[lQ,ed]at h),by simp[lQ],fun h=>h⟩,rfl⟩) ty x _ u;refine⟨x, ?_,K⟩;obtain⟨S,M,N,-⟩:=hT t hk;obtain⟨A,hd,j⟩:=av4 M;have g:oh T (T.at t).k=a6 ty:=by
  rcases N with u|u
  .rw[u]at m;cases m
  .rw[<-u,m]
 cases ha:ty.isAgg with
 |true=>
  cases A with
  |struct B=>
   obtain⟨cs,rfl,_⟩:=Go.WideShapes.okWide_struct hd q;exact(VD.agg ha).2 ⟨cs,rfl,y⟩
  |array a b=>simp[nz]at j
  |slice e=>
   simp only[nz,Option.some.injEq]at j;rw[<-j]at g;simp only[oh,Option.map_eq_some_iff]at g;obtain⟨U,_,rfl⟩:=g;cases ha
  |_=>
   simp only[nz,Option.some.injEq]at j;rw[<-j]at g;simp[oh]at g
   all_goals (subst g;cases ha)
 |false=>
  rw[VD.leaf ha];have O:v.cells= #[v]:=by
   cases A with
   |struct B=>
    simp only[nz,Option.some.injEq]at j;rw[<-j]at g;simp only[oh]at g;exfalso;cases hfs:(B.toList.map fun f=>(f.offset,f.type))with
    |nil=>rw[hfs]at g;simp only[lF,Option.some.injEq]at g;subst g;cases ha
    |cons p l=>
     rw[hfs]at g;simp only[lF]at g;split at g
     .split at g
      .split at g
       .split at g
        .simp only[Option.some.injEq]at g;subst g;cases ha
        .cases g
       .cases g
      .cases g
     .cases g
   |array a b=>simp[nz]at j
   |bool=>obtain⟨b,rfl⟩:=Go.WideShapes.okWide_bool hd q;rfl
   |int k=>obtain⟨b,rfl⟩:=Go.WideShapes.okWide_int hd q;rfl
   |string=>obtain⟨b,rfl⟩:=Go.WideShapes.okWide_string hd q;rfl
   |slice e=>obtain⟨a,b,c,rfl⟩:=Go.WideShapes.okWide_slice hd q;rfl
   |_=>
    simp only[nz,Option.some.injEq]at j;rw[<-j]at g;simp[oh]at g
  rw[O]at y;exact y
end
abbrev dL:Ty:=.int .i64
abbrev gJ:Type:=Int×(List UInt8)×(Int×Int×Unit)
abbrev gI:Type:=Int×Int×Int×Int×Unit
abbrev WC:Ty:=.pair dL (.pair dL .unit)
abbrev dC:Type:=List UInt8
abbrev jT:Type:=Int×Int×Int×Int×Bool×Unit
abbrev tyC:Ty:=.pair dL (.pair .str WC)
abbrev og:Ty:=.pair dL (.pair dL WC)
abbrev YI:Ty:=.pair dL (.pair dL (.pair dL (.pair .bool .unit)))
abbrev vY:Type:=((List gJ)×Int×(List gI)×Int×Int×Unit)×(Unit)
abbrev taF:Type:=(List gJ)×dC×(List gI)×Int×Int×Int×Unit
abbrev xy:Type:=Bool×Unit
abbrev DL:Type:=Int×Int×Int×Bool×Unit
abbrev qP:Type:=Int×Int×Unit
abbrev tyF:Ty:=.pair .bool .unit
abbrev lq:Type:=List (Int)
abbrev IL:Type:=Bool×Bool×dC×(Unit)
abbrev Xe:Ty:=.pair .bool (.pair .bool (.pair .str .unit))
abbrev DJ:Type:=List (dC×xy)
abbrev taM:Type:=((List gJ)×Int×(List gI)×Int×Int×Unit)×xy
abbrev EU:Ty:=.pair .str tyF
abbrev taN:Type:=(List qP)×Bool×Int×Unit
abbrev J7:Ty:=.pair dL YI
abbrev Jn:Type:=dC×(lq×xy)
abbrev rF:Ty:=.list tyC
abbrev tyK:Ty:=.pair (.list dL) tyF
abbrev E8:Type:=taF×(Unit)
abbrev xf:Type:=Int×Int
abbrev Fb:Type:=Int×Unit
abbrev taS:Type:=DL×(Int×DJ×xy)×Unit
abbrev taT:Type:=dC×(List DL)×Int×DJ×Bool×(List gJ)×(List gI)×Unit
abbrev tyL:Ty:=.pair (.list EU) tyF
abbrev Xf:Ty:=.list J7
abbrev taU:Type:=Jn×Unit
abbrev zQ:List (Ty×Bool):=[(.list tyC,false),(.int .i64,false),(.list og,true),(.int .i64,false),(.int .i64,false)]
abbrev J3:List (Ty×Bool):=[(.list tyC,false),(.str,false),(.list og,true),(.int .i64,false),(.int .i64,false),(.int .i64,false)]
abbrev tzC:List (Ty×Bool):=[(.list WC,true),(.bool,false),(.int .i64,false)]
abbrev Xg:List (Ty×Bool):=[(.int .i64,false)]
abbrev YK:List (Ty×Bool):=[(.bool,false)]
abbrev tzF:List (Ty×Bool):=[(.str,false),(.list YI,false),(.int .i64,false),(.list EU,false),(.bool,false),(.list tyC,false),(.list og,false)]
abbrev tzG:List (Ty×Bool):=[(.pair .str tyK,false)]
abbrev tzH:List (Ty×Bool):=[(.pair dL (.pair dL (.pair dL tyF)),false),(.pair dL tyL,false)]
abbrev tzI:List (Ty×Bool):=[(.str,false)]
abbrev tzJ:List (Ty×Bool):=[(.int .i64,false),(.int .i64,false)]
end
section
open Option renaming some → a6, none → a7
open Bool renaming and_eq_true → ah, not_true → au, false_or → bg, or_eq_true → bi, not_eq_true' → bu
open Nat renaming eq_of_beq_eq_true → ax
open Tryz
open Go.RowKit
def jP:TI:=⟨true,.fn,1,8,a7,[.nilfn],false,false,true⟩
def ti2:TI:=⟨true,(.int .i64),1,8,a6 (.int .i64),[.val (.int .i64) 0],false,false,true⟩
def ti4:TI:=⟨true,.bool,1,1,a6 .bool,[.val .bool false],false,false,true⟩
def ti5:TI:=⟨true,(.int .u8),1,1,a6 (.int .u8),[.val (.int .u8) 0],false,false,true⟩
def ti7:TI:=⟨true,(.struct [(0,2),(1,3),(2,4),(3,6)]),4,24,a7,[.val (.int .i64) 0,.val (.int .i64) 0,.val .bool false,.val (.int .u8) 0],false,false,true⟩
def ti9:TI:=⟨true,.str,1,16,a6 .str,[.val .str []],false,false,true⟩
def aEV:TI:=⟨true,(.int .u64),1,8,a6 (.int .u64),[.val (.int .u64) 0],false,false,true⟩
def aHB:TI:=⟨true,(.struct [(0,9),(1,12)]),2,24,a6 (.pair .str (.pair (.int .u64) .unit)),[.val .str [],.val (.int .u64) 0],false,false,true⟩
def aII:TI:=⟨true,(.ptr 242),1,8,a7,[.nilp],false,false,true⟩
def aIJ:TI:=⟨true,(.ptr 245),1,8,a7,[.nilp],false,false,true⟩
def aIK:TI:=⟨true,(.ptr 252),1,8,a7,[.nilp],false,false,true⟩
def aHM:TI:=⟨true,(.struct [(0,17)]),1,8,a7,[.nilp],false,false,true⟩
def aEW:TI:=⟨true,(.int .i32),1,4,a6 (.int .i32),[.val (.int .i32) 0],false,false,true⟩
def aIM:TI:=⟨true,(.slice 30),1,24,a6 (.list (.pair (.int .i64) (.pair (.int .i64) (.pair .str .unit)))),[.nils],false,false,true⟩
def aIN:TI:=⟨true,(.struct [(0,3),(1,3),(2,9)]),3,32,a6 (.pair (.int .i64) (.pair (.int .i64) (.pair .str .unit))),[.val (.int .i64) 0,.val (.int .i64) 0,.val .str []],false,false,true⟩
def aIO:TI:=⟨true,(.struct [(0,3),(1,3),(2,9)]),3,32,a6 (.pair (.int .i64) (.pair (.int .i64) (.pair .str .unit))),[.val (.int .i64) 0,.val (.int .i64) 0,.val .str []],true,false,true⟩
def aIP:TI:=⟨true,(.ptr 44),1,8,a7,[.nilp],false,false,true⟩
def aIQ:TI:=⟨true,(.struct [(0,3),(1,3),(2,3),(3,4)]),4,32,a6 (.pair (.int .i64) (.pair (.int .i64) (.pair (.int .i64) (.pair .bool .unit)))),[.val (.int .i64) 0,.val (.int .i64) 0,.val (.int .i64) 0,.val .bool false],false,false,true⟩
def aIR:TI:=⟨true,(.struct [(0,3),(1,3),(2,3),(3,4)]),4,32,a6 (.pair (.int .i64) (.pair (.int .i64) (.pair (.int .i64) (.pair .bool .unit)))),[.val (.int .i64) 0,.val (.int .i64) 0,.val (.int .i64) 0,.val .bool false],true,false,true⟩
def aIS:TI:=⟨true,(.slice 85),1,24,a6 (.list (.pair .str (.pair .bool .unit))),[.nils],false,false,true⟩
def aIT:TI:=⟨true,(.struct [(0,3),(1,37),(2,4)]),3,40,a6 (.pair (.int .i64) (.pair (.list (.pair .str (.pair .bool .unit))) (.pair .bool .unit))),[.val (.int .i64) 0,.nils,.val .bool false],false,false,true⟩
def aIU:TI:=⟨true,(.struct [(0,3),(1,37),(2,4)]),3,40,a6 (.pair (.int .i64) (.pair (.list (.pair .str (.pair .bool .unit))) (.pair .bool .unit))),[.val (.int .i64) 0,.nils,.val .bool false],false,false,false⟩
def aIV:TI:=⟨true,(.slice 34),1,24,a6 (.list (.pair (.int .i64) (.pair (.int .i64) (.pair (.int .i64) (.pair .bool .unit))))),[.nils],false,false,true⟩
def aIW:TI:=⟨true,(.slice 69),1,24,a6 (.list (.pair (.int .i64) (.pair .str (.pair (.int .i64) (.pair (.int .i64) .unit))))),[.nils],false,false,true⟩
def aIX:TI:=⟨true,(.slice 52),1,24,a6 (.list (.pair (.int .i64) (.pair (.int .i64) (.pair (.int .i64) (.pair (.int .i64) .unit))))),[.nils],false,false,true⟩
def aHV:TI:=⟨true,(.struct [(0,9),(1,40),(2,39),(5,41),(6,42)]),7,128,a6 (.pair .str (.pair (.list (.pair (.int .i64) (.pair (.int .i64) (.pair (.int .i64) (.pair .bool .unit))))) (.pair (.pair (.int .i64) (.pair (.list (.pair .str (.pair .bool .unit))) (.pair .bool .unit))) (.pair (.list (.pair (.int .i64) (.pair .str (.pair (.int .i64) (.pair (.int .i64) .unit))))) (.pair (.list (.pair (.int .i64) (.pair (.int .i64) (.pair (.int .i64) (.pair (.int .i64) .unit))))) .unit))))),[.val .str [],.nils,.val (.int .i64) 0,.nils,.val .bool false,.nils,.nils],false,false,true⟩
def aIY:TI:=⟨true,(.struct [(0,3),(1,3),(2,3),(3,3)]),4,32,a6 (.pair (.int .i64) (.pair (.int .i64) (.pair (.int .i64) (.pair (.int .i64) .unit)))),[.val (.int .i64) 0,.val (.int .i64) 0,.val (.int .i64) 0,.val (.int .i64) 0],false,false,true⟩
def aIZ:TI:=⟨true,(.struct [(0,3),(1,3),(2,3),(3,3)]),4,32,a6 (.pair (.int .i64) (.pair (.int .i64) (.pair (.int .i64) (.pair (.int .i64) .unit)))),[.val (.int .i64) 0,.val (.int .i64) 0,.val (.int .i64) 0,.val (.int .i64) 0],true,false,true⟩
def aI0:TI:=⟨true,(.ptr 79),1,8,a7,[.nilp],false,false,true⟩
def aI1:TI:=⟨true,(.slice 3),1,24,a6 (.list (.int .i64)),[.nils],false,false,true⟩
def aI2:TI:=⟨true,(.struct [(0,3),(1,9),(2,3),(3,3)]),4,40,a6 (.pair (.int .i64) (.pair .str (.pair (.int .i64) (.pair (.int .i64) .unit)))),[.val (.int .i64) 0,.val .str [],.val (.int .i64) 0,.val (.int .i64) 0],false,false,true⟩
def aI3:TI:=⟨true,(.struct [(0,3),(1,9),(2,3),(3,3)]),4,40,a6 (.pair (.int .i64) (.pair .str (.pair (.int .i64) (.pair (.int .i64) .unit)))),[.val (.int .i64) 0,.val .str [],.val (.int .i64) 0,.val (.int .i64) 0],true,false,true⟩
def aI4:TI:=⟨true,(.ptr 73),1,8,a7,[.nilp],false,false,true⟩
def aHW:TI:=⟨true,(.struct [(0,41),(1,9),(2,42),(3,3),(4,3),(5,3)]),6,88,a6 (.pair (.list (.pair (.int .i64) (.pair .str (.pair (.int .i64) (.pair (.int .i64) .unit))))) (.pair .str (.pair (.list (.pair (.int .i64) (.pair (.int .i64) (.pair (.int .i64) (.pair (.int .i64) .unit))))) (.pair (.int .i64) (.pair (.int .i64) (.pair (.int .i64) .unit)))))),[.nils,.val .str [],.nils,.val (.int .i64) 0,.val (.int .i64) 0,.val (.int .i64) 0],false,false,true⟩
def aHX:TI:=⟨true,(.struct [(0,3),(1,61)]),2,32,a6 (.pair (.int .i64) (.pair (.list (.int .i64)) .unit)),[.val (.int .i64) 0,.nils],false,false,true⟩
def aI5:TI:=⟨true,(.struct [(0,9),(1,4)]),2,24,a6 (.pair .str (.pair .bool .unit)),[.val .str [],.val .bool false],false,false,true⟩
def aI6:TI:=⟨true,(.struct [(0,9),(1,4)]),2,24,a6 (.pair .str (.pair .bool .unit)),[.val .str [],.val .bool false],true,false,true⟩
def aI8:TI:=⟨true,(.ptr 96),1,8,a7,[.nilp],false,false,true⟩
def aHY:TI:=⟨true,(.struct [(0,41),(1,3),(2,42),(3,3),(4,3)]),5,72,a6 (.pair (.list (.pair (.int .i64) (.pair .str (.pair (.int .i64) (.pair (.int .i64) .unit))))) (.pair (.int .i64) (.pair (.list (.pair (.int .i64) (.pair (.int .i64) (.pair (.int .i64) (.pair (.int .i64) .unit))))) (.pair (.int .i64) (.pair (.int .i64) .unit))))),[.nils,.val (.int .i64) 0,.nils,.val (.int .i64) 0,.val (.int .i64) 0],false,false,true⟩
def aAN:TI:=⟨true,(.struct [(0,9),(1,61),(2,4)]),3,48,a6 (.pair .str (.pair (.list (.int .i64)) (.pair .bool .unit))),[.val .str [],.nils,.val .bool false],false,false,true⟩
def aHw:TI:=⟨true,(.slice 117),1,24,a6 (.list (.pair .bool (.pair .bool (.pair .str .unit)))),[.nils],false,false,true⟩
def aHx:TI:=⟨true,(.struct [(0,4),(1,4),(2,9)]),3,24,a6 (.pair .bool (.pair .bool (.pair .str .unit))),[.val .bool false,.val .bool false,.val .str []],false,false,true⟩
def aHy:TI:=⟨true,(.struct [(0,4),(1,4),(2,9)]),3,24,a6 (.pair .bool (.pair .bool (.pair .str .unit))),[.val .bool false,.val .bool false,.val .str []],true,false,true⟩
def aHz:TI:=⟨true,(.slice 9),1,24,a6 (.list .str),[.nils],false,false,true⟩
def aHA:TI:=⟨true,(.slice 5),1,24,a6 (.list (.int .u8)),[.nils],false,false,true⟩
def aHC:TI:=⟨true,(.slice 139),1,24,a6 (.list (.pair (.int .i64) (.pair (.int .i64) (.pair (.int .i64) (.pair (.int .i64) (.pair .bool .unit)))))),[.nils],false,false,true⟩
def aHD:TI:=⟨true,(.struct [(0,3),(1,3),(2,3),(3,3),(4,4)]),5,40,a6 (.pair (.int .i64) (.pair (.int .i64) (.pair (.int .i64) (.pair (.int .i64) (.pair .bool .unit))))),[.val (.int .i64) 0,.val (.int .i64) 0,.val (.int .i64) 0,.val (.int .i64) 0,.val .bool false],false,false,true⟩
def aHE:TI:=⟨true,(.struct [(0,3),(1,3),(2,3),(3,3),(4,4)]),5,40,a6 (.pair (.int .i64) (.pair (.int .i64) (.pair (.int .i64) (.pair (.int .i64) (.pair .bool .unit))))),[.val (.int .i64) 0,.val (.int .i64) 0,.val (.int .i64) 0,.val (.int .i64) 0,.val .bool false],true,false,true⟩
def aHF:TI:=⟨true,(.ptr 146),1,8,a7,[.nilp],false,false,true⟩
def aHG:TI:=⟨true,(.struct [(0,144),(1,126)]),2,32,a7,[.nilp,.nils],false,false,true⟩
def aHH:TI:=⟨true,(.struct [(0,144),(1,126)]),2,32,a7,[.nilp,.nils],false,true,true⟩
def aHI:TI:=⟨true,(.int .u32),1,4,a6 (.int .u32),[.val (.int .u32) 0],false,false,true⟩
def aHJ:TI:=⟨true,(.slice 110),1,24,a6 (.list (.pair .str (.pair (.list (.int .i64)) (.pair .bool .unit)))),[.nils],false,false,true⟩
def aHK:TI:=⟨true,(.ptr 5),1,8,a7,[.nilp],false,false,true⟩
def aHL:TI:=⟨true,(.ptr 208),1,8,a7,[.nilp],false,false,true⟩
def aHN:TI:=⟨true,(.slice 206),1,24,a6 (.list (.pair (.int .i64) (.pair (.int .i64) .unit))),[.nils],false,false,true⟩
def aHO:TI:=⟨true,(.ptr 213),1,8,a7,[.nilp],false,false,true⟩
def aHP:TI:=⟨true,(.ptr 200),1,8,a7,[.nilp],false,false,true⟩
def aHQ:TI:=⟨true,(.struct [(0,3),(1,3)]),2,16,a6 (.pair (.int .i64) (.pair (.int .i64) .unit)),[.val (.int .i64) 0,.val (.int .i64) 0],false,false,true⟩
def aHR:TI:=⟨true,(.struct [(0,3),(1,3)]),2,16,a6 (.pair (.int .i64) (.pair (.int .i64) .unit)),[.val (.int .i64) 0,.val (.int .i64) 0],true,false,true⟩
def aAO:TI:=⟨true,(.struct [(0,180),(1,4),(2,3)]),3,40,a6 (.pair (.list (.pair (.int .i64) (.pair (.int .i64) .unit))) (.pair .bool (.pair (.int .i64) .unit))),[.nils,.val .bool false,.val (.int .i64) 0],false,false,true⟩
def aHS:TI:=⟨true,(.map 3 3),1,8,a7,[.undef],false,false,true⟩
def aAP:TI:=⟨true,(.struct [(0,9),(1,136),(2,211)]),3,48,a7,[.val .str [],.nils,.undef],false,false,true⟩
def aHT:TI:=⟨true,(.ptr 225),1,8,a7,[.nilp],false,false,true⟩
def aAQ:TI:=⟨true,(.struct [(0,136),(1,61)]),2,48,a6 (.pair (.list (.pair (.int .i64) (.pair (.int .i64) (.pair (.int .i64) (.pair (.int .i64) (.pair .bool .unit)))))) (.pair (.list (.int .i64)) .unit)),[.nils,.nils],false,false,true⟩
def aHU:TI:=⟨true,(.ptr 139),1,8,a7,[.nilp],false,false,true⟩
def aAR:TI:=⟨true,(.struct [(0,5),(1,5)]),2,2,a6 (.pair (.int .u8) (.pair (.int .u8) .unit)),[.val (.int .u8) 0,.val (.int .u8) 0],false,false,true⟩
def aAS:TI:=⟨true,(.struct [(0,17),(1,17),(2,17),(3,9)]),4,40,a7,[.nilp,.nilp,.nilp,.val .str []],false,false,true⟩
def aAT:TI:=⟨true,(.struct [(0,12),(1,12),(2,158),(3,246),(4,5),(5,5),(6,247),(7,248),(8,173),(9,249),(10,250)]),11,48,a7,[.val (.int .u64) 0,.val (.int .u64) 0,.val (.int .u32) 0,.val (.int .u8) 0,.val (.int .u8) 0,.val (.int .u8) 0,.val (.int .u8) 0,.nilfn,.nilp,.val (.int .i32) 0,.val (.int .i32) 0],false,false,true⟩
def tt:TT:=(.node 117 aHy (.node 59 jP (.node 30 aIO (.node 15 aII (.node 8 ti7 (.node 4 ti4 (.node 2 ti2 (.node 1 jP .nil .nil) (.node 3 ti2 .nil .nil)) (.node 7 ti7 (.node 5 ti5 .nil .nil) .nil)) (.node 12 aEV (.node 10 ti9 (.node 9 ti9 .nil .nil) (.node 11 ti9 .nil .nil)) (.node 14 aHB (.node 13 aHB .nil .nil) .nil))) (.node 23 jP (.node 19 aHM (.node 17 aIK (.node 16 aIJ .nil .nil) (.node 18 aHM .nil .nil)) (.node 22 jP (.node 21 aEW .nil .nil) .nil)) (.node 27 jP (.node 25 jP (.node 24 jP .nil .nil) (.node 26 aIM .nil .nil)) (.node 29 aIN (.node 28 jP .nil .nil) .nil)))) (.node 45 jP (.node 38 aIT (.node 34 aIR (.node 32 jP (.node 31 aIP .nil .nil) (.node 33 aIQ .nil .nil)) (.node 37 aIS (.node 36 jP .nil .nil) .nil)) (.node 42 aIX (.node 40 aIV (.node 39 aIU .nil .nil) (.node 41 aIW .nil .nil)) (.node 44 aHV (.node 43 aHV .nil .nil) .nil))) (.node 53 aI0 (.node 50 jP (.node 48 jP (.node 47 jP .nil .nil) (.node 49 jP .nil .nil)) (.node 52 aIZ (.node 51 aIY .nil .nil) .nil)) (.node 56 jP (.node 55 jP (.node 54 jP .nil .nil) .nil) (.node 58 jP (.node 57 jP .nil .nil) .nil))))) (.node 89 jP (.node 74 jP (.node 67 jP (.node 63 jP (.node 61 aI1 (.node 60 jP .nil .nil) (.node 62 jP .nil .nil)) (.node 65 jP (.node 64 jP .nil .nil) .nil)) (.node 71 aI4 (.node 69 aI3 (.node 68 aI2 .nil .nil) (.node 70 jP .nil .nil)) (.node 73 aHW (.node 72 aHW .nil .nil) .nil))) (.node 82 jP (.node 78 aHX (.node 76 jP (.node 75 jP .nil .nil) (.node 77 jP .nil .nil)) (.node 80 jP (.node 79 aHX .nil .nil) .nil)) (.node 85 aI6 (.node 84 aI5 (.node 83 jP .nil .nil) .nil) (.node 87 ti2 (.node 86 jP .nil .nil) .nil)))) (.node 104 jP (.node 96 aHY (.node 93 jP (.node 91 jP (.node 90 jP .nil .nil) (.node 92 jP .nil .nil)) (.node 95 aHY (.node 94 aI8 .nil .nil) .nil)) (.node 101 jP (.node 98 jP (.node 97 jP .nil .nil) (.node 100 jP .nil .nil)) (.node 103 jP (.node 102 jP .nil .nil) .nil))) (.node 111 jP (.node 108 jP (.node 106 jP (.node 105 jP .nil .nil) (.node 107 jP .nil .nil)) (.node 110 aAN (.node 109 aAN .nil .nil) .nil)) (.node 114 aHw (.node 113 jP (.node 112 jP .nil .nil) .nil) (.node 116 aHx (.node 115 jP .nil .nil) .nil)))))) (.node 180 aHN (.node 151 jP (.node 134 jP (.node 126 aHA (.node 123 aEV (.node 119 aHz (.node 118 jP .nil .nil) (.node 121 jP .nil .nil)) (.node 125 jP (.node 124 jP .nil .nil) .nil)) (.node 131 jP (.node 129 jP (.node 128 jP .nil .nil) (.node 130 jP .nil .nil)) (.node 133 jP (.node 132 jP .nil .nil) .nil))) (.node 142 jP (.node 138 aHD (.node 136 aHC (.node 135 jP .nil .nil) (.node 137 jP .nil .nil)) (.node 141 jP (.node 139 aHE .nil .nil) .nil)) (.node 145 aHG (.node 144 aHF (.node 143 jP .nil .nil) .nil) (.node 150 jP (.node 146 aHH .nil .nil) .nil)))) (.node 167 jP (.node 160 jP (.node 155 jP (.node 153 jP (.node 152 jP .nil .nil) (.node 154 aEV .nil .nil)) (.node 158 aHI (.node 156 jP .nil .nil) .nil)) (.node 164 jP (.node 162 jP (.node 161 jP .nil .nil) (.node 163 jP .nil .nil)) (.node 166 jP (.node 165 jP .nil .nil) .nil))) (.node 174 jP (.node 171 jP (.node 169 jP (.node 168 jP .nil .nil) (.node 170 aHJ .nil .nil)) (.node 173 aHK (.node 172 jP .nil .nil) .nil)) (.node 177 aHL (.node 176 jP (.node 175 jP .nil .nil) .nil) (.node 179 jP (.node 178 jP .nil .nil) .nil))))) (.node 216 jP (.node 202 jP (.node 188 jP (.node 185 jP (.node 183 jP (.node 182 jP .nil .nil) (.node 184 jP .nil .nil)) (.node 187 jP (.node 186 aHO .nil .nil) .nil)) (.node 193 jP (.node 191 jP (.node 189 jP .nil .nil) (.node 192 jP .nil .nil)) (.node 198 jP (.node 195 jP .nil .nil) .nil))) (.node 209 jP (.node 206 aHR (.node 204 aHP (.node 203 jP .nil .nil) (.node 205 aHQ .nil .nil)) (.node 208 aAO (.node 207 aAO .nil .nil) .nil)) (.node 212 aAP (.node 211 aHS (.node 210 jP .nil .nil) .nil) (.node 214 jP (.node 213 aAP .nil .nil) .nil)))) (.node 232 aAR (.node 224 aAQ (.node 221 jP (.node 219 jP (.node 217 jP .nil .nil) (.node 220 jP .nil .nil)) (.node 223 aHT (.node 222 jP .nil .nil) .nil)) (.node 228 jP (.node 226 jP (.node 225 aAQ .nil .nil) (.node 227 aHU .nil .nil)) (.node 230 jP (.node 229 jP .nil .nil) .nil))) (.node 242 aAS (.node 239 jP (.node 235 jP (.node 233 aAR .nil .nil) (.node 237 jP .nil .nil)) (.node 241 aAS (.node 240 jP .nil .nil) .nil)) (.node 250 aEW (.node 249 aEW (.node 248 jP .nil .nil) .nil) (.node 252 aAT (.node 251 aAT .nil .nil) .nil)))))))
theorem azb {P:Program} {t:TypeId} {j:TypeInfo} {k:IntKind} (h:(P.info? t).map (·.zero)=a6 (a6 (.int k 0))) (d:P.info? t=a6 j):j.zero=a6 (.int k 0):=by rw[d]at h;simpa using h
theorem tkN {P:Program} {T:TT} {t:TypeId} {i:TI} (v:(P.info? t).map (fun f=>(f.size,f.bytes,f.zero.map fun z=>(z.cells.toList.map yY,z.cells.toList.all Value.oneCell')))=a6 (i.size,i.bytes,a6 (i.zero,true)):=by kernel_rfl)
  (h2:(P.underlying t).map nz=a6 (a6 i.k):=by kernel_rfl) (g:(match i.ty with|none=>a7|some _=>i.ty)=(match i.ty with|none=>a7|some _=>oh T i.k):=by kernel_rfl) (l:(match i.ty with|none=>true|some y=>Nat.beq y.size i.size)=true:=by kernel_rfl) (m:(i.isAgg||Nat.beq i.size 1)=true:=by kernel_rfl)
  (e:(!i.eq||(!P.eqGuardType P.depth t&&(!P.stoodInHeld t&&((P.underlying t).map (fun d=>match d with|.struct fs=>fs.toList.all fun f=>f.name != "_" |_=>false)).getD false)))=true:=by kernel_rfl)
  (x:(P.underlying t).map (fun d=>match d with|.struct fs=>fs.toList.all fun f=>(P.info? f.type).isSome|_=>true)=a6 true:=by kernel_rfl) (A:Nat.beq i.zero.length i.size=true:=by kernel_rfl)
  (p:(match i.ty with|some (.int .u8)=>Nat.beq t rH|_=>true)=true:=by kernel_rfl) (q:(!i.bld||Nat.beq t Xn)=true:=by kernel_rfl)
  (u:(match i.k with|.int _=>(P.info? t).map (fun j:TypeInfo=>j.zero)|_=>a7)=(match i.k with|.int k=>a6 (a6 (Value.int k 0))|_=>a7):=by kernel_rfl):aA2 P T t i:=fun _=>by
 refine⟨v,h2, ?_,fun y B=> ?_, ?_,fun D=> ?_,x,ax A,fun I=> ?_,fun J=> ?_,fun k hk j K=> ?_⟩
 .cases hi:i.ty with
  |none=>exact .inl rfl
  |some y=>rw[hi]at g;exact .inr g
 .rw[B]at l;exact ax l
 .rw[bi]at m;exact m.imp id ax
 .rw[D]at e;simp only[au,bg,ah,bu]at e;refine⟨e.1,e.2.1, ?_⟩;have h:=e.2.2;generalize (P.underlying t).map _=o at h ⊢;cases o with
  |none=>cases h
  |some b=>exact congrArg a6 h
 .rw[I]at p;exact ax p
 .rw[J]at q;exact ax q
 .rw[hk]at u;exact azb u K
theorem tok:TOk prog tt:=TOk.of_all (by repeat' first|exact trivial|refine⟨tkN, ?_, ?_⟩)
def aDa (P:Program):Bool:=P.funcs.toList.all fun fn=>fn.body.isNone|| !(fn.name== "runtime.NumGoroutine")
theorem ati {P:Program} (h:aDa P=true):J8 P:=fun f fn c d e=>by
 have g:=List.all_eq_true.1 h fn (by have:=Array.mem_of_getElem? d;simpa using this);simpa [e] using g
theorem Qi:J8 prog:=ati (by kernel_rfl)
theorem mixed:prog.follows .mixedOrders=true:=by kernel_rfl
noncomputable def sg0 (g:FuncId):Option Sum:=cond (Nat.beq g 209) (a6 avQ) a7
theorem auB: ∀g s,sg0 g=a6 s->eX prog g s:=fun g s h=>by
 unfold sg0 at h;rw[cond_eq_ite]at h;split at h
 .rename_i d
  obtain rfl:g=209:=ax d;cases h;exact(afz func209 (by kernel_rfl) (by kernel_rfl) (by kernel_rfl) (by kernel_rfl))
 cases h
def apJ:Go.Shelf.Ren:=⟨fun|240=>151|276=>181|n=>n,fun|0=>0|4=>4|9=>9|20=>20|37=>126|70=>144|72=>146|164=>190|n=>n,fun n=>n⟩
theorem aiy:Go.Proofs.Lays.n240 prog apJ:={
 mixed:=mixed,
 f240:=(func151).trans (by kernel_rfl),
 f276:=(func181).trans (by kernel_rfl),
 t0:=underlying0,a0:=isAgg0,z0:=sizeOf0,v0:=zeroValue0,
 t4:=underlying4,a4:=isAgg4,z4:=sizeOf4,v4:=zeroValue4,
 t9:=underlying9,a9:=isAgg9,z9:=sizeOf9,v9:=zeroValue9,
 t20:=underlying20,a20:=isAgg20,z20:=sizeOf20,v20:=zeroValue20,
 t70:=underlying144,a70:=isAgg144,z70:=sizeOf144,v70:=zeroValue144,
 t72:=underlying146,a72:=isAgg146,z72:=sizeOf146,v72:=zeroValue146,
 t164:=underlying190,a164:=isAgg190,z164:=sizeOf190,v164:=zeroValue190}
theorem aFL:Go.Proofs.Builder.X72 prog apJ:={sizeBuilder:=by kernel_rfl,liesBuilder:=by kernel_rfl}
theorem Tj (g:FuncId) (h:Ls g=true):DN prog g:=by
 simp only[Ls,ah]at h;obtain rfl:g=151:=ax h.1;exact fun w b e f=>⟨xE Qi func151 (show f151.body=a6 ((f151.body).getD .skip) by kernel_rfl) _ _,fun d=>Any.Builder_copyCheck_used aiy aFL b w d,fun d=>Any.Builder_copyCheck_fresh aiy aFL b w d e f⟩
noncomputable def ap2:Env:={P:=prog,T:=tt,cl:=true,kp:=fun _ _=>a7,sg:=sg0,lp:=fun _ _=>a7,bf:=Ls}
theorem ae9: ∀E,vG prog E->afM E:=fun E h f k kH d e=>ayY h f k kH d e
theorem aiB:gm ap2:=⟨tok,mixed,Qi,auB,fun f fn c _ _=>kY (fun _=>rfl) (fun _=>rfl) c,ae9 _ fun f fn c _ _=>kY (fun _=>rfl) (fun _=>rfl) c,Tj,fun _ _ h=>by cases h⟩
abbrev zW:Ty:=(.pair .str (.pair .bool .unit))
def yD (l:List zW.den):Option (List zW.den):=cond (fG l 24) (a6 l) a7
theorem Y4 (xs:List zW.den):ni ap2 1000000 (.call 124 [.lst zW xs false]) ⟨[],[],[],0⟩ (fun v st=>jQ true [(.list zW,true)] (IR 1 v) st.hp)=(bif fG xs 24 then a6 (xs,())else a7):=by kernel_rfl
theorem Y6:ni ap2 1000000 (.call 124 [.lst zW [] true]) ⟨[],[],[],0⟩ (fun v st=>match v,st.hp with|.nils,[]=>a6 ()|_,_=>a7)=a6 ():=by kernel_rfl
def uK (l:List zW.den):Option (List zW.den×Unit):=match yD l with|some y=>a6 (y,())|none=>a7
def QI:Sum:=⟨[.list zW],[(.list zW,true)],fun x=>uK x.1⟩
theorem zM:eX prog 124 QI:=by
 have base:=E5 aiB (e:=zW) (e2:=zW) (g:=124) (f:=yD) (show 0<zW.size by decide) (show 0<zW.size by decide) (fun i y h=>by
  unfold yD at h;rw[Y4];cases hf:fG i 24 with
  |true=>rw[hf]at h;cases h;rfl
  |false=>rw[hf]at h;cases h) fun y h=>by
  have e:yD []=a6 []:=rfl;rw[e]at h;cases h;exact⟨rfl,Y6⟩
 intro w j l x y m p hd d;refine base w j l x y m p hd ?_;have d:uK x.1=a6 y:=d;unfold uK at d;cases hc:yD x.1 with
 |none=>rw[hc]at d;cases d
 |some z=>rw[hc]at d;simp only[hc];exact d
abbrev zX:Ty:=(.pair (.int .i64) (.pair (.int .i64) .unit))
def uJ (l:List zX.den):Option (List zX.den):=cond (fG l 16) (a6 l) a7
theorem Y5 (xs:List zX.den):ni ap2 1000000 (.call 229 [.lst zX xs false]) ⟨[],[],[],0⟩ (fun v st=>jQ true [(.list zX,true)] (IR 1 v) st.hp)=(bif fG xs 16 then a6 (xs,())else a7):=by kernel_rfl
theorem Y7:ni ap2 1000000 (.call 229 [.lst zX [] true]) ⟨[],[],[],0⟩ (fun v st=>match v,st.hp with|.nils,[]=>a6 ()|_,_=>a7)=a6 ():=by kernel_rfl
def qR (l:List zX.den):Option (List zX.den×Unit):=match uJ l with|some y=>a6 (y,())|none=>a7
def Ba:Sum:=⟨[.list zX],[(.list zX,true)],fun x=>qR x.1⟩
theorem zN:eX prog 229 Ba:=by
 have base:=E5 aiB (e:=zX) (e2:=zX) (g:=229) (f:=uJ) (show 0<zX.size by decide) (show 0<zX.size by decide) (fun i y h=>by
  unfold uJ at h;rw[Y5];cases hf:fG i 16 with
  |true=>rw[hf]at h;cases h;rfl
  |false=>rw[hf]at h;cases h) fun y h=>by
  have e:uJ []=a6 []:=rfl;rw[e]at h;cases h;exact⟨rfl,Y7⟩
 intro w j l x y m p hd d;refine base w j l x y m p hd ?_;have d:qR x.1=a6 y:=d;unfold qR at d;cases hc:uJ x.1 with
 |none=>rw[hc]at d;cases d
 |some z=>rw[hc]at d;simp only[hc];exact d
noncomputable def sg1 (g:FuncId):Option Sum:=cond (Nat.beq g 124) (a6 QI)<|cond (Nat.beq g 229) (a6 Ba)<|sg0 g
theorem auC: ∀g s,sg1 g=a6 s->eX prog g s:=fun g s h=>by
 unfold sg1 at h;rw[cond_eq_ite]at h;split at h
 .rename_i d
  obtain rfl:g=124:=ax d;cases h;exact zM
 rw[cond_eq_ite]at h;split at h
 .rename_i d
  obtain rfl:g=229:=ax d;cases h;exact zN
 exact auB g s h
noncomputable def aIv:Env:={P:=prog,T:=tt,cl:=true,kp:=fun _ _=>a7,sg:=sg1,lp:=fun _ _=>a7,bf:=Ls}
theorem aH3:gm aIv:=⟨tok,mixed,Qi,auC,fun f fn c _ _=>kY (fun _=>rfl) (fun _=>rfl) c,ae9 _ fun f fn c _ _=>kY (fun _=>rfl) (fun _=>rfl) c,Tj,fun _ _ h=>by cases h⟩
end
section
open Go.ChangeShapes Go.WideShapes Go.RowKit
theorem az7 {P:Program} {w:World} {H:Type} {enc:TypeId×Value->H} {base:Nat} {spare:Nat->Bool} {held:Bool} {c:Cx} {f:Ty} {x:List f.den} {t e:TypeId} {v:Value} {d:DataW H} {m:List MemPlace}
  (p:P.underlying t=some (.slice e)) (hx:VD c (.list f) x v) (h:DataW.Trod enc P w base spare held t v d m):x.length=0\/ ∃g q,d=.slice g q/\g.length=x.length:=by
 have i:=(VD.leaf rfl).1 hx;simp only[fV]at i;obtain⟨a,k,A,j,B,D,I⟩:=i;simp only[List.cons.injEq,and_true]at j;obtain⟨J,l⟩:=h;subst j;have u:(Value.slice a x.length k).cells.toList=[.slice a x.length k]:=rfl;rw[u]at l;rcases DataW.trod_slice p l with ⟨y,z⟩|⟨K,len,L,M,N,n,y,z,O,S,U,V,W,X⟩
 all_goals simp_all
end
section
open Option renaming some → a6, none → a7
open Tryz
open Go.RowKit
theorem En {E:Env} {f:FuncId} {c:Code} {k:fZ} {l i j:SP} {m p:Ex} {D:Nat} {lp:Nat->l.den->Option (i.den⊕j.den)}
  (st:{g:Type}->(l.den->Option g)->(i.den->Option g)->(j.den->Option g)->l.den->Option g)
  (hk:E.kp f (dN c)=a6 k:=by kernel_rfl) (q: ∀v,lp 0 v=a7:=by intro _;rfl) (u: ∀n v,lp (n+1) v=st (lp n) (fun e=>a6 (.inl e)) (fun r=>a6 (.inr r)) v:=by intro _ _;rfl)
  (A: ∀{R:Type} (d n:Nat) (K:Ex->St->Option R) (v:l.den),iter (a6 k) (Du E (d+D) f c) (n+1) (nV l v) K=st (fun v=>iter (a6 k) (Du E (d+D) f c) n (nV l v) K) (fun e=>K m (nV i e)) (fun r=>K p (nV j r)) v:=by intro _ d n K v;kernel_rfl)
  (h2: ∀{g B:Type} (x:l.den->Option g) (y:i.den->Option g) (z:j.den->Option g) (v:l.den) (K:g->Option B),bU (st x y z v) K=st (fun v=>bU (x v) K) (fun e=>bU (y e) K) (fun r=>bU (z r) K) v):
  eY E f c (iq k l i j m (fun v=>lp bY v) D p):=by
 refine anq hk fun R d K v o h=>⟨bY, ?_⟩;have I: ∀(n:Nat) (v:l.den),iter (a6 k) (Du E (d+D) f c) n (nV l v) K=bU (lp n v) fun o=>dX o (fun a=>K m (nV i a)) fun b=>K p (nV j b):=by
  intro n
  induction n with
  |zero=>intro v;rw[q];rfl
  |succ n J=>intro v;rw[A,u,h2,funext J];rfl
 exact(I bY v).trans (congrArg (fun o=>bU o _) h)
theorem oq {E:Env} {f:FuncId} {c:Code} {k:fZ} {l i j:SQ} {m p:Ex} {D:Nat} {lp:Nat->l.den->Option (i.den⊕j.den)}
  (st:{g:Type}->(l.den->Option g)->(i.den->Option g)->(j.den->Option g)->l.den->Option g)
  (hk:E.kp f (dN c)=a6 k:=by kernel_rfl) (q: ∀v,lp 0 v=a7:=by intro _;rfl) (u: ∀n v,lp (n+1) v=st (lp n) (fun e=>a6 (.inl e)) (fun r=>a6 (.inr r)) v:=by intro _ _;rfl)
  (A: ∀{R:Type} (d n:Nat) (K:Ex->St->Option R) (v:l.den),iter (a6 k) (Du E (d+D) f c) (n+1) (pJ l v) K=st (fun v=>iter (a6 k) (Du E (d+D) f c) n (pJ l v) K) (fun e=>K m (pJ i e)) (fun r=>K p (pJ j r)) v:=by intro _ d n K v;kernel_rfl)
  (h2: ∀{g B:Type} (x:l.den->Option g) (y:i.den->Option g) (z:j.den->Option g) (v:l.den) (K:g->Option B),bU (st x y z v) K=st (fun v=>bU (x v) K) (fun e=>bU (y e) K) (fun r=>bU (z r) K) v):
  eY E f c (gq k l i j m (fun v=>lp bY v) D p):=by
 refine ag5 hk fun R d K v o h=>⟨bY, ?_⟩;have I: ∀(n:Nat) (v:l.den),iter (a6 k) (Du E (d+D) f c) n (pJ l v) K=bU (lp n v) fun o=>dX o (fun a=>K m (pJ i a)) fun b=>K p (pJ j b):=by
  intro n
  induction n with
  |zero=>intro v;rw[q];rfl
  |succ n J=>intro v;rw[A,u,h2,funext J];rfl
 exact(I bY v).trans (congrArg (fun o=>bU o _) h)
theorem aET {E:Env} (d:gm E) {g:FuncId} {s:Sum} (e:news s.rs<=1) (h: ∀x,O0 E g s.ps s.rs x=s.f x):eX E.P g s:=
 V4 d e fun x y i=>(h x).trans i
theorem fL {E:Env} {f:FuncId} {c:Code} {L:dO} (d:E.lp f (dN c)=a6 L) (h2:eY E f c L): ∀L',E.lp f (dN c)=a6 L'->eY E f c L':=fun L' h=>by
 simp_all
theorem fC {E:Env} {f:FuncId} {c:Code} {L:dO} (d:E.lp f (800000+dN c)=a6 L) (h2:xn E f c L): ∀L',E.lp f (800000+dN c)=a6 L'->xn E f c L':=fun L' h=>by
 simp_all
theorem aC {d:Type} {p:d->Prop} {a:d} {l:List d} (h:p a/\ ∀x∈l,p x): ∀x∈a::l,p x:=List.forall_mem_cons.2 h
theorem aN {d:Type} {p:d->Prop}: ∀x∈([]:List d),p x:=fun _ h=>absurd h List.not_mem_nil
theorem aAL {E:Env} (d:gm E) {g:FuncId} {s:gu} (h: ∀x y,atY E g s.bt s.cs s.ps s.rs x y=s.f x y):dV E.P g s:=afy d fun x y _ e=>(h x y).trans e
theorem qj {P:Program} {g:FuncId} {s:gu} (h: ∀x y,s.f x y=a7):dV P g s:=fun W0 c x y z _ _ _ _ e _ d=>nomatch (show(a7:Option _)=a6 z from(h x y).symm.trans d)
theorem aD {d:Type} {p:d->Prop} {a:d} {l:List d} (h:p a) (h2: ∀x∈l,p x): ∀x∈a::l,p x:=aC ⟨h,h2⟩
theorem fM {E:Env} {f:FuncId} {c:Code} {L:dO} (h2:eY E f c L) (d:E.lp f (dN c)=a6 L:=by kernel_rfl): ∀L',E.lp f (dN c)=a6 L'->eY E f c L':=fL d h2
theorem sA {E:Env} (d:gm E) {g:FuncId} {s:Sum} (e:news s.rs<=1:=by decide) (h: ∀x,O0 E g s.ps s.rs x=s.f x:=by intro x;kernel_rfl):eX E.P g s:=aET d e h
theorem sB {E:Env} (d:gm E) {g:FuncId} {s:gu} (h: ∀x y,atY E g s.bt s.cs s.ps s.rs x y=s.f x y:=by intro x y;kernel_rfl):dV E.P g s:=aAL d h
theorem tC {E:Env} {f:FuncId} {c:Code} (l:List Code) (h: ∀d∈l,∀L,E.lp f (dN d)=a6 L->eY E f d L) (hl:kX c=l:=by kernel_rfl) (k:Z8 E f c=true:=by kernel_rfl) (e: ∀id,E.rf f id=false:=by intro _;rfl):eP E f c:=ag6 c e (by rw[hl];exact h) k
theorem eA {f:FuncId} {sg:List (FuncId×Sum)} {kp:List (Nat×fZ)} {lp:List (Nat×dO)} {sb:List (FuncId×gu)} (fn:Func) (d: ∀e∈sg,eX prog e.1 e.2) (hl:eP (kU prog tt f sg kp lp sb) f (fn.body.getD .skip):=by exact kY (fun _=>rfl) (fun _=>rfl) _) (hf:prog.funcs[f]? =a6 fn:=by kernel_rfl) (hb:fn.body=a6 (fn.body.getD .skip):=by kernel_rfl) (hx: ∀e∈sb,dV prog e.1 e.2:=by simp):gm (kU prog tt f sg kp lp sb):=aqS tok mixed Qi d hf hb hl ae9 Tj hx
theorem eB {sg:List (FuncId×Sum)} {kp:List (FuncId×Nat×fZ)} {lp:List (FuncId×Nat×dO)} {rf:List FuncId} {sb:List (FuncId×gu)} (f: ∀e∈sg,eX prog e.1 e.2) (d:List FuncId) (hl: ∀g∈d,∃fn c,prog.funcs[g]? =a6 fn/\fn.body=a6 c/\eP (iE prog tt sg kp lp rf sb) g c) (hx: ∀e∈sb,dV prog e.1 e.2:=by simp) (i:(lp.all fun e=>d.any fun g=>Nat.beq e.1 g)=true:=by kernel_rfl) (j:(rf.all fun e=>d.any fun g=>Nat.beq e g)=true:=by kernel_rfl):gm (iE prog tt sg kp lp rf sb):=amY tok mixed Qi f d i j hl ae9 Tj hx
theorem sE {g:FuncId} {s:Sum} {l:List (FuncId×Sum)} (h:eX prog g s) (h2: ∀e∈l,eX prog e.1 e.2): ∀e∈(g,s)::l,eX prog e.1 e.2:=aD (p:=fun e:FuncId×Sum=>eX prog e.1 e.2) h h2
theorem sF {g:FuncId} {s:gu} {l:List (FuncId×gu)} (h:dV prog g s) (h2: ∀e∈l,dV prog e.1 e.2): ∀e∈(g,s)::l,dV prog e.1 e.2:=aD (p:=fun e:FuncId×gu=>dV prog e.1 e.2) h h2
theorem qA {g:FuncId} {s:Sum} {sg:List (FuncId×Sum)} {sb:List (FuncId×gu)} (fn:Func) (kp:List (Nat×fZ)) (d: ∀e∈sg,eX prog e.1 e.2) (hx: ∀e∈sb,dV prog e.1 e.2:=by exact aN) (hf:prog.funcs[g]? =a6 fn:=by kernel_rfl) (hb:fn.body=a6 (fn.body.getD .skip):=by kernel_rfl) (h: ∀x,O0 (kU prog tt g sg kp [] sb) g s.ps s.rs x=s.f x:=by intro x;kernel_rfl) (i:news s.rs<=1:=by decide):eX prog g s:=aET (eA fn d (hl:=kY (fun _=>by show(bif Nat.beq g g then a7 else a7)=a7;cases Nat.beq g g<;>rfl) (fun _=>rfl) _) (hf:=hf) (hb:=hb) (hx:=hx)) i h
theorem qC {g:FuncId} {s:Sum} {sg:List (FuncId×Sum)} {sb:List (FuncId×gu)} (kp:List (FuncId×Nat×fZ)) (d: ∀e∈sg,eX prog e.1 e.2) (hx: ∀e∈sb,dV prog e.1 e.2:=by exact aN) (h: ∀x,O0 (iE prog tt sg kp [] [] sb) g s.ps s.rs x=s.f x:=by intro x;kernel_rfl) (i:news s.rs<=1:=by decide):eX prog g s:=aET (eB d [] aN hx) i h
theorem qB {g:FuncId} {s:gu} {sg:List (FuncId×Sum)} {sb:List (FuncId×gu)} (kp:List (FuncId×Nat×fZ)) (d: ∀e∈sg,eX prog e.1 e.2) (hx: ∀e∈sb,dV prog e.1 e.2:=by exact aN) (h: ∀x y,atY (iE prog tt sg kp [] [] sb) g s.bt s.cs s.ps s.rs x y=s.f x y:=by intro x y;kernel_rfl):dV prog g s:=aAL (eB d [] aN hx) h
end
section
open Option renaming some → a6, none → a7
open Tryz
open Go.RowKit
def xw (d:List qP) (e:Bool) (f g:Int):Option (taN×(Unit)):=cond (iy d (fO .i64 (bV d) 1)) (cond (qO (dM (fO .i64 (bV d) 1)) d) (a6 (((jd d (dM (fO .i64 (bV d) 1)) (g,((dU d (0,(0,())) (dM (fO .i64 (bV d) 1))).2.1,()))),(e,(f,()))),())) a7) a7
def au9:gu:=⟨208,tzC,[dL],[],fun x y=>xw x.1 x.2.1 x.2.2.1 y.1⟩
theorem Po:dV prog 195 au9:=qB [] aN
def zl (d:List qP) (e:Bool) (f:Int):Option (taN×(Unit)):=cond (iV 1 (bV d)) (cond (gy (bV d) 0 (fO .i64 (bV d) 1)) (a6 (((takeN d (dM (fO .i64 (bV d) 1))),(e,(f,()))),())) a7)<|some ((d,(e,(f,()))),())
def ava:gu:=⟨208,tzC,[],[],fun x y=>zl x.1 x.2.1 x.2.2.1⟩
theorem yR:dV prog 196 ava:=qB [] aN
def ai7 (d:List qP) (e:Bool) (f:Int):Option (taN×Fb):=cond (iy d (Eo (fO .i64 (bV d) 2) 0)) (cond (qO (dM (Eo (fO .i64 (bV d) 2) 0)) d) (a6 ((d,(e,(f,()))),((dU d (0,(0,())) (dM (Eo (fO .i64 (bV d) 2) 0))).1,()))) a7) a7
def aEA:gu:=⟨208,tzC,[],[dL],fun x y=>ai7 x.1 x.2.1 x.2.2.1⟩
theorem aov:dV prog 224 aEA:=qB [] aN
def PT (f:List qP) (g:Bool) (i j:Int):Option (taN×xy):=cond (cZ j 40) (bU (xw f g i 3) fun d=>a6 ((d.1.1,(true,(d.1.2.2.1,()))),(true,())))<|cond (cZ j 123) (bU (ai7 f g i) fun d=>cond (cZ d.2.1 5) (cond (cZ d.2.1 5) (bU (xw d.1.1 d.1.2.1 d.1.2.2.1 8) fun e=>a6 ((e.1.1,(e.1.2.1,(e.1.2.2.1,()))),(true,())))<|bU (xw d.1.1 d.1.2.1 d.1.2.2.1 7) fun e=>a6 ((e.1.1,(e.1.2.1,(e.1.2.2.1,()))),(true,())))<|cond (cZ d.2.1 8) (bU (xw d.1.1 d.1.2.1 d.1.2.2.1 8) fun e=>a6 ((e.1.1,(e.1.2.1,(e.1.2.2.1,()))),(true,())))<|bU (xw d.1.1 d.1.2.1 d.1.2.2.1 7) fun e=>a6 ((e.1.1,(e.1.2.1,(e.1.2.2.1,()))),(true,())))<|cond (cZ j 36) (bU (zl f g i) fun d=>a6 ((d.1.1,(d.1.2.1,(d.1.2.2.1,()))),(true,())))<|bU (zl f g i) fun d=>a6 ((d.1.1,(d.1.2.1,(d.1.2.2.1,()))),(false,()))
def au8:gu:=⟨208,tzC,[.int .u8],[.bool],fun x y=>PT x.1 x.2.1 x.2.2.1 y.1⟩
theorem aom:dV prog 194 au8:=qB [] aN (sF Po (sF yR (sF aov aN)))
noncomputable def ac1:Code:=(f126.body).getD .skip
noncomputable def Ac:Code:=cB (cB (cB (cB (cB (cB (cB (cA (cA (cB (ac1))))))))))
noncomputable def Ad:Code:=cB (cB (ac1))
noncomputable def Ae:Code:=cB (cA (cB (cA (cB (cB (ac1))))))
noncomputable def Af:Code:=cB (cB (cB (cA (cB (cA (cB (cB (ac1))))))))
def Ak:fZ:=⟨[0,18,900011],[],[0],[],[2],[]⟩
def Am:fZ:=⟨[0,900012],[],[2],[],[2],[]⟩
def Ap:fZ:=⟨[33,34,900020],[],[],[],[2],[]⟩
def Aq:fZ:=⟨[42,900026],[],[],[],[2],[]⟩
def ar {a b c d e g h R:Type} (f:a->b->c->d->e->g->h->R) (v:((a×b×c×Unit)×((d×e×g×h×Unit)×Unit×Unit)×Unit)):R:=f v.1.1 v.1.2.1 v.1.2.2.1 v.2.1.1.1 v.2.1.1.2.1 v.2.1.1.2.2.1 v.2.1.1.2.2.2.1
def aE {a R:Type} (f:((a×Unit)×Unit)->R):a->R:=fun a=>f ((a,()),())
def aL {a b R:Type} (f:((a×b×Unit)×Unit)->R):a->b->R:=fun a b=>f ((a,b,()),())
def aM {a b c d R:Type} (f:a->b->c->d->R) (v:((a×b×c×d×Unit)×Unit)):R:=f v.1.1 v.1.2.1 v.1.2.2.1 v.1.2.2.2.1
def aR {a b c d e g h i j k l R:Type} (f:a->b->c->d->e->g->h->i->j->k->l->R) (v:((a×b×c×d×Unit)×((e×g×h×i×j×Unit)×k×l×Unit))):R:=f v.1.1 v.1.2.1 v.1.2.2.1 v.1.2.2.2.1 v.2.1.1 v.2.1.2.1 v.2.1.2.2.1 v.2.1.2.2.2.1 v.2.1.2.2.2.2.1 v.2.2.1 v.2.2.2.1
def a8 {a b c d e g R:Type} (f:((a×Unit)×(Unit×Unit)×((b×c×d×e×Unit)×g×Unit))->R):a->b->c->d->e->g->R:=fun a b c d e g=>f ((a,()),((),()),((b,c,d,e,()),g,()))
def ba {a b c d e g R:Type} (f:a->b->c->d->e->g->R) (v:((a×Unit)×(Unit×Unit)×((b×c×d×e×Unit)×g×Unit))):R:=f v.1.1 v.2.2.1.1 v.2.2.1.2.1 v.2.2.1.2.2.1 v.2.2.1.2.2.2.1 v.2.2.2.1
def bc {a b c d e R:Type} (f:(Unit×(Unit×Unit)×((a×b×c×d×Unit)×e×Unit))->R):a->b->c->d->e->R:=fun a b c d e=>f ((),((),()),((a,b,c,d,()),e,()))
def bh {a b c d e R:Type} (f:a->b->c->d->e->R) (v:(Unit×(Unit×Unit)×((a×b×c×d×Unit)×e×Unit))):R:=f v.2.2.1.1 v.2.2.1.2.1 v.2.2.1.2.2.1 v.2.2.1.2.2.2.1 v.2.2.2.1
def bj {a b c d e g h i j k l R:Type} (f:(Unit×((a×b×Unit)×(c×d×Unit)×(e×g×Unit)×Unit×Unit)×(Unit×Unit×h×(i×j×k×l×Unit)×Unit))->R):a->b->c->d->e->g->h->i->j->k->l->R:=fun a b c d e g h i j k l=>f ((),((a,b,()),(c,d,()),(e,g,()),(),()),((),(),h,(i,j,k,l,()),()))
def bk {a b c d e g R:Type} (f:(Unit×((a×b×Unit)×(c×d×Unit)×(e×g×Unit)×Unit×Unit)×Unit)->R):a->b->c->d->e->g->R:=fun a b c d e g=>f ((),((a,b,()),(c,d,()),(e,g,()),(),()),())
def bl {a b c d e g h i j k l R:Type} (f:a->b->c->d->e->g->h->i->j->k->l->R) (v:(Unit×((a×b×Unit)×(c×d×Unit)×(e×g×Unit)×Unit×Unit)×(Unit×Unit×h×(i×j×k×l×Unit)×Unit))):R:=f v.2.1.1.1 v.2.1.1.2.1 v.2.1.2.1.1 v.2.1.2.1.2.1 v.2.1.2.2.1.1 v.2.1.2.2.1.2.1 v.2.2.2.2.1 v.2.2.2.2.2.1.1 v.2.2.2.2.2.1.2.1 v.2.2.2.2.2.1.2.2.1 v.2.2.2.2.2.1.2.2.2.1
def bm {a b c d e g h R:Type} (f:((a×Unit)×(Unit×Unit)×((b×c×d×e×g×Unit)×h×Unit))->R):a->b->c->d->e->g->h->R:=fun a b c d e g h=>f ((a,()),((),()),((b,c,d,e,g,()),h,()))
def bo {a b c d e g h R:Type} (f:a->b->c->d->e->g->h->R) (v:((a×Unit)×(Unit×Unit)×((b×c×d×e×g×Unit)×h×Unit))):R:=f v.1.1 v.2.2.1.1 v.2.2.1.2.1 v.2.2.1.2.2.1 v.2.2.1.2.2.2.1 v.2.2.1.2.2.2.2.1 v.2.2.2.1
def bp {a b c d e g h i j k l m R:Type} (f:a->b->c->d->e->g->h->i->j->k->l->m->R) (v:((a×b×c×Unit)×((d×e×g×Unit)×(h×i×Unit)×(j×k×l×m×Unit)×Unit))):R:=f v.1.1 v.1.2.1 v.1.2.2.1 v.2.1.1 v.2.1.2.1 v.2.1.2.2.1 v.2.2.1.1 v.2.2.1.2.1 v.2.2.2.1.1 v.2.2.2.1.2.1 v.2.2.2.1.2.2.1 v.2.2.2.1.2.2.2.1
def bq {a b c d e g h i j k l m n o p R:Type} (f:a->b->c->d->e->g->h->i->j->k->l->m->n->o->p->R) (v:((a×b×c×Unit)×((d×e×g×Unit)×(h×i×Unit)×(j×k×l×m×Unit)×(n×o×p×Unit)×Unit))):R:=f v.1.1 v.1.2.1 v.1.2.2.1 v.2.1.1 v.2.1.2.1 v.2.1.2.2.1 v.2.2.1.1 v.2.2.1.2.1 v.2.2.2.1.1 v.2.2.2.1.2.1 v.2.2.2.1.2.2.1 v.2.2.2.1.2.2.2.1 v.2.2.2.2.1.1 v.2.2.2.2.1.2.1 v.2.2.2.2.1.2.2.1
def br {a b c d e g R:Type} (f:(Unit×((a×Unit)×Unit×Unit×Unit)×((b×c×Unit)×d×Unit×(e×Unit)×g×Unit×Unit))->R):a->b->c->d->e->g->R:=fun a b c d e g=>f ((),((a,()),(),(),()),((b,c,()),d,(),(e,()),g,(),()))
def bs {a b c d e g h i j k l m n o p q r s t u R:Type} (f:a->b->c->d->e->g->h->i->j->k->l->m->n->o->p->q->r->s->t->u->R) (v:((a×b×c×Unit)×((d×e×g×h×Unit)×(i×Unit)×Unit×Unit×Unit)×(j×(k×l×m×n×o×Unit)×p×Unit×Unit×(q×r×Unit)×s×Unit×(t×Unit)×u×Unit×Unit))):R:=f v.1.1 v.1.2.1 v.1.2.2.1 v.2.1.1.1 v.2.1.1.2.1 v.2.1.1.2.2.1 v.2.1.1.2.2.2.1 v.2.1.2.1.1 v.2.2.1 v.2.2.2.1.1 v.2.2.2.1.2.1 v.2.2.2.1.2.2.1 v.2.2.2.1.2.2.2.1 v.2.2.2.1.2.2.2.2.1 v.2.2.2.2.1 v.2.2.2.2.2.2.2.1.1 v.2.2.2.2.2.2.2.1.2.1 v.2.2.2.2.2.2.2.2.1 v.2.2.2.2.2.2.2.2.2.2.1.1 v.2.2.2.2.2.2.2.2.2.2.2.1
def bv {a b c d e g h i j k l m n o p R:Type} (f:a->b->c->d->e->g->h->i->j->k->l->m->n->o->p->R) (v:((a×Unit)×(Unit×Unit×Unit×Unit)×((b×c×d×e×Unit)×(g×h×i×Unit)×(j×Unit)×Unit×k×(l×m×n×Unit)×Unit×(o×p×Unit)×Unit))):R:=f v.1.1 v.2.2.1.1 v.2.2.1.2.1 v.2.2.1.2.2.1 v.2.2.1.2.2.2.1 v.2.2.2.1.1 v.2.2.2.1.2.1 v.2.2.2.1.2.2.1 v.2.2.2.2.1.1 v.2.2.2.2.2.2.1 v.2.2.2.2.2.2.2.1.1 v.2.2.2.2.2.2.2.1.2.1 v.2.2.2.2.2.2.2.1.2.2.1 v.2.2.2.2.2.2.2.2.2.1.1 v.2.2.2.2.2.2.2.2.2.1.2.1
def bw {a b c d e g h i j k R:Type} (f:a->b->c->d->e->g->h->i->j->k->R) (v:((a×b×c×Unit)×(Unit×Unit)×((d×e×g×h×i×j×k×Unit)×Unit))):R:=f v.1.1 v.1.2.1 v.1.2.2.1 v.2.2.1.1 v.2.2.1.2.1 v.2.2.1.2.2.1 v.2.2.1.2.2.2.1 v.2.2.1.2.2.2.2.1 v.2.2.1.2.2.2.2.2.1 v.2.2.1.2.2.2.2.2.2.1
def co:FK:=.ptr 0 0
def cE:FK:=.fn 240 [(1000001,0),(2000003,0)]
def bL:FK:=.v dL
def cH:FK:=.ptr 1000001 0
def bE:List FK:=[co]
def bx:List (List FK):=[us [co,.u,cE,.u,.u,.u,bL,bL,.u,.u,.u,.u,.u,.u,.u,.u,.u,.u,.u,.u,.u,.u,.u,.u,.u,.u,.u,.u,.u,.u,.u,.u,.u,.u,.u,.u,.u,cE] 16,us [co,bL,cE,.u,.u,.u,.u,.u,.u,.u,.u,.u,.u,co,bL,cE] 8,[.u,cH,bL,.ptr 2000003 0,.u,.u,.u,.u,.u,.u,.u,.u,.u,.u,.u,.u,.u,.u,.u,.u,.u,.u,.u,.u,.u,.u,.u,.u,co,bL,cE,.u],bE]
def bN:FK:=.v .str
def ck:HK:=.arr 1 og
def bA:List HK:=[.box 0 73 [.v rF,bN,.slc 1,bL,bL,bL],ck]
def bB:HK:=.box 0 96 [.v rF,bL,.slc 1,bL,bL]
def eo:FK:=.ptr 2000001 0
def ez:FK:=.ptr 3000002 0
def cK:FK:=.fn 204 [(3000003,0),(3000002,0)]
def bX:FK:=.v .bool
def cX:FK:=.ptr 2000011 0
def bO:List FK:=[.u,eo,ez,.ptr 3000003 0,cK,bL,.ptr 3000006 0,.u,.u,.u,.u,.u,.u,.u,.u,.u,.u,.u,.u,.u,.u,.u,.u,.u,.u,.u,.u,.u,.u,.u,.u,.u,.u,.u,.u,.u,.u,.u,.u,.u,.u,.u,.u,.u,.u,.u,.u,.u,.u,.u,.u,.u,.u,.u,.u,.u,.u,.u,.u,.u,.u,.u,.u,.u,.u,.u,.u,.u,.u,.u,.u,.u,.u,.u,.u,.u,.u,.u,.u,.u,.u,.u,.u,.u,.u,.u,.u,.u,.u,.u,.u,.u,.u,.u,.u,.u,.u,.u,.u,.u,.u,cK,bX,bX,cX,.v J7,.yld 1700008,.u,.u,.u,.u,.u]
def eg:FK:=.fn 173 [(1000001,0)]
def bR:List (List FK):=[us [co,.u,eg,.u,.u,.u,bL,bL,.u,.u,.u,.u,.u,.u,.u,.u,.u,.u,.u,.u,.u,.u,.u,.u,.u,.u,.u,.u,.u,.u,.u,.u,.u,.u,.u,.u,.u,eg] 16,[.u,cH,.u,.u,.u,.u,.u,co,eg,.u],bE]
def ct:HK:=.box 2000011 213 [bN,.v Xf,.mpv 2000009]
def cV:HK:=.mp 2000009 .i64 .i64
def eh:HK:=.box 2000001 186 [cX]
def cR:FK:=.ptr 1000003 0
def cg:List FK:=us [.u,.u,bN,cR] 9
def cN:HK:=.arr 1500003 (.int .u8)
def cq:HK:=.box 1000003 146 [.slf 1000003,.slc 1500003]
def bS:List HK:=[ct,cV,eh,.lp 1700008 134 (cg) [8] 4 0 a7,cN,cq]
def cL:List FK:=[.yld 1700008]
def b8:List HK:=[.arr 4800009 (.int .u8),.box 3000006 139 [bL,bL,bL,bL,bX],.arr 3500003 (.int .u8),.box 3000003 126 [.nils],.box 3000002 214 cL,ct,cV,eh,.lp 1700008 134 (cg) [8] 4 0 a7,cN,cq]
def ek:FK:=.fn 47 [(2000001,0)]
def cG:FK:=.v (.list og)
def b9:List (List FK):=[us [.u,.u,ez,.u,.nils] 8,[.yld 3700007],[ek,.u,.u,ek,.u],[cG,.u,.u,cG,ek,.u],[]]
def ce:List HK:=[.arr 3500003 (.int .u8),.box 3000003 126 [.slc 3500003],.box 3000002 214 cL,ct,cV,eh,.lp 1700008 134 (cg) [8] 4 0 a7,cN,cq]
def ey:FK:=.ptr 1000004 0
def cr:FK:=.ptr 1000005 0
def cf:List FK:=us [.u,.u,.nils,cR,ey,cr] 13
def cP:HK:=.arr 1000012 (.pair .str tyK)
def ci:List HK:=[.box 1000008 139 [bL,bL,bL,bL,bX],.arr 1800005 J7,cP]
def cj:HK:=.box 1000001 94 bE
def cm:List FK:=[bL,.v (.list EU),bX]
def dy:HK:=.box 1000009 225 [.slc 1500009,.slc 1502009]
def cw:List HK:=[.arr 1502009 dL,.arr 1500009 J7,dy]
def dz:FK:=.v (.list WC)
def cx:List HK:=[.lp 1700014 132 (us [.u,.u,bN,.u,.u,cr] 15) [14] 5 0 a7,.box 2000001 180 [dz],.box 1000005 126 [.slc 1500005],.arr 1500005 (.int .u8)]
def ej:HK:=.box 2000001 42 [cG]
def cy:List HK:=[.lp 3700007 62 (us [.u,.u,ez,.u,.nils] 8) [7] 3 0 a7,.arr 3500002 dL,.box 3000002 61 [.slc 3500002],ej]
def er:FK:=.ptr 1000002 0
def cz:List FK:=[.u,.u,er,.u,.u,.u]
def cC:List HK:=[.box 0 225 [.slc 1,.slc 2],.arr 1 J7,.arr 2 dL]
def eJ:FK:=.v (.list YI)
def cD:HK:=.box 0 44 [bN,eJ,bL,.v (.list EU),bX,.v rF,cG]
def cF:HK:=.box 2000004 208 [.slc 2000002,bX,bL]
def dj:HK:=.box 1000005 39 cm
def cI:List HK:=[.box 1000011 39 cm,.box 1000007 39 [bL,.nils,bX],.box 1000006 34 [bL,bL,bL,bX],dj]
def cJ:FK:=.v (.int .u8)
def cM:List FK:=us [bN,bL,.u,.u,.u,cr,.ptr 1000006 0,.ptr 1000007 0,.u,.u,.u,.ptr 1000011 0,.u,.u,bL] 171
def cQ:HK:=.box 1000003 39 [bL,.nils,bX]
def cS:List FK:=[.u,.u,.u,.u,bL]
def cT:List (List FK):=[us [.u,.u,bN,.u,.u,cr] 15,[.yld 1700014],[]]
def cU:List HK:=[.box 1000011 39 cm,.box 1000007 39 [bL,.nils,bX],.box 1000006 34 [bL,bL,bL,bX]]
def cW:List HK:=[.lp 1700005 13 (cz) [5] 2 0 a7,ej,.box 1000002 4 [bX]]
def cY:List (List FK):=[bE]
def c6:List FK:=us [co,.u,.u,.u,.u,bL] 102
def c7:List FK:=[bN,bL,.u,.u,.u,.u,.u,.u,.u,bN,bL,.u]
def c8:List FK:=[bN,bL,.u,.u,.u,bN,bL,.u,.u,.u,.u,.u]
def c9:FK:=.slc 1800005
def eD:List FK:=[bN,.v (.list dL),bX]
def da:List HK:=[.box 1000003 110 eD,.box 1000002 110 [bN,.nils,bX]]
def db:List HK:=[bB,ck]
def dc:List HK:=[.box 1000005 85 [bN,bX]]
def de:HK:=.arr 2000002 WC
def dg:HK:=.box 1000004 139 [bL,bL,bL,bL,bX]
def dk:List HK:=[.arr 1200482 og,.box 1000024 73 [.v rF,bN,.slc 1200482,bL,bL,bL]]
def dq:FK:=.slc 1000012
def dr:List FK:=us [.u,.u,.u,.u,.u,.u,.u,bL] 25
def dt:List FK:=us [] 13
def du:List FK:=us [.u,.u,.v Xf] 119
def dv:FK:=.slc 1800004
def dx:List FK:=[.u,.u,bL]
def dE:List FK:=[bN,bL,.u,.u,.u,bN,bL,.u]
def d5:List HK:=[de,.box 0 208 [.slc 2000002,bX,bL],.arr 1 WC]
def d6:List HK:=[.box 2000003 1 [.mfn 235 [(0,0)]],cj,ck,bB]
def d8:List HK:=[.box 2000003 1 [.mfn 236 [(0,0)]],cj,ck,bB]
def d9:List HK:=[.box 2000003 1 [.mfn 237 [(0,0)]],cj,ck,bB]
def eb:List HK:=[.box 2000003 1 [.mfn 238 [(0,0)]],cj,ck,bB]
def ec:List HK:=[.box 2000003 1 [.mfn 239 [(0,0)]],cj,ck,bB]
def ef:List HK:=[.box 2000003 1 [.mfn 234 [(0,0)]],cj,ck,bB]
def ei:List FK:=[co,.u,.u,bL]
def em:FK:=.ptr 1000009 0
def en:FK:=.ptr 2000004 0
def ev:FK:=.ptr 1000008 0
def eC:List FK:=us [bN,.u,.u,.u,.u,cr,.u,.u,.u,bL,bL] 63
def eE:List FK:=us [cH] 12
def eI:List FK:=[co,.u,bL]
def eK:List HK:=[.box 0 208 [.slc 1,bX,bL],.arr 1 WC]
def Gg:SP:=⟨us [cJ,.u,.u,.u,.u,.u,.u,.u,.u,.u,.u,.u,.u,.u,.u,.u,.u,.u,bX] 29,[]⟩
def uy:SP:=⟨us [cJ] 47,[]⟩
def uz:SP:=⟨us dx 45,[]⟩
def EK {d:Type} (e f:Int->Option d) (g:Int) (i:Bool):Option d:=cond i (f 5)<|e g
def nO (d:Int) (e:Bool):Option (uy.den⊕uz.den):=EK (fun f=>a6 (.inl ((f,()),()))) (fun g=>a6 (.inr ((g,()),()))) d e
noncomputable def LX:dO:=iq Ak Gg uy uz (.exit 999999) (fun v=>nO v.1.1 v.1.2.1) 6
def Gj:SP:=⟨[.u,.u,.u,.u,.u,.u,.u,.u,.u,.u,.u,.u,.u,.u,.u,.u,.u,.u,.u,.u,.u,.u,.u,.u,.u,.u,.u,.u,.u,.u,.u,.u,.u,.u,.u,.u,.u,.u,.u,.u,.u,.u,bX,.u,.u,.u,.u,.u],[]⟩
def yc:SP:=⟨us [] 48,[]⟩
def yj:SP:=⟨us dx 45,[]⟩
def EN {d:Type} (e:Option d) (f:Int->Option d) (g:Bool):Option d:=cond g (f 4) e
def nP (d:Bool):Option (yc.den⊕yj.den):=EN (a6 (.inl ((),()))) (fun e=>a6 (.inr ((e,()),()))) d
noncomputable def L6:dO:=iq Aq Gj yc yj (.exit 999999) (fun v=>nP v.1.1) 12
def Gi:SP:=⟨us [.u,.u,.u,.u,.u,.u,.u,.u,.u,.u,.u,.u,.u,.u,.u,.u,.u,.u,.u,.u,.u,.u,.u,.u,.u,.u,.u,.u,.u,.u,.u,.u,.u,cJ,bX] 13,[]⟩
def xZ:SP:=⟨us [] 48,[]⟩
def yh:SP:=⟨us dx 45,[]⟩
def EM {l:Type} (i:Option l) (g:Int->Option l) (d:Int) (m:Bool):Option l:=cond m (g 3)<|cond (cZ d 92) (bU (nP (cZ d 92)) fun e=>dX e (fun j=>i) (fun f=>g f.1.1))<|cond (cZ d 39) (bU (nP (cZ d 39)) fun e=>dX e (fun j=>i) (fun f=>g f.1.1))<|cond (cZ d 34) (bU (nP (cZ d 34)) fun e=>dX e (fun j=>i) (fun f=>g f.1.1))<|cond (cZ d 96) (bU (nP (cZ d 96)) fun e=>dX e (fun j=>i) (fun f=>g f.1.1))<|bU (nP (cZ d 36)) fun e=>dX e (fun j=>i) (fun f=>g f.1.1)
def kZ (d:Int) (e:Bool):Option (xZ.den⊕yh.den):=EM (a6 (.inl ((),()))) (fun f=>a6 (.inr ((f,()),()))) d e
noncomputable def LZ:dO:=iq Ap Gi xZ yh (.exit 999999) (fun v=>kZ v.1.1 v.1.2.1) 18
def Gh:SP:=⟨us [cJ] 47,[]⟩
def xY:SP:=⟨[],[]⟩
def yg:SP:=⟨us dx 45,[]⟩
def EL {j:Type} (l:Option j) (e:Int->Option j) (d:Int):Option j:=cond (cZ d 124) (bU (kZ d (cZ d 124)) fun f=>dX f (fun i=>e 0) (fun g=>e g.1.1))<|cond (cZ d 38) (bU (kZ d (cZ d 38)) fun f=>dX f (fun i=>e 0) (fun g=>e g.1.1))<|cond (cZ d 59) (bU (kZ d (cZ d 59)) fun f=>dX f (fun i=>e 0) (fun g=>e g.1.1))<|cond (cZ d 60) (bU (kZ d (cZ d 60)) fun f=>dX f (fun i=>e 0) (fun g=>e g.1.1))<|cond (cZ d 62) (bU (kZ d (cZ d 62)) fun f=>dX f (fun i=>e 0) (fun g=>e g.1.1))<|cond (cZ d 40) (bU (kZ d (cZ d 40)) fun f=>dX f (fun i=>e 0) (fun g=>e g.1.1))<|bU (kZ d (cZ d 41)) fun f=>dX f (fun i=>e 0) (fun g=>e g.1.1)
def xM (d:Int):Option (xY.den⊕yg.den):=EL (a6 (.inl ((),()))) (fun e=>a6 (.inr ((e,()),()))) d
noncomputable def LY:dO:=iq Am Gh xY yg (.exit 0) (fun v=>xM v.1.1) 24
def La (d:uy.den⊕uz.den):Option Fb:=dX d (fun e=>bU (xM e.1.1) fun f=>dX f (fun j=>a7) (fun g=>a6 (g.1.1,()))) (fun i=>a6 (i.1.1,()))
def QT (d:Int):Option Fb:=cond (leI 65 d) (cond (leI d 90) (bU (nO d (leI d 90)) fun e=>La e)<|bU (nO d (cZ d 95)) fun e=>La e)<|bU (nO d (cZ d 95)) fun e=>La e
def aiO (d:Int):Option Fb:=cond (cZ d 10) (a6 (2,()))<|cond (leI 48 d) (cond (leI d 57) (a6 (6,()))<|cond (leI 97 d) (cond (leI d 122) (bU (nO d (leI d 122)) fun e=>La e)<|QT d)<|QT d)<|cond (leI 97 d) (cond (leI d 122) (bU (nO d (leI d 122)) fun e=>La e)<|QT d)<|QT d
def KZ (d:Int):Option Fb:=cond (cZ d 32) (cond (cZ d 32) (a6 (1,()))<|aiO d)<|cond (cZ d 9) (a6 (1,()))<|aiO d
def ah9:Sum:=⟨[.int .u8],Xg,fun x=>KZ x.1⟩
noncomputable def sV:Env:=kU prog tt 126 [] [(800011,Ak),(800012,Am),(800020,Ap),(800026,Aq)] [(800011,LX),(800026,L6),(800020,LZ),(800012,LY)]
theorem VM {R:Type} (d:Nat) (K:Ex->St->Option R) (e:Int) (f:Bool):
  iter (a6 Ak) (Fj (Du sV (d+6) 126 Ac)) 1 (nV Gg ((e,f,()),())) K=
   EK (fun e0=>K (.exit 999999) (nV uy ((e0,()),()))) (fun g=>K .ret (nV uz ((g,()),()))) e f:=by kernel_rfl
theorem ZK {R:Type} (d:Nat) (K:Ex->St->Option R) (e:Int) (f:Bool):
  iter (a6 Ak) (Fj (Du sV (d+6) 126 Ac)) 1 (nV Gg ((e,f,()),())) K=bU (nO e f) fun o=>dX o (fun a=>K (.exit 999999) (nV uy a)) fun b=>K .ret (nV uz b):=by
  rw[VM];simp only[nO,EK,dG,dH,bT,dw,dI]
  try simp only[dX]
theorem aad:xn sV 126 Ac LX:=KA (by kernel_rfl) fun R d K v o h=>⟨1,(ZK d K (v.1.1) (v.1.2.1)).trans (congrArg (fun o=>bU o _) h)⟩
theorem VP {R:Type} (d:Nat) (K:Ex->St->Option R) (e:Bool):
  iter (a6 Aq) (Fj (Du sV (d+12) 126 Af)) 1 (nV Gj ((e,()),())) K=
   EN (K (.exit 999999) (nV yc ((),()))) (fun f=>K .ret (nV yj ((f,()),()))) e:=by kernel_rfl
theorem ZN {R:Type} (d:Nat) (K:Ex->St->Option R) (e:Bool):
  iter (a6 Aq) (Fj (Du sV (d+12) 126 Af)) 1 (nV Gj ((e,()),())) K=bU (nP e) fun o=>dX o (fun a=>K (.exit 999999) (nV yc a)) fun b=>K .ret (nV yj b):=by
  rw[VP];simp only[nP,EN,dG,dH,bT,dw,dI]
  try simp only[dX]
theorem aag:xn sV 126 Af L6:=KA (by kernel_rfl) fun R d K v o h=>⟨1,(ZN d K (v.1.1)).trans (congrArg (fun o=>bU o _) h)⟩
theorem VO {R:Type} (d:Nat) (K:Ex->St->Option R) (e:Int) (f:Bool):
  iter (a6 Ap) (Fj (Du sV (d+18) 126 Ae)) 1 (nV Gi ((e,f,()),())) K=
   EM (K (.exit 999999) (nV xZ ((),()))) (fun g=>K .ret (nV yh ((g,()),()))) e f:=by kernel_rfl
theorem ZM {R:Type} (d:Nat) (K:Ex->St->Option R) (e:Int) (f:Bool):
  iter (a6 Ap) (Fj (Du sV (d+18) 126 Ae)) 1 (nV Gi ((e,f,()),())) K=bU (kZ e f) fun o=>dX o (fun a=>K (.exit 999999) (nV xZ a)) fun b=>K .ret (nV yh b):=by
  rw[VO];simp only[kZ,EM,dG,dH,bT,dw,dI]
  try simp only[dX]
theorem aaf:xn sV 126 Ae LZ:=KA (by kernel_rfl) fun R d K v o h=>⟨1,(ZM d K (v.1.1) (v.1.2.1)).trans (congrArg (fun o=>bU o _) h)⟩
theorem VN {R:Type} (d:Nat) (K:Ex->St->Option R) (e:Int):
  iter (a6 Am) (Fj (Du sV (d+24) 126 Ad)) 1 (nV Gh ((e,()),())) K=
   EL (K (.exit 0) (nV xY ((),()))) (fun f=>K .ret (nV yg ((f,()),()))) e:=by kernel_rfl
theorem ZL {R:Type} (d:Nat) (K:Ex->St->Option R) (e:Int):
  iter (a6 Am) (Fj (Du sV (d+24) 126 Ad)) 1 (nV Gh ((e,()),())) K=bU (xM e) fun o=>dX o (fun a=>K (.exit 0) (nV xY a)) fun b=>K .ret (nV yg b):=by
  rw[VN];simp only[xM,EL,dG,dH,bT,dw,dI]
  try simp only[dX]
theorem aae:xn sV 126 Ad LY:=KA (by kernel_rfl) fun R d K v o h=>⟨1,(ZL d K (v.1.1)).trans (congrArg (fun o=>bU o _) h)⟩
theorem aB3:kX ac1=[]:=by kernel_rfl
theorem aBk:Og sV 126 ac1=[Ac,Ad,Ae,Af]:=by kernel_rfl
theorem aCe:eP sV 126 ac1:=FV ac1 (fun x _ d=>absurd (show false=true from d) (by decide)) (by rw[aB3];exact aN) (Lt (by rw[aBk];exact(aD (fC (by kernel_rfl) (aad)) (aD (fC (by kernel_rfl) (aae)) (aD (fC (by kernel_rfl) (aaf)) (aD (fC (by kernel_rfl) (aag)) aN))))))
theorem aml:gm sV:=eA f126 aN (aCe)
theorem yQ:eX prog 126 ah9:=sA aml
def IZ (e:Int):Option xy:=bU (KZ e) fun d=>cond (cZ d.1 1) (cond (cZ d.1 1) (a6 (true,()))<|some (false,()))<|cond (cZ d.1 2) (cond (cZ d.1 2) (a6 (true,()))<|some (false,()))<|cond (cZ d.1 3) (a6 (true,()))<|some (false,())
def aEv:Sum:=⟨[.int .u8],YK,fun x=>IZ x.1⟩
theorem YB:eX prog 193 aEv:=qA f193 [] (sE yQ aN)
def zn (f:List qP) (g:Bool) (d e:Int):Option (taN×(Unit)):=cond (cZ e e) (cond (cZ d d) (cond (fG (bZ f [(e,(d,()))]) 16) (cond (cZ e e) (cond (cZ d d) (cond ((cZ e e)&&((cZ d d)&&true)) (a6 (((bZ f [(e,(d,()))]),(g,(d,()))),())) a7) a7) a7) a7) a7) a7
def aEC:gu:=⟨208,tzC,[dL],[],fun x y=>zn x.1 x.2.1 x.2.2.1 y.1⟩
theorem DD:dV prog 226 aEC:=qB [] aN
def Ua (e:List qP) (f:Bool) (g i:Int):Option (taN×xy):=cond (cZ i 92) (bU (zn e f g 13) fun d=>a6 ((d.1.1,(d.1.2.1,(d.1.2.2.1,()))),(true,())))<|cond (cZ i 36) (bU (zn e f g 12) fun d=>a6 ((d.1.1,(d.1.2.1,(d.1.2.2.1,()))),(true,())))<|cond (cZ i 96) (bU (zn e f g 6) fun d=>a6 ((d.1.1,(d.1.2.1,(d.1.2.2.1,()))),(true,())))<|some ((e,(f,(g,()))),(false,()))
def aEL:gu:=⟨208,tzC,[.int .u8],[.bool],fun x y=>Ua x.1 x.2.1 x.2.2.1 y.1⟩
theorem Pq:dV prog 252 aEL:=qB [] aN (sF DD aN)
def Ld (d:Int) (e:List qP) (f:Int):Option (taN×(Unit)):=bU (IZ d) fun g=>a6 ((e,(g.1,(f,()))),())
def XF (f:List qP) (i:Bool) (g l e:Int):Option (taN×(Unit)):=cond (cZ e 92) (bU (zn f i g 13) fun d=>a6 ((d.1.1,(d.1.2.1,(d.1.2.2.1,()))),()))<|cond (cZ e 35) (cond i (bU (zn f i g 14) fun d=>a6 ((d.1.1,(d.1.2.1,(d.1.2.2.1,()))),()))<|Ld e f g)<|cond (cZ e 40) (cond (!(cZ l 0)) (bU (zn f i g 2) fun d=>bU (IZ e) fun j=>a6 ((d.1.1,(j.1,(d.1.2.2.1,()))),()))<|Ld e f g)<|cond (cZ e 41) (cond (!(cZ l 0)) (bU (zl f i g) fun d=>a6 ((d.1.1,((!(cZ l 1)),(d.1.2.2.1,()))),()))<|some ((f,((!(cZ l 1)),(g,()))),()))<|cond (cZ e 39) (bU (zn f i g 4) fun d=>bU (IZ e) fun j=>a6 ((d.1.1,(j.1,(d.1.2.2.1,()))),()))<|cond (cZ e 34) (bU (zn f i g 5) fun d=>bU (IZ e) fun j=>a6 ((d.1.1,(j.1,(d.1.2.2.1,()))),()))<|cond (cZ e 36) (cond (cZ e 36) (bU (Ua f i g e) fun d=>bU (IZ e) fun j=>a6 ((d.1.1,(j.1,(d.1.2.2.1,()))),()))<|Ld e f g)<|cond (cZ e 96) (bU (Ua f i g e) fun d=>bU (IZ e) fun j=>a6 ((d.1.1,(j.1,(d.1.2.2.1,()))),()))<|Ld e f g
def aEB:gu:=⟨208,tzC,[dL,.int .u8],[],fun x y=>XF x.1 x.2.1 x.2.2.1 y.1 y.2.1⟩
theorem aow:dV prog 225 aEB:=qB [] (sE YB aN) (sF yR (sF DD (sF Pq aN)))
def ai8 (g:List qP) (i:Bool) (j l f:Int):Option (taN×(Unit)):=bU (Ua g i j f) fun d=>cond d.2.1 (a6 ((d.1.1,(d.1.2.1,(d.1.2.2.1,()))),()))<|cond (cZ f 40) (bU (zn d.1.1 d.1.2.1 d.1.2.2.1 10) fun e=>a6 ((e.1.1,(e.1.2.1,(e.1.2.2.1,()))),()))<|cond (cZ f 41) (cond (cZ l 10) (bU (zl d.1.1 d.1.2.1 d.1.2.2.1) fun e=>a6 ((e.1.1,(e.1.2.1,(e.1.2.2.1,()))),()))<|cond (cZ f 41) (bU (xw d.1.1 d.1.2.1 d.1.2.2.1 11) fun e=>a6 ((e.1.1,(e.1.2.1,(e.1.2.2.1,()))),()))<|some ((d.1.1,(d.1.2.1,(d.1.2.2.1,()))),()))<|cond (cZ f 41) (bU (xw d.1.1 d.1.2.1 d.1.2.2.1 11) fun e=>a6 ((e.1.1,(e.1.2.1,(e.1.2.2.1,()))),()))<|some ((d.1.1,(d.1.2.1,(d.1.2.2.1,()))),())
def aED:gu:=⟨208,tzC,[dL,.int .u8],[],fun x y=>ai8 x.1 x.2.1 x.2.2.1 y.1 y.2.1⟩
theorem aox:dV prog 227 aED:=qB [] aN (sF Po (sF yR (sF DD (sF Pq aN))))
def Zu (f g:Int) (d:(taN×xy)):Option (taN×(Unit)):=cond (cZ f 39) (cond (cZ g 7) (bU (zn d.1.1 d.1.2.1 d.1.2.2.1 4) fun e=>a6 ((e.1.1,(e.1.2.1,(e.1.2.2.1,()))),()))<|some ((d.1.1,(d.1.2.1,(d.1.2.2.1,()))),()))<|some ((d.1.1,(d.1.2.1,(d.1.2.2.1,()))),())
def Zv (f:Int) (d:(taN×xy)) (g:Int):Option (taN×(Unit)):=cond (cZ f 34) (bU (zn d.1.1 d.1.2.1 d.1.2.2.1 5) fun e=>a6 ((e.1.1,(e.1.2.1,(e.1.2.2.1,()))),()))<|cond (cZ f 125) (cond (!(cZ g 5)) (bU (zl d.1.1 d.1.2.1 d.1.2.2.1) fun e=>a6 ((e.1.1,(e.1.2.1,(e.1.2.2.1,()))),()))<|Zu f g d)<|Zu f g d
def ai9 (i:List qP) (j:Bool) (l f e:Int):Option (taN×(Unit)):=bU (Ua i j l e) fun d=>cond d.2.1 (a6 ((d.1.1,(d.1.2.1,(d.1.2.2.1,()))),()))<|cond (cZ e 34) (cond (cZ f 5) (bU (zl d.1.1 d.1.2.1 d.1.2.2.1) fun g=>a6 ((g.1.1,(g.1.2.1,(g.1.2.2.1,()))),()))<|Zv e d f)<|Zv e d f
def aEE:gu:=⟨208,tzC,[dL,.int .u8],[],fun x y=>ai9 x.1 x.2.1 x.2.2.1 y.1 y.2.1⟩
theorem aoy:dV prog 228 aEE:=qB [] aN (sF yR (sF DD (sF Pq aN)))
def D9 (i:Int) (e:List qP) (f:Bool) (g j:Int):Option (taN×(Unit)):=cond (cZ i 13) (bU (zl e f g) fun d=>cond d.1.2.1 (a6 ((d.1.1,((cZ j 10),(d.1.2.2.1,()))),()))<|some ((d.1.1,(false,(d.1.2.2.1,()))),()))<|cond (cZ i 4) (cond (cZ j 39) (bU (zl e f g) fun d=>a6 ((d.1.1,(d.1.2.1,(d.1.2.2.1,()))),()))<|some ((e,(f,(g,()))),()))<|cond (cZ i 14) (cond (cZ j 10) (bU (zl e f g) fun d=>a6 ((d.1.1,(true,(d.1.2.2.1,()))),()))<|some ((e,(f,(g,()))),()))<|cond (cZ i 6) (cond (cZ j 96) (bU (zl e f g) fun d=>a6 ((d.1.1,(d.1.2.1,(d.1.2.2.1,()))),()))<|cond (cZ j 92) (bU (zn e f g 13) fun d=>a6 ((d.1.1,(d.1.2.1,(d.1.2.2.1,()))),()))<|some ((e,(f,(g,()))),()))<|cond (cZ i 9) (cond (cZ i 9) (bU (ai8 e f g i j) fun d=>a6 ((d.1.1,(d.1.2.1,(d.1.2.2.1,()))),()))<|bU (ai9 e f g i j) fun d=>a6 ((d.1.1,(d.1.2.1,(d.1.2.2.1,()))),()))<|cond (cZ i 10) (bU (ai8 e f g i j) fun d=>a6 ((d.1.1,(d.1.2.1,(d.1.2.2.1,()))),()))<|bU (ai9 e f g i j) fun d=>a6 ((d.1.1,(d.1.2.1,(d.1.2.2.1,()))),())
def PU (f:List qP) (g:Bool) (i d j:Int):Option (taN×(Unit)):=cond (cZ d 0) (cond (cZ d 0) (bU (XF f g i d j) fun e=>a6 ((e.1.1,(e.1.2.1,(e.1.2.2.1,()))),()))<|D9 d f g i j)<|cond (cZ d 1) (cond (cZ d 1) (bU (XF f g i d j) fun e=>a6 ((e.1.1,(e.1.2.1,(e.1.2.2.1,()))),()))<|D9 d f g i j)<|cond (cZ d 2) (bU (XF f g i d j) fun e=>a6 ((e.1.1,(e.1.2.1,(e.1.2.2.1,()))),()))<|D9 d f g i j
def avb:gu:=⟨208,tzC,[dL,.int .u8],[],fun x y=>PU x.1 x.2.1 x.2.2.1 y.1 y.2.1⟩
theorem aon:dV prog 197 avb:=qB [] aN (sF yR (sF aow (sF DD (sF aox (sF aoy aN)))))
noncomputable def aA7:Code:=(f162.body).getD .skip
noncomputable def Y1:Code:=cA (cA (cA (cB (cB (cA (aA7))))))
def agS:fZ:=⟨[0,1,100002],[],[0],[],[],[]⟩
def Ed:fZ:=⟨[0,1],[],[],[],[],[]⟩
def aay:SQ:=⟨us [co,cJ] 63,cY,d5⟩
def aa1:SQ:=⟨us bE 64,cY,d5⟩
def abz:SQ:=⟨us [] 65,cY,[]⟩
def aci {l:Type} (p:Int->(List qP)->Bool->Int->(List qP)->Option l) (m:(List qP)->Bool->Int->(List qP)->Option l) (q:Option l) (f:Int) (e:List qP) (i:Bool) (j:Int) (g:List qP):Option l:=cond (iy e (fO .i64 (bV e) 1)) (cond (qO (dM (fO .i64 (bV e) 1)) e) (cond (cZ (dU e (0,(0,())) (dM (fO .i64 (bV e) 1))).1 12) (bU (PT e i j f) fun d=>cond d.2.1 (m d.1.1 d.1.2.1 d.1.2.2.1 g)<|p f d.1.1 d.1.2.1 d.1.2.2.1 g)<|cond (cZ (dU e (0,(0,())) (dM (fO .i64 (bV e) 1))).1 3) (cond (cZ f 40) (bU (xw e i j 9) fun d=>m d.1.1 false d.1.2.2.1 g)<|bU (xw e i j 1) fun d=>p f d.1.1 d.1.2.1 d.1.2.2.1 g)<|cond (cZ (dU e (0,(0,())) (dM (fO .i64 (bV e) 1))).1 11) (cond (cZ f 41) (bU (zl e i j) fun d=>m d.1.1 d.1.2.1 d.1.2.2.1 g)<|bU (xw e i j 9) fun d=>p f d.1.1 d.1.2.1 d.1.2.2.1 g)<|bU (PU e i j (dU e (0,(0,())) (dM (fO .i64 (bV e) 1))).1 f) fun d=>m d.1.1 d.1.2.1 d.1.2.2.1 g) a7) a7
def ZY:Nat->Int->(List qP)->Bool->Int->(List qP)->Option (aa1.den⊕abz.den)
 |0,_,_,_,_,_=>a7
 |n+1,d,e,f,g,i=>aci (ZY n) (fun j l m p=>a6 (.inl ((),((),()),(j,(l,m,()),p,())))) (a6 (.inr ((),((),()),()))) d e f g i
def axW (n:Nat) (v:aay.den):=ZY n v.1.1 v.2.2.1 v.2.2.2.1.1 v.2.2.2.1.2.1 v.2.2.2.2.1
noncomputable def ZZ:dO:=gq agS aay aa1 abz (.exit 0) (axW bY) 6
def MB:SQ:=⟨us [co,cJ] 63,cY,eK⟩
def OI:SQ:=⟨us bE 64,cY,eK⟩
def OO:SQ:=⟨us [] 65,cY,[]⟩
def Dx {j:Type} (m:Int->Bool->Int->(List qP)->Option j) (l:Bool->Int->(List qP)->Option j) (p:Option j) (f:Int) (g:Bool) (i:Int) (e:List qP):Option j:=cond (iy e (fO .i64 (bV e) 1)) (cond (qO (dM (fO .i64 (bV e) 1)) e) (cond (cZ (dU e (0,(0,())) (dM (fO .i64 (bV e) 1))).1 12) (bU (PT e g i f) fun d=>cond d.2.1 (l d.1.2.1 d.1.2.2.1 d.1.1)<|m f d.1.2.1 d.1.2.2.1 d.1.1)<|cond (cZ (dU e (0,(0,())) (dM (fO .i64 (bV e) 1))).1 3) (cond (cZ f 40) (bU (xw e g i 9) fun d=>l false d.1.2.2.1 d.1.1)<|bU (xw e g i 1) fun d=>m f d.1.2.1 d.1.2.2.1 d.1.1)<|cond (cZ (dU e (0,(0,())) (dM (fO .i64 (bV e) 1))).1 11) (cond (cZ f 41) (bU (zl e g i) fun d=>l d.1.2.1 d.1.2.2.1 d.1.1)<|bU (xw e g i 9) fun d=>m f d.1.2.1 d.1.2.2.1 d.1.1)<|bU (PU e g i (dU e (0,(0,())) (dM (fO .i64 (bV e) 1))).1 f) fun d=>l d.1.2.1 d.1.2.2.1 d.1.1) a7) a7
def yH:Nat->Int->Bool->Int->(List qP)->Option (OI.den⊕OO.den)
 |0,_,_,_,_=>a7
 |n+1,d,e,f,g=>Dx (yH n) (fun i j l=>a6 (.inl ((),((),()),((i,j,()),l,())))) (a6 (.inr ((),((),()),()))) d e f g
def anv (n:Nat) (v:MB.den):=yH n v.1.1 v.2.2.1.1 v.2.2.1.2.1 v.2.2.2.1
noncomputable def Ox:dO:=gq agS MB OI OO (.exit 0) (anv bY) 12
def XD (e:List qP) (i:Bool) (j g:Int):Option (taN×(Unit)):=cond (cZ (bV e) 0) (bU (ZY bY g [(0,(0,()))] true 0 e) fun f=>dX f (fun d=>a6 ((d.2.2.1,(d.2.2.2.1.1,((dJ .i64 d.2.2.2.1.2.1 1),()))),())) (fun l=>a7))<|bU (yH bY g i j e) fun f=>dX f (fun d=>a6 ((d.2.2.2.1,(d.2.2.1.1,((dJ .i64 d.2.2.1.2.1 1),()))),())) (fun l=>a7)
def acE:gu:=⟨208,tzC,[.int .u8],[],fun x y=>XD x.1 x.2.1 x.2.2.1 y.1⟩
noncomputable def TD:Env:=iE prog tt [] [(162,2,agS),(162,600001,Ed)] [(162,2,nD ZZ Ox)] [] [(194,au8),(195,au9),(196,ava),(197,avb)]
def alc {d:Type} (a:aay.den->Option d) (b:aa1.den->Option d) (c:abz.den->Option d) (v:aay.den):Option d:=aci (fun e f g i j=>a ((e,()),((),()),(f,(g,i,()),j,()))) (fun l m p q=>b ((),((),()),(l,(m,p,()),q,()))) (c ((),((),()),())) v.1.1 v.2.2.1 v.2.2.2.1.1 v.2.2.2.1.2.1 v.2.2.2.2.1
theorem ayv:eY TD 162 Y1 ZZ:=oq (alc) (h2:=by intros;simp only[alc,aci,dG,dH,bT,dw,dI])
def Yi {d:Type} (a:MB.den->Option d) (b:OI.den->Option d) (c:OO.den->Option d) (v:MB.den):Option d:=Dx (fun e f g i=>a ((e,()),((),()),((f,g,()),i,()))) (fun j l m=>b ((),((),()),((j,l,()),m,()))) (c ((),((),()),())) v.1.1 v.2.2.1.1 v.2.2.1.2.1 v.2.2.2.1
theorem anE:eY TD 162 Y1 Ox:=oq (Yi) (h2:=by intros;simp only[Yi,Dx,dG,dH,bT,dw,dI])
theorem aCp:eP TD 162 aA7:=tC [Y1] (aD (fun L h=>by rw[show(TD).lp 162 (dN Y1)=a6 (nD ZZ Ox) by kernel_rfl]at h;cases h;exact uU ayv anE) aN)
theorem amA:gm TD:=eB aN [162] (aD ⟨f162,aA7,by kernel_rfl,by kernel_rfl,aCp⟩ aN) (hx:=(aD aom (aD Po (aD yR (aD aon aN)))))
theorem Pm:dV prog 162 acE:=sB amA
def XI (d:Int):Option Fb:=cond (cZ d 3) (a6 (1,()))<|cond (cZ d 11) (a6 (9,()))<|some (d,())
def avm:Sum:=⟨[dL],Xg,fun x=>XI x.1⟩
theorem aoD:eX prog 253 avm:=qA f253 [] aN
noncomputable def awr:Code:=(f230.body).getD .skip
noncomputable def apy:Code:=cA (cA (cB (cA (cB (awr)))))
noncomputable def apz:Code:=cA (cA (cB (cB (cB (awr)))))
def ar2:fZ:=⟨[0,1,2,6,100002],[],[0,1],[],[],[]⟩
def ar4:fZ:=⟨[0,77,78,79,100009],[],[],[],[],[]⟩
def aaG:SQ:=⟨us [co,dz,bL,.u,.u,.u,bL] 141,cY,cC⟩
def aa9:SQ:=⟨us [co,dz] 146,cY,cC⟩
def abI:SQ:=⟨us [] 148,cY,[]⟩
def kG (d:lq) (e:Int):=dU d 0 (dM (fO .i64 e 1))
def yM (d:List jT) (e:lq) (f g:Int):=jd d (dM (kG e f)) ((dU d (0,(0,(0,(0,(false,()))))) (dM (kG e f))).1,((dU d (0,(0,(0,(0,(false,()))))) (dM (kG e f))).2.1,((dJ .i64 g 1),((dU d (0,(0,(0,(0,(false,()))))) (dM (kG e f))).2.2.2.1,((dU d (0,(0,(0,(0,(false,()))))) (dM (kG e f))).2.2.2.2.1,())))))
def yN (f:List jT) (d:lq) (e g:Int):=dU (yM f d e g) (0,(0,(0,(0,(false,()))))) (dM (kG d e))
def Iz {i:Type} (f:List jT) (e:lq) (d g:Int) (j:(List qP)->Int->Int->(List jT)->lq->Option i) (l:List qP):Option i:=cond (iy f (kG e d)) (cond (qO (dM (kG e d)) f) (cond (iy (yM f e d g) (kG e d)) (cond (qO (dM (kG e d)) (yM f e d g)) (cond (gy (bV e) 0 (fO .i64 d 1)) (j l g (fO .i64 d 1) (jd (yM f e d g) (dM (kG e d)) ((yN f e d g).1,((yN f e d g).2.1,((yN f e d g).2.2.1,((yN f e d g).2.2.2.1,(false,())))))) (takeN e (dM (fO .i64 d 1)))) a7) a7) a7) a7) a7
def RU {i:Type} (j:(List qP)->Int->Int->(List jT)->lq->Option i) (l:(List qP)->(List jT)->lq->Option i) (p:Option i) (f:List qP) (m d:Int) (g:List jT) (e:lq):Option i:=cond (iV 0 d) (cond (iy e (fO .i64 d 1)) (cond (qO (dM (fO .i64 d 1)) e) (cond (leI d (bV f)) (cond (iy f (fO .i64 d 1)) (cond (iy g (kG e d)) (cond (qO (dM (kG e d)) g) (cond (cZ (gW f (0,(0,())) (fO .i64 d 1)).2.1 (dU g (0,(0,(0,(0,(false,()))))) (dM (kG e d))).2.1) (l f g e)<|Iz g e d m j f) a7) a7) a7)<|Iz g e d m j f) a7) a7)<|l f g e
def LQ:Nat->(List qP)->Int->Int->(List jT)->lq->Option (aa9.den⊕abI.den)
 |0,_,_,_,_,_=>a7
 |n+1,d,e,f,g,i=>RU (LQ n) (fun j l m=>a6 (.inl ((j,()),((),()),((),l,m,())))) (a6 (.inr ((),((),()),()))) d e f g i
def ax4 (n:Nat) (v:aaG.den):=LQ n v.1.1 v.1.2.1 v.1.2.2.1 v.2.2.2.1 v.2.2.2.2.1
noncomputable def aj3:dO:=gq ar2 aaG aa9 abI (.exit 0) (ax4 bY) 6
def aaH:SQ:=⟨us [co,.u,.u,.u,.u,.u,.u,.u,.u,.u,.u,.u,.u,.u,.u,.u,.u,.u,.u,.u,.u,.u,.u,.u,.u,.u,.u,.u,.u,.u,.u,.u,.u,.u,.u,.u,.u,.u,.u,.u,.u,.u,.u,.u,.u,.u,.u,.u,.u,.u,.u,.u,.u,.u,.u,.u,.u,.u,.u,.u,.u,.u,.u,.u,.u,.u,.u,.u,.u,.u,.u,.u,.u,.u,.u,.u,.u,dz,bL,bL] 68,cY,cC⟩
def aba:SQ:=⟨us [] 148,cY,cC⟩
def abJ:SQ:=⟨us [] 148,cY,[]⟩
def mG (d:List jT) (e:lq) (f:Int):=dU d (0,(0,(0,(0,(false,()))))) (dM (dU e 0 (dM f)))
def oL (d:List qP) (e:Int):=cZ (gW d (0,(0,())) e).2.1 (gW d (0,(0,())) e).2.1
def oM (d:List qP) (e:Int):=cZ (gW d (0,(0,())) e).1 (gW d (0,(0,())) e).1
def EP {j:Type} (m:(List qP)->Int->Int->(List jT)->lq->Option j) (p:(List jT)->lq->Option j) (q:Option j) (g:List qP) (l d:Int) (f:List jT) (e:lq):Option j:=cond (iV d l) (cond (iy g d) (cond (iV d (bV e)) (cond (iy e d) (cond (qO (dM d) e) (bU (XI (gW g (0,(0,())) d).1) fun i=>cond (iy f (dU e 0 (dM d))) (cond (qO (dM (dU e 0 (dM d))) f) (cond (iy (jd f (dM (dU e 0 (dM d))) (i.1,((mG f e d).2.1,((mG f e d).2.2.1,((mG f e d).2.2.2.1,((mG f e d).2.2.2.2.1,())))))) (dU e 0 (dM d))) (cond ((eqN (dM (dU e 0 (dM d))) (dM (dU e 0 (dM d))))&&true) (m g l (dJ .i64 d 1) (jd f (dM (dU e 0 (dM d))) (i.1,((mG f e d).2.1,((mG f e d).2.2.1,((mG f e d).2.2.2.1,((mG f e d).2.2.2.2.1,())))))) e) a7) a7) a7) a7) a7) a7)<|cond (iV 0 d) (cond (iy e (fO .i64 d 1)) (cond (qO (dM (fO .i64 d 1)) e) (cond (fG (bZ e [(bV f)]) 8) (cond (cZ (bV f) (bV f)) (bU (XI (gW g (0,(0,())) d).1) fun i=>cond (oM g d) (cond (oL g d) (cond (cZ (dU e 0 (dM (fO .i64 d 1))) (dU e 0 (dM (fO .i64 d 1)))) (cond (((oM g d)&&true)&&((cZ i.1 i.1)&&true)) (cond (fG (bZ f [(i.1,((gW g (0,(0,())) d).2.1,(0,((dU e 0 (dM (fO .i64 d 1))),(true,())))))]) 40) (cond (oM g d) (cond (oL g d) (cond (cZ (dU e 0 (dM (fO .i64 d 1))) (dU e 0 (dM (fO .i64 d 1)))) (cond ((cZ i.1 i.1)&&((oL g d)&&((cZ 0 0)&&((cZ (dU e 0 (dM (fO .i64 d 1))) (dU e 0 (dM (fO .i64 d 1))))&&((kV true true)&&true))))) (m g l (dJ .i64 d 1) (bZ f [(i.1,((gW g (0,(0,())) d).2.1,(0,((dU e 0 (dM (fO .i64 d 1))),(true,())))))]) (bZ e [(bV f)])) a7) a7) a7) a7) a7) a7) a7) a7) a7) a7) a7) a7) a7)<|cond (fG (bZ e [(bV f)]) 8) (cond (cZ (bV f) (bV f)) (bU (XI (gW g (0,(0,())) d).1) fun i=>cond (oM g d) (cond (oL g d) (cond (cZ (-1) (-1)) (cond (((oM g d)&&true)&&((cZ i.1 i.1)&&true)) (cond (fG (bZ f [(i.1,((gW g (0,(0,())) d).2.1,(0,((-1),(true,())))))]) 40) (cond (oM g d) (cond (oL g d) (cond (cZ (-1) (-1)) (cond ((cZ i.1 i.1)&&((oL g d)&&((cZ 0 0)&&((cZ (-1) (-1))&&((kV true true)&&true))))) (m g l (dJ .i64 d 1) (bZ f [(i.1,((gW g (0,(0,())) d).2.1,(0,((-1),(true,())))))]) (bZ e [(bV f)])) a7) a7) a7) a7) a7) a7) a7) a7) a7) a7) a7) a7)<|p f e
def vK:Nat->(List qP)->Int->Int->(List jT)->lq->Option (aba.den⊕abJ.den)
 |0,_,_,_,_,_=>a7
 |n+1,d,e,f,g,i=>EP (vK n) (fun j l=>a6 (.inl ((),((),()),((),j,l,())))) (a6 (.inr ((),((),()),()))) d e f g i
def ax5 (n:Nat) (v:aaH.den):=vK n v.1.1 v.1.2.1 v.1.2.2.1 v.2.2.2.1 v.2.2.2.2.1
noncomputable def aj6:dO:=gq ar4 aaH aba abJ (.exit 2) (ax5 bY) 12
def adJ (i:List jT) (f:lq) (d:List qP) (j:Int):Option (((List jT)×lq×Unit)×(Unit)):=cond (gy (bV d) 1 (bV d)) (bU (LQ bY (sub d 1 (bV d)) j (bV f) i f) fun l=>dX l (fun e=>bU (vK bY e.1.1 (bV e.1.1) 0 e.2.2.2.1 e.2.2.2.2.1) fun m=>dX m (fun g=>a6 ((g.2.2.2.1,(g.2.2.2.2.1,())),())) (fun p=>a7)) (fun q=>a7)) a7
def avh:gu:=⟨225,[(.list J7,true),(.list dL,true)],[.list WC,dL],[],fun x y=>adJ x.1 x.2.1 y.1 y.2.1⟩
noncomputable def Zh:Env:=iE prog tt [(253,avm)] [(230,2,ar2),(230,9,ar4)] [(230,2,aj3),(230,9,aj6)] []
def alk {d:Type} (a:aaG.den->Option d) (b:aa9.den->Option d) (c:abI.den->Option d) (v:aaG.den):Option d:=RU (fun e f g i j=>a ((e,f,g,()),((),()),((),i,j,()))) (fun l m p=>b ((l,()),((),()),((),m,p,()))) (c ((),((),()),())) v.1.1 v.1.2.1 v.1.2.2.1 v.2.2.2.1 v.2.2.2.2.1
theorem ayD:eY Zh 230 apy aj3:=oq (alk) (h2:=by intros;simp only[alk,RU,dG,dH,bT,dw,dI,kG,yM,yN,Iz])
def alm {d:Type} (a:aaH.den->Option d) (b:aba.den->Option d) (c:abJ.den->Option d) (v:aaH.den):Option d:=EP (fun e f g i j=>a ((e,f,g,()),((),()),((),i,j,()))) (fun l m=>b ((),((),()),((),l,m,()))) (c ((),((),()),())) v.1.1 v.1.2.1 v.1.2.2.1 v.2.2.2.1 v.2.2.2.2.1
theorem ayE:eY Zh 230 apz aj6:=oq (alm) (h2:=by intros;simp only[alm,EP,dG,dH,bT,dw,dI,mG,oL,oM])
theorem aCx:eP Zh 230 awr:=tC [apy,apz] (aD (fM (ayD)) (aD (fM (ayE)) aN))
theorem amN:gm Zh:=eB (aD aoD aN) [230] (aD ⟨f230,awr,by kernel_rfl,by kernel_rfl,aCx⟩ aN)
theorem aoz:dV prog 230 avh:=sB amN
def adG (d:Int):Option xy:=bU (KZ d) fun e=>a6 ((cZ e.1 6),())
def aic:Sum:=⟨[.int .u8],YK,fun x=>adG x.1⟩
theorem YA:eX prog 183 aic:=qA f183 [] (sE yQ aN)
noncomputable def SC:Code:=(f182.body).getD .skip
noncomputable def S9:Code:=cA (cA (cA (cB (cB (cB (cA (cB (SC))))))))
def zx:fZ:=⟨[0,1,2,7,262000004],[],[7],[],[6],[]⟩
def P6:fZ:=⟨[0,1,2,7],[],[],[],[],[]⟩
def EC:SQ:=⟨us [bN,bL,.fn 183 [],.u,.u,.u,.u,bL] 25,[dE,[]],[]⟩
def Gp:SQ:=⟨dr,[dE,[]],[]⟩
def Gw:SQ:=⟨us [] 33,[dE,[]],[]⟩
def AZ {e:Type} (q:dC->Int->Int->dC->Int->dC->Int->Option e) (p:Int->dC->Int->dC->Int->Option e) (v:dC->Int->dC->Int->Option e) (f:dC) (g d:Int) (i:dC) (j:Int) (l:dC) (m:Int):Option e:=cond (iV (dJ .i64 g d) (bV f)) (cond (iy f (dJ .i64 g d)) (bU (adG (dm f (dJ .i64 g d))) fun u=>cond (!u.1) (p d i j l m)<|q f g (dJ .i64 d 1) i j l m) a7)<|p d i j l m
def tN:Nat->dC->Int->Int->dC->Int->dC->Int->Option (Gp.den⊕Gw.den)
 |0,_,_,_,_,_,_,_=>a7
 |n+1,d,e,f,g,i,j,l=>AZ (tN n) (fun m p q u v=>a6 (.inl ((m,()),((p,q,u,v,()),(),()),()))) (fun x y z A=>a6 (.inr ((),((x,y,z,A,()),(),()),()))) d e f g i j l
def aep (n:Nat) (v:EC.den):=ar (tN n) v
noncomputable def Qe:dO:=gq zx EC Gp Gw (.exit 0) (aep bY) 6
def FM (e:dC) (d:Int):Option Fb:=cond (iV d 0) (a6 (0,()))<|cond (leI (bV e) d) (a6 (0,()))<|bU (tN bY e d 0 e d e d) fun f=>dX f (fun g=>a6 (g.1.1,())) (fun i=>a7)
def aEj:Sum:=⟨[.str,dL],Xg,fun x=>FM x.1 x.2.1⟩
noncomputable def agh:Env:=iE prog tt [(183,aic)] [(182,4,zx),(153,600001,Ed),(182,600006,P6)] [(182,4,Qe)] []
def Qz {d:Type} (a:EC.den->Option d) (b:Gp.den->Option d) (c:Gw.den->Option d) (v:EC.den):Option d:=ar (AZ (fun e f g i j l m=>a ((e,f,g,()),((i,j,l,m,()),(),()),())) (fun p q u x y=>b ((p,()),((q,u,x,y,()),(),()),())) (fun z A B D=>c ((),((z,A,B,D,()),(),()),()))) v
theorem aeM:eY agh 182 S9 Qe:=oq (Qz) (h2:=by intros;simp only[Qz,ar,AZ,dG,dH,bT,dw,dI])
theorem ag2:eP agh 182 SC:=tC [S9] (aD (fM (aeM)) aN)
theorem amz:gm agh:=eB (aD YA aN) [182] (aD ⟨f182,SC,by kernel_rfl,by kernel_rfl,ag2⟩ aN)
theorem Yy:eX prog 153 aEj:=sA amz
def adK (d:Int):Option xy:=bU (KZ d) fun e=>a6 ((cZ e.1 5),())
def avo:Sum:=⟨[.int .u8],YK,fun x=>adK x.1⟩
theorem aoF:eX prog 262 avo:=qA f262 [] (sE yQ aN)
noncomputable def SG:Code:=(f182.body).getD .skip
noncomputable def DV:Code:=cA (cA (cA (cB (cB (cB (cA (cB (SG))))))))
def EE:SQ:=⟨us [bN,bL,.fn 263 [],.u,.u,.u,.u,bL] 25,[c7,[]],[]⟩
def Gs:SQ:=⟨dr,[c7,[]],[]⟩
def Gy:SQ:=⟨us [] 33,[c7,[]],[]⟩
def A7 {g:Type} (p:dC->Int->Int->dC->Int->dC->Int->Option g) (q:Int->dC->Int->dC->Int->Option g) (x:dC->Int->dC->Int->Option g) (e:dC) (f d:Int) (i:dC) (j:Int) (l:dC) (m:Int):Option g:=cond (iV (dJ .i64 f d) (bV e)) (cond (iy e (dJ .i64 f d)) (bU (adK (dm e (dJ .i64 f d))) fun u=>cond u.1 (p e f (dJ .i64 d 1) i j l m)<|bU (adG (dm e (dJ .i64 f d))) fun v=>cond (!v.1) (q d i j l m)<|p e f (dJ .i64 d 1) i j l m) a7)<|q d i j l m
def qI:Nat->dC->Int->Int->dC->Int->dC->Int->Option (Gs.den⊕Gy.den)
 |0,_,_,_,_,_,_,_=>a7
 |n+1,d,e,f,g,i,j,l=>A7 (qI n) (fun m p q u v=>a6 (.inl ((m,()),((p,q,u,v,()),(),()),()))) (fun x y z A=>a6 (.inr ((),((x,y,z,A,()),(),()),()))) d e f g i j l
def aer (n:Nat) (v:EE.den):=ar (qI n) v
noncomputable def FZ:dO:=gq zx EE Gs Gy (.exit 0) (aer bY) 6
def xW:SQ:=⟨us [bN,bL,.fn 262 [],.u,.u,.u,.u,bL] 25,[c8,[]],[]⟩
def BJ:SQ:=⟨dr,[c8,[]],[]⟩
def BP:SQ:=⟨us [] 33,[c8,[]],[]⟩
def vX {e:Type} (q:dC->Int->Int->dC->Int->dC->Int->Option e) (p:Int->dC->Int->dC->Int->Option e) (v:dC->Int->dC->Int->Option e) (f:dC) (g d:Int) (i:dC) (j:Int) (l:dC) (m:Int):Option e:=cond (iV (dJ .i64 g d) (bV f)) (cond (iy f (dJ .i64 g d)) (bU (adK (dm f (dJ .i64 g d))) fun u=>cond (!u.1) (p d i j l m)<|q f g (dJ .i64 d 1) i j l m) a7)<|p d i j l m
def pM:Nat->dC->Int->Int->dC->Int->dC->Int->Option (BJ.den⊕BP.den)
 |0,_,_,_,_,_,_,_=>a7
 |n+1,d,e,f,g,i,j,l=>vX (pM n) (fun m p q u v=>a6 (.inl ((m,()),((p,q,u,v,()),(),()),()))) (fun x y z A=>a6 (.inr ((),((x,y,z,A,()),(),()),()))) d e f g i j l
def WO (n:Nat) (v:xW.den):=ar (pM n) v
noncomputable def BA:dO:=gq zx xW BJ BP (.exit 0) (WO bY) 12
def Zy (d:Int) (e:dC):Option Fb:=cond (cZ 0 0) (a6 (0,()))<|cond (iV d 0) (a6 (0,()))<|cond (leI (bV e) d) (a6 (0,()))<|bU (qI bY e d 0 e d e d) fun f=>dX f (fun g=>a6 (g.1.1,())) (fun i=>a7)
def Ub (f:dC) (e:Int):Option Fb:=cond (iV e 0) (Zy e f)<|cond (leI (bV f) e) (Zy e f)<|bU (pM bY f e 0 f e f e) fun g=>dX g (fun d=>cond (cZ d.1.1 0) (a6 (0,()))<|cond (iV d.2.1.1.2.1 0) (a6 (0,()))<|cond (leI (bV d.2.1.1.1) d.2.1.1.2.1) (a6 (0,()))<|bU (qI bY d.2.1.1.1 d.2.1.1.2.1 0 d.2.1.1.1 d.2.1.1.2.1 d.2.1.1.1 d.2.1.1.2.1) fun i=>dX i (fun j=>a6 (j.1.1,())) (fun l=>a7)) (fun m=>a7)
def aEM:Sum:=⟨[.str,dL],Xg,fun x=>Ub x.1 x.2.1⟩
noncomputable def TE:Env:=iE prog tt [(262,avo),(183,aic)] [(182,4,zx),(254,600001,Ed),(254,600003,Ed),(182,600006,P6)] [(182,4,nD FZ BA)] []
def QB {d:Type} (a:EE.den->Option d) (b:Gs.den->Option d) (c:Gy.den->Option d) (v:EE.den):Option d:=ar (A7 (fun e f g i j l m=>a ((e,f,g,()),((i,j,l,m,()),(),()),())) (fun p q u x y=>b ((p,()),((q,u,x,y,()),(),()),())) (fun z A B D=>c ((),((z,A,B,D,()),(),()),()))) v
theorem aeO:eY TE 182 DV FZ:=oq (QB) (h2:=by intros;simp only[QB,ar,A7,dG,dH,bT,dw,dI])
def Jk {d:Type} (a:xW.den->Option d) (b:BJ.den->Option d) (c:BP.den->Option d) (v:xW.den):Option d:=ar (vX (fun e f g i j l m=>a ((e,f,g,()),((i,j,l,m,()),(),()),())) (fun p q u x y=>b ((p,()),((q,u,x,y,()),(),()),())) (fun z A B D=>c ((),((z,A,B,D,()),(),()),()))) v
theorem WW:eY TE 182 DV BA:=oq (Jk) (h2:=by intros;simp only[Jk,ar,vX,dG,dH,bT,dw,dI])
theorem ag4:eP TE 182 SG:=tC [DV] (aD (fun L h=>by rw[show(TE).lp 182 (dN DV)=a6 (nD FZ BA) by kernel_rfl]at h;cases h;exact uU aeO WW) aN)
theorem amU:gm TE:=eB (aD aoF (aD YA aN)) [182] (aD ⟨f182,SG,by kernel_rfl,by kernel_rfl,ag4⟩ aN)
theorem Pv:eX prog 254 aEM:=sA amU
def XG (e:dC) (d:Int):Option Fb:=bU (Ub e d) fun g=>cond (iV 0 g.1) (a6 (g.1,()))<|cond (iV d 0) (a6 (0,()))<|cond (leI (bV e) d) (a6 (0,()))<|cond (iy e d) (cond (cZ (dm e d) 64) (cond (cZ (dm e d) 64) (a6 (1,()))<|bU (FM e d) fun f=>a6 ((JJ f.1 1),()))<|cond (cZ (dm e d) 42) (cond (cZ (dm e d) 42) (a6 (1,()))<|bU (FM e d) fun f=>a6 ((JJ f.1 1),()))<|cond (cZ (dm e d) 35) (cond (cZ (dm e d) 35) (a6 (1,()))<|bU (FM e d) fun f=>a6 ((JJ f.1 1),()))<|cond (cZ (dm e d) 63) (cond (cZ (dm e d) 63) (a6 (1,()))<|bU (FM e d) fun f=>a6 ((JJ f.1 1),()))<|cond (cZ (dm e d) 45) (cond (cZ (dm e d) 45) (a6 (1,()))<|bU (FM e d) fun f=>a6 ((JJ f.1 1),()))<|cond (cZ (dm e d) 36) (cond (cZ (dm e d) 36) (a6 (1,()))<|bU (FM e d) fun f=>a6 ((JJ f.1 1),()))<|cond (cZ (dm e d) 33) (a6 (1,()))<|bU (FM e d) fun f=>a6 ((JJ f.1 1),())) a7
def avi:Sum:=⟨[.str,dL],Xg,fun x=>XG x.1 x.2.1⟩
theorem aoA:eX prog 231 avi:=qA f231 [] (sE Yy (sE Pv aN))
noncomputable def awp:Code:=(f202.body).getD .skip
noncomputable def apw:Code:=cA (cA (cB (cA (cB (cB (cB (awp)))))))
noncomputable def aix:Code:=cA (cA (cB (cA (cB (cB (cB (cB (awp))))))))
def ar0:fZ:=⟨[0,3,4,12,13,100004],[(100000900,.pair (.list .unit) J7),(100000901,.pair (.list .unit) dL)],[0,3],[],[2],[(2,J7)]⟩
def ajw:fZ:=⟨[0,3,31,32,100010],[],[3],[],[2],[(2,J7)]⟩
def axt:fZ:=⟨[0,3],[],[],[],[],[]⟩
def axu:fZ:=⟨[0,3,4,5,12,13],[],[],[],[],[]⟩
def aaE:SP:=⟨us [bN,.u,.u,em,en,.u,.u,.u,.u,.u,.u,.u,bL,bL] 65,[cF,de,.arr 1502009 dL,.arr 1500009 J7,dy]⟩
def aa7:SP:=⟨us [bN,.u,.u,em] 75,cw⟩
def abG:SP:=⟨us [.u,.u,.v Xf] 76,[]⟩
def RS {g:Type} (p:dC->Int->Int->Bool->Int->(List qP)->lq->(List jT)->Option g) (u:dC->lq->(List jT)->Option g) (z:(List jT)->Option g) (f:dC) (j e:Int) (v:Bool) (x:Int) (y:List qP) (l:lq) (m:List jT):Option g:=cond (iV e j) (cond (iy f e) (bU (XD y v x (dm f e)) fun d=>cond (cZ (bV d.1.1) 0) (bU (adJ m l [(0,(0,()))] e) fun i=>p f j (dJ .i64 e 1) d.1.2.1 d.1.2.2.1 d.1.1 i.1.2.1 i.1.1)<|bU (qR d.1.1) fun i=>bU (adJ m l i.1 e) fun q=>p f j (dJ .i64 e 1) d.1.2.1 d.1.2.2.1 d.1.1 q.1.2.1 q.1.1) a7)<|u f l m
def LP:Nat->dC->Int->Int->Bool->Int->(List qP)->lq->(List jT)->Option (aa7.den⊕abG.den)
 |0,_,_,_,_,_,_,_,_=>a7
 |n+1,d,e,f,g,i,j,l,m=>RS (LP n) (fun p q u=>a6 (.inl ((p,()),(q,u,(),())))) (fun v=>a6 (.inr ((v,()),()))) d e f g i j l m
def ax2 (n:Nat) (v:aaE.den):=LP n v.1.1 v.1.2.1 v.1.2.2.1 v.2.1.1 v.2.1.2.1 v.2.2.1 v.2.2.2.1 v.2.2.2.2.1
noncomputable def aj1:dO:=iq ar0 aaE aa7 abG (.exit 0) (ax2 bY) 6
def Rh:SP:=⟨us [bN,.u,.u,em,.u,.u,.u,.u,.u,.u,.u,.u,.u,.u,.u,.u,.u,.u,.u,.u,.u,.u,.u,.u,.u,.u,.u,.u,.u,.u,.u,bL,bL] 46,cw⟩
def U7:SP:=⟨us [.u,.u,.u,em] 75,cw⟩
def Vg:SP:=⟨us [.u,.u,.v Xf] 76,[]⟩
def fJ (d:List jT) (e:Int):=dU d (0,(0,(0,(0,(false,()))))) (dM e)
def kD (d:List jT) (e:Int) (f:dC):=jd d (dM e) ((fJ d e).1,((fJ d e).2.1,((bV f),((fJ d e).2.2.2.1,((fJ d e).2.2.2.2.1,())))))
def fU (e:List jT) (d:Int) (f:dC):=dU (kD e d f) (0,(0,(0,(0,(false,()))))) (dM d)
def Nl {l:Type} (m:dC->Int->Int->lq->(List jT)->Option l) (p:lq->(List jT)->Option l) (q:(List jT)->Option l) (f:dC) (i d:Int) (j:lq) (e:List jT):Option l:=cond (iV d i) (cond (iy e d) (cond (qO (dM d) e) (cond ((fJ e d).2.2.2.2.1) (cond (qO (dM d) e) (cond (qO (dM d) (kD e d f)) (cond (cZ (fU e d f).1 12) (cond (qO (dM d) (kD e d f)) (cond (qO (dM d) (kD e d f)) (bU (XG f (dJ .i64 (fU e d f).2.1 1)) fun g=>cond (qO (dM d) (kD e d f)) (cond ((eqN (dM d) (dM d))&&true) (cond ((eqN (dM d) (dM d))&&true) (cond (qO (dM d) (jd (kD e d f) (dM d) ((fU e d f).1,((fU e d f).2.1,((dJ .i64 (dJ .i64 (fU e d f).2.1 1) g.1),((fU e d f).2.2.2.1,((fU e d f).2.2.2.2.1,()))))))) (cond ((eqN (dM d) (dM d))&&true) (m f i (dJ .i64 d 1) j (jd (jd (kD e d f) (dM d) ((fU e d f).1,((fU e d f).2.1,((dJ .i64 (dJ .i64 (fU e d f).2.1 1) g.1),((fU e d f).2.2.2.1,((fU e d f).2.2.2.2.1,())))))) (dM d) ((dU (jd (kD e d f) (dM d) ((fU e d f).1,((fU e d f).2.1,((dJ .i64 (dJ .i64 (fU e d f).2.1 1) g.1),((fU e d f).2.2.2.1,((fU e d f).2.2.2.2.1,())))))) (0,(0,(0,(0,(false,()))))) (dM d)).1,((dU (jd (kD e d f) (dM d) ((fU e d f).1,((fU e d f).2.1,((dJ .i64 (dJ .i64 (fU e d f).2.1 1) g.1),((fU e d f).2.2.2.1,((fU e d f).2.2.2.2.1,())))))) (0,(0,(0,(0,(false,()))))) (dM d)).2.1,((dU (jd (kD e d f) (dM d) ((fU e d f).1,((fU e d f).2.1,((dJ .i64 (dJ .i64 (fU e d f).2.1 1) g.1),((fU e d f).2.2.2.1,((fU e d f).2.2.2.2.1,())))))) (0,(0,(0,(0,(false,()))))) (dM d)).2.2.1,((dU (jd (kD e d f) (dM d) ((fU e d f).1,((fU e d f).2.1,((dJ .i64 (dJ .i64 (fU e d f).2.1 1) g.1),((fU e d f).2.2.2.1,((fU e d f).2.2.2.2.1,())))))) (0,(0,(0,(0,(false,()))))) (dM d)).2.2.2.1,(false,()))))))) a7) a7) a7) a7) a7) a7) a7)<|m f i (dJ .i64 d 1) j (kD e d f)) a7) a7)<|cond (qO (dM d) e) (cond (cZ (fJ e d).1 12) (cond (qO (dM d) e) (cond (qO (dM d) e) (bU (XG f (dJ .i64 (fJ e d).2.1 1)) fun g=>cond (qO (dM d) e) (cond ((eqN (dM d) (dM d))&&true) (cond ((eqN (dM d) (dM d))&&true) (cond (qO (dM d) (jd e (dM d) ((fJ e d).1,((fJ e d).2.1,((dJ .i64 (dJ .i64 (fJ e d).2.1 1) g.1),((fJ e d).2.2.2.1,((fJ e d).2.2.2.2.1,()))))))) (cond ((eqN (dM d) (dM d))&&true) (m f i (dJ .i64 d 1) j (jd (jd e (dM d) ((fJ e d).1,((fJ e d).2.1,((dJ .i64 (dJ .i64 (fJ e d).2.1 1) g.1),((fJ e d).2.2.2.1,((fJ e d).2.2.2.2.1,())))))) (dM d) ((dU (jd e (dM d) ((fJ e d).1,((fJ e d).2.1,((dJ .i64 (dJ .i64 (fJ e d).2.1 1) g.1),((fJ e d).2.2.2.1,((fJ e d).2.2.2.2.1,())))))) (0,(0,(0,(0,(false,()))))) (dM d)).1,((dU (jd e (dM d) ((fJ e d).1,((fJ e d).2.1,((dJ .i64 (dJ .i64 (fJ e d).2.1 1) g.1),((fJ e d).2.2.2.1,((fJ e d).2.2.2.2.1,())))))) (0,(0,(0,(0,(false,()))))) (dM d)).2.1,((dU (jd e (dM d) ((fJ e d).1,((fJ e d).2.1,((dJ .i64 (dJ .i64 (fJ e d).2.1 1) g.1),((fJ e d).2.2.2.1,((fJ e d).2.2.2.2.1,())))))) (0,(0,(0,(0,(false,()))))) (dM d)).2.2.1,((dU (jd e (dM d) ((fJ e d).1,((fJ e d).2.1,((dJ .i64 (dJ .i64 (fJ e d).2.1 1) g.1),((fJ e d).2.2.2.1,((fJ e d).2.2.2.2.1,())))))) (0,(0,(0,(0,(false,()))))) (dM d)).2.2.2.1,(false,()))))))) a7) a7) a7) a7) a7) a7) a7)<|m f i (dJ .i64 d 1) j e) a7) a7) a7)<|p j e
def Di:Nat->dC->Int->Int->lq->(List jT)->Option (U7.den⊕Vg.den)
 |0,_,_,_,_,_=>a7
 |n+1,d,e,f,g,i=>Nl (Di n) (fun j l=>a6 (.inl ((),(j,l,(),())))) (fun m=>a6 (.inr ((m,()),()))) d e f g i
def asJ (n:Nat) (v:Rh.den):=Di n v.1.1 v.1.2.1 v.1.2.2.1 v.2.1 v.2.2.1
noncomputable def aey:dO:=iq ajw Rh U7 Vg (.exit 2) (asJ bY) 12
def ai5 (e:dC):Option ((List jT)×Unit):=bU (LP bY e (bV e) 0 true 0 [(0,(0,()))] [] []) fun f=>dX f (fun d=>bU (Di bY d.1.1 (bV d.2.2.1) 0 d.2.1 d.2.2.1) fun g=>dX g (fun i=>a6 (i.2.2.1,())) (fun j=>a6 (j.1.1,()))) (fun l=>a6 (l.1.1,()))
def avd:Sum:=⟨[.str],[(.list J7,false)],fun x=>ai5 x.1⟩
noncomputable def Zg:Env:=iE prog tt [(229,Ba),(231,avi)] [(202,4,ar0),(202,10,ajw),(202,600002,axt),(202,600007,axu)] [(202,4,aj1),(202,10,aey)] [] [(162,acE),(230,avh)]
def ali {d:Type} (a:aaE.den->Option d) (b:aa7.den->Option d) (c:abG.den->Option d) (v:aaE.den):Option d:=RS (fun e f g i j l m p=>a ((e,f,g,()),((i,j,()),l,m,p,(),()))) (fun q u x=>b ((q,()),(u,x,(),()))) (aE c) v.1.1 v.1.2.1 v.1.2.2.1 v.2.1.1 v.2.1.2.1 v.2.2.1 v.2.2.2.1 v.2.2.2.2.1
theorem ayB:eY Zg 202 apw aj1:=En (ali) (h2:=by intros;simp only[ali,aE,RS,dG,dH,bT,dw,dI])
def afj {d:Type} (a:Rh.den->Option d) (b:U7.den->Option d) (c:Vg.den->Option d) (v:Rh.den):Option d:=Nl (fun e f g i j=>a ((e,f,g,()),(i,j,(),()))) (fun l m=>b ((),(l,m,(),()))) (aE c) v.1.1 v.1.2.1 v.1.2.2.1 v.2.1 v.2.2.1
theorem atx:eY Zg 202 aix aey:=En (afj) (h2:=by intros;simp only[afj,aE,Nl,dG,dH,bT,dw,dI,fJ,kD,fU])
theorem aCv:eP Zg 202 awp:=tC [apw,aix] (aD (fM (ayB)) (aD (fM (atx)) aN))
theorem amJ:gm Zg:=eB (aD zN (aD aoA aN)) [202] (aD ⟨f202,awp,by kernel_rfl,by kernel_rfl,aCv⟩ aN) (hx:=(aD Pm (aD aoz aN)))
theorem aoq:eX prog 202 avd:=sA amJ
def adH (d:List qP) (e:Bool) (f:Int):Option (taN×xy):=cond e (a6 ((d,(e,(f,()))),(true,())))<|some ((d,(e,(f,()))),((cZ (bV d) 0),()))
def avc:gu:=⟨208,tzC,[],[.bool],fun x y=>adH x.1 x.2.1 x.2.2.1⟩
theorem aoo:dV prog 199 avc:=qB [] aN
noncomputable def aA8:Code:=(f163.body).getD .skip
noncomputable def apr:Code:=cA (cA (cB (cA (cB (cB (aA8))))))
def arW:fZ:=⟨[0,4,8,9,100003],[],[4],[],[2,3],[(2,WC)]⟩
def sN:fZ:=⟨[0],[],[],[],[],[]⟩
def ajz:fZ:=⟨[4],[],[],[],[],[]⟩
def aaz:SP:=⟨us [bN,.u,.u,.u,en,.u,.u,.u,bL,bL] 12,[cF,de]⟩
def aa2:SP:=⟨us [.u,.u,.u,.u,en] 17,[cF,de]⟩
def abA:SP:=⟨us [.u,.u,dz,bX] 18,[]⟩
def RJ {d:Type} (p:dC->Int->Int->Bool->Int->(List qP)->Option d) (q:Bool->Int->(List qP)->Option d) (u:(List qP)->Bool->Option d) (f:dC) (i e:Int) (j:Bool) (l:Int) (m:List qP):Option d:=cond (iV e i) (cond (iy f e) (bU (XD m j l (dm f e)) fun g=>p f i (dJ .i64 e 1) g.1.2.1 g.1.2.2.1 g.1.1) a7)<|q j l m
def LK:Nat->dC->Int->Int->Bool->Int->(List qP)->Option (aa2.den⊕abA.den)
 |0,_,_,_,_,_,_=>a7
 |n+1,d,e,f,g,i,j=>RJ (LK n) (fun l m p=>a6 (.inl ((),((l,m,()),p,())))) (fun q u=>a6 (.inr ((q,u,()),()))) d e f g i j
def axX (n:Nat) (v:aaz.den):=LK n v.1.1 v.1.2.1 v.1.2.2.1 v.2.1.1 v.2.1.2.1 v.2.2.1
noncomputable def ajW:dO:=iq arW aaz aa2 abA (.exit 0) (axX bY) 6
def aiW (f:dC):Option ((List qP)×Bool×Unit):=bU (LK bY f (bV f) 0 true 0 [(0,(0,()))]) fun i=>dX i (fun d=>cond (cZ (bV d.2.2.1) 0) (bU (adH d.2.2.1 d.2.1.1 d.2.1.2.1) fun e=>a6 ([(0,(0,()))],(e.2.1,())))<|bU (qR d.2.2.1) fun e=>bU (adH d.2.2.1 d.2.1.1 d.2.1.2.1) fun j=>a6 (e.1,(j.2.1,()))) (fun g=>a6 (g.1.1,(g.1.2.1,())))
def au3:Sum:=⟨[.str],[(.list WC,false),(.bool,false)],fun x=>aiW x.1⟩
noncomputable def agi:Env:=iE prog tt [(229,Ba)] [(163,3,arW),(163,600001,sN),(163,600007,ajz)] [(163,3,ajW)] [] [(162,acE),(199,avc)]
def ald {d:Type} (a:aaz.den->Option d) (b:aa2.den->Option d) (c:abA.den->Option d) (v:aaz.den):Option d:=RJ (fun e f g i j l=>a ((e,f,g,()),((i,j,()),l,()))) (fun m p q=>b ((),((m,p,()),q,()))) (aL c) v.1.1 v.1.2.1 v.1.2.2.1 v.2.1.1 v.2.1.2.1 v.2.2.1
theorem ayw:eY agi 163 apr ajW:=En (ald) (h2:=by intros;simp only[ald,aL,RJ,dG,dH,bT,dw,dI])
theorem aCq:eP agi 163 aA8:=tC [apr] (aD (fM (ayw)) aN)
theorem amB:gm agi:=eB (aD zN aN) [163] (aD ⟨f163,aA8,by kernel_rfl,by kernel_rfl,aCq⟩ aN) (hx:=(aD Pm (aD aoo aN)))
theorem aod:eX prog 163 au3:=sA amB
def aiV (d:List qP) (e:Bool) (f g:Int):Option (taN×xy):=bU (IZ g) fun i=>cond (!i.1) (a6 ((d,(e,(f,()))),(false,())))<|cond (cZ (bV d) 1) (a6 ((d,(e,(f,()))),(true,())))<|cond (cZ (bV d) 2) (cond (iy d 1) (cond (qO (dM 1) d) (cond (cZ (dU d (0,(0,())) (dM 1)).1 12) (a6 ((d,(e,(f,()))),((!(cZ g 40)),())))<|some ((d,(e,(f,()))),(false,()))) a7) a7)<|some ((d,(e,(f,()))),(false,()))
def au2:gu:=⟨208,tzC,[.int .u8],[.bool],fun x y=>aiV x.1 x.2.1 x.2.2.1 y.1⟩
theorem aoc:dV prog 161 au2:=qB [] (sE YB aN)
noncomputable def aA6:Code:=(f131.body).getD .skip
noncomputable def apj:Code:=cA (cA (cA (cB (cB (cB (aA6))))))
def arR:fZ:=⟨[0,1,5,100004],[],[1],[],[4],[]⟩
def aar:SP:=⟨us [bN,bL,.u,.u,.u,en] 27,[cF,de]⟩
def aaU:SP:=⟨us [.u,bL] 31,[]⟩
def abr:SP:=⟨us cS 28,[]⟩
def RF {g:Type} (j:dC->Int->Bool->Int->(List qP)->Option g) (l m:Int->Option g) (e:dC) (d:Int) (p:Bool) (q:Int) (u:List qP):Option g:=cond (iV d (bV e)) (cond (iy e d) (bU (aiV u p q (dm e d)) fun f=>cond f.2.1 (m d)<|cond (iy e d) (bU (XD f.1.1 f.1.2.1 f.1.2.2.1 (dm e d)) fun i=>j e (dJ .i64 d 1) i.1.2.1 i.1.2.2.1 i.1.1) a7) a7)<|l d
def LJ:Nat->dC->Int->Bool->Int->(List qP)->Option (aaU.den⊕abr.den)
 |0,_,_,_,_,_=>a7
 |n+1,d,e,f,g,i=>RF (LJ n) (fun j=>a6 (.inl ((j,()),()))) (fun l=>a6 (.inr ((l,()),()))) d e f g i
def axP (n:Nat) (v:aar.den):=LJ n v.1.1 v.1.2.1 v.2.1.1 v.2.1.2.1 v.2.2.1
noncomputable def ajP:dO:=iq arR aar aaU abr (.exit 0) (axP bY) 6
def adB (e:dC) (d:Int):Option Fb:=cond (iV d 0) (a6 ((-1),()))<|cond (iV (bV e) d) (a6 ((-1),()))<|bU (LJ bY e d true 0 [(0,(0,()))]) fun f=>dX f (fun g=>a6 (g.1.1,())) (fun i=>a6 (i.1.1,()))
def aD8:Sum:=⟨[.str,dL],Xg,fun x=>adB x.1 x.2.1⟩
noncomputable def af9:Env:=iE prog tt [] [(131,4,arR),(131,600003,Ed)] [(131,4,ajP)] [] [(161,au2),(162,acE)]
def ak5 {d:Type} (a:aar.den->Option d) (b:aaU.den->Option d) (c:abr.den->Option d) (v:aar.den):Option d:=RF (fun e f g i j=>a ((e,f,()),((g,i,()),j,()))) (aE b) (aE c) v.1.1 v.1.2.1 v.2.1.1 v.2.1.2.1 v.2.2.1
theorem ayo:eY af9 131 apj ajP:=En (ak5) (h2:=by intros;simp only[ak5,aE,RF,dG,dH,bT,dw,dI])
theorem aCg:eP af9 131 aA6:=tC [apj] (aD (fM (ayo)) aN)
theorem amn:gm af9:=eB aN [131] (aD ⟨f131,aA6,by kernel_rfl,by kernel_rfl,aCg⟩ aN) (hx:=(aD aoc (aD Pm aN)))
theorem an2:eX prog 131 aD8:=sA amn
def Lc (d:Int):Option (dC×Unit):=cond (cZ d 9) (a6 ([41,41],()))<|cond (cZ d 13) (cond (cZ d 13) (a6 ([10],()))<|some ([],()))<|cond (cZ d 14) (a6 ([10],()))<|some ([],())
def aiY (d:Int):Option (dC×Unit):=cond (cZ d 1) (cond (cZ d 1) (a6 ([41],()))<|Lc d)<|cond (cZ d 3) (cond (cZ d 3) (a6 ([41],()))<|Lc d)<|cond (cZ d 2) (cond (cZ d 2) (a6 ([41],()))<|Lc d)<|cond (cZ d 10) (cond (cZ d 10) (a6 ([41],()))<|Lc d)<|cond (cZ d 11) (a6 ([41],()))<|Lc d
def aiX (d:Int):Option (dC×Unit):=cond (cZ d 4) (a6 ([39],()))<|cond (cZ d 5) (a6 ([34],()))<|cond (cZ d 6) (a6 ([96],()))<|cond (cZ d 7) (cond (cZ d 7) (a6 ([125],()))<|aiY d)<|cond (cZ d 8) (a6 ([125],()))<|aiY d
def au4:Sum:=⟨[dL],tzI,fun x=>aiX x.1⟩
theorem aoe:eX prog 165 au4:=qA Tryz.f165 [] aN
noncomputable def YT:Code:=(f132.body).getD .skip
noncomputable def Su:Code:=(f200.body).getD .skip
noncomputable def SN:Code:=cA (cA (cB (Su)))
def Un:fZ:=⟨[0,1,3,170000001],[],[],[],[],[]⟩
def axA:fZ:=⟨[2,5],[],[],[],[],[]⟩
def axq:fZ:=⟨[2,3,5],[],[],[],[],[]⟩
def ad5:fZ:=⟨[0,1,3],[],[],[],[],[]⟩
def Es:SQ:=⟨us [.yld 1700014,eo,.u,bL] 15,cT,cx⟩
def Gl:SQ:=⟨us [] 19,cT,cx⟩
def Gt:SQ:=⟨us [] 19,cT,[]⟩
def wX {f:Type} (m:Int->dC->dC->(List qP)->lq->Option f) (p:dC->dC->(List qP)->lq->Option f) (q:dC->Option f) (d:Int) (i j:dC) (e:List qP) (g:lq):Option f:=cond (leI 0 d) (cond (iy e d) (bU (aiX (gW e (0,(0,())) d).1) fun l=>cond (fG (bZ g (dR l.1)) 1) (cond (cZ (gW e (0,(0,())) d).1 (gW e (0,(0,())) d).1) (m (fO .i64 d 1) i j e (bZ g (dR l.1))) a7) a7) a7)<|p i j e g
def tJ:Nat->Int->dC->dC->(List qP)->lq->Option (Gl.den⊕Gt.den)
 |0,_,_,_,_,_=>a7
 |n+1,d,e,f,g,i=>wX (tJ n) (fun j l m p=>a6 (.inl ((),((j,()),(),(),()),((l,()),(m,()),(),p,())))) (fun q=>a6 (.inr ((),((q,()),(),(),()),()))) d e f g i
def aek (n:Nat) (v:Es.den):=tJ n v.1.1 v.2.1.1.1 v.2.2.1.1 v.2.2.2.1.1 v.2.2.2.2.2.1
noncomputable def P9:dO:=gq Un Es Gl Gt (.exit 0) (aek bY) 6
def aiP (e:dC):Option (dC×Unit):=bU (aiW e) fun d=>bU (tJ bY (fO .i64 (bV d.1) 1) [] [] d.1 []) fun f=>dX f (fun g=>a6 ((ofBytes g.2.2.2.2.2.1),())) (fun i=>a7)
def aD9:Sum:=⟨[.str],tzI,fun x=>aiP x.1⟩
noncomputable def Ze:Env:=iE prog tt [(163,au3),(165,au4)] [(200,1,Un),(132,500005,axA),(132,600003,axq),(200,600003,ad5)] [(200,1,P9)] [132]
def Qu {d:Type} (a:Es.den->Option d) (b:Gl.den->Option d) (c:Gt.den->Option d) (v:Es.den):Option d:=wX (fun e f g i j=>a ((e,()),((f,()),(),(),()),((g,()),(i,()),(),j,()))) (fun l m p q=>b ((),((l,()),(),(),()),((m,()),(p,()),(),q,()))) (fun u=>c ((),((u,()),(),(),()),())) v.1.1 v.2.1.1.1 v.2.2.1.1 v.2.2.2.1.1 v.2.2.2.2.2.1
theorem aeH:eY Ze 200 SN P9:=oq (Qu) (h2:=by intros;simp only[Qu,wX,dG,dH,bT,dw,dI])
theorem aB4:kX YT=[]:=by kernel_rfl
theorem aDM:lC YT=[(cA (cA (cB (cA (cB (cB (cB (YT))))))),cB (cA (cB (cA (cB (cB (cB (YT))))))))]:=by kernel_rfl
theorem aCh:eP Ze 132 YT:=tH YT (by rw[aDM];exact(aD (fun _=>(show uB 132 5=a6 (cA (cA (cB (cA (cB (cB (cB (YT))))))),cB (cA (cB (cA (cB (cB (cB (YT)))))))) by kernel_rfl)) aN)) (by rw[aB4];exact aN)
theorem agX:eP Ze 200 Su:=tC [SN] (aD (fM (aeH)) aN)
theorem amo:gm Ze:=eB (aD aod (aD aoe aN)) [132,200] (aD ⟨f132,YT,by kernel_rfl,by kernel_rfl,aCh⟩ (aD ⟨f200,Su,by kernel_rfl,by kernel_rfl,agX⟩ aN))
theorem an3:eX prog 132 aD9:=sA amo
def azK (d:Int):Option (dC×Unit):=cond (cZ d 10) (a6 ([62,124],()))<|cond (cZ d 11) (a6 ([60],()))<|cond (cZ d 12) (a6 ([62],()))<|cond (cZ d 13) (a6 ([38],()))<|cond (cZ d 14) (a6 ([59],()))<|cond (cZ d 15) (a6 ([124],()))<|cond (cZ d 16) (a6 ([40],()))<|cond (cZ d 17) (a6 ([41],()))<|some ([],())
def aEw:Sum:=⟨[dL],tzI,fun x=>azK x.1⟩
theorem aop:eX prog 201 aEw:=qA f201 [] aN
def aiZ (d:Int):Option (dC×Unit):=cond (cZ d 1) (a6 ([38,38],()))<|cond (cZ d 2) (a6 ([124,124],()))<|cond (cZ d 3) (a6 ([59,59],()))<|cond (cZ d 4) (a6 ([60,60],()))<|cond (cZ d 5) (a6 ([60,60,45],()))<|cond (cZ d 6) (a6 ([62,62],()))<|cond (cZ d 7) (a6 ([60,38],()))<|cond (cZ d 8) (a6 ([62,38],()))<|cond (cZ d 9) (a6 ([60,62],()))<|bU (azK d) fun e=>a6 (e.1,())
def au5:Sum:=⟨[dL],tzI,fun x=>aiZ x.1⟩
theorem aof:eX prog 166 au5:=qA Tryz.f166 [] (sE aop aN)
noncomputable def aFC:Code:=(f133.body).getD .skip
noncomputable def apk:Code:=cA (cA (cB (cA (cB (cB (aFC))))))
def ZP:fZ:=⟨[0,3,100004],[],[],[],[2],[]⟩
def aas:SP:=⟨us [bN,.u,.u,bL] 11,[]⟩
def aaV:SP:=⟨us [] 15,[]⟩
def abt:SP:=⟨us dx 12,[]⟩
def Nb {d:Type} (g:dC->Int->Option d) (i:Option d) (j:Int->Option d) (f:dC) (e:Int):Option d:=cond (leI e 17) (bU (aiZ e) fun l=>cond (iG l.1 f) (j e)<|g f (dJ .i64 e 1)) i
def Eh:Nat->dC->Int->Option (aaV.den⊕abt.den)
 |0,_,_=>a7
 |n+1,d,e=>Nb (Eh n) (a6 (.inl ((),()))) (fun f=>a6 (.inr ((f,()),()))) d e
def axQ (n:Nat) (v:aas.den):=Eh n v.1.1 v.1.2.1
noncomputable def ajQ:dO:=iq ZP aas aaV abt (.exit 0) (axQ bY) 6
def PS (d:dC):Option Fb:=cond (iG d []) (a6 (0,()))<|bU (Eh bY d 1) fun e=>dX e (fun g=>a6 (0,())) (fun f=>a6 (f.1.1,()))
def auV:Sum:=⟨[.str],Xg,fun x=>PS x.1⟩
noncomputable def aga:Env:=kU prog tt 133 [(166,au5)] [(4,ZP)] [(4,ajQ)]
def ak6 {d:Type} (a:aas.den->Option d) (b:aaV.den->Option d) (c:abt.den->Option d) (v:aas.den):Option d:=Nb (aL a) (b ((),())) (aE c) v.1.1 v.1.2.1
theorem ayp:eY aga 133 apk ajQ:=En (ak6) (h2:=by intros;simp only[ak6,aL,aE,Nb,dG,dH,bT,dw,dI])
theorem aCi:eP aga 133 aFC:=tC [apk] (aD (fM (ayp)) aN)
theorem amq:gm aga:=eA f133 (aD aof aN) (aCi)
theorem Pi:eX prog 133 auV:=sA amq
noncomputable def aFA:Code:=(f125.body).getD .skip
noncomputable def aph:Code:=cA (cA (cA (cB (cB (cB (cA (cB (aFA))))))))
def arQ:fZ:=⟨[0,1,4,5,100004],[],[4,5],[],[4,5],[]⟩
def aap:SP:=⟨us [bN,bL,.u,.u,bL,bL] 35,[]⟩
def aaS:SP:=⟨us [.u,.u,.u,.u,bL,bL] 35,[]⟩
def abp:SP:=⟨us [.u,.u,.u,.u,bL,bL] 35,[]⟩
def Rz {f:Type} (l:dC->Int->Int->Int->Option f) (j p:Int->Int->Option f) (g:dC) (e m d:Int):Option f:=cond (iV 0 d) (cond (gy (bV g) e (dJ .i64 e d)) (bU (PS (sub g e (dJ .i64 e d))) fun i=>cond (!(cZ i.1 0)) (j i.1 d)<|l g e i.1 (fO .i64 d 1)) a7)<|j m d
def LG:Nat->dC->Int->Int->Int->Option (aaS.den⊕abp.den)
 |0,_,_,_,_=>a7
 |n+1,d,e,f,g=>Rz (LG n) (fun i j=>a6 (.inl ((i,j,()),()))) (fun l m=>a6 (.inr ((l,m,()),()))) d e f g
def axN (n:Nat) (v:aap.den):=aM (LG n) v
noncomputable def ajN:dO:=iq arQ aap aaS abp (.exit 0) (axN bY) 6
def aiN (e:dC) (d:Int):Option qP:=cond (iV d 0) (a6 (0,(0,())))<|cond (leI (bV e) d) (a6 (0,(0,())))<|cond (iy e d) (bU (KZ (dm e d)) fun i=>cond (!(cZ i.1 3)) (a6 (0,(0,())))<|bU (LG bY e d 0 (JJ 3 (fO .i64 (bV e) d))) fun j=>dX j (fun f=>a6 (f.1.1,(f.1.2.1,()))) (fun g=>a6 (g.1.1,(g.1.2.1,())))) a7
def aD5:Sum:=⟨[.str,dL],tzJ,fun x=>aiN x.1 x.2.1⟩
noncomputable def af7:Env:=kU prog tt 125 [(126,ah9),(133,auV)] [(4,arQ)] [(4,ajN)]
def ak3 {d:Type} (a:aap.den->Option d) (b:aaS.den->Option d) (c:abp.den->Option d) (v:aap.den):Option d:=aM (Rz (fun e f g i=>a ((e,f,g,i,()),())) (aL b) (aL c)) v
theorem aym:eY af7 125 aph ajN:=En (ak3) (h2:=by intros;simp only[ak3,aL,aM,Rz,dG,dH,bT,dw,dI])
theorem aCd:eP af7 125 aFA:=tC [aph] (aD (fM (aym)) aN)
theorem amk:gm af7:=eA f125 (aD yQ (aD Pi aN)) (aCd)
theorem anZ:eX prog 125 aD5:=sA amk
def ari (e d:dC):Option xy:=cond (leI (bV d) (bV e)) (cond (gy (bV e) 0 (bV d)) (a6 ((iG (sub e 0 (bV d)) d),())) a7)<|some (false,())
def aEu:Sum:=⟨[.str,.str],YK,fun x=>ari x.1 x.2.1⟩
theorem aol:eX prog 192 aEu:=qA f192 [] aN
def aiU (d e:dC):Option xy:=bU (ari d e) fun f=>a6 (f.1,())
def aEk:Sum:=⟨[.str,.str],YK,fun x=>aiU x.1 x.2.1⟩
theorem aob:eX prog 159 aEk:=qA f159 [] (sE aol aN)
def adx (d:dC) (e:Int):Option xy:=cond (gy (bV d) e (bV d)) (bU (aiU (sub d e (bV d)) [92,10]) fun f=>a6 (f.1,())) a7
def auS:Sum:=⟨[.str,dL],YK,fun x=>adx x.1 x.2.1⟩
theorem Yq:eX prog 127 auS:=qA f127 [] (sE aob aN)
noncomputable def aFB:Code:=(f128.body).getD .skip
noncomputable def api:Code:=cA (cA (cA (cB (aFB))))
def ZO:fZ:=⟨[0,1,100001],[],[1],[],[4],[]⟩
def aaq:SP:=⟨us [bN,bL] 23,[]⟩
def aaT:SP:=⟨us [.u,bL] 23,[]⟩
def abq:SP:=⟨us cS 20,[]⟩
def RD {f:Type} (g:dC->Int->Option f) (i j:Int->Option f) (e:dC) (d:Int):Option f:=cond (iV d (bV e)) (cond (iy e d) (bU (KZ (dm e d)) fun l=>cond (cZ l.1 1) (g e (dJ .i64 d 1))<|bU (adx e d) fun m=>cond m.1 (g e (dJ .i64 d 2))<|j d) a7)<|i d
def LH:Nat->dC->Int->Option (aaT.den⊕abq.den)
 |0,_,_=>a7
 |n+1,d,e=>RD (LH n) (fun f=>a6 (.inl ((f,()),()))) (fun g=>a6 (.inr ((g,()),()))) d e
def axO (n:Nat) (v:aaq.den):=LH n v.1.1 v.1.2.1
noncomputable def ajO:dO:=iq ZO aaq aaT abq (.exit 0) (axO bY) 6
def ady (d:dC) (e:Int):Option Fb:=bU (LH bY d e) fun f=>dX f (fun g=>a6 (g.1.1,())) (fun i=>a6 (i.1.1,()))
def aD6:Sum:=⟨[.str,dL],Xg,fun x=>ady x.1 x.2.1⟩
noncomputable def af8:Env:=kU prog tt 128 [(126,ah9),(127,auS)] [(1,ZO)] [(1,ajO)]
def ak4 {d:Type} (a:aaq.den->Option d) (b:aaT.den->Option d) (c:abq.den->Option d) (v:aaq.den):Option d:=RD (aL a) (aE b) (aE c) v.1.1 v.1.2.1
theorem ayn:eY af8 128 api ajO:=En (ak4) (h2:=by intros;simp only[ak4,aL,aE,RD,dG,dH,bT,dw,dI])
theorem aCf:eP af8 128 aFB:=tC [api] (aD (fM (ayn)) aN)
theorem amm:gm af8:=eA f128 (aD yQ (aD Yq aN)) (aCf)
theorem an0:eX prog 128 aD6:=sA amm
def ai0 (d:dC) (e:Int):Option Fb:=a6 ((ibW d e),())
def aEl:Sum:=⟨[.str,.int .u8],Xg,fun x=>ai0 x.1 x.2.1⟩
theorem aog:eX prog 169 aEl:=qA Tryz.f169 [] (sE (afz func209 (by kernel_rfl) (by kernel_rfl) (by kernel_rfl) (by kernel_rfl)) aN)
def adC (d:dC) (e:Int):Option Fb:=bU (ai0 d e) fun f=>a6 (f.1,())
def aEb:Sum:=⟨[.str,.int .u8],Xg,fun x=>adC x.1 x.2.1⟩
theorem Yt:eX prog 135 aEb:=qA f135 [] (sE aog aN)
def adz (d:dC) (e:Int):Option (Int×Bool×Unit):=cond (gy (bV d) e (bV d)) (bU (adC (sub d e (bV d)) 10) fun f=>cond (leI 0 f.1) (a6 ((dJ .i64 e f.1),(true,())))<|some ((bV d),(false,()))) a7
def auT:Sum:=⟨[.str,dL],[(.int .i64,false),(.bool,false)],fun x=>adz x.1 x.2.1⟩
theorem Yr:eX prog 129 auT:=qA Tryz.f129 [] (sE Yt aN)
def adA (f:dC) (d:Int):Option Fb:=bU (FM f d) fun e=>cond (iV d (dJ .i64 d e.1)) (cond (iV (dJ .i64 d e.1) (bV f)) (cond (iy f (dJ .i64 d e.1)) (cond (cZ (dm f (dJ .i64 d e.1)) 60) (a6 ((dJ .i64 d e.1),()))<|cond (iy f (dJ .i64 d e.1)) (cond (cZ (dm f (dJ .i64 d e.1)) 62) (a6 ((dJ .i64 d e.1),()))<|some (d,())) a7) a7)<|some (d,()))<|some (d,())
def aD7:Sum:=⟨[.str,dL],Xg,fun x=>adA x.1 x.2.1⟩
theorem an1:eX prog 130 aD7:=qA f130 [] (sE Yy aN)
def agH (e:dC) (d:Int) (i:qP):Option (DL×Unit):=cond (iy e d) (cond (cZ (dm e d) 10) (a6 ((2,(d,((dJ .i64 d 1),(false,())))),()))<|cond (iy e d) (cond (cZ (dm e d) 35) (bU (adz e d) fun g=>a6 ((3,(d,(g.1,(false,())))),()))<|cond (iV 0 i.2.1) (a6 ((4,(d,((dJ .i64 d i.2.1),(false,())))),()))<|bU (adA e d) fun g=>cond (iV d g.1) (bU (adA e d) fun f=>a6 ((5,(d,(f.1,(false,())))),()))<|bU (adB e d) fun f=>cond (gy (bV e) d f.1) (bU (aiP (sub e d f.1)) fun j=>a6 ((6,(d,(f.1,((!(iG j.1 [])),())))),())) a7) a7) a7
def axe (e:dC) (d:Int):Option (DL×Unit):=bU (aiN e d) fun g=>cond (iy e d) (bU (KZ (dm e d)) fun i=>cond (cZ i.1 1) (cond (cZ i.1 1) (bU (ady e d) fun f=>a6 ((1,(d,(f.1,(false,())))),()))<|agH e d g)<|bU (adx e d) fun f=>cond f.1 (bU (ady e d) fun j=>a6 ((1,(d,(j.1,(false,())))),()))<|agH e d g) a7
def aHq:Sum:=⟨[.str,dL],[(.pair dL (.pair dL (.pair dL tyF)),false)],fun x=>axe x.1 x.2.1⟩
theorem avL:eX prog 93 aHq:=qA f93 [] (sE anZ (sE yQ (sE Yq (sE an0 (sE Yr (sE an1 (sE an2 (sE an3 aN))))))))
noncomputable def aFI:Code:=(f188.body).getD .skip
noncomputable def apv:Code:=cA (cA (cA (cB (aFI))))
def arZ:fZ:=⟨[0,1,100001],[],[0],[],[4],[]⟩
def aaD:SP:=⟨us [bN,cJ] 15,[]⟩
def aa6:SP:=⟨us [bN] 16,[]⟩
def abE:SP:=⟨us [.u,.u,.u,.u,bN] 12,[]⟩
def RQ {e:Type} (i:dC->Int->Option e) (f j:dC->Option e) (d:dC) (g:Int):Option e:=cond (iV 0 (bV d)) (cond (iy d 0) (cond (cZ (dm d 0) g) (cond (gy (bV d) 1 (bV d)) (i (sub d 1 (bV d)) g) a7)<|f d) a7)<|f d
def LM:Nat->dC->Int->Option (aa6.den⊕abE.den)
 |0,_,_=>a7
 |n+1,d,e=>RQ (LM n) (fun f=>a6 (.inl ((f,()),()))) (fun g=>a6 (.inr ((g,()),()))) d e
def ax1 (n:Nat) (v:aaD.den):=LM n v.1.1 v.1.2.1
noncomputable def aj0:dO:=iq arZ aaD aa6 abE (.exit 0) (ax1 bY) 6
def ai4 (d:dC) (e:Int):Option (dC×Unit):=bU (LM bY d e) fun f=>dX f (fun g=>a6 (g.1.1,())) (fun i=>a6 (i.1.1,()))
def au7:Sum:=⟨[.str,.int .u8],tzI,fun x=>ai4 x.1 x.2.1⟩
noncomputable def agl:Env:=kU prog tt 188 [] [(1,arZ)] [(1,aj0)]
def alh {d:Type} (a:aaD.den->Option d) (b:aa6.den->Option d) (c:abE.den->Option d) (v:aaD.den):Option d:=RQ (aL a) (aE b) (aE c) v.1.1 v.1.2.1
theorem ayA:eY agl 188 apv aj0:=En (alh) (h2:=by intros;simp only[alh,aL,aE,RQ,dG,dH,bT,dw,dI])
theorem aCu:eP agl 188 aFI:=tC [apv] (aD (fM (ayA)) aN)
theorem amI:gm agl:=eA f188 aN (aCu)
theorem aok:eX prog 188 au7:=sA amI
noncomputable def aA5:Code:=(f123.body).getD .skip
noncomputable def apg:Code:=cA (cA (cA (cB (cA (cB (aA5))))))
def arP:fZ:=⟨[0,1,5,100001],[],[1],[],[6,7],[]⟩
def axp:fZ:=⟨[0,5,8,9,10],[],[],[],[],[]⟩
def aao:SP:=⟨us [bN,bL,.u,.u,.u,cr] 33,dc⟩
def Ri:SP:=⟨us [.u,bL] 37,[]⟩
def Rj:SP:=⟨us [.u,.u,.u,.u,.u,.u,bL,bX] 31,[]⟩
def Dw {g:Type} (d:(Int×Bool×Unit)) (e:dC) (i:Int) (f:dC) (j:Int->Bool->Option g) (l:dC->Int->dC->Bool->Option g) (m:Bool):Option g:=cond d.2.1 (cond (iG (sub e i d.1) f) (j (dJ .i64 d.1 1) true)<|l e (dJ .i64 d.1 1) f m)<|cond (iG (sub e i d.1) f) (j d.1 true)<|l e d.1 f m
def Ry {m:Type} (j:dC->Int->dC->Bool->Option m) (q:Int->Option m) (l:Int->Bool->Option m) (e:dC) (f:Int) (g:dC) (i:Bool):Option m:=cond (iV f (bV e)) (bU (adz e f) fun d=>cond (gy (bV e) f d.1) (cond i (cond (iG (sub e f d.1) []) (Dw d e f g l j i)<|cond (iG [9] []) (Dw d e f g l j i)<|cond (cZ (bV [9]) 1) (cond (iy [9] 0) (cond (iV (dm [9] 0) 128) (cond (iy [9] 0) (bU (ai4 (sub e f d.1) (dm [9] 0)) fun p=>cond d.2.1 (cond (iG p.1 g) (l (dJ .i64 d.1 1) true)<|j e (dJ .i64 d.1 1) g i)<|cond (iG p.1 g) (l d.1 true)<|j e d.1 g i) a7) a7) a7) a7)<|Dw d e f g l j i) a7)<|q f
def Eg:Nat->dC->Int->dC->Bool->Option (Ri.den⊕Rj.den)
 |0,_,_,_,_=>a7
 |n+1,d,e,f,g=>Ry (Eg n) (fun i=>a6 (.inl ((i,()),()))) (fun j l=>a6 (.inr ((j,l,()),()))) d e f g
def axM (n:Nat) (v:aao.den):=Eg n v.1.1 v.1.2.1 v.2.1.1 v.2.1.2.1
noncomputable def ajM:dO:=iq arP aao Ri Rj (.exit 0) (axM bY) 6
def aiM (f:dC) (g:Int) (d:dC×xy):Option (Int×Bool×Unit):=bU (Eg bY f g d.1 d.2.1) fun i=>dX i (fun j=>a6 (j.1.1,(false,()))) (fun e=>a6 (e.1.1,(e.1.2.1,())))
def aD4:Sum:=⟨[.str,dL,EU],[(.int .i64,false),(.bool,false)],fun x=>aiM x.1 x.2.1 x.2.2.1⟩
noncomputable def af6:Env:=iE prog tt [(129,auT),(188,au7)] [(123,1,arP),(123,600005,axp)] [(123,1,ajM)] []
def ak2 {d:Type} (a:aao.den->Option d) (b:Ri.den->Option d) (c:Rj.den->Option d) (v:aao.den):Option d:=Ry (fun e f g i=>a ((e,f,()),((g,i,()),()))) (aE b) (aL c) v.1.1 v.1.2.1 v.2.1.1 v.2.1.2.1
theorem ayl:eY af6 123 apg ajM:=En (ak2) (h2:=by intros;simp only[ak2,aE,aL,Ry,dG,dH,bT,dw,dI,Dw])
theorem aCc:eP af6 123 aA5:=tC [apg] (aD (fM (ayl)) aN)
theorem amj:gm af6:=eB (aD Yr (aD aok aN)) [123] (aD ⟨f123,aA5,by kernel_rfl,by kernel_rfl,aCc⟩ aN)
theorem anY:eX prog 123 aD4:=sA amj
def agE:Option taU:=a6 (([84],([0],(true,()))),())
def alT:Sum:=⟨[],tzG,fun x=>agE⟩
theorem VW:eX prog 75 alT:=qA f75 [] aN
def Ah (d:Jn) (e:Bool):Option taU:=a6 ((d.1,(d.2.1,(e,()))),())
def aDZ:Sum:=⟨[.pair .str tyK,.bool],tzG,fun x=>Ah x.1 x.2.1⟩
theorem Pg:eX prog 101 aDZ:=qA f101 [] aN
def FH (d:Jn) (e:dC):Option taU:=cond (gy (bV d.1) 0 (fO .i64 (bV d.1) 1)) (cond (jf (sub d.1 0 (fO .i64 (bV d.1) 1)) e) (a6 (((bZ (sub d.1 0 (fO .i64 (bV d.1) 1)) e),(d.2.1,(d.2.2.1,()))),())) a7) a7
def aD0:Sum:=⟨[.pair .str tyK,.str],tzG,fun x=>FH x.1 x.2.1⟩
theorem Yo:eX prog 102 aD0:=qA f102 [] aN
def KY (d:Jn):Option taU:=cond (gy (bV d.1) 0 (fO .i64 (bV d.1) 1)) (cond (gy (bV d.2.1) 0 (fO .i64 (bV d.1) 1)) (a6 (((sub d.1 0 (fO .i64 (bV d.1) 1)),((sub d.2.1 0 (fO .i64 (bV d.1) 1)),(d.2.2.1,()))),())) a7) a7
def aD1:Sum:=⟨[.pair .str tyK],tzG,fun x=>KY x.1⟩
theorem Ph:eX prog 103 aD1:=qA f103 [] aN
noncomputable def b58:Code:=(f58.body).getD .skip
noncomputable def azz:Code:=cA (cA (cB (cA (cB (b58)))))
def az1:fZ:=⟨[0,1,5,100002],[],[],[],[4],[]⟩
def akB:SP:=⟨us [cJ,bN,.u,.u,.u,bL] 11,[]⟩
def ahp:SP:=⟨us [] 17,[]⟩
def ahL:SP:=⟨us [.u,.u,.u,.u,bX] 12,[]⟩
def VI {d:Type} (i:Int->dC->Int->Option d) (j:Option d) (l:Bool->Option d) (g:Int) (e:dC) (f:Int):Option d:=cond (iV f (bV e)) (cond (iy e f) (cond (cZ (dm e f) g) (l true)<|i g e (dJ .i64 f 1)) a7) j
def Em:Nat->Int->dC->Int->Option (ahp.den⊕ahL.den)
 |0,_,_,_=>a7
 |n+1,d,e,f=>VI (Em n) (a6 (.inl ((),()))) (fun g=>a6 (.inr ((g,()),()))) d e f
def aCW (n:Nat) (v:akB.den):=Em n v.1.1 v.1.2.1 v.1.2.2.1
noncomputable def as4:dO:=iq az1 akB ahp ahL (.exit 0) (aCW bY) 6
def Ob (d:Int) (e:dC):Option xy:=bU (Em bY d e 0) fun f=>dX f (fun i=>a6 (false,())) (fun g=>a6 (g.1.1,()))
def aAC:Sum:=⟨[.int .u8,.str],YK,fun x=>Ob x.1 x.2.1⟩
noncomputable def aqA:Env:=kU prog tt 58 [] [(2,az1)] [(2,as4)]
def aup {d:Type} (a:akB.den->Option d) (b:ahp.den->Option d) (c:ahL.den->Option d) (v:akB.den):Option d:=VI (fun e f g=>a ((e,f,g,()),())) (b ((),())) (aE c) v.1.1 v.1.2.1 v.1.2.2.1
theorem aDw:eY aqA 58 azz as4:=En (aup) (h2:=by intros;simp only[aup,aE,VI,dG,dH,bT,dw,dI])
theorem aGL:eP aqA 58 b58:=tC [azz] (aD (fM (aDw)) aN)
theorem aqB:gm aqA:=eA f58 aN (aGL)
theorem Nv:eX prog 58 aAC:=sA aqB
def ZB (d:Int):Option Fb:=cond (cZ d 32) (a6 (1,()))<|cond (cZ d 9) (a6 (1,()))<|cond (cZ d 10) (a6 (2,()))<|bU (Ob d [124,38,59,60,62,40,41]) fun e=>cond e.1 (a6 (3,()))<|bU (Ob d [92,39,34,96,36]) fun f=>cond f.1 (a6 (4,()))<|bU (Ob d [65,66,67,68,69,70,71,72,73,74,75,76,77,78,79,80,81,82,83,84,85,86,87,88,89,90,97,98,99,100,101,102,103,104,105,106,107,108,109,110,111,112,113,114,115,116,117,118,119,120,121,122,95]) fun g=>cond g.1 (a6 (5,()))<|bU (Ob d [48,49,50,51,52,53,54,55,56,57]) fun i=>cond i.1 (a6 (6,()))<|some (0,())
def avx:Sum:=⟨[.int .u8],Xg,fun x=>ZB x.1⟩
theorem Nu:eX prog 52 avx:=qA f52 [] (sE Nv aN)
def arp (e:Int):Option xy:=bU (ZB e) fun d=>cond (cZ d.1 1) (a6 (true,()))<|cond (cZ d.1 2) (a6 (true,()))<|some ((cZ d.1 3),())
def aAG:Sum:=⟨[.int .u8],YK,fun x=>arp x.1⟩
theorem afu:eX prog 76 aAG:=qA f76 [] (sE Nu aN)
def mX (d:Jn) (e:dC):=iG (bZ d.1 e) (bZ d.1 e)
def o9 (d:Jn):=qV dL d.2.1 d.2.1
def zi (d:Jn) (e:dC) (f:Int):Option taU:=cond (jf d.1 e) (cond (iG d.1 d.1) (cond (iG e e) (cond (jf d.1 e) (cond (mX d e) (cond (o9 d) (cond (cZ f f) (cond (kV d.2.2.1 d.2.2.1) (cond (fG (bZ [] d.2.1) 8) (cond (iG d.1 d.1) (cond (iG e e) (cond (jf d.1 e) (cond (mX d e) (cond (cZ f f) (cond (kV d.2.2.1 d.2.2.1) (cond (iG d.1 d.1) (cond (iG e e) (cond (jf d.1 e) (cond (mX d e) (cond (o9 d) (cond (kV d.2.2.1 d.2.2.1) (cond (fG (bZ (bZ [] d.2.1) [f]) 8) (cond (iG d.1 d.1) (cond (iG e e) (cond (jf d.1 e) (cond (mX d e) (cond (o9 d) (cond (cZ f f) (cond (kV d.2.2.1 d.2.2.1) (bU (cond (iG d.1 d.1) (cond (iG e e) (cond (jf d.1 e) (cond (mX d e) (cond (o9 d) (cond (kV d.2.2.1 d.2.2.1) (cond (fG (bZ [] d.2.1) 8) (cond (iG d.1 d.1) (cond (iG e e) (cond (jf d.1 e) (cond (mX d e) (cond (cZ f f) (cond (kV d.2.2.1 d.2.2.1) (cond (fG (bZ (bZ [] d.2.1) [f]) 8) (cond (iG d.1 d.1) (cond (iG e e) (cond (jf d.1 e) (cond (mX d e) (cond (o9 d) (cond (cZ f f) (cond (kV d.2.2.1 d.2.2.1) (cond (((((iG d.1 d.1)&&((o9 d)&&((kV d.2.2.1 d.2.2.1)&&true)))&&((iG e e)&&((cZ f f)&&((iG d.1 d.1)&&((iG e e)&&((mX d e)&&((o9 d)&&((cZ f f)&&((kV d.2.2.1 d.2.2.1)&&(((mX d e)&&((kV d.2.2.1 d.2.2.1)&&true))&&true))))))))))&&(((qV dL [f] [f])&&((qV dL (bZ (bZ [] d.2.1) [f]) (bZ (bZ [] d.2.1) [f]))&&(((mX d e)&&((kV d.2.2.1 d.2.2.1)&&true))&&(((iG d.1 d.1)&&((o9 d)&&((kV d.2.2.1 d.2.2.1)&&true)))&&true))))&&true))&&true) (a6 ()) (a7)) (a7)) (a7)) (a7)) (a7)) (a7)) (a7)) (a7)) (a7)) (a7)) (a7)) (a7)) (a7)) (a7)) (a7)) (a7)) (a7)) (a7)) (a7)) (a7)) (a7)) (a7)) fun g=>bU (cond (iG d.1 d.1) (cond (iG e e) (cond (jf d.1 e) (cond (mX d e) (cond (o9 d) (cond (kV d.2.2.1 d.2.2.1) (cond (iG d.1 d.1) (cond (iG e e) (cond (jf d.1 e) (cond (mX d e) (cond (o9 d) (cond (cZ f f) (cond (kV d.2.2.1 d.2.2.1) (cond (fG (bZ [] d.2.1) 8) (cond (iG d.1 d.1) (cond (iG e e) (cond (jf d.1 e) (cond (mX d e) (cond (cZ f f) (cond (kV d.2.2.1 d.2.2.1) (cond (fG (bZ (bZ [] d.2.1) [f]) 8) (cond (iG d.1 d.1) (cond (iG e e) (cond (jf d.1 e) (cond (mX d e) (cond (o9 d) (cond (cZ f f) (cond (kV d.2.2.1 d.2.2.1) (cond (((((iG d.1 d.1)&&((o9 d)&&((kV d.2.2.1 d.2.2.1)&&true)))&&((iG e e)&&((cZ f f)&&((iG d.1 d.1)&&((iG e e)&&((mX d e)&&((o9 d)&&((cZ f f)&&((kV d.2.2.1 d.2.2.1)&&(((mX d e)&&((kV d.2.2.1 d.2.2.1)&&true))&&true))))))))))&&(((qV dL [f] [f])&&((qV dL (bZ (bZ [] d.2.1) [f]) (bZ (bZ [] d.2.1) [f]))&&(((mX d e)&&((kV d.2.2.1 d.2.2.1)&&true))&&(((iG d.1 d.1)&&((o9 d)&&((kV d.2.2.1 d.2.2.1)&&true)))&&true))))&&true))&&true) (a6 ()) (a7)) (a7)) (a7)) (a7)) (a7)) (a7)) (a7)) (a7)) (a7)) (a7)) (a7)) (a7)) (a7)) (a7)) (a7)) (a7)) (a7)) (a7)) (a7)) (a7)) (a7)) (a7)) (a7)) (a7)) (a7)) (a7)) (a7)) (a7)) (a7)) fun i=>a6 (((bZ d.1 e),((bZ (bZ [] d.2.1) [f]),(d.2.2.1,()))),())) a7) a7) a7) a7) a7) a7) a7) a7) a7) a7) a7) a7) a7) a7) a7) a7) a7) a7) a7) a7) a7) a7) a7) a7) a7) a7) a7) a7) a7
def aEg:Sum:=⟨[.pair .str tyK,.str,dL],tzG,fun x=>zi x.1 x.2.1 x.2.2.1⟩
theorem Yv:eX prog 141 aEg:=qA f141 [] aN
def XB (d:Int):Option (dC×Unit):=cond (cZ d 92) (a6 ([88],()))<|cond (cZ d 36) (a6 ([76],()))<|cond (cZ d 96) (a6 ([66],()))<|some ([],())
def aEh:Sum:=⟨[.int .u8],tzI,fun x=>XB x.1⟩
theorem Yw:eX prog 142 aEh:=qA f142 [] aN
def Zq (e:Int) (d:Jn) (f:Int):Option taU:=bU (XB e) fun g=>bU (zi (d.1,(d.2.1,(d.2.2.1,()))) g.1 f) fun j=>cond (cZ e e) (bU (Ah j.1 false) fun i=>cond ((iG d.1 d.1)&&((qV dL d.2.1 d.2.1)&&((kV d.2.2.1 d.2.2.1)&&true))) (cond (cZ e e) (cond (cZ f f) (cond (((cZ e e)&&true)&&((iG g.1 g.1)&&true)) (a6 ((i.1.1,(i.1.2.1,(i.1.2.2.1,()))),())) a7) a7) a7) a7) a7
def Zr (g i:Int) (d:Jn) (j:Int):Option taU:=cond (cZ g 40) (cond (cZ i 84) (bU (Ah (d.1,(d.2.1,(d.2.2.1,()))) true) fun e=>a6 ((e.1.1,(e.1.2.1,(e.1.2.2.1,()))),()))<|bU (zi (d.1,(d.2.1,(d.2.2.1,()))) [80] j) fun e=>bU (Ah e.1 true) fun f=>a6 ((f.1.1,(f.1.2.1,(f.1.2.2.1,()))),()))<|cond (cZ g 41) (cond (cZ i 84) (bU (Ah (d.1,(d.2.1,(d.2.2.1,()))) true) fun e=>a6 ((e.1.1,(e.1.2.1,(e.1.2.2.1,()))),()))<|bU (KY (d.1,(d.2.1,(d.2.2.1,())))) fun e=>bU (Ah e.1 (cZ i 80)) fun f=>a6 ((f.1.1,(f.1.2.1,(f.1.2.2.1,()))),()))<|bU (arp g) fun e=>bU (Ah (d.1,(d.2.1,(d.2.2.1,()))) e.1) fun f=>cond (cZ g g) (a6 ((f.1.1,(f.1.2.1,(f.1.2.2.1,()))),())) a7
def aiR (d:Jn) (j f g:Int):Option taU:=cond (cZ f 92) (bU (zi (d.1,(d.2.1,(d.2.2.1,()))) [88] g) fun e=>a6 ((e.1.1,(e.1.2.1,(e.1.2.2.1,()))),()))<|cond (cZ f 39) (bU (zi (d.1,(d.2.1,(d.2.2.1,()))) [83] g) fun e=>bU (Ah e.1 false) fun i=>a6 ((i.1.1,(i.1.2.1,(i.1.2.2.1,()))),()))<|cond (cZ f 34) (bU (zi (d.1,(d.2.1,(d.2.2.1,()))) [68] g) fun e=>bU (Ah e.1 false) fun i=>a6 ((i.1.1,(i.1.2.1,(i.1.2.2.1,()))),()))<|cond (cZ f 96) (Zq f d g)<|cond (cZ f 36) (Zq f d g)<|cond (cZ f 35) (cond d.2.2.1 (bU (zi (d.1,(d.2.1,(d.2.2.1,()))) [35] g) fun e=>a6 ((e.1.1,(e.1.2.1,(e.1.2.2.1,()))),()))<|Zr f j d g)<|Zr f j d g
def aEf:Sum:=⟨[.pair .str tyK,.int .u8,.int .u8,dL],tzG,fun x=>aiR x.1 x.2.1 x.2.2.1 x.2.2.2.1⟩
theorem an6:eX prog 140 aEf:=qA f140 [] (sE afu (sE Pg (sE Ph (sE Yv (sE Yw aN)))))
def D8 (d:Jn) (f g i:Int):Option taU:=bU (aiR (d.1,(d.2.1,(d.2.2.1,()))) f g i) fun e=>a6 ((e.1.1,(e.1.2.1,(e.1.2.2.1,()))),())
def xG (d:Jn):Option taU:=bU (KY (d.1,(d.2.1,(d.2.2.1,())))) fun e=>a6 ((e.1.1,(e.1.2.1,(e.1.2.2.1,()))),())
def Hr (f:Int) (d:Jn):Option taU:=cond (cZ f 41) (bU (FH (d.1,(d.2.1,(d.2.2.1,()))) [69]) fun e=>a6 ((e.1.1,(e.1.2.1,(e.1.2.2.1,()))),()))<|some ((d.1,(d.2.1,(d.2.2.1,()))),())
def Ht (e:Int) (d:Jn) (g i:Int):Option taU:=cond (cZ e 40) (bU (zi (d.1,(d.2.1,(d.2.2.1,()))) [82] g) fun f=>a6 ((f.1.1,(f.1.2.1,(f.1.2.2.1,()))),()))<|cond (cZ e 41) (cond (cZ i 82) (xG d)<|Hr e d)<|Hr e d
def IY (d:Jn) (g e j:Int):Option taU:=cond (cZ g 84) (D8 d g e j)<|cond (cZ g 67) (D8 d g e j)<|cond (cZ g 80) (D8 d g e j)<|cond (cZ g 88) (bU (KY (d.1,(d.2.1,(d.2.2.1,())))) fun i=>cond (!(cZ e 10)) (bU (Ah (i.1.1,(i.1.2.1,(i.1.2.2.1,()))) false) fun f=>a6 ((f.1.1,(f.1.2.1,(f.1.2.2.1,()))),()))<|some ((i.1.1,(i.1.2.1,(i.1.2.2.1,()))),()))<|cond (cZ g 83) (cond (cZ e 39) (xG d)<|some ((d.1,(d.2.1,(d.2.2.1,()))),()))<|cond (cZ g 35) (cond (cZ e 10) (bU (KY (d.1,(d.2.1,(d.2.2.1,())))) fun i=>bU (Ah i.1 true) fun f=>a6 ((f.1.1,(f.1.2.1,(f.1.2.2.1,()))),()))<|some ((d.1,(d.2.1,(d.2.2.1,()))),()))<|cond (cZ g 66) (cond (cZ e 96) (xG d)<|cond (cZ e 92) (bU (zi (d.1,(d.2.1,(d.2.2.1,()))) [88] j) fun i=>a6 ((i.1.1,(i.1.2.1,(i.1.2.2.1,()))),()))<|some ((d.1,(d.2.1,(d.2.2.1,()))),()))<|bU (XB e) fun i=>cond (!(iG i.1 [])) (bU (XB e) fun f=>bU (zi (d.1,(d.2.1,(d.2.2.1,()))) f.1 j) fun l=>cond (cZ e e) (a6 ((l.1.1,(l.1.2.1,(l.1.2.2.1,()))),())) a7)<|cond (cZ g 65) (Ht e d j g)<|cond (cZ g 82) (Ht e d j g)<|cond (cZ g 68) (cond (cZ e 34) (xG d)<|some ((d.1,(d.2.1,(d.2.2.1,()))),()))<|cond (cZ e 34) (bU (zi (d.1,(d.2.1,(d.2.2.1,()))) [68] j) fun f=>a6 ((f.1.1,(f.1.2.1,(f.1.2.2.1,()))),()))<|cond (cZ e 125) (xG d)<|cond (cZ e 39) (cond (cZ g 86) (bU (zi (d.1,(d.2.1,(d.2.2.1,()))) [83] j) fun f=>a6 ((f.1.1,(f.1.2.1,(f.1.2.2.1,()))),()))<|some ((d.1,(d.2.1,(d.2.2.1,()))),()))<|some ((d.1,(d.2.1,(d.2.2.1,()))),())
def aD2:Sum:=⟨[.pair .str tyK,.int .u8,.int .u8,dL],tzG,fun x=>IY x.1 x.2.1 x.2.2.1 x.2.2.2.1⟩
theorem anU:eX prog 104 aD2:=qA f104 [] (sE Pg (sE Yo (sE Ph (sE an6 (sE Yv (sE Yw aN))))))
def agF (d:Jn) (g i:Int):Option taU:=cond (iy d.1 (fO .i64 (bV d.1) 1)) (cond (cZ (dm d.1 (fO .i64 (bV d.1) 1)) 76) (cond (cZ g 40) (bU (FH (d.1,(d.2.1,(d.2.2.1,()))) [79]) fun e=>bU (Ah e.1 true) fun f=>a6 ((f.1.1,(f.1.2.1,(f.1.2.2.1,()))),()))<|cond (cZ g 123) (cond (iy d.1 (fO .i64 (bV d.1) 2)) (cond (cZ (dm d.1 (fO .i64 (bV d.1) 2)) 68) (bU (FH (d.1,(d.2.1,(d.2.2.1,()))) [73]) fun e=>a6 ((e.1.1,(e.1.2.1,(e.1.2.2.1,()))),()))<|cond (iy d.1 (fO .i64 (bV d.1) 2)) (cond (cZ (dm d.1 (fO .i64 (bV d.1) 2)) 73) (bU (FH (d.1,(d.2.1,(d.2.2.1,()))) [73]) fun e=>a6 ((e.1.1,(e.1.2.1,(e.1.2.2.1,()))),()))<|bU (FH (d.1,(d.2.1,(d.2.2.1,()))) [86]) fun e=>a6 ((e.1.1,(e.1.2.1,(e.1.2.2.1,()))),())) a7) a7)<|bU (KY (d.1,(d.2.1,(d.2.2.1,())))) fun e=>cond (cZ g 36) (a6 ((e.1.1,(e.1.2.1,(e.1.2.2.1,()))),()))<|cond (iy e.1.1 (fO .i64 (bV e.1.1) 1)) (bU (IY (e.1.1,(e.1.2.1,(e.1.2.2.1,()))) (dm e.1.1 (fO .i64 (bV e.1.1) 1)) g i) fun f=>a6 ((f.1.1,(f.1.2.1,(f.1.2.2.1,()))),())) a7)<|cond (cZ (dm d.1 (fO .i64 (bV d.1) 1)) 79) (cond (cZ g 40) (bU (FH (d.1,(d.2.1,(d.2.2.1,()))) [65]) fun e=>bU (Ah e.1 false) fun f=>a6 ((f.1.1,(f.1.2.1,(f.1.2.2.1,()))),()))<|bU (FH (d.1,(d.2.1,(d.2.2.1,()))) [67]) fun e=>bU (IY (e.1.1,(e.1.2.1,(e.1.2.2.1,()))) 67 g i) fun f=>a6 ((f.1.1,(f.1.2.1,(f.1.2.2.1,()))),()))<|cond (cZ (dm d.1 (fO .i64 (bV d.1) 1)) 69) (cond (cZ g 41) (bU (KY (d.1,(d.2.1,(d.2.2.1,())))) fun e=>a6 ((e.1.1,(e.1.2.1,(e.1.2.2.1,()))),()))<|bU (FH (d.1,(d.2.1,(d.2.2.1,()))) [65]) fun e=>bU (IY (e.1.1,(e.1.2.1,(e.1.2.2.1,()))) 65 g i) fun f=>a6 ((f.1.1,(f.1.2.1,(f.1.2.2.1,()))),()))<|bU (IY (d.1,(d.2.1,(d.2.2.1,()))) (dm d.1 (fO .i64 (bV d.1) 1)) g i) fun e=>a6 ((e.1.1,(e.1.2.1,(e.1.2.2.1,()))),())) a7
def alU:Sum:=⟨[.pair .str tyK,.int .u8,dL],tzG,fun x=>agF x.1 x.2.1 x.2.2.1⟩
theorem VX:eX prog 77 alU:=qA f77 [] (sE Pg (sE Yo (sE Ph (sE anU aN))))
noncomputable def aFD:Code:=(Tryz.f143.body).getD .skip
noncomputable def apl:Code:=cA (cA (cB (cA (cB (aFD)))))
def arS:fZ:=⟨[1,2,5,100002],[],[],[],[4],[]⟩
def aat:SP:=⟨us [.u,bL,er,.u,.u,bL] 15,[.box 1000002 110 eD]⟩
def aaW:SP:=⟨us [] 21,[]⟩
def abu:SP:=⟨us cS 16,[]⟩
def RG {e:Type} (i:Int->Int->dC->lq->Bool->Option e) (j:Option e) (l:Int->Option e) (g d:Int) (m:dC) (f:lq) (p:Bool):Option e:=cond (iV d (bV f)) (cond (iy f d) (cond (cZ (gW f 0 d) g) (l d)<|i g (dJ .i64 d 1) m f p) a7) j
def Ib:Nat->Int->Int->dC->lq->Bool->Option (aaW.den⊕abu.den)
 |0,_,_,_,_,_=>a7
 |n+1,d,e,f,g,i=>RG (Ib n) (a6 (.inl ((),()))) (fun j=>a6 (.inr ((j,()),()))) d e f g i
def axR (n:Nat) (v:aat.den):=Ib n v.1.1 v.1.2.1 v.2.1.1 v.2.1.2.1 v.2.1.2.2.1
noncomputable def ajR:dO:=iq arS aat aaW abu (.exit 0) (axR bY) 6
def adE (d:Jn) (e:Int):Option Fb:=bU (Ib bY e 1 d.1 d.2.1 d.2.2.1) fun f=>dX f (fun i=>a6 (0,())) (fun g=>a6 (g.1.1,()))
def auX:Sum:=⟨[.pair .str tyK,dL],Xg,fun x=>adE x.1 x.2.1⟩
noncomputable def agc:Env:=kU prog tt 143 [] [(2,arS)] [(2,ajR)]
def ak7 {d:Type} (a:aat.den->Option d) (b:aaW.den->Option d) (c:abu.den->Option d) (v:aat.den):Option d:=RG (fun e f g i j=>a ((e,f,()),((g,i,j,()),()))) (b ((),())) (aE c) v.1.1 v.1.2.1 v.2.1.1 v.2.1.2.1 v.2.1.2.2.1
theorem ayq:eY agc 143 apl ajR:=En (ak7) (h2:=by intros;simp only[ak7,aE,RG,dG,dH,bT,dw,dI])
theorem aCk:eP agc 143 aFD:=tC [apl] (aD (fM (ayq)) aN)
theorem amu:gm agc:=eA Tryz.f143 aN (aCk)
theorem an7:eX prog 143 auX:=sA amu
noncomputable def aFE:Code:=(f144.body).getD .skip
noncomputable def apm:Code:=cA (cA (cB (cA (cB (cB (cB (aFE)))))))
def arT:fZ:=⟨[0,3,100006],[],[],[],[2],[]⟩
def aau:SP:=⟨us [cJ,.u,.u,bL] 13,[]⟩
def aaX:SP:=⟨us [] 17,[]⟩
def abv:SP:=⟨us dx 14,[]⟩
def acf {e:Type} (g:Int->Int->Option e) (i:Option e) (j:Int->Option e) (f d:Int):Option e:=cond (iV d 15) (cond (iy [84,67,80,79,83,68,66,86,73,65,82,69,76,88,35] d) (cond (cZ (dm [84,67,80,79,83,68,66,86,73,65,82,69,76,88,35] d) f) (j d)<|g f (dJ .i64 d 1)) a7) i
def ZX:Nat->Int->Int->Option (aaX.den⊕abv.den)
 |0,_,_=>a7
 |n+1,d,e=>acf (ZX n) (a6 (.inl ((),()))) (fun f=>a6 (.inr ((f,()),()))) d e
def axS (n:Nat) (v:aau.den):=ZX n v.1.1 v.1.2.1
noncomputable def ajS:dO:=iq arT aau aaX abv (.exit 0) (axS bY) 6
def aiS (d:Int):Option Fb:=cond (cZ d 79) (a6 (1,()))<|cond (cZ d 69) (a6 (9,()))<|bU (ZX bY d 0) fun e=>dX e (fun g=>a6 (0,())) (fun f=>a6 (f.1.1,()))
def auY:Sum:=⟨[.int .u8],Xg,fun x=>aiS x.1⟩
noncomputable def agd:Env:=kU prog tt 144 [] [(6,arT)] [(6,ajS)]
def ak8 {d:Type} (a:aau.den->Option d) (b:aaX.den->Option d) (c:abv.den->Option d) (v:aau.den):Option d:=acf (aL a) (b ((),())) (aE c) v.1.1 v.1.2.1
theorem ayr:eY agd 144 apm ajS:=En (ak8) (h2:=by intros;simp only[ak8,aL,aE,acf,dG,dH,bT,dw,dI])
theorem aCl:eP agd 144 aFE:=tC [apm] (aD (fM (ayr)) aN)
theorem amv:gm agd:=eA f144 aN (aCl)
theorem an8:eX prog 144 auY:=sA amv
noncomputable def aFF:Code:=(f147.body).getD .skip
noncomputable def apo:Code:=cA (cA (cB (cA (cB (cB (aFF))))))
def aaw:SP:=⟨us [bN,.u,.u,bL] 27,[]⟩
def aaZ:SP:=⟨us [] 31,[]⟩
def abx:SP:=⟨us [.u,.u,bX] 28,[]⟩
def RH {f:Type} (g:dC->Int->Option f) (i:Option f) (j:Bool->Option f) (d:dC) (e:Int):Option f:=cond (iV e (bV d)) (cond (iy d e) (bU (ZB (dm d e)) fun l=>cond (!(cZ l.1 5)) (cond (iy d e) (bU (ZB (dm d e)) fun m=>cond (!(cZ m.1 6)) (j false)<|g d (dJ .i64 e 1)) a7)<|g d (dJ .i64 e 1)) a7) i
def Ic:Nat->dC->Int->Option (aaZ.den⊕abx.den)
 |0,_,_=>a7
 |n+1,d,e=>RH (Ic n) (a6 (.inl ((),()))) (fun f=>a6 (.inr ((f,()),()))) d e
def axU (n:Nat) (v:aaw.den):=Ic n v.1.1 v.1.2.1
noncomputable def ajU:dO:=iq ZP aaw aaZ abx (.exit 0) (axU bY) 6
def TY (d:dC):Option xy:=cond (cZ (bV d) 0) (a6 (false,()))<|cond (iy d 0) (bU (ZB (dm d 0)) fun e=>cond (!(cZ e.1 5)) (a6 (false,()))<|bU (Ic bY d 1) fun f=>dX f (fun i=>a6 (true,())) (fun g=>a6 (g.1.1,()))) a7
def VT:Sum:=⟨[.str],YK,fun x=>TY x.1⟩
noncomputable def age:Env:=kU prog tt 147 [(52,avx)] [(4,ZP)] [(4,ajU)]
def ala {d:Type} (a:aaw.den->Option d) (b:aaZ.den->Option d) (c:abx.den->Option d) (v:aaw.den):Option d:=RH (aL a) (b ((),())) (aE c) v.1.1 v.1.2.1
theorem ayt:eY age 147 apo ajU:=En (ala) (h2:=by intros;simp only[ala,aL,aE,RH,dG,dH,bT,dw,dI])
theorem aCn:eP age 147 aFF:=tC [apo] (aD (fM (ayt)) aN)
theorem amx:gm age:=eA f147 (aD Nu aN) (aCn)
theorem IE:eX prog 147 VT:=sA amx
noncomputable def aFH:Code:=(f175.body).getD .skip
noncomputable def aps:Code:=cA (cA (cB (cA (cB (cB (aFH))))))
def ZQ:fZ:=⟨[0,1,5,6,100003],[],[5],[],[4],[]⟩
def aaA:SP:=⟨us [bN,bL,.u,.u,.u,bL,bL] 17,[]⟩
def aa3:SP:=⟨us [.u,.u,.u,.u,.u,bL] 18,[]⟩
def abB:SP:=⟨us cS 19,[]⟩
def RN {g:Type} (i:dC->Int->Int->Int->Option g) (l p:Int->Option g) (f:dC) (d j e:Int):Option g:=cond (leI e (fO .i64 (bV f) d)) (cond (gy (bV f) d (dJ .i64 d e)) (bU (TY (sub f d (dJ .i64 d e))) fun m=>cond m.1 (i f d e (dJ .i64 e 1))<|i f d j (dJ .i64 e 1)) a7)<|l j
def Ie:Nat->dC->Int->Int->Int->Option (aa3.den⊕abB.den)
 |0,_,_,_,_=>a7
 |n+1,d,e,f,g=>RN (Ie n) (fun i=>a6 (.inl ((i,()),()))) (fun j=>a6 (.inr ((j,()),()))) d e f g
def axY (n:Nat) (v:aaA.den):=aM (Ie n) v
noncomputable def ajX:dO:=iq ZQ aaA aa3 abB (.exit 0) (axY bY) 6
def ai3 (d:dC) (e:Int):Option Fb:=bU (Ie bY d e 0 1) fun f=>dX f (fun g=>a6 (g.1.1,())) (fun i=>a6 (i.1.1,()))
def aEp:Sum:=⟨[.str,dL],Xg,fun x=>ai3 x.1 x.2.1⟩
noncomputable def agj:Env:=kU prog tt 175 [(147,VT)] [(3,ZQ)] [(3,ajX)]
def ale {d:Type} (a:aaA.den->Option d) (b:aa3.den->Option d) (c:abB.den->Option d) (v:aaA.den):Option d:=aM (RN (fun e f g i=>a ((e,f,g,i,()),())) (aE b) (aE c)) v
theorem ayx:eY agj 175 aps ajX:=En (ale) (h2:=by intros;simp only[ale,aE,aM,RN,dG,dH,bT,dw,dI])
theorem aCr:eP agj 175 aFH:=tC [aps] (aD (fM (ayx)) aN)
theorem amD:gm agj:=eA f175 (aD IE aN) (aCr)
theorem aoj:eX prog 175 aEp:=sA amD
def aiT (d:dC) (e:Int):Option Fb:=bU (ai3 d e) fun f=>cond (cZ f.1 0) (cond (iV e (bV d)) (cond (iy d e) (bU (ZB (dm d e)) fun g=>cond (cZ g.1 6) (a6 (1,()))<|cond (iy d e) (bU (Ob (dm d e) [64,42,35,63,45,36,33]) fun i=>cond i.1 (a6 (1,()))<|some (f.1,())) a7) a7)<|some (f.1,()))<|some (f.1,())
def auZ:Sum:=⟨[.str,dL],Xg,fun x=>aiT x.1 x.2.1⟩
theorem an9:eX prog 145 auZ:=qA f145 [] (sE Nu (sE Nv (sE aoj aN)))
noncomputable def ao3:Code:=(f105.body).getD .skip
noncomputable def apc:Code:=cA (cA (cB (cA (cB (cB (ao3))))))
noncomputable def air:Code:=cA (cA (cB (cA (cB (cB (cB (cA (cA (cB (cA (cA (cB (cA (cB (cB (cB (cB (ao3))))))))))))))))))
noncomputable def ais:Code:=cA (cA (cB (cA (cB (cB (cB (cB (cA (cA (cB (cA (cA (cB (cA (cB (cB (cB (cB (ao3)))))))))))))))))))
noncomputable def apd:Code:=cA (cA (cB (cA (cB (cB (cB (cB (ao3))))))))
def arL:fZ:=⟨[0,3,4,100003],[],[0,3],[],[2],[(2,J7)]⟩
def ajq:fZ:=⟨[0,3,5,6,7,8,9,100014],[],[0,3,5,6,7,8],[],[2],[(2,J7)]⟩
def ajr:fZ:=⟨[0,3,5,6,7,8,10,100019],[],[0,3,5,6,8],[],[2],[(2,J7)]⟩
def arM:fZ:=⟨[0,3,5,6,100008],[(5,J7)],[5],[],[2],[(2,J7)]⟩
def aak:SP:=⟨us [bN,.u,.u,dq,bL] 117,[cP]⟩
def aaO:SP:=⟨us [bN,.u,.u,dq] 118,[cP]⟩
def abl:SP:=⟨du,[]⟩
def Rt {g:Type} (j:dC->Int->(List Jn)->Option g) (l:dC->(List Jn)->Option g) (m:(List jT)->Option g) (f:dC) (d:Int) (e:List Jn):Option g:=cond (iV d (bV f)) (cond (iy e d) (cond (iy f d) (cond (qO (dM d) e) (bU (agF ((dU e ([],([],(false,()))) (dM d)).1,((dU e ([],([],(false,()))) (dM d)).2.1,((dU e ([],([],(false,()))) (dM d)).2.2.1,()))) (dm f d) d) fun i=>cond (fG (bZ e [i.1]) 48) (j f (dJ .i64 d 1) (bZ e [i.1])) a7) a7) a7) a7)<|l f e
def H9:Nat->dC->Int->(List Jn)->Option (aaO.den⊕abl.den)
 |0,_,_,_=>a7
 |n+1,d,e,f=>Rt (H9 n) (fun g i=>a6 (.inl ((g,()),(i,())))) (fun j=>a6 (.inr ((j,()),()))) d e f
def axI (n:Nat) (v:aak.den):=H9 n v.1.1 v.1.2.1 v.2.1
noncomputable def ajI:dO:=iq arL aak aaO abl (.exit 0) (axI bY) 6
def Q4:SP:=⟨us [bN,.u,.u,dq,.u,c9,bL,bL,ev,bL] 112,ci⟩
def U2:SP:=⟨us [bN,.u,.u,dq,.u,c9,bL,bL,ev] 113,ci⟩
def Va:SP:=⟨du,[]⟩
def MZ {j:Type} (v:dC->Int->Int->Int->Int->Int->Int->Int->Bool->(List jT)->(List Jn)->Option j) (y:dC->Int->Int->Int->Int->Int->Int->Bool->(List jT)->(List Jn)->Option j) (z:(List jT)->Option j) (l:dC) (d i e m p q x:Int) (u:Bool) (f:List jT) (g:List Jn):Option j:=cond (iV e (bV f)) (cond (iV 1 i) (cond (iy f e) (cond (qO (dM e) f) (cond (iy g (dJ .i64 d 1)) (cond (qO (dM (dJ .i64 d 1)) g) (cond (iy (dU g ([],([],(false,()))) (dM (dJ .i64 d 1))).2.1 (fO .i64 i 1)) (cond (cZ (dU f (0,(0,(0,(0,(false,()))))) (dM e)).2.1 (gW (dU g ([],([],(false,()))) (dM (dJ .i64 d 1))).2.1 0 (fO .i64 i 1))) (v l d i (dJ .i64 e 1) m p q e u f g)<|v l d i (dJ .i64 e 1) m p q x u f g) a7) a7) a7) a7) a7)<|v l d i (dJ .i64 e 1) m p q x u f g)<|y l d i m p q x u f g
def Dc:Nat->dC->Int->Int->Int->Int->Int->Int->Int->Bool->(List jT)->(List Jn)->Option (U2.den⊕Va.den)
 |0,_,_,_,_,_,_,_,_,_,_,_=>a7
 |n+1,d,e,f,g,i,j,l,m,p,q,u=>MZ (Dc n) (fun v x y z A B D I J K=>a6 (.inl ((v,x,y,()),((z,A,B,D,I,()),J,K,())))) (fun L=>a6 (.inr ((L,()),()))) d e f g i j l m p q u
def asD (n:Nat) (v:Q4.den):=aR (Dc n) v
noncomputable def aes:dO:=iq ajq Q4 U2 Va (.exit 4) (asD bY) 12
def Q5:SP:=⟨us [bN,.u,.u,dq,.u,c9,bL,bL,ev,.u,bL] 111,ci⟩
def U3:SP:=⟨us [bN,.u,.u,dq,.u,c9,bL,.u,ev] 113,ci⟩
def Vb:SP:=⟨du,[]⟩
def Dv {f:Type} (y:dC->Int->Int->Int->Int->Int->Int->Int->Bool->(List jT)->(List Jn)->Option f) (q:dC->Int->Int->Int->Int->Int->Bool->(List jT)->(List Jn)->Option f) (B:(List jT)->Option f) (g:dC) (i j d u l v m:Int) (x:Bool) (p:List jT) (e:List Jn):Option f:=cond (leI d (bV g)) (cond (iy e d) (cond (qO (dM d) e) (bU (adE ((dU e ([],([],(false,()))) (dM d)).1,((dU e ([],([],(false,()))) (dM d)).2.1,((dU e ([],([],(false,()))) (dM d)).2.2.1,()))) i) fun z=>cond (cZ z.1 0) (q g i u l d m false p e)<|cond (iy e d) (cond (qO (dM d) e) (cond (iy (dU e ([],([],(false,()))) (dM d)).1 j) (bU (aiS (dm (dU e ([],([],(false,()))) (dM d)).1 j)) fun A=>y g i j (dJ .i64 d 1) A.1 l v m x p e) a7) a7) a7) a7) a7)<|q g i u l v m x p e
def zA:Nat->dC->Int->Int->Int->Int->Int->Int->Int->Bool->(List jT)->(List Jn)->Option (U3.den⊕Vb.den)
 |0,_,_,_,_,_,_,_,_,_,_,_=>a7
 |n+1,d,e,f,g,i,j,l,m,p,q,u=>Dv (zA n) (fun v x y z A B D I J=>a6 (.inl ((v,x,()),((y,z,A,B,D,()),I,J,())))) (fun K=>a6 (.inr ((K,()),()))) d e f g i j l m p q u
def asE (n:Nat) (v:Q5.den):=aR (zA n) v
noncomputable def aet:dO:=iq ajr Q5 U3 Vb (.exit 6) (asE bY) 18
def aal:SP:=⟨us [bN,.u,.u,dq,.u,c9,bL] 115,[.arr 1800005 J7,cP]⟩
def aaP:SP:=⟨us [.u,.u,.u,.u,.u,c9] 116,[.arr 1800005 J7]⟩
def abm:SP:=⟨du,[]⟩
def Ru {j:Type} (l:dC->Int->(List jT)->(List Jn)->Option j) (v p:(List jT)->Option j) (i:dC) (f:Int) (m:List jT) (g:List Jn):Option j:=cond (iV f (bV i)) (cond (iy g (dJ .i64 f 1)) (cond (qO (dM (dJ .i64 f 1)) g) (bU (adE ((dU g ([],([],(false,()))) (dM (dJ .i64 f 1))).1,((dU g ([],([],(false,()))) (dM (dJ .i64 f 1))).2.1,((dU g ([],([],(false,()))) (dM (dJ .i64 f 1))).2.2.1,()))) f) fun q=>cond (cZ q.1 0) (l i (dJ .i64 f 1) m g)<|bU (Dc bY i f q.1 0 0 f (bV i) (-1) true m g) fun x=>dX x (fun e=>bU (zA bY e.1.1 e.1.2.1 e.1.2.2.1 (dJ .i64 e.1.2.1 1) e.2.1.1 e.2.1.2.1 e.2.1.2.2.1 e.2.1.2.2.2.1 e.2.1.2.2.2.2.1 e.2.2.1 e.2.2.2.1) fun y=>dX y (fun d=>cond (cZ d.2.1.1 12) (bU (aiT d.1.1 (dJ .i64 d.1.2.1 1)) fun u=>cond (fG (bZ d.2.2.1 [(d.2.1.1,(d.2.1.2.1,((dJ .i64 (dJ .i64 d.1.2.1 1) u.1),(d.2.1.2.2.2.1,(false,())))))]) 40) (l d.1.1 (dJ .i64 d.1.2.1 1) (bZ d.2.2.1 [(d.2.1.1,(d.2.1.2.1,((dJ .i64 (dJ .i64 d.1.2.1 1) u.1),(d.2.1.2.2.2.1,(false,())))))]) d.2.2.2.1) a7)<|cond (fG (bZ d.2.2.1 [(d.2.1.1,(d.2.1.2.1,(d.2.1.2.2.1,(d.2.1.2.2.2.1,(d.2.1.2.2.2.2.1,())))))]) 40) (l d.1.1 (dJ .i64 d.1.2.1 1) (bZ d.2.2.1 [(d.2.1.1,(d.2.1.2.1,(d.2.1.2.2.1,(d.2.1.2.2.2.1,(d.2.1.2.2.2.2.1,())))))]) d.2.2.2.1) a7) (fun z=>p z.1.1)) (fun A=>p A.1.1)) a7) a7)<|v m
def Ef:Nat->dC->Int->(List jT)->(List Jn)->Option (aaP.den⊕abm.den)
 |0,_,_,_,_=>a7
 |n+1,d,e,f,g=>Ru (Ef n) (fun i=>a6 (.inl ((),(i,())))) (fun j=>a6 (.inr ((j,()),()))) d e f g
def axJ (n:Nat) (v:aal.den):=Ef n v.1.1 v.1.2.1 v.2.1 v.2.2.1
noncomputable def ajJ:dO:=iq arM aal aaP abm (.exit 2) (axJ bY) 24
def aiL (e:dC):Option ((List jT)×Unit):=bU agE fun f=>bU (H9 bY e 0 [f.1]) fun g=>dX g (fun d=>bU (Ef bY d.1.1 0 [] d.2.1) fun i=>dX i (fun j=>a6 (j.2.1,())) (fun l=>a6 (l.1.1,()))) (fun m=>a6 (m.1.1,()))
def auO:Sum:=⟨[.str],[(.list J7,false)],fun x=>aiL x.1⟩
noncomputable def NW:Env:=kU prog tt 105 [(75,alT),(77,alU),(143,auX),(144,auY),(145,auZ)] [(3,arL),(14,ajq),(19,ajr),(8,arM)] [(3,ajI),(14,aes),(19,aet),(8,ajJ)]
def akY {d:Type} (a:aak.den->Option d) (b:aaO.den->Option d) (c:abl.den->Option d) (v:aak.den):Option d:=Rt (fun e f g=>a ((e,f,()),(g,()))) (fun i j=>b ((i,()),(j,()))) (aE c) v.1.1 v.1.2.1 v.2.1
theorem ayh:eY NW 105 apc ajI:=En (akY) (h2:=by intros;simp only[akY,aE,Rt,dG,dH,bT,dw,dI])
def afd {d:Type} (a:Q4.den->Option d) (b:U2.den->Option d) (c:Va.den->Option d) (v:Q4.den):Option d:=aR (MZ (fun e f g i j l m p q u x=>a ((e,f,g,i,()),((j,l,m,p,q,()),u,x,()))) (fun y z A B D I J K L M=>b ((y,z,A,()),((B,D,I,J,K,()),L,M,()))) (aE c)) v
theorem atq:eY NW 105 air aes:=En (afd) (h2:=by intros;simp only[afd,aE,aR,MZ,dG,dH,bT,dw,dI])
def afe {d:Type} (a:Q5.den->Option d) (b:U3.den->Option d) (c:Vb.den->Option d) (v:Q5.den):Option d:=aR (Dv (fun e f g i j l m p q u x=>a ((e,f,g,i,()),((j,l,m,p,q,()),u,x,()))) (fun y z A B D I J K L=>b ((y,z,()),((A,B,D,I,J,()),K,L,()))) (aE c)) v
theorem atr:eY NW 105 ais aet:=En (afe) (h2:=by intros;simp only[afe,aE,aR,Dv,dG,dH,bT,dw,dI])
def akZ {d:Type} (a:aal.den->Option d) (b:aaP.den->Option d) (c:abm.den->Option d) (v:aal.den):Option d:=Ru (fun e f g i=>a ((e,f,()),(g,i,()))) (fun j=>b ((),(j,()))) (aE c) v.1.1 v.1.2.1 v.2.1 v.2.2.1
theorem ayi:eY NW 105 apd ajJ:=En (akZ) (h2:=by intros;simp only[akZ,aE,Ru,dG,dH,bT,dw,dI])
theorem aB8:eP NW 105 ao3:=tC [apc,air,ais,apd] (aD (fM (ayh)) (aD (fM (atq)) (aD (fM (atr)) (aD (fM (ayi)) aN))))
theorem amf:gm NW:=eA f105 (aD VW (aD VX (aD an7 (aD an8 (aD an9 aN))))) (aB8)
theorem anV:eX prog 105 auO:=sA amf
noncomputable def b79:Code:=(f79.body).getD .skip
noncomputable def azE:Code:=cA (cA (cB (cA (cB (cB (b79))))))
def az4:fZ:=⟨[0,2,3,4,100003],[],[2,3],[],[2],[]⟩
def akG:SP:=⟨us [bN,.u,er,cR,bL] 14,da⟩
def ahu:SP:=⟨us [.u,.u,er,cR] 15,da⟩
def ahP:SP:=⟨us [] 19,[]⟩
def acz {e:Type} (q:dC->Int->dC->lq->Bool->dC->Bool->Option e) (u:dC->lq->Bool->dC->Bool->Option e) (v:Option e) (f:dC) (d:Int) (i:dC) (j:lq) (l:Bool) (m:dC) (p:Bool):Option e:=cond (iV d (bV f)) (cond (iy f d) (bU (agF (i,(j,(l,()))) (dm f d) d) fun g=>q f (dJ .i64 d 1) g.1.1 g.1.2.1 g.1.2.2.1 m p) a7)<|u i j l m p
def UJ:Nat->dC->Int->dC->lq->Bool->dC->Bool->Option (ahu.den⊕ahP.den)
 |0,_,_,_,_,_,_,_=>a7
 |n+1,d,e,f,g,i,j,l=>acz (UJ n) (fun m p q u v=>a6 (.inl ((),((m,p,q,()),(u,v,()),())))) (a6 (.inr ((),()))) d e f g i j l
def aC1 (n:Nat) (v:akG.den):=UJ n v.1.1 v.1.2.1 v.2.1.1 v.2.1.2.1 v.2.1.2.2.1 v.2.2.1.1 v.2.2.1.2.1
noncomputable def as9:dO:=iq az4 akG ahu ahP (.exit 0) (aC1 bY) 6
def axd (f:dC):Option taU:=bU agE fun d=>bU (UJ bY f 0 d.1.1 d.1.2.1 d.1.2.2.1 [] false) fun g=>dX g (fun e=>a6 ((e.2.1.1,(e.2.1.2.1,(e.2.1.2.2.1,()))),())) (fun i=>a7)
def aHm:Sum:=⟨[.str],tzG,fun x=>axd x.1⟩
noncomputable def aqK:Env:=kU prog tt 79 [(75,alT),(77,alU)] [(3,az4)] [(3,as9)]
def auu {d:Type} (a:akG.den->Option d) (b:ahu.den->Option d) (c:ahP.den->Option d) (v:akG.den):Option d:=acz (fun e f g i j l m=>a ((e,f,()),((g,i,j,()),(l,m,()),()))) (fun p q u x y=>b ((),((p,q,u,()),(x,y,()),()))) (c ((),())) v.1.1 v.1.2.1 v.2.1.1 v.2.1.2.1 v.2.1.2.2.1 v.2.2.1.1 v.2.2.1.2.1
theorem aDB:eY aqK 79 azE as9:=En (auu) (h2:=by intros;simp only[auu,acz,dG,dH,bT,dw,dI])
theorem aGQ:eP aqK 79 b79:=tC [azE] (aD (fM (aDB)) aN)
theorem aqL:gm aqK:=eA f79 (aD VW (aD VX aN)) (aGQ)
theorem avH:eX prog 79 aHm:=sA aqL
noncomputable def b53:Code:=(f53.body).getD .skip
noncomputable def azw:Code:=cA (cA (cB (cA (cB (cB (b53))))))
def azY:fZ:=⟨[0,5,6,100003],[],[0],[],[4],[]⟩
def aky:SP:=⟨us [bN,.u,.u,.u,.u,cr,bL] 37,[.box 1000005 110 eD]⟩
def abk:SP:=⟨us [bN] 43,[]⟩
def abS:SP:=⟨us cS 39,[]⟩
def GL {g:Type} (e:dC) (d:Int) (i:dC) (j:lq) (l:Bool) (m:dC->Int->dC->lq->Bool->Option g):Option g:=cond (iy e d) (bU (agF (i,(j,(l,()))) (dm e d) d) fun f=>m e (dJ .i64 d 1) f.1.1 f.1.2.1 f.1.2.2.1) a7
def acs {g:Type} (i:dC->Int->dC->lq->Bool->Option g) (p:dC->Option g) (m:Int->Option g) (e:dC) (d:Int) (f:dC) (j:lq) (l:Bool):Option g:=cond (iV d (bV e)) (cond (iy e d) (bU (arp (dm e d)) fun q=>cond q.1 (cond (iG f [84]) (m d)<|cond (iG f [84,76]) (cond (iy e d) (cond (!(cZ (dm e d) 40)) (m d)<|GL e d f j l i) a7)<|GL e d f j l i)<|GL e d f j l i) a7)<|p e
def Ou:Nat->dC->Int->dC->lq->Bool->Option (abk.den⊕abS.den)
 |0,_,_,_,_,_=>a7
 |n+1,d,e,f,g,i=>acs (Ou n) (fun j=>a6 (.inl ((j,()),()))) (fun l=>a6 (.inr ((l,()),()))) d e f g i
def aCT (n:Nat) (v:aky.den):=Ou n v.1.1 v.1.2.1 v.2.1.1 v.2.1.2.1 v.2.1.2.2.1
noncomputable def as1:dO:=iq azY aky abk abS (.exit 0) (aCT bY) 6
def am6 (e:dC) (f:Int):Option Fb:=bU agE fun d=>bU (Ou bY e f d.1.1 d.1.2.1 d.1.2.2.1) fun g=>dX g (fun i=>a6 ((bV i.1.1),())) (fun j=>a6 (j.1.1,()))
def aAy:Sum:=⟨[.str,dL],Xg,fun x=>am6 x.1 x.2.1⟩
noncomputable def aqu:Env:=kU prog tt 53 [(75,alT),(77,alU),(76,aAG)] [(3,azY)] [(3,as1)]
def aum {d:Type} (a:aky.den->Option d) (b:abk.den->Option d) (c:abS.den->Option d) (v:aky.den):Option d:=acs (fun e f g i j=>a ((e,f,()),((g,i,j,()),()))) (aE b) (aE c) v.1.1 v.1.2.1 v.2.1.1 v.2.1.2.1 v.2.1.2.2.1
theorem aDt:eY aqu 53 azw as1:=En (aum) (h2:=by intros;simp only[aum,aE,acs,dG,dH,bT,dw,dI,GL])
theorem aGI:eP aqu 53 b53:=tC [azw] (aD (fM (aDt)) aN)
theorem aqv:gm aqu:=eA f53 (aD VW (aD VX (aD afu aN))) (aGI)
theorem avy:eX prog 53 aAy:=sA aqv
end
section
open List renaming length_drop → aP
open Go.RowKit
theorem dD {a b:Int} (d: -9223372036854775808<=a+b:=by omega) (h2:a+b<=9223372036854775807:=by omega):dJ .i64 a b=a+b:=by
 unfold dJ;rw[IntKind.wrap_i64];omega
theorem iH {a b:Int} (d: -9223372036854775808<=a-b:=by omega) (h2:a-b<=9223372036854775807:=by omega):fO .i64 a b=a-b:=by
 unfold fO;rw[IntKind.wrap_i64];omega
theorem axF {a b:Int}:leI a b=true↔a<=b:=by simp[leI]
theorem ayc {a b:Int}:iV a b=true↔a<b:=by simp[iV]
theorem awS {a b:Int}:cZ a b=true↔a=b:=by simp[cZ]
theorem axn {d:Type} {l:List d} {i:Int}:iy l i=true↔0<=i/\i<l.length:=by simp[iy]
theorem ayd {d:Type} {l:List d} {i:Nat}:qO i l=true↔i<l.length:=by simp[qO,QN]
theorem anK {n lo hi:Int}:gy n lo hi=true↔0<=lo/\lo<=hi/\hi<=n:=by simp[gy]
theorem dn {d:Type} {b:Bool} {x y:d} (h:b=true):(bif b then x else y)=x:=by rw[h];rfl
theorem dY {d:Type} {b:Bool} {x y:d} (h:b=false):(bif b then x else y)=y:=by rw[h];rfl
theorem ul {a b:Int} (h:a<=b:=by omega):leI a b=true:=axF.2 h
theorem Uy {a b:Int} (h:b<a:=by omega):leI a b=false:=by simp[leI];omega
theorem fQ {a b:Int} (h:a<b:=by omega):iV a b=true:=ayc.2 h
theorem nS {a b:Int} (h:b<=a:=by omega):iV a b=false:=by simp[iV];omega
theorem EY {a b:Int} (h: ¬a<=b:=by omega):leI a b=false:=Uy
theorem iL {a b:Int} (h: ¬a<b:=by omega):iV a b=false:=nS
theorem gz {a b:Int} (h:a=b:=by omega):cZ a b=true:=awS.2 h
theorem fB {a b:Int} (h:a≠b:=by omega):cZ a b=false:=by simp[cZ];exact h
theorem fD {d:Type} {l:List d} {i:Int} (h:0<=i:=by omega) (h2:i<l.length:=by omega):iy l i=true:=axn.2 ⟨h,h2⟩
theorem rX {d:Type} {l:List d} {i:Nat} (h:i<l.length):qO i l=true:=ayd.2 h
theorem ig {n lo hi:Int} (h:0<=lo) (d:lo<=hi) (h2:hi<=n):gy n lo hi=true:=anK.2 ⟨h,d,h2⟩
theorem cu {d:Type} {l:List d}:bV l=(l.length:Int):=rfl
theorem di {n:Nat} (h:n<1000000000000000000000000:=by omega):n<bY:=by unfold bY;omega
theorem aBg (s:dC) (i:Int): ∃n:Fin 256,dm s i=((n.val:Nat):Int):=⟨⟨(s.getD i.toNat 0).toNat,UInt8.toNat_lt _⟩,rfl⟩
theorem aBf {s:List UInt8} {a b j:Int} (d:0<=a) (e:0<=j) (h:a+j<b):dm (sub s a b) j=dm s (a+j):=by
 unfold dm sub;congr 2;simp only[List.getD,List.getElem?_drop,List.getElem?_take];rw[am (by omega)];congr 2;omega
theorem aIa {d:Type} {s:List d} {a b:Int} (e:0<=a) (f:a<=b) (h:b<=s.length):(((sub s a b).length:Nat):Int)=b-a:=by
 unfold sub;simp only[aP,List.length_take];omega
theorem ane {e:Type} {l m:List e} {d:e} {i:Int} (f:0<=i) (h:i<l.length):gW (l++m) d i=gW l d i:=by
 unfold gW;simp only[List.getD];rw[List.getElem?_append_left (by omega)]
theorem CY {e:Type} {l:List e} {d x:e} {i:Int} (h:i=l.length):gW (l++[x]) d i=x:=by
 unfold gW;subst h;simp[List.getD]
end
section
open Option renaming some → a6, none → a7
open List renaming length_append → ae, length_singleton → aA
open Go.RowKit
abbrev gB:=List xf
def lo (s:gB):List qP:=(s.map fun f=>(f.1,f.2,())).reverse
def letter (m:Int):UInt8:=([84,67,80,79,83,68,66,86,73,65,82,69,76,88,35]:dC).getD m.toNat 0
def so (s:gB):dC:=(s.map fun f=>letter f.1).reverse
def po (s:gB):List Int:=(s.map (·.2)).reverse
theorem vJ (f:xf) (s:gB):lo (f::s)=lo s++[(f.1,f.2,())]:=by simp[lo]
theorem ry (f:xf) (s:gB):so (f::s)=so s++[letter f.1]:=by simp[so]
theorem vP (f:xf) (s:gB):po (f::s)=po s++[f.2]:=by simp[po]
theorem rM (s:gB):(lo s).length=s.length:=by simp[lo]
theorem EJ (s:gB):(so s).length=s.length:=by simp[so]
theorem Vk (s:gB):(po s).length=s.length:=by simp[po]
def CG (b:Int):Bool:=decide (b=32)||decide (b=9)||decide (b=10)||decide (b=124)||decide (b=38)||decide (b=59)||decide (b=60)||decide (b=62)||decide (b=40)||decide (b=41)
def isByte (b:Int):Prop:=0<=b/\b<256
theorem SL {b:Int} (h:isByte b): ∃n:Fin 256,b=((n.val:Nat):Int):=⟨⟨b.toNat,by have:=h.2;have:=h.1;omega⟩,by have:=h.1;simp;omega⟩
theorem oI (s:dC) (i:Int):isByte (dm s i):=by
 grind [dm,isByte,UInt8.toNat_lt]
theorem aFQ: ∀n:Fin 256,IZ ((n.val:Nat):Int)=a6 (CG ((n.val:Nat):Int),()):=by decide+kernel
theorem aFR: ∀n:Fin 256,arp ((n.val:Nat):Int)=a6 (CG ((n.val:Nat):Int),()):=by decide+kernel
theorem ap0 {b:Int} (h:isByte b):IZ b=a6 (CG b,()):=by
 obtain⟨n,rfl⟩:=SL h;exact aFQ n
theorem ap1 {b:Int} (h:isByte b):arp b=a6 (CG b,()):=by
 obtain⟨n,rfl⟩:=SL h;exact aFR n
theorem XX {d:Type} {l:List d} (x:d) (h:l.length<1000000):dM (fO .i64 (bV (l++[x])) 1)=l.length:=by
 grind [cu,iH,dM]
theorem Yn {d:Type} {l:List d} (x:d) (h:l.length<1000000):sub (l++[x]) 0 (fO .i64 (bV (l++[x])) 1)=l:=by
 have e:(((l++[x]).length:Nat):Int)=l.length+1:=by simp
 rw[cu,e,iH];simp_all [sub]
theorem yP {d:Type} {l:List d} (x:d) (h:l.length<1000000):fO .i64 (bV (l++[x])) 1=l.length:=by
 grind [cu,iH]
theorem akK {s:gB} (hb:s.length<1000000) (fr:Bool) (at_ m:Int):zn (lo s) fr at_ m=a6 ((lo ((m,at_)::s),(fr,(at_,()))),()):=by
 have h:fG (bZ (lo s) [(m,(at_,()))]) 16=true:=by
  simp only[fG,bZ,ae,rM,aA,decide_eq_true_eq,nC];omega
 unfold zn;rw[h];simp[cZ,bZ,vJ]
theorem Rk {f g:Int×Int} {r:gB} (hb:(f::g::r).length<1000000) (fr:Bool) (at_:Int):zl (lo (f::g::r)) fr at_=a6 ((lo (g::r),(fr,(at_,()))),()):=by
 have d:(lo (g::r)).length=r.length+1:=by rw[rM];rfl
 have e:r.length+2<1000000:=by simpa using hb
 unfold zl;rw[vJ f,yP _ (by omega),dn (fQ (by grind [cu])),dn (ig (by omega) (by omega) (by rw[cu];simp;omega))];simp[takeN,dM]
theorem uX {f:Int×Int} {r:gB} (hb:(f::r).length<1000000) (fr:Bool) (at_ m:Int):xw (lo (f::r)) fr at_ m=a6 ((lo ((m,f.2)::r),(fr,(at_,()))),()):=by
 have d:(lo r).length=r.length:=rM r;have e:r.length+1<1000000:=by simpa using hb
 unfold xw;rw[vJ f,yP _ (by omega),dn (fD (by omega) (by simp;omega)),dn (rX (by simp[dM]))];simp[dM,dU,jd,vJ]
theorem aeU {f g:Int×Int} {r:gB} (hb:(f::g::r).length<1000000) (fr:Bool) (at_:Int):ai7 (lo (f::g::r)) fr at_=a6 ((lo (f::g::r),(fr,(at_,()))),(g.1,())):=by
 have d:(lo r).length=r.length:=rM r;have i:r.length+2<1000000:=by simpa using hb
 have e:Eo (fO .i64 (bV (lo (f::g::r))) 2) 0=r.length:=by
  grind [cu,iH,rM,Eo]
 unfold ai7;rw[e,vJ f,vJ g,dn (fD (by omega) (by simp[d];omega)),dn (rX (by simp[dM,d]))];simp_all [dM,dU]
theorem Ip {f:Int×Int} {r:gB} (hb:(f::r).length<1000000) (fr:Bool) (c:UInt8):FH (so (f::r),(po (f::r),(fr,()))) [c]=a6 ((so r++[c],(po (f::r),(fr,()))),()):=by
 have d:(so r).length=r.length:=EJ r;have e:r.length+1<1000000:=by simpa using hb
 unfold FH;simp only;rw[ry,Yn _ (by omega),yP _ (by omega),dn (ig (by omega) (by omega) (by rw[cu];simp;omega)),dn (by simp[jf,nC,d];omega)];rfl
theorem ab1 {f:Int×Int} {r:gB} (hb:(f::r).length<1000000) (fr:Bool):KY (so (f::r),(po (f::r),(fr,())))=a6 ((so r,(po r,(fr,()))),()):=by
 have d:(so r).length=r.length:=EJ r;have e:(po r).length=r.length:=Vk r;have g:r.length+1<1000000:=by simpa using hb
 unfold KY;simp only;rw[ry,vP,Yn _ (by omega),yP _ (by omega),dn (ig (by omega) (by omega) (by rw[cu];simp;omega)),dn (ig (by omega) (by omega) (by rw[cu];simp;omega))];simp[sub,d,e]
theorem Fq {d:Type} {f:d->d->Bool} (h: ∀x,f x x=true): ∀l:List d,yZ f l l=true
 |[]=>rfl
 |x::l=>by simp[yZ,h,Fq h l]
theorem TF: ∀(t:Ty) (x:t.den),Zi t x x=true
 |.unit,_=>rfl
 |.bool,x=>by simp[Zi]
 |.int _,x=>by simp[Zi,cZ]
 |.str,x=>by simp[Zi,iG]
 |.list t,x=>Fq (TF t) x
 |.pair a b,x=>by simp[Zi,TF]
theorem gU (t:Ty) (x:List t.den):qV t x x=true:=Fq (TF t) x
theorem eU (x:Int):cZ x x=true:=by simp[cZ]
theorem rV (x:dC):iG x x=true:=by simp[iG]
theorem jl (x:Bool):kV x x=true:=by simp[kV]
theorem ayZ {s:gB} (hb:s.length<1000000) (fr:Bool) (c:UInt8) (at_:Int):zi (so s,(po s,(fr,()))) [c] at_=a6 ((so s++[c],(po s++[at_],(fr,()))),()):=by
 have e:(so s).length=s.length:=EJ s;have d:(po s).length=s.length:=Vk s;have f:jf (so s) [c]=true:=by simp[jf,nC,e];omega
 have g:fG (bZ [] (po s)) 8=true:=by simp[fG,bZ,nC,d];omega
 have i:fG (bZ (bZ [] (po s)) [at_]) 8=true:=by simp[fG,bZ,nC,d];omega
 (unfold zi;delta o9 mX)
 simp_all [eU,rV,jl,gU,bT,bZ]
theorem Rq (a:dC) (b:List Int) (fr d:Bool):Ah (a,(b,(fr,()))) d=a6 ((a,(b,(d,()))),()):=rfl
end
section
open Go.RowKit
def JE (s:gB) (b at_:Int):Option gB:=if b=92 then some ((13,at_)::s)else if b=36 then some ((12,at_)::s)else if b=96 then some ((6,at_)::s)else none
def MN (m:Int) (s:gB) (fr:Bool) (b at_:Int):gB×Bool:=if b=92 then((13,at_)::s,fr)else if b=35/\fr=true then((14,at_)::s,fr)else if b=40 then(if m=0 then s else(2,at_)::s,true)else if b=41 then(if m=0 then s else s.tail, !decide (m=1))else if b=39 then((4,at_)::s,false)else if b=34 then((5,at_)::s,false)else if b=36 then((12,at_)::s,false)else if b=96 then((6,at_)::s,false)else(s,CG b)
def kP (m:Int) (s:gB) (fr:Bool) (b at_:Int):gB×Bool:=
 if m=0\/m=1\/m=2 then MN m s fr b at_
 else if m=13 then(s.tail,fr&&decide (b=10))
 else if m=4 then(if b=39 then s.tail else s,fr)
 else if m=14 then(if b=10 then(s.tail,true)else(s,fr))
 else if m=6 then(if b=96 then s.tail else if b=92 then(13,at_)::s else s,fr)
 else match JE s b at_ with
  |some d=>(d,fr)
  |none=>
   if m=9\/m=10 then(if b=40 then(10,at_)::s else if b=41 then(if m=10 then s.tail else(11,(s.headD (0,0)).2)::s.tail)else s,fr)
   else(if b=34 then(if m=5 then s.tail else(5,at_)::s)else if b=125/\m≠5 then s.tail else if b=39/\m=7 then(4,at_)::s else s,fr)
def gG (s:gB) (fr:Bool) (b at_:Int):gB×Bool:=
 match s with
 |[]=>([],fr)
 |f::r=>
  if f.1=12 then
   (if b=40 then((3,f.2)::r,true)
   else if b=123 then((if(r.headD (0,0)).1=5\/(r.headD (0,0)).1=8 then 8 else 7,f.2)::r,fr)
   else if b=36 then(r,fr)
   else kP (r.headD (0,0)).1 r fr b at_)
  else if f.1=3 then(if b=40 then((9,f.2)::r,false)else kP 1 ((1,f.2)::r) fr b at_)
  else if f.1=11 then(if b=41 then(r,fr)else kP 9 ((9,f.2)::r) fr b at_)
  else kP f.1 (f::r) fr b at_
theorem qy (b:Int):b=10\/b=34\/b=35\/b=36\/b=39\/b=40\/b=41\/b=92\/b=96\/b=123\/b=125\/
  (b≠10/\b≠34/\b≠35/\b≠36/\b≠39/\b≠40/\b≠41/\b≠92/\b≠96/\b≠123/\b≠125):=by omega
theorem iT (a b:Int):cZ a b=decide (a=b):=by
 rfl
def pst (x:gB×Bool) (at_:Int):(List qP×Bool×Int×Unit):=(lo x.1,(x.2,(at_,())))
def Jd (x:gB×Bool):dC×(List Int×xy):=(so x.1,(po x.1,(x.2,())))
theorem ahW {m:Int} {f:Int×Int} {r:gB} (d:m=0\/((m=1\/m=2)/\ ∃g i,r=g::i)) (hb:(f::r).length<1000000) (fr:Bool) {b:Int} (j:isByte b) (at_:Int):
  XF (lo (f::r)) fr at_ m b=some (pst (MN m (f::r) fr b at_) at_,()):=by
 have e:=ap0 j;rcases d with rfl|⟨rfl|rfl,g,r,rfl⟩<;>rcases qy b with rfl|rfl|rfl|rfl|rfl|rfl|rfl|rfl|rfl|rfl|rfl|⟨l,p,q,u,v,x,y,z,A,B,D⟩<;>cases fr<;>
  simp_all [XF,Ua,MN,pst,iT,akK,Rk,CG,bT,Ld]
theorem ayR {m:Int} {f:Int×Int} {r:gB} (d:m=0\/((m=1\/m=2\/m=4\/m=5\/m=6\/m=7\/m=8\/m=9\/m=10\/m=13\/m=14)/\ ∃g i,r=g::i)) (hb:(f::r).length<1000000) (fr:Bool) {b:Int} (e:isByte b) (at_:Int):
  PU (lo (f::r)) fr at_ m b=some (pst (kP m (f::r) fr b at_) at_,()):=by
 rcases d with rfl|⟨rfl|rfl|d,g,r,rfl⟩
 .simp[PU,kP,iT,ahW (.inl rfl) hb fr e at_,pst,bT,D9]
 .simp[PU,kP,iT,ahW (.inr ⟨.inl rfl,g,r,rfl⟩) hb fr e at_,pst,bT,D9]
 .simp[PU,kP,iT,ahW (.inr ⟨.inr rfl,g,r,rfl⟩) hb fr e at_,pst,bT,D9]
 .rcases d with rfl|rfl|rfl|rfl|rfl|rfl|rfl|rfl|rfl<;>rcases qy b with rfl|rfl|rfl|rfl|rfl|rfl|rfl|rfl|rfl|rfl|rfl|⟨j,l,p,q,u,v,x,y,z,A,B⟩<;>cases fr<;>
  simp_all [PU,ai8,ai9,Ua,kP,JE,pst,iT,akK,Rk,uX,bT,D9,Zu,Zv]
def QM (m:Int):Prop:=m=0\/m=1\/m=2\/m=5\/m=6\/m=7\/m=8\/m=9\/m=10
def jg:gB->Prop
 |[]=>False
 |[f]=>f.1=0
 |f::g::r=>1<=f.1/\f.1<=14/\QM g.1/\jg (g::r)
theorem aGf: ∃k,bY=k+2:=by
 simp_all [bY]
theorem aeF {l:List qP} {x:Int×Int×Unit} (h:l.length<1000000):dU (l++[x]) (0,(0,())) (dM (fO .i64 (bV (l++[x])) 1))=x:=by
 rw[XX x h];simp[dU]
theorem ZF {d:Type} {l:List d} {x:d} (h:l.length<1000000):iy (l++[x]) (fO .i64 (bV (l++[x])) 1)=true:=by
 grind [yP,fD]
theorem ake {d:Type} {l:List d} {x:d} (h:l.length<1000000):qO (dM (fO .i64 (bV (l++[x])) 1)) (l++[x])=true:=by
 simp_all [XX,rX]
theorem AP {f:Int×Int} {r:gB} (n:Nat) (e:f.1=0\/((f.1=1\/f.1=2\/f.1=4\/f.1=5\/f.1=6\/f.1=7\/f.1=8\/f.1=9\/f.1=10\/f.1=13\/f.1=14)/\ ∃g i,r=g::i)) (hb:(f::r).length<1000000) (fr:Bool) {b:Int} (j:isByte b) (at_:Int):
  yH (n+1) b fr at_ (lo (f::r))=some (.inl ((),((),()),(((kP f.1 (f::r) fr b at_).2,at_,()),lo (kP f.1 (f::r) fr b at_).1,()))):=by
 have d:(lo r).length<1000000:=by grind [rM]
 have l:f.1≠12:=by omega
 have m:f.1≠3:=by omega
 have p:f.1≠11:=by omega
 have q:=ayR e hb fr j at_;rw[yH,Dx];rw[show lo (f::r)=lo r++[(f.1,f.2,())] from vJ f r,ZF d,ake d,aeF d];simp only[aa,iT,l,m,p,decide_false,ac];rw[<-vJ,q,bT];rfl
theorem anr {f:Int×Int} {r:gB} (d:jg (f::r)) (hl:QM f.1):f.1=0\/((f.1=1\/f.1=2\/f.1=4\/f.1=5\/f.1=6\/f.1=7\/f.1=8\/f.1=9\/f.1=10\/f.1=13\/f.1=14)/\ ∃g e,r=g::e):=by
 cases r with
 |nil=>exact .inl d
 |cons g r=>
  unfold QM at hl
  grind
theorem agx {s:gB} (d:jg s) (hb:s.length<1000000) (fr:Bool) {b:Int} (m:isByte b) {at_:Int} (v:0<=at_) (p:at_<1000000000):XD (lo s) fr at_ b=some (pst (gG s fr b at_) (at_+1),()):=by
 obtain⟨k,hk⟩:=aGf;cases s with
 |nil=>cases d
 |cons f r=>
 have j:(lo r).length<1000000:=by grind [rM]
 have q:cZ (bV (lo (f::r))) 0=false:=fB (by rw[cu,rM];simp;omega);have i:dJ .i64 at_ 1=at_+1:=dD;unfold XD;rw[q,ac,hk];by_cases hp:f.1=12\/f.1=3\/f.1=11
 .cases r with
  |nil=>have:f.1=0:=d;omega
  |cons g r=>
  have x:=anr d.2.2.2 d.2.2.1;have y:(g::r).length<1000000:=by grind
  rw[show k+2=(k+1)+1 from rfl,yH,Dx,show lo (f::g::r)=lo (g::r)++[(f.1,f.2,())] from vJ f _,ZF j,ake j,aeF j,<-vJ];rcases hp with e|e|e
  .have hd:PT (lo (f::g::r)) fr at_ b=some ((if b=40 then(lo ((3,f.2)::g::r),(true,(at_,())))else if b=123 then(lo ((if g.1=5\/g.1=8 then 8 else 7,f.2)::g::r),(fr,(at_,())))else(lo (g::r),(fr,(at_,())))),(decide (b=40\/b=123\/b=36),())):=by
    by_cases e1:b=40
    .subst e1;simp[PT,iT,uX hb,bT]
    .by_cases e2:b=123
     .subst e2;by_cases e5:g.1=5
      .simp[PT,iT,uX hb,aeU hb,bT,e5]
      .by_cases e8:g.1=8<;>simp[PT,iT,uX hb,aeU hb,bT,e5,e8]
     .by_cases e3:b=36<;>simp[PT,iT,Rk hb,bT,e1,e2,e3]
   simp only[aa,iT,e,decide_true];rw[hd,bT];by_cases e1:b=40\/b=123\/b=36
   .simp only[e1,decide_true,aa,bT,dX,i];rcases e1 with rfl|rfl|rfl<;>simp[gG,e,pst,i]
   .have l:b≠40/\b≠123/\b≠36:=by omega
    simp only[l.1,l.2.1,l.2.2,or_self,decide_false,ac,if_false];simp_all [AP,bT,dX,gG,pst]
  .simp only[aa,iT,e,decide_true,show decide ((3:Int)=12)=false from rfl,ac];by_cases e1:b=40
   .simp_all [uX,bT,dX,gG,pst]
   .simp only[e1,decide_false,ac,uX hb,bT];rw[AP k (f:=(1,f.2)) (.inr ⟨.inl rfl,g,r,rfl⟩) (by simpa using hb) fr m at_,bT];simp[dX,gG,e,e1,pst,i]
  .simp only[aa,iT,e,decide_true,show decide ((11:Int)=12)=false from rfl,show decide ((11:Int)=3)=false from rfl,ac];by_cases e1:b=41
   .simp_all [Rk,bT,dX,gG,pst]
   .simp only[e1,decide_false,ac,uX hb,bT];rw[AP k (f:=(9,f.2)) (.inr ⟨by simp,g,r,rfl⟩) (by simpa using hb) fr m at_,bT];simp[dX,gG,e,e1,pst,i]
 .have z:f.1=0\/((f.1=1\/f.1=2\/f.1=4\/f.1=5\/f.1=6\/f.1=7\/f.1=8\/f.1=9\/f.1=10\/f.1=13\/f.1=14)/\ ∃g u,r=g::u):=by
   cases r with
   |nil=>exact .inl d
   |cons g r=>have p:=d.1;have A:=d.2.1;grind
  simp_all [AP,bT,dX,gG,pst]
end
section
open Go.RowKit
theorem alz (f:xf) (r:gB) (h:r.length<1000000):dm (so (f::r)) (fO .i64 (bV (so (f::r))) 1)=((letter f.1).toNat:Int):=by
 rw[ry,yP _ (by rw[EJ];exact h)];simp[dm,List.getD]
theorem aAi (f:xf) (r:gB) (h:r.length<1000000):iy (so (f::r)) (fO .i64 (bV (so (f::r))) 1)=true:=by
 rw[ry];exact ZF (by rw[EJ];exact h)
theorem auL (f g:xf) (r:gB) (h:r.length<900000):iy (so (f::g::r)) (fO .i64 (bV (so (f::g::r))) 2)=true/\dm (so (f::g::r)) (fO .i64 (bV (so (f::g::r))) 2)=((letter g.1).toNat:Int):=by
 have d:(((so (f::g::r)).length:Nat):Int)=r.length+2:=by rw[EJ];simp;omega
 rw[cu,d,iH,show((r.length:Int)+2-2)=r.length by omega];refine⟨fD (by omega) (by rw[d];omega), ?_⟩;rw[ry,ry];simp[dm,List.getD,EJ]
theorem lets:letter 0=84/\letter 1=67/\letter 2=80/\letter 3=79/\letter 4=83/\letter 5=68/\letter 6=66/\letter 7=86/\letter 8=73/\letter 9=65/\letter 10=82/\letter 11=69/\letter 12=76/\letter 13=88/\letter 14=35:=by decide
theorem Dt {s:gB} (hb:s.length<1000000) (fr:Bool) (m:Int) (c:UInt8) (d:c=letter m) (at_:Int):zi (so s,(po s,(fr,()))) [c] at_=some ((so ((m,at_)::s),(po ((m,at_)::s),(fr,()))),()):=by
 subst d;rw[ayZ hb,ry,vP]
theorem ahX {m:Int} {f:Int×Int} {r:gB} (d:m=0\/m=1\/m=2) (hb:(f::r).length<1000000) (fr:Bool) {b:Int} (g:isByte b) (at_:Int):
  aiR (so (f::r),(po (f::r),(fr,()))) ((letter m).toNat:Int) b at_=some (Jd (MN m (f::r) fr b at_),()):=by
 have e:=ap1 g;have i:=Dt hb fr 13 88 rfl at_;have j:=Dt hb fr 4 83 rfl at_;have l:=Dt hb fr 5 68 rfl at_;have p:=Dt hb fr 12 76 rfl at_;have q:=Dt hb fr 6 66 rfl at_;have u:=Dt hb fr 14 35 rfl at_;have v:=Dt hb fr 2 80 rfl at_;have x:=ab1 hb fr;have y:=lets;rcases d with rfl|rfl|rfl<;>rcases qy b with rfl|rfl|rfl|rfl|rfl|rfl|rfl|rfl|rfl|rfl|rfl|⟨z,A,B,D,I,J,K,L,M,N,O⟩<;>cases fr<;>
  simp_all [aiR,XB,MN,Jd,iT,Rq,CG,bT,rV,gU,jl,Zq,Zr]
theorem Rl {m:Int} {f:Int×Int} {r:gB} (hf:f.1=m) (e:m=0\/m=1\/m=2\/m=4\/m=5\/m=6\/m=7\/m=8\/m=9\/m=10\/m=13\/m=14) (hb:(f::r).length<1000000) (fr:Bool) {b:Int} (g:isByte b) (at_:Int):
  IY (so (f::r),(po (f::r),(fr,()))) ((letter m).toNat:Int) b at_=some (Jd (kP m (f::r) fr b at_),()):=by
 have i:=lets;have j:=Dt hb fr 13 88 rfl at_;have l:=Dt hb fr 12 76 rfl at_;have p:=Dt hb fr 6 66 rfl at_;have q:=Dt hb fr 10 82 rfl at_;have u:=Dt hb fr 5 68 rfl at_;have v:=Dt hb fr 4 83 rfl at_;have x:=ab1 hb fr;have tt:=Ip hb fr 69;have y:so r++[69]=so ((11,f.2)::r):=by rw[ry];rfl
 have z:po (f::r)=po ((11,f.2)::r):=by simp[vP]
 rcases e with rfl|rfl|rfl|e
 .have d:=ahX (.inl rfl) hb fr g at_;simp[IY,kP,iT,bT,Jd,D8,xG,Hr,Ht]at d ⊢;rw[d];simp[bT,i]
 .have d:=ahX (.inr (.inl rfl)) hb fr g at_;simp[IY,kP,iT,bT,Jd,D8,xG,Hr,Ht]at d ⊢;rw[d];simp[bT,i]
 .have d:=ahX (.inr (.inr rfl)) hb fr g at_;simp[IY,kP,iT,bT,Jd,D8,xG,Hr,Ht]at d ⊢;rw[d];simp[bT,i]
 .rcases e with rfl|rfl|rfl|rfl|rfl|rfl|rfl|rfl|rfl<;>rcases qy b with rfl|rfl|rfl|rfl|rfl|rfl|rfl|rfl|rfl|rfl|rfl|⟨A,B,D,I,J,K,L,M,N,O,S⟩<;>cases fr<;>
  simp_all [IY,XB,kP,JE,Jd,iT,Rq,bT,rV,gU,jl,iG,D8,xG,Hr,Ht]
end
section
open Go.RowKit
theorem Hw {f:Int×Int} {r:gB} (h:jg (f::r)):0<=f.1/\f.1<=14:=by
 cases r with
 |nil=>have:f.1=0:=h;omega
 |cons g r=>have:=h.1;have:=h.2.1;omega
theorem letter_eq {m:Int} (d:0<=m) (e:m<=14):decide (((letter m).toNat:Int)=76)=decide (m=12)/\decide (((letter m).toNat:Int)=79)=decide (m=3)/\decide (((letter m).toNat:Int)=69)=decide (m=11)/\
  decide (((letter m).toNat:Int)=68)=decide (m=5)/\decide (((letter m).toNat:Int)=73)=decide (m=8):=by
 have:m=0\/m=1\/m=2\/m=3\/m=4\/m=5\/m=6\/m=7\/m=8\/m=9\/m=10\/m=11\/m=12\/m=13\/m=14:=by omega
 rcases this with rfl|rfl|rfl|rfl|rfl|rfl|rfl|rfl|rfl|rfl|rfl|rfl|rfl|rfl|rfl<;>decide
theorem agy {s:gB} (j:jg s) (hb:s.length<900000) (fr:Bool) {b:Int} (l:isByte b) (at_:Int):agF (so s,(po s,(fr,()))) b at_=some (Jd (gG s fr b at_),()):=by
 cases s with
 |nil=>cases j
 |cons f r=>
 have d:(f::r).length<1000000:=by omega
 have m:r.length<1000000:=by simp at hb;omega
 obtain⟨q,g1⟩:=Hw j;obtain⟨u,v,x,-,-⟩:=letter_eq q g1;unfold agF;simp only;rw[aAi f r m,alz f r m];simp only[aa,iT,u,v,x];by_cases e:f.1=12
 .cases r with
  |nil=>have:f.1=0:=j;omega
  |cons g r=>
  have K:=j.2.2.1;have y:(g::r).length<1000000:=by omega
  obtain⟨z,A⟩:=Hw j.2.2.2;obtain⟨-,-,-,B,D⟩:=letter_eq z A;obtain⟨I,J⟩:=auL f g r (by simp at hb;omega);simp only[e,decide_true,aa];by_cases e1:b=40
  .subst e1;simp only[decide_true,aa,Ip d,bT,Rq];simp[gG,e,Jd,ry,vP,lets]
  .by_cases e2:b=123
   .subst e2;simp only[e1,decide_true,decide_false,aa,ac,I,J,B,D,Ip d,bT]
    grind [gG,Jd,ry,vP,lets]
   .simp only[e1,e2,decide_false,ac,ab1 d,bT];by_cases e3:b=36
    .simp_all [gG,Jd]
    .simp only[e3,decide_false,ac];rw[aAi g r (by simp at m;omega),alz g r (by simp at m;omega)];have p:g.1=0\/g.1=1\/g.1=2\/g.1=4\/g.1=5\/g.1=6\/g.1=7\/g.1=8\/g.1=9\/g.1=10\/g.1=13\/g.1=14:=by grind [QM]
     rw[aa,Rl rfl p y fr l at_,bT];simp_all [gG]
 .simp only[e,decide_false,ac];by_cases e3:f.1=3
  .simp only[e3,decide_true,aa];by_cases e1:b=40
   .subst e1;simp only[decide_true,aa,Ip d,bT,Rq];simp[gG,e3,Jd,ry,vP,lets]
   .simp only[e1,decide_false,ac,Ip d,bT];have i:=Rl (f:=(1,f.2)) (r:=r) rfl (.inr (.inl rfl)) (by simpa using d) fr l at_;rw[ry,vP]at i;simp only[lets]at i;rw[show((67:Int))=(((67:UInt8).toNat:Nat):Int) from rfl,vP f r,i,bT]
    grind [gG]
  .simp only[e3,decide_false,ac];by_cases e11:f.1=11
   .simp only[e11,decide_true,aa];by_cases e1:b=41
    .simp_all [ab1,bT,gG,Jd]
    .simp only[e1,decide_false,ac,Ip d,bT];have i:=Rl (f:=(9,f.2)) (r:=r) rfl (by simp) (by simpa using d) fr l at_;rw[ry,vP]at i;simp only[lets]at i;rw[show((65:Int))=(((65:UInt8).toNat:Nat):Int) from rfl,vP f r,i,bT]
     grind [gG]
   .simp only[e11,decide_false,ac];have p:f.1=0\/f.1=1\/f.1=2\/f.1=4\/f.1=5\/f.1=6\/f.1=7\/f.1=8\/f.1=9\/f.1=10\/f.1=13\/f.1=14:=by omega
    rw[Rl rfl p d fr l at_,bT];simp_all [gG]
theorem anf {s:gB} (d:jg s) (hl: ∃f r,s=f::r/\QM f.1) {m at_:Int} (e:1<=m) (h2:m<=14):jg ((m,at_)::s):=by
 obtain⟨f,r,rfl,g⟩:=hl;exact⟨e,h2,g,d⟩
theorem FQ {f:Int×Int} {r:gB} (d:jg (f::r)) (e:r≠[]) {m at_:Int} (i:1<=m) (h2:m<=14):jg ((m,at_)::r):=by
 cases r with
 |nil=>exact absurd rfl e
 |cons g r=>exact⟨i,h2,d.2.2.1,d.2.2.2⟩
theorem Hy {f:Int×Int} {r:gB} (d:jg (f::r)) (e:r≠[]):jg r:=by
 cases r with
 |nil=>exact absurd rfl e
 |cons g r=>exact d.2.2.2
theorem qW {f:Int×Int} {r:gB} (d:jg (f::r)) (h:f.1≠0):r≠[]:=by
 rintro rfl;exact h d
theorem Ea {m:Int} {f:Int×Int} {r:gB} (hf:f.1=m) (d:jg (f::r)) (q:m≠12/\m≠3/\m≠11) (fr:Bool) (b at_:Int):
  jg (kP m (f::r) fr b at_).1/\(kP m (f::r) fr b at_).1.length<=(f::r).length+1:=by
 obtain⟨u,g1⟩:=Hw d;have j:f.1≠0->r≠[]:=qW d;have l:m=0\/m=1\/m=2\/m=4\/m=5\/m=6\/m=7\/m=8\/m=9\/m=10\/m=13\/m=14:=by omega
 have push: ∀k,QM f.1->1<=k->k<=14->jg ((k,at_)::f::r):=fun k p g i=>anf d ⟨f,r,rfl,p⟩ g i;have v:m=0\/m=1\/m=2\/m=5\/m=6\/m=7\/m=8\/m=9\/m=10->QM f.1:=fun h=>by simp_all [QM]
 have x:m≠0->jg r:=fun h=>Hy d (j (by rw[hf];exact h));have st: ∀k,m≠0->1<=k->k<=14->jg ((k,f.2)::r):=fun k h g i=>FQ d (j (by rw[hf];exact h)) g i;rcases l with e|e|e|e|e|e|e|e|e|e|e|e<;>subst e<;>rcases qy b with rfl|rfl|rfl|rfl|rfl|rfl|rfl|rfl|rfl|rfl|rfl|⟨g,i,y,z,A,B,D,I,J,K,L⟩<;>cases fr<;>
  simp_all [kP,MN,JE]<;>first|omega|(refine⟨?_,by omega⟩;assumption)
end
section
open List renaming drop_eq_getElem_cons → aH, drop_of_length_le → aO, eq_nil_of_length_eq_zero → bM
open Go.RowKit
theorem good_step {s:gB} (d:jg s) (fr:Bool) (b at_:Int):jg (gG s fr b at_).1/\(gG s fr b at_).1.length<=s.length+1:=by
 cases s with
 |nil=>cases d
 |cons f r=>
 simp only[gG];split
 .rename_i e
  have i:r≠[]:=qW d (by omega);have q: ∀k,1<=k->k<=14->jg ((k,f.2)::r):=fun k j l=>FQ d i j l;have m:=Hy d i;split
  .simp_all
  .split
   .grind
   .split
    .grind
    .cases r with
     |nil=>exact absurd rfl i
     |cons g r=>
      have p:=d.2.2.1;have h:=Ea rfl m (by unfold QM at p;omega) fr b at_
      grind
 .split
  .rename_i e
   have i:r≠[]:=qW d (by omega);split
   .grind [FQ]
   .have h:=Ea (f:=(1,f.2)) rfl (FQ d i (by omega) (by omega)) (by omega) fr b at_
    assumption
  .split
   .rename_i e
    have i:r≠[]:=qW d (by omega);split
    .grind [Hy]
    .have h:=Ea (f:=(9,f.2)) rfl (FQ d i (by omega) (by omega)) (by omega) fr b at_
     assumption
   .exact Ea rfl d (by omega) fr b at_
def md (s:gB):List Int:=s.map (·.1)
theorem L8 (m:Int) {s d:gB} (h:md s=md d) (fr:Bool) (b a e:Int):md (kP m s fr b a).1=md (kP m d fr b e).1/\(kP m s fr b a).2=(kP m d fr b e).2:=by
 have f:md s.tail=md d.tail:=by
  have:=congrArg List.tail h;simpa [md] using this
 have g:m=0\/m=1\/m=2\/m=4\/m=5\/m=6\/m=7\/m=9\/m=10\/m=13\/m=14\/(m≠0/\m≠1/\m≠2/\m≠4/\m≠5/\m≠6/\m≠7/\m≠9/\m≠10/\m≠13/\m≠14):=by omega
 have i: ∀k (p q:Int),md ((k,p)::s)=md ((k,q)::d):=fun k p q=>by simp_all [md]
 have hd: ∀k (p q:Int),md ((k,p)::s.tail)=md ((k,q)::d.tail):=fun k p q=>by simp_all [md]
 rcases g with rfl|rfl|rfl|rfl|rfl|rfl|rfl|rfl|rfl|rfl|rfl|⟨j,l,u,v,x,y,z,A,B,D,I⟩<;>rcases qy b with rfl|rfl|rfl|rfl|rfl|rfl|rfl|rfl|rfl|rfl|rfl|⟨J,K,L,M,N,O,S,U,V,W,X⟩<;>cases fr<;>
  simp_all [kP,MN,JE]<;>first|exact h|exact f|exact i _ _ _|exact hd _ _ _
theorem akf {s d:gB} (h:md s=md d) (fr:Bool) (b a i:Int):md (gG s fr b a).1=md (gG d fr b i).1/\(gG s fr b a).2=(gG d fr b i).2:=by
 cases s with
 |nil=>cases d with
  |nil=>exact⟨rfl,rfl⟩
  |cons _ _=>simp[md]at h
 |cons f r=>cases d with
  |nil=>simp[md]at h
  |cons f' e=>
   have j:f.1=f'.1:=by simp_all [md]
   have g:md r=md e:=by simp_all [md]
   have l:(r.headD (0,0)).1=(e.headD (0,0)).1:=by
    cases r<;>cases e<;>simp[md]at g ⊢;exact g.1
   have m: ∀k (p q:Int),md ((k,p)::r)=md ((k,q)::e):=fun k p q=>by simp_all [md]
   simp only[gG,<-j,<-l];split
   .split
    .grind
    .split
     .grind
     .split
      .exact⟨g,rfl⟩
      grind [L8]
   .split
    .split
     .grind
     grind [L8]
    .split
     .split
      .exact⟨g,rfl⟩
      grind [L8]
     grind [L8]
def jr (b:UInt8):Int:=(b.toNat:Int)
def nH:dC->Int->gB×Bool->gB×Bool
 |[],_,x=>x
 |b::l,a,x=>nH l (a+1) (gG x.1 x.2 (jr b) a)
def fK:gB×Bool:=([(0,0)],true)
theorem mO:jg fK.1:=rfl
theorem drop_at {s:List UInt8} {i:Int} (d:0<=i) (h:i<s.length): ∃b,s.drop i.toNat=b::s.drop (i+1).toNat/\dm s i=jr b:=by
 have e:i.toNat<s.length:=by omega
 refine⟨s[i.toNat], ?_, ?_⟩
 .grind [aH]
 simp_all [dm,jr]
theorem KE {s:List UInt8} {i:Int} (h:s.length<=i:=by omega):s.drop i.toNat=[]:=aO (by omega)
theorem aAc (s:dC) (j:s.length<=100000): ∀(N:Nat) (i:Int) (x:gB×Bool),(s.length:Int)-i<N->0<=i->i<=s.length->jg x.1->(x.1.length:Int)<=i+1->
  LK N s (bV s) i x.2 i (lo x.1)=some (.inl ((),(((nH (s.drop i.toNat) i x).2,(s.length:Int),()),lo (nH (s.drop i.toNat) i x).1,())))
 |0,i,x,h,_,_,_,_=>by omega
 |N+1,i,x,h,d,m,f,p=>by
  rw[LK,RJ];by_cases e:i<s.length
  .obtain⟨b,hd,l⟩:=drop_at d e;rw[dn (fQ (b:=bV s) e),dn (fD d e),agx f (by omega) x.2 (oI s i) d (by omega),bT,hd,nH,<-l];simp only[pst];rw[dD];have g:=good_step f x.2 (dm s i) i;exact aAc s j N (i+1) (gG x.1 x.2 (dm s i) i) (by omega) (by omega) (by omega) g.1 (by have:=g.2;omega)
  .have q:i=s.length:=by omega
   simp_all [nS,cu,nH]
theorem aAd (s:dC) (m:s.length<=100000) (d:dC) (f:Bool): ∀(N:Nat) (i:Int) (x:gB×Bool),(s.length:Int)-i<N->0<=i->i<=s.length->jg x.1->(x.1.length:Int)<=i+1->
  UJ N s i (so x.1) (po x.1) x.2 d f=some (.inl ((),((so (nH (s.drop i.toNat) i x).1,po (nH (s.drop i.toNat) i x).1,(nH (s.drop i.toNat) i x).2,()),(d,f,()),())))
 |0,i,x,h,_,_,_,_=>by omega
 |N+1,i,x,h,g,q,j,u=>by
  rw[UJ,acz];by_cases e:i<s.length
  .obtain⟨b,hd,p⟩:=drop_at g e;rw[dn (fQ (b:=bV s) e),dn (fD g e),agy j (by omega) x.2 (oI s i) i,bT,hd,nH,<-p];simp only[Jd];rw[dD];have l:=good_step j x.2 (dm s i) i;exact aAd s m d f N (i+1) (gG x.1 x.2 (dm s i) i) (by omega) (by omega) (by omega) l.1 (by have:=l.2;omega)
  simp_all [nS,cu,KE,nH]
theorem CZ: ∀(l:dC) (a:Int) (x:gB×Bool),jg x.1->jg (nH l a x).1/\(nH l a x).1.length<=x.1.length+l.length
 |[],a,x,h=>⟨h,by simp[nH]⟩
 |b::l,a,x,h=>by
  have d:=good_step h x.2 (jr b) a;have e:=CZ l (a+1) (gG x.1 x.2 (jr b) a) d.1
  grind [nH]
theorem PH {n:Nat} (h:n<=1000000000:=by omega):n<bY:=by unfold bY;omega
theorem aFw (s:dC) (f:s.length<=100000):aiW s=some (lo (nH s 0 fK).1,((nH s 0 fK).2,())):=by
 have h:=aAc s f bY 0 fK (by have:=PH (n:=s.length) (by omega);omega) (by omega) (by omega) mO (by simp[fK]);have d:=CZ s 0 fK mO;unfold aiW;rw[show([(0,(0,()))]:List qP)=lo fK.1 from rfl,show(true:Bool)=fK.2 from rfl,h,bT];simp only[dX,Int.toNat_zero,List.drop_zero];have g:(lo (nH s 0 fK).1).length≠0:=by
  rw[rM];intro e;rw[bM e]at d;exact d.1
 rw[dY (fB (by rw[cu];omega))];have i:qR (lo (nH s 0 fK).1)=some (lo (nH s 0 fK).1,()):=by
  unfold qR uJ;have:fG (lo (nH s 0 fK).1) 16=true:=by
   have:=d.2;have j:fK.1.length=1:=rfl;simp only[fG,rM,decide_eq_true_eq,nC];omega
  rw[this];rfl
 rw[i,bT];cases hf:(nH s 0 fK).2 with
 |true=>simp[adH,bT]
 |false=>simp[adH,bT,iT,cu,g]
theorem aFx (s:dC) (d:s.length<=100000):axd s=some (Jd (nH s 0 fK),()):=by
 have h:=aAd s d [] false bY 0 fK (by have:=PH (n:=s.length) (by omega);omega) (by omega) (by omega) mO (by simp[fK]);unfold axd;rw[show agE=some ((so fK.1,(po fK.1,(fK.2,()))),()) from rfl,bT];simp_all [bT,dX,Jd]<;>rfl
end
section
open Option renaming some → a6, none → a7
open Bool renaming false_eq_true → ai, and_true → aj, not_true → au, not_false → aF
open List renaming length_cons → az
open Nat renaming le_refl → af
open Go.RowKit
def oP (s:gB) (b:Int):Bool:=CG b&&(match s with
 |[_]=>true
 |[f,_]=>decide (f.1=12)&& !decide (b=40)
 |_=>false)
def uH:dC->Int->gB×Bool->Nat
 |[],_,_=>0
 |b::l,a,x=>if oP x.1 (jr b)then 0 else uH l (a+1) (gG x.1 x.2 (jr b) a)+1
theorem Zd: ∀(l:dC) (a:Int) (x:gB×Bool),uH l a x<=l.length
 |[],_,_=>af _
 |b::l,a,x=>by
  simp only[uH,az];split
  .omega
  .have:=Zd l (a+1) (gG x.1 x.2 (jr b) a);omega
theorem adn {s d:gB} (h:md s=md d) (b:Int):oP s b=oP d b:=by
 match s,d with
 |[],[]=>rfl
 |[_],[_]=>rfl
 |[f,_],[e,_]=>simp_all [md,oP]
 |_::_::_::_,_::_::_::_=>rfl
 |[],_::_=>simp[md]at h
 |_::_,[]=>simp[md]at h
 |[_],_::_::_=>simp[md]at h
 |_::_::_,[_]=>simp[md]at h
 |[_,_],_::_::_::_=>simp[md]at h
 |_::_::_::_,[_,_]=>simp[md]at h
theorem QR: ∀(l:dC) (a d:Int) (x e:gB×Bool),md x.1=md e.1->x.2=e.2->uH l a x=uH l d e
 |[],_,_,_,_,_,_=>rfl
 |b::l,a,d,x,e,f,i=>by
  have g:=akf f x.2 (jr b) a d;simp only[uH,adn f,<-i];rw[QR l (a+1) (d+1) _ _ g.1 g.2]
theorem awP {s:gB} (d:jg s) (hb:s.length<1000000) (fr:Bool) (at_:Int) {b:Int} (e:isByte b):aiV (lo s) fr at_ b=a6 ((lo s,(fr,(at_,()))),(oP s b,())):=by
 unfold aiV;rw[ap0 e,bT];cases he:CG b with
 |false=>simp[oP,he]
 |true=>
  match s with
  |[]=>cases d
  |[f]=>simp[oP,he,iT,cu,lo]
  |[f,g]=>
   have i:iy (lo [f,g]) 1=true:=fD (by omega) (by simp[lo]);have j:qO (dM 1) (lo [f,g])=true:=rX (by simp[lo,dM]);have l:dU (lo [f,g]) (0,(0,())) (dM 1)=(f.1,f.2,()):=by rfl
   have m:(lo [f,g]).length=2:=by simp[lo]
   simp only[iT,cu,i,j,l,m,aa]
   grind [oP]
  |f::g::h::r=>
   grind [rM,iT,cu,oP]
theorem apY (s:dC) (j:s.length<=100000): ∀(N:Nat) (i a:Int) (x:gB×Bool),(s.length:Int)-i<N->0<=i->i<=s.length->0<=a->a<=i->jg x.1->(x.1.length:Int)<=a+1->
  ∃o,LJ N s i x.2 a (lo x.1)=a6 o/\dX o (fun l=>a6 (l.1.1,())) (fun m=>a6 (m.1.1,()))=a6 (i+uH (s.drop i.toNat) a x,())
 |0,i,a,x,h,_,_,_,_,_,_=>by omega
 |N+1,i,a,x,h,d,q,u,v,f,y=>by
  rw[LJ,RF];by_cases e:i<s.length
  .obtain⟨b,hd,p⟩:=drop_at d e;rw[dn (fQ (b:=bV s) e),dn (fD d e),awP f (by omega) x.2 a (oI s i),bT,hd,uH,<-p];cases hw:oP x.1 (dm s i)with
   |true=>exact⟨_,rfl,by simp[dX]⟩
   |false=>
    simp only[ac,ai,if_false];rw[dn (fD d e),agx f (by omega) x.2 (oI s i) (by omega) (by omega),bT];simp only[pst];rw[dD];have g:=good_step f x.2 (dm s i) a;obtain⟨o,z,A⟩:=apY s j N (i+1) (a+1) (gG x.1 x.2 (dm s i) a) (by omega) (by omega) (by omega) (by omega) (by omega) g.1 (by have:=g.2;omega)
    grind
  .rw[dY (nS (b:=bV s) (by rw[cu];omega)),KE];exact⟨_,rfl,by simp[dX,uH]⟩
theorem aFq (s:dC) (e:s.length<=100000) {i:Int} (d:0<=i) (hi:i<=s.length):adB s i=a6 (i+uH (s.drop i.toNat) i fK,()):=by
 obtain⟨o,f,g⟩:=apY s e bY i 0 fK (by have:=PH (n:=s.length) (by omega);omega) d hi (by omega) d mO (by simp[fK]);unfold adB;rw[dY (nS d),dY (nS (a:=bV s) hi),show([(0,(0,()))]:List qP)=lo fK.1 from rfl,show(true:Bool)=fK.2 from rfl,f,bT,g,QR _ i 0 fK fK rfl rfl]
theorem auM {s:gB} (d:jg s):iG (so s) [84]=(match s with|[_]=>true|_=>false):=by
 match s with
 |[]=>cases d
 |[f]=>have h:f.1=0:=d;simp[so,iG,h,lets]
 |f::g::r=>
  grind [EJ,iG]
theorem alA {s:gB} (d:jg s):iG (so s) [84,76]=(match s with|[f,_]=>decide (f.1=12)|_=>false):=by
 match s with
 |[]=>cases d
 |[f]=>
  simp_all [so,iG]
 |[f,g]=>
  have h:g.1=0:=d.2.2.2;obtain⟨j,g1⟩:=Hw d;have i:f.1=0\/f.1=1\/f.1=2\/f.1=3\/f.1=4\/f.1=5\/f.1=6\/f.1=7\/f.1=8\/f.1=9\/f.1=10\/f.1=11\/f.1=12\/f.1=13\/f.1=14:=by omega
  rcases i with e|e|e|e|e|e|e|e|e|e|e|e|e|e|e<;>simp[so,iG,h,e,lets]
 |f::g::h::r=>
  grind [EJ,iG]
theorem apZ (s:dC) (u:s.length<=100000): ∀(N:Nat) (i:Int) (x:gB×Bool),(s.length:Int)-i<N->0<=i->i<=s.length->jg x.1->(x.1.length:Int)<=i+1->
  ∃o,Ou N s i (so x.1) (po x.1) x.2=a6 o/\dX o (fun d=>a6 ((bV d.1.1),())) (fun j=>a6 (j.1.1,()))=a6 (i+uH (s.drop i.toNat) i x,())
 |0,i,x,h,_,_,_,_=>by omega
 |N+1,i,x,h,m,B,l,D=>by
  (rewrite [Ou,acs];delta GL)
  by_cases e:i<s.length
  .obtain⟨b,hd,v⟩:=drop_at m e;have p:=good_step l x.2 (dm s i) i;obtain⟨o,y,z⟩:=apZ s u N (i+1) (gG x.1 x.2 (dm s i) i) (by omega) (by omega) (by omega) p.1 (by have:=p.2;omega);rw[dn (fQ (b:=bV s) e),dn (fD m e),ap1 (oI s i),bT,hd,uH,<-v,auM l,alA l,fD m e,agy l (by omega) x.2 (oI s i) i,bT];simp only[Jd,aa];rw[dD];have q: ∃o,Ou N s (i+1) (so (gG x.1 x.2 (dm s i) i).1) (po (gG x.1 x.2 (dm s i) i).1) (gG x.1 x.2 (dm s i) i).2=a6 o/\dX o (fun d=>a6 ((bV d.1.1),())) (fun j=>a6 (j.1.1,()))=a6 (i+((uH (s.drop (i+1).toNat) (i+1) (gG x.1 x.2 (dm s i) i)+1:Nat):Int),()):=
    ⟨o,y,z.trans (by grind)⟩
   have A: ∃o,(a6 (Sum.inr ((i,()),())):Option (abk.den⊕abS.den))=a6 o/\dX o (fun d=>a6 ((bV d.1.1),())) (fun j=>a6 (j.1.1,()))=a6 (i+((0:Nat):Int),()):=⟨_,rfl,by simp[dX]⟩;cases he:CG (dm s i)with
   |false=>simp_all [oP]
   |true=>
    generalize I:x.1=st at*
    match st with
    |[]=>cases l
    |[f]=>simp_all [oP]
    |[f,g]=>
     by_cases e12:f.1=12
     .by_cases e40:dm s i=40
      .simp only[oP,he,aa,ac,iT,e12,e40,decide_true,au,Bool.and_false,ai,if_false]at q ⊢;exact q
      .simp only[oP,he,aa,ac,iT,e12,e40,decide_true,decide_false,aF,aj,if_true];exact A
     simp_all [oP]
    |f::g::h::r=>simp_all [oP]
  .rw[dY (nS (b:=bV s) (by rw[cu];omega)),KE];exact⟨_,rfl,by simp[dX,uH,cu];omega⟩
theorem aFr (s:dC) (d:s.length<=100000) {i:Int} (e:0<=i) (hi:i<=s.length):am6 s i=a6 (i+uH (s.drop i.toNat) i fK,()):=by
 obtain⟨o,f,g⟩:=apZ s d bY i fK (by have:=PH (n:=s.length) (by omega);omega) e hi mO (by simp[fK];omega);unfold am6;rw[show agE=a6 ((so fK.1,(po fK.1,(fK.2,()))),()) from rfl,bT];simp_all [bT]
end
section
open Option renaming some → a6, none → a7
open Bool renaming and_eq_true → ah, not_true → au
open List renaming length_cons → az, drop_eq_getElem_cons → aH, drop_of_length_le → aO, length_drop → aP, takeWhile_cons → bC
open Go.RowKit
def isL (c:UInt8):Bool:=(97<=c&&c<=122)||(65<=c&&c<=90)||c==95
def isD (c:UInt8):Bool:=48<=c&&c<=57
def XN (c:UInt8):Bool:=isL c||isD c
def isP (c:UInt8):Bool:=c==64||c==42||c==35||c==63||c==45||c==36||c==33
def awC:Bool:=(List.range 256).all fun b=>match adK (b:Int),adG (b:Int),ZB (b:Int)with
 |some (x,_),a6 (y,_),a6 (k,_)=>(x==isL (UInt8.ofNat b))&&((y==isD (UInt8.ofNat b))&&((decide (k=5)==isL (UInt8.ofNat b))&&(decide (k=6)==isD (UInt8.ofNat b))))
 |_,_,_=>false
theorem apK:awC=true:=by kernel_rfl
theorem wF (c:UInt8):adK (c.toNat:Int)=a6 (isL c,())/\adG (c.toNat:Int)=a6 (isD c,())/\ ∃k,ZB (c.toNat:Int)=a6 (k,())/\cZ k 5=isL c/\cZ k 6=isD c:=by
 have h:=List.all_eq_true.1 apK c.toNat (List.mem_range.2 (by have:=c.toNat_lt;omega));have d:UInt8.ofNat c.toNat=c:=by simp
 rw[d]at h;split at h
 .rename_i x u y v k w e f g
  simp only[ah,beq_iff_eq]at h
  grind [cZ]
 .cases h
def aGW:Bool:=(List.range 256).all fun b=>match Ob (b:Int) [64,42,35,63,45,36,33]with
 |some (x,_)=>(x==isP (UInt8.ofNat b))&&(isP (UInt8.ofNat b)==(cZ (b:Int) 64||(cZ (b:Int) 42||(cZ (b:Int) 35||(cZ (b:Int) 63||(cZ (b:Int) 45||(cZ (b:Int) 36||cZ (b:Int) 33)))))))
 |_=>false
theorem aDF:aGW=true:=by kernel_rfl
theorem atC (c:UInt8):Ob (c.toNat:Int) [64,42,35,63,45,36,33]=a6 (isP c,())/\isP c=(cZ (c.toNat:Int) 64||(cZ (c.toNat:Int) 42||(cZ (c.toNat:Int) 35||(cZ (c.toNat:Int) 63||(cZ (c.toNat:Int) 45||(cZ (c.toNat:Int) 36||cZ (c.toNat:Int) 33)))))):=by
 have h:=List.all_eq_true.1 aDF c.toNat (List.mem_range.2 (by have:=c.toNat_lt;omega));have d:UInt8.ofNat c.toNat=c:=by simp
 grind
theorem byte_at {s:List UInt8} {i:Nat} (h:i<s.length):dm s (i:Int)=(s[i].toNat:Int):=by
 simp_all [dm]
def runN (s:dC):Nat:=(s.takeWhile XN).length
def IU (s:dC):Nat:=(s.takeWhile isL).length
def lg (s:dC):Nat:=(s.takeWhile isD).length
theorem NC (p:UInt8->Bool) (s:dC):(s.takeWhile p).length<=s.length:=by
 induction s with
 |nil=>simp
 |cons c v d=>grind [bC]
theorem GZ (p:UInt8->Bool): ∀(s:dC) (i:Nat) (h:i<s.length),i<(s.takeWhile p).length->p s[i]=true
 |[],i,h,_=>by simp at h
 |c::v,i,h,d=>by
  rw[bC]at d;split at d
  .rename_i e
   match i with
   |0=>exact e
   |i+1=>exact GZ p v i (by simpa using h) (by simpa using d)
  .simp at d
theorem Cc (p:UInt8->Bool): ∀(s:dC) (h:(s.takeWhile p).length<s.length),p s[(s.takeWhile p).length]=false
 |[],h=>by simp at h
 |c::v,h=>by
  by_cases hc:p c=true
  .have e:List.takeWhile p (c::v)=c::v.takeWhile p:=by simp_all
   have d:(v.takeWhile p).length<v.length:=by simp_all
   have:=Cc p v d;simp_all
  simp_all
theorem aHZ (p:UInt8->Bool) (s:dC) (n:Nat) (d:n<=s.length) (e: ∀i (h:i<s.length),i<n->p s[i]=true) (h2: ∀h:n<s.length,p s[n]=false):(s.takeWhile p).length=n:=by
 have a:=NC p s;by_cases c:(s.takeWhile p).length<n
 .grind [Cc]
 grind [GZ]
def nl (s:dC):Nat:=if IU s=0 then 0 else runN s
theorem atZ {s:List UInt8} (h:IU s≠0):runN s≠0:=by
 unfold IU at h;unfold runN
 match s with
 |[]=>simp at h
 |c::v=>
  simp_all [bC,XN]
theorem az9 (s:dC):nl s<=s.length:=by
 unfold nl;split
 .omega
 .exact NC _ _
theorem YS {s:List UInt8} (d:s.length<4000000) {a k:Nat} (h:a+k<s.length): ∃hk:k<(s.drop a).length,dm s (dJ .i64 (a:Int) (k:Int))=(((s.drop a)[k]).toNat:Int):=by
 have hk:k<(s.drop a).length:=by grind
 refine⟨hk, ?_⟩;rw[dD,show(a:Int)+(k:Int)=((a+k:Nat):Int) by omega,byte_at h,List.getElem_drop]
theorem aAk {s:List UInt8} (e:s.length<4000000) {at_:Nat} (g:at_<=s.length) (a:dC) (b:Int) (c:dC) (d:Int): ∀(N k:Nat),s.length-k<N->k<=IU (s.drop at_)->
  pM N s (at_:Int) (k:Int) a b c d=a6 (.inl ((((IU (s.drop at_):Nat):Int),()),((a,b,c,d,()),(),()),()))
 |0,k,h,hk=>by
  omega
 |N+1,k,h,hk=>by
  have p:=NC isL (s.drop at_);have q:=aP (i:=at_) (l:=s);rw[pM,vX];have u:k<=((s.drop at_).takeWhile isL).length:=hk;have f:dJ .i64 (at_:Int) (k:Int)=(at_:Int)+k:=dD;by_cases h1:at_+k<s.length
  .obtain⟨j,m⟩:=YS e h1;rw[m,f,dn (fQ (by rw[cu];omega)),dn (fD),(wF _).1,bT];by_cases h2:k<IU (s.drop at_)
   .rw[GZ isL _ k j h2];simp only[au,ac];rw[dD,show(k:Int)+1=((k+1:Nat):Int) by omega];exact aAk e g a b c d N (k+1) (by omega) (by omega)
   .obtain rfl:k=IU (s.drop at_):=by omega
    grind [Cc,IU]
  .obtain rfl:k=IU (s.drop at_):=by grind [IU]
   rw[f,dY (iL (by rw[cu];omega))]
theorem aAl {s:List UInt8} (e:s.length<4000000) {at_:Nat} (j:at_<=s.length) (a:dC) (b:Int) (c:dC) (d:Int): ∀(N k:Nat),s.length-k<N->k<=runN (s.drop at_)->
  qI N s (at_:Int) (k:Int) a b c d=a6 (.inl ((((runN (s.drop at_):Nat):Int),()),((a,b,c,d,()),(),()),()))
 |0,k,h,hk=>by
  omega
 |N+1,k,h,hk=>by
  have u:=NC XN (s.drop at_);have v:=aP (i:=at_) (l:=s);rw[qI,A7];have x:k<=((s.drop at_).takeWhile XN).length:=hk;have f:dJ .i64 (at_:Int) (k:Int)=(at_:Int)+k:=dD;by_cases h1:at_+k<s.length
  .obtain⟨g,m⟩:=YS e h1;have p:dJ .i64 (k:Int) 1=((k+1:Nat):Int):=by grind [dD]
   rw[m,f,dn (fQ (by rw[cu];omega)),dn (fD),(wF _).1,bT,(wF _).2.1];by_cases h2:k<runN (s.drop at_)
   .have q:=aAl e j a b c d N (k+1) (by omega) (by omega);have y:=GZ XN _ k g h2;rw[p];cases hL:isL (s.drop at_)[k]with
    |true=>exact q
    |false=>
     simp_all [XN,bT]
   .obtain rfl:k=runN (s.drop at_):=by omega
    have:=Cc XN _ g;have z:XN (s.drop at_)[runN (s.drop at_)]=false:=this;simp_all [XN,bT]
  .obtain rfl:k=runN (s.drop at_):=by grind [runN]
   rw[f,dY (iL (by rw[cu];omega))]
theorem aAj {s:List UInt8} (e:s.length<4000000) {at_:Nat} (g:at_<=s.length) (a:dC) (b:Int) (c:dC) (d:Int): ∀(N k:Nat),s.length-k<N->k<=lg (s.drop at_)->
  tN N s (at_:Int) (k:Int) a b c d=a6 (.inl ((((lg (s.drop at_):Nat):Int),()),((a,b,c,d,()),(),()),()))
 |0,k,h,hk=>by
  omega
 |N+1,k,h,hk=>by
  have p:=NC isD (s.drop at_);have q:=aP (i:=at_) (l:=s);rw[tN,AZ];have u:k<=((s.drop at_).takeWhile isD).length:=hk;have f:dJ .i64 (at_:Int) (k:Int)=(at_:Int)+k:=dD;by_cases h1:at_+k<s.length
  .obtain⟨j,m⟩:=YS e h1;rw[m,f,dn (fQ (by rw[cu];omega)),dn (fD),(wF _).2.1,bT];by_cases h2:k<lg (s.drop at_)
   .rw[GZ isD _ k j h2];simp only[au,ac];rw[dD,show(k:Int)+1=((k+1:Nat):Int) by omega];exact aAj e g a b c d N (k+1) (by omega) (by omega)
   .obtain rfl:k=lg (s.drop at_):=by omega
    grind [Cc,lg]
  .obtain rfl:k=lg (s.drop at_):=by grind [lg]
   rw[f,dY (iL (by rw[cu];omega))]
theorem acU {s:List UInt8} (d:s.length<4000000) {a:Nat} (e:a<=s.length):FM s a=a6 (((lg (s.drop a):Nat):Int),()):=by
 rw[FM,dY (iL)];by_cases h0:a=s.length
 .subst h0;rw[dn (ul (by rw[cu];omega)),List.drop_length];rfl
 rw[dY (EY (by rw[cu];omega)),show tN bY s a 0 s a s a=_ from aAj d e s a s a bY 0 (di) (by omega),bT];rfl
theorem aoV {s:List UInt8} (d:s.length<4000000) {a:Nat} (e:a<=s.length):Ub s a=a6 (((nl (s.drop a):Nat):Int),()):=by
 (rewrite [Ub];delta Zy;rw[dY (iL)])
 by_cases h0:a=s.length
 .subst h0;rw[dn (ul (by rw[cu];omega)),List.drop_length];rfl
 rw[dY (EY (by rw[cu];omega)),show pM bY s a 0 s a s a=_ from aAk d e s a s a bY 0 (di) (by omega),bT];unfold dX;simp only;unfold nl;by_cases h1:IU (s.drop a)=0
 .rw[am h1,h1];rfl
 .rw[aq h1,dY (fB),dY (iL),dY (EY (by rw[cu];omega)),show qI bY s a 0 _ _ _ _=_ from aAl d e _ _ _ _ bY 0 (di) (by omega)];rfl
theorem P5 {s:List UInt8} (e:s.length<4000000): ∀(N k:Nat),s.length-k<N->k<=runN s->
  Ic N s (k:Int)=a6 (if runN s=s.length then .inl ((),())else .inr ((false,()),()))
 |0,k,h,hk=>by omega
 |N+1,k,h,hk=>by
  have m:=NC XN s;have p:k<=(s.takeWhile XN).length:=hk;rw[Ic,RH];by_cases h1:k<s.length
  .obtain⟨c,f,g,q⟩:=(wF s[k]).2.2;have i:iy s (k:Int)=true:=fD;rw[dn (fQ (by rw[cu];omega)),i,byte_at h1,f,bT,g];by_cases h2:k<runN s
   .have j:=P5 e N (k+1) (by omega) (by omega);have u:=GZ XN s k h1 h2;have l:dJ .i64 (k:Int) 1=((k+1:Nat):Int):=by grind [dD]
    rw[l];cases hL:isL s[k]with
    |true=>exact j
    |false=>
     simp_all [XN,bT]
   .obtain rfl:k=runN s:=by omega
    have:=Cc XN s h1;have d:XN s[runN s]=false:=this;simp only[XN,Bool.or_eq_false_iff]at d;rw[d.1,aq (by omega)];simp_all [bT]
  .obtain rfl:k=runN s:=by grind [runN]
   rw[dY (iL (by rw[cu];omega)),am (by omega)]
theorem arz {s:List UInt8} (d:s≠[]):IU s=0↔isL (s.headD 0)=false:=by
 match s,d with
 |c::v,_=>
  simp_all [IU,bC]
theorem zu {s:List UInt8} (e:s.length<4000000):TY s=a6 (decide (nl s≠0/\nl s=s.length),()):=by
 rw[TY];by_cases h0:s=[]
 .subst h0;rfl
 have f:0<s.length:=List.length_pos_iff.2 h0;obtain⟨_,_,c,g,j,p⟩:=wF s[0];have l:dm s 0=(s[0].toNat:Int):=byte_at (i:=0) f;have q:s.headD 0=s[0]:=by
  match s,h0 with
  |c::v,_=>rfl
 rw[dY (fB (by rw[cu];omega)),dn (fD),l,g,bT];simp only;rw[j];unfold nl;cases hL:isL s[0]with
 |false=>
  simp_all [arz]
 |true=>
  have d:IU s≠0:=fun h=>by simp_all [arz]
  have m:=atZ d;simp only[au,ac];rw[aq d,show Ic bY s 1=_ from P5 e bY 1 (di) (by omega)];by_cases h3:runN s=s.length
  .rw[am h3,decide_eq_true ⟨m,h3⟩];rfl
  .rw[aq h3,decide_eq_false (fun h=>h3 h.2)];rfl
theorem acP (p:UInt8->Bool): ∀(s:dC) (k:Nat),((s.take k).takeWhile p).length=min k (s.takeWhile p).length
 |[],k=>by simp
 |c::v,0=>by simp
 |c::v,k+1=>by
  rw[List.take_succ_cons,bC,bC];split
  .rw[az,az,acP p v k];omega
  .simp
theorem ayg (t:dC) {k:Nat} (d:1<=k) (hk:k<=t.length):(nl (t.take k)≠0/\nl (t.take k)=(t.take k).length)↔k<=nl t:=by
 have e:(t.take k).length=k:=by simp_all
 have a:=acP isL t k;have b:=acP XN t k;unfold nl IU runN
 grind
theorem UQ {s:List UInt8} (d:s.length<4000000) {a:Nat} (f:a<=s.length): ∀(N k:Nat),s.length-a+1-k<N->1<=k->k<=s.length-a+1->
  Ie N s a ((min (k-1) (nl (s.drop a)):Nat):Int) (k:Int)=a6 (.inl ((((nl (s.drop a):Nat):Int),()),()))
 |0,k,h,_,_=>by omega
 |N+1,k,h,g,l=>by
  have i:=az9 (s.drop a);rw[aP]at i;rw[Ie,RN,cu,iH];by_cases e:k<=s.length-a
  .have j:sub s (a:Int) (dJ .i64 (a:Int) (k:Int))=(s.drop a).take k:=by
    grind [dD,sub,List.drop_take]
   have m:=UQ d f N (k+1) (by omega) (by omega) (by omega);rw[dn (ul),dn (ig (by omega) (by grind [dD]) (by grind [dD])),j,
    zu (by grind),bT,dD,show(k:Int)+1=((k+1:Nat):Int) by omega]
   have p:=ayg (s.drop a) g (by simp_all)
   grind
  .rw[dY (EY),show min (k-1) (nl (s.drop a))=nl (s.drop a) by omega]
theorem aAZ {s:List UInt8} (d:s.length<4000000) {a:Nat} (e:a<=s.length):ai3 s a=a6 (((nl (s.drop a):Nat):Int),()):=by
 rw[ai3];have h:=UQ d e bY 1 (di) (by omega) (by omega);rw[show min (1-1) (nl (s.drop a))=0 by omega]at h;rw[show Ie bY s a 0 1=_ from h,bT];rfl
def prl (s:dC):Nat:=if nl s≠0 then nl s else match s with
 |c::_=>if isP c||isD c then 1 else 0
 |[]=>0
theorem ahV (s:dC):prl s<=s.length:=by
 unfold prl
 grind [az9]
theorem NU {s:List UInt8} {a:Nat} (h:a<s.length):s.drop a=s[a]::s.drop (a+1):=aH h
theorem awj {s:List UInt8} (d:s.length<4000000) {a:Nat} (f:a<=s.length):aiT s a=a6 (((prl (s.drop a):Nat):Int),()):=by
 rw[aiT,aAZ d f,bT];unfold prl;by_cases e:nl (s.drop a)=0
 .rw[dn (gz),aq (by omega)];by_cases h:a<s.length
  .obtain⟨k,hk,j,g⟩:=(wF s[a]).2.2;have i:iy s (a:Int)=true:=fD;rw[dn (fQ (by rw[cu];omega)),i,byte_at h,hk,bT,g,(atC _).1,bT,e,NU h]
   grind
  simp_all [iL,cu,aO]
 simp_all [fB]
theorem awi {s:List UInt8} (d:s.length<4000000) {a:Nat} (f:a<=s.length):XG s a=a6 (((prl (s.drop a):Nat):Int),()):=by
 rw[XG,aoV d f,bT];unfold prl;by_cases e:nl (s.drop a)=0
 .rw[dY (iL),aq (by omega),dY (iL)];by_cases h:a<s.length
  .rw[dY (EY (by rw[cu];omega)),dn (fD),byte_at h,acU d f,bT];have hd:JJ ((lg (s.drop a):Nat):Int) 1=if isD s[a]then 1 else 0:=by
    grind [lg,NU,bC,JJ]
   have g:=(atC s[a]).2;rw[hd,NU h]
   grind
  simp_all [ul,cu,aO]
 .rw[dn (fQ),am e]
end
section
open Bool renaming and_true → aj
open List renaming length_append → ae, length_cons → az, length_nil → aY
open Nat renaming le_refl → af
open Go.RowKit
abbrev mW:=Int×Int×Int×Int×Bool×Unit
abbrev IW:=Int×Int×Unit
def dP:mW:=(0,(0,(0,(0,(false,())))))
def dF:IW:=(0,(0,()))
def counts (m:Int):Int:=if m=3 then 1 else if m=11 then 9 else m
theorem adh (m:Int):XI m=some (counts m,()):=by
 unfold XI counts;simp only[iT];by_cases h1:m=3
 .simp[h1]
 .by_cases h2:m=11<;>simp[h1,h2]
theorem Il {e:Type} {l:List e} {d x:e} {i:Nat} (h:i<l.length):dU (jd l i x) d i=x:=by
 simp_all [dU,jd]
theorem afm {d:Type} {l:List d} {i:Nat} {x y:d}:jd (jd l i x) i y=jd l i y:=by
 simp_all [jd]
theorem aji {d:Type} {l:List d} {i:Nat} {x:d} {k:Int}:iy (jd l i x) k=iy l k:=by
 simp_all [iy,jd]
theorem akd {d:Type} {l:List d} {i k:Nat} {x:d}:qO k (jd l i x)=qO k l:=by
 simp_all [qO,jd]
theorem yx {d:Type} {l:List d} {i:Nat} {x:d}:(jd l i x).length=l.length:=by
 simp_all [jd]
theorem ado (n:Nat):eqN n n=true:=by simp[eqN]
def QE (L:List mW) (j:Nat) (a:Int):List mW:=jd L j ((dU L dP j).1,(dU L dP j).2.1,a,(dU L dP j).2.2.2.1,false,())
def XW (L:List mW) (j:Nat) (m:Int):List mW:=jd L j (m,(dU L dP j).2)
theorem Iq (L:List mW) (j:Nat) (a:Int):(QE L j a).length=L.length:=yx
theorem Ii (L:List mW) (j:Nat) (m:Int):(XW L j m).length=L.length:=yx
def rE (F:List IW) (a:Int):Nat->List mW->List Int->List mW×List Int
 |0,L,H=>(L,H)
 |n+1,L,H=>
  if n+1<=F.length/\(F.getD n dF).2.1=(dU L dP (H.getD n 0).toNat).2.1 then(L,H)
  else rE F a n (QE L (H.getD n 0).toNat (a+1)) (H.take n)
def Dj (F:List IW) (H:List Int):Nat->Nat->List mW->List mW
 |0,_,L=>L
 |k+1,i,L=>Dj F H k (i+1) (XW L (H.getD i 0).toNat (counts (F.getD i dF).1))
theorem afl (F:List IW) {a:Int} (d:0<=a) (f:a<1000000) (hF:F.length<1000000): ∀(N n:Nat) (L:List mW) (H:List Int),n<N->n=H.length->n<1000000->L.length<1000000->
  (∀j∈H,0<=j/\j<L.length)->
  LQ N F a (n:Int) L H=some (.inl ((F,()),((),()),((),(rE F a n L H).1,(rE F a n L H).2,())))
 |0,n,L,H,h,_,_,_,_=>by omega
 |N+1,0,L,H,h,_,_,_,_=>by
  rfl
 |N+1,n+1,L,H,h,J,K,g,i=>by
  have M:n<H.length:=by omega
  have l:fO .i64 ((n+1:Nat):Int) 1=(n:Int):=by grind [iH]
  have m:H.getD n 0∈H:=by simp_all
  obtain⟨p,q⟩:=i _ m;have u:dU H 0 (dM (n:Int))=H.getD n 0:=rfl;have v:gW F (0,(0,())) (n:Int)=F.getD n dF:=rfl;have y:iy L (H.getD n 0)=true:=fD p q;have z:qO (dM (H.getD n 0)) L=true:=rX (by simp only[dM];omega);have A:gy (bV H) 0 (n:Int)=true:=ig (by omega) (by omega) (by rw[cu];omega);have B:sub H 0 (n:Int)=H.take n:=by simp[sub]
  have D:dJ .i64 a 1=a+1:=dD;have I:dM (H.getD n 0)<L.length:=by simp only[dM];omega
  have jW: ∀x,dU (jd L (dM (H.getD n 0)) x) (0,(0,(0,(0,(false,()))))) (dM (H.getD n 0))=x:=fun x=>Il I;have go:=afl F d f hF N n (QE L (H.getD n 0).toNat (a+1)) (H.take n) (by omega) (by grind) (by omega) (by rw[Iq];exact g)
   (fun j O=>by grind [Iq])
  (rewrite [LQ,RU];delta Iz yN yM kG;rw[rE])
  simp only[l,u,v,y,z,A,B,D,aji,akd,jW,afm,aa];rw[dn (fQ),dn (fD),dn (rX (by assumption))];by_cases e:n+1<=F.length
  .rw[dn (ul (by rw[cu];omega)),dn (fD)];by_cases e2:(F.getD n dF).2.1=(dU L dP (H.getD n 0).toNat).2.1
   .rw[am ⟨e,e2⟩];exact dn (gz e2)
   .rw[aq (fun h=>e2 h.2)];exact(dY (fB e2)).trans go
  .rw[dY (EY (by rw[cu];omega)),aq (fun h=>e h.1)];exact go
theorem afk (F:List IW) (H:List Int) (hF:F.length<1000000) (e:H.length<1000000): ∀(k i N:Nat) (L:List mW),i+k=H.length->H.length<=F.length->L.length<1000000->(∀j∈H,0<=j/\j<L.length)->
  vK (N+k) F (bV F) (i:Int) L H=vK N F (bV F) (H.length:Int) (Dj F H k i L) H
 |0,i,N,L,h,_,_,_=>by simp_all [Dj]
 |k+1,i,N,L,h,f,g,l=>by
  have y:i<H.length:=by omega
  have m:H.getD i 0∈H:=by simp_all
  obtain⟨p,q⟩:=l _ m;have u:dU H 0 (dM (i:Int))=H.getD i 0:=rfl;have v:gW F (0,(0,())) (i:Int)=F.getD i dF:=rfl;have d:iy L (H.getD i 0)=true:=fD p q;have x:qO (dM (H.getD i 0)) L=true:=rX (by simp only[dM];omega);have go:=afk F H hF e k (i+1) N (XW L (H.getD i 0).toNat (counts (F.getD i dF).1)) (by omega) f (by rw[Ii];exact g) (fun j z=>by grind [Ii])
  (rewrite [show N+(k+1)=(N+k)+1 by omega,vK,EP];delta oM oL mG;rw[Dj,<-go])
  rw[dn (fQ (by rw[cu];omega)),dn (fD),dn (fQ (by rw[cu];omega)),dn (fD),dn (rX (by assumption)),adh,bT,u,d,x];simp only[aji,d,aa,ado,aj,v];rw[dD,show(i:Int)+1=((i+1:Nat):Int) by omega];rfl
theorem Oz (F:List IW) (H:List Int): ∀(k i:Nat) (L:List mW),(Dj F H k i L).length=L.length
 |0,_,_=>rfl
 |k+1,i,L=>by rw[Dj,Oz F H k,Ii]
theorem O4 (F:List IW) (a:Int): ∀(n:Nat) (L:List mW) (H:List Int),(rE F a n L H).1.length=L.length/\(rE F a n L H).2.length<=H.length/\(∀j∈(rE F a n L H).2,j∈H)
 |0,_,H=>⟨rfl,af _,fun _ h=>h⟩
 |n+1,L,H=>by
  rw[rE];split
  .simp
  .have h:=O4 F a n (QE L (H.getD n 0).toNat (a+1)) (H.take n)
   grind [Iq]
def ab5 (L:List mW) (H:List Int) (F:List IW) (a:Int):List mW×List Int:=
 let r:=rE F a H.length L H
 let d:=Dj F r.2 r.2.length 0 r.1
 if F.length=r.2.length then(d,r.2)
 else(d++[(counts (F.getD r.2.length dF).1,((F.getD r.2.length dF).2.1,(0,((if r.2.length=0 then-1 else r.2.getD (r.2.length-1) 0),(true,())))))],r.2++[(d.length:Int)])
theorem aG7 {L:List mW} {H:List Int} {F:List IW} {t:IW} {a:Int} (m:0<=a) (p:a<1000000) (hF:F.length<1000000) (q:L.length<1000000) (u:H.length<1000000) (v: ∀j∈H,0<=j/\j<L.length)
  (y:(rE F a H.length L H).2.length<=F.length) (h2:F.length<=(rE F a H.length L H).2.length+1):
  adJ L H (t::F) a=some (((ab5 L H F a).1,((ab5 L H F a).2,())),()):=by
 have O:=O4 F a H.length L H;have z:sub (t::F) 1 (bV (t::F))=F:=by simp[sub,bV]
 have A:=afl F m p hF bY H.length L H (di) rfl u q v;unfold adJ;rw[dn (ig (by omega) (by rw[cu];simp;omega) (by rw[cu];omega)),z,cu (l:=H),A,bT];simp only[dX];unfold ab5;generalize S:rE F a H.length L H=r at*;have B: ∀j∈r.2,0<=j/\j<r.1.length:=fun j U=>by simp_all
 have V:=Oz F r.2 r.2.length 0 r.1;obtain⟨K,D⟩: ∃K,bY=(K+2)+r.2.length:=⟨bY-2-r.2.length,by have:=di (n:=r.2.length+2) (by omega);omega⟩;have g:=afk F r.2 hF (by omega) r.2.length 0 (K+2) r.1 (by omega) y (by omega) B;rw[<-D]at g;rw[show(0:Int)=((0:Nat):Int) from rfl,g];by_cases e:F.length=r.2.length
 ·(rewrite [vK,EP];delta oM oL mG;rw[dY (iL (by rw[cu];omega)),am e,bT])
 .rw[aq e];have W:r.2.length<F.length:=by omega
  generalize X:Dj F r.2 r.2.length 0 r.1=L2 at*;have I:gW F (0,(0,())) (r.2.length:Int)=F.getD r.2.length dF:=rfl;have J: ∀x:mW,fG (bZ L2 [x]) 40=true:=fun x=>by simp only[fG,bZ,ae,az,aY,decide_eq_true_eq,nC];omega
  have M: ∀x:Int,fG (bZ r.2 [x]) 8=true:=fun x=>by simp only[fG,bZ,ae,az,aY,decide_eq_true_eq,nC];omega
  have i: ∀f d,(d.length:Int)=r.2.length+1->vK (K+1) F (bV F) (dJ .i64 (r.2.length:Int) 1) f d=some (.inl ((),((),()),((),f,d,()))):=fun f d Y=>by
   (rewrite [vK,EP];delta oM oL mG;rw[dY (iL (by grind [cu,dD]))])
  (rewrite [vK,EP];delta oM oL mG;rw[dn (fQ (by rw[cu];omega)),dn (fD),dY (iL (by rw[cu];omega))])
  simp only[I,adh,bT,eU,J,M,aj,aa,jl];by_cases e0:r.2.length=0
  .rw[dY (iL),am e0,i _ _ (by simp[bZ]),bT];rfl
  .have N:fO .i64 (r.2.length:Int) 1=((r.2.length-1:Nat):Int):=by grind [iH]
   rw[dn (fQ),N,dn (fD),dn (rX (by simp only[dM];omega)),aq e0,i _ _ (by simp[bZ]),bT];rfl
end
section
open Go.RowKit
def sJ (s:gB):List IW:=(s.dropLast.map fun f=>(f.1,f.2,())).reverse
def EZ (s:gB):List Int:=(s.dropLast.map (·.2)).reverse
theorem vO (s:gB):(sJ s).map (·.2.1)=EZ s:=by
 simp only[sJ,EZ,List.map_reverse,List.map_map];rfl
theorem aB7 {s:gB} (d:jg s): ∃t:IW,lo s=t::sJ s:=by
 have e:s≠[]:=by rintro rfl;exact d
 grind [List.dropLast_concat_getLast,lo,sJ]
theorem aeV (f:xf) {r:gB} (h:r≠[]):EZ (f::r)=EZ r++[f.2]:=by
 cases r with
 |nil=>exact absurd rfl h
 |cons g r=>simp[EZ]
theorem ayS (pre:gB) (f:xf) (r:gB): ∃l,EZ (pre++f::r)=EZ (f::r)++l:=by
 induction pre with
 |nil=>simp
 |cons g pre d=>
  obtain⟨l,h⟩:=d;simp_all [aeV]
def Shape (s y:gB) (at_:Int):Prop:= ∃pre f r d,s=pre++f::r/\(y=(d,f.2)::r\/ ∃e,y=(e,at_)::(d,f.2)::r)
theorem AU {m:Int} {f:Int×Int} {r:gB} (j:m=0\/r≠[]) (fr:Bool) (b at_:Int):Shape (f::r) (kP m (f::r) fr b at_).1 at_:=by
 have d:Shape (f::r) (f::r) at_:=⟨[],f,r,f.1,rfl,.inl rfl⟩;have push: ∀k,Shape (f::r) ((k,at_)::f::r) at_:=fun k=>⟨[],f,r,f.1,rfl,.inr ⟨k,rfl⟩⟩;have e: ∀k,Shape (f::r) ((k,f.2)::r) at_:=fun k=>⟨[],f,r,k,rfl,.inl rfl⟩;have i:m≠0->Shape (f::r) r at_:=fun h=>by
  cases r with
  |nil=>simp_all
  |cons g r=>exact⟨[f],g,r,g.1,rfl,.inl rfl⟩
 unfold kP MN JE;rcases qy b with rfl|rfl|rfl|rfl|rfl|rfl|rfl|rfl|rfl|rfl|rfl|⟨l,p,q,u,v,x,y,z,A,B,D⟩<;>cases fr<;>simp_all<;>
  (repeat' split)<;>first|assumption|exact push _|exact e _|(exact i (by omega))|(simp_all;done)|exact d|skip
theorem anR {pre s y:gB} {at_:Int} (h:Shape s y at_):Shape (pre++s) y at_:=by
 obtain⟨p,f,r,d,g,e⟩:=h;exact⟨pre++p,f,r,d,by simp_all,e⟩
theorem VB {a:Int} {f:Int×Int} {r y:gB} {at_:Int} (h:Shape ((a,f.2)::r) y at_):Shape (f::r) y at_:=by
 obtain⟨p,g,m,e,i,j⟩:=h;cases p with
 |nil=>
  obtain⟨l,d⟩:=List.cons.inj i;subst l d;exact⟨[],f,r,e,rfl,j⟩
 |cons q p=>
  obtain⟨l,d⟩:=List.cons.inj i;exact⟨f::p,g,m,e,by rw[d];rfl,j⟩
theorem ah7 {s:gB} (d:jg s) (fr:Bool) (b at_:Int):Shape s (gG s fr b at_).1 at_:=by
 cases s with
 |nil=>cases d
 |cons f r=>
 have l: ∀k,Shape (f::r) ((k,f.2)::r) at_:=fun k=>⟨[],f,r,k,rfl,.inl rfl⟩;have m: ∀g j,r=g::j->Shape (f::r) r at_:=fun g j h=>by rw[h];exact⟨[f],g,j,g.1,rfl,.inl rfl⟩
 simp only[gG];split
 .rename_i e
  have i:r≠[]:=qW d (by omega);cases r with
  |nil=>exact absurd rfl i
  |cons g r=>
  split
  .exact l 3
  .split
   .split<;>exact l _
   .split
    .exact m g r rfl
    .have p:=Hy d i;refine anR (pre:=[f]) (AU ?_ fr b at_)
     grind [qW]
 .split
  .grind [qW,VB,AU]
  .split
   .rename_i e
    have i:r≠[]:=qW d (by omega);split
    .cases r with
     |nil=>exact absurd rfl i
     |cons g r=>exact m g r rfl
    grind [VB,AU]
   grind [AU,qW]
theorem MM {s:gB} (e:jg s) (fr:Bool) (b at_:Int): ∃c,c<=(EZ s).length/\(EZ (gG s fr b at_).1=(EZ s).take c\/EZ (gG s fr b at_).1=(EZ s).take c++[at_]):=by
 obtain⟨pre,f,r,i,j,m⟩:=ah7 e fr b at_;obtain⟨l,d⟩:=ayS pre f r;rw[<-j]at d;have p:EZ ((i,f.2)::r)=EZ (f::r):=by
  cases r with
  |nil=>rfl
  |cons g r=>rfl
 refine⟨(EZ (f::r)).length,by rw[d];simp, ?_⟩;rw[d,List.take_left']
 .rcases m with h|⟨q,h⟩
  .simp_all
  .rw[h,aeV _ (by simp),p];exact .inr rfl
 .rfl
end
section
open Int renaming toNat_natCast → aX
open List renaming length_append → ae, length_map → aJ
open Nat renaming le_refl → af, lt_or_ge → ak
open Go.RowKit
def aJv (p:mW):Int:=p.1
def aJu (p:mW):Int:=p.2.1
def pTo (p:mW):Int:=p.2.2.1
def pUp (p:mW):Int:=p.2.2.2.1
def aJw (p:mW):Bool:=p.2.2.2.2.1
theorem akh {e:Type} {l:List e} {d:e} {i:Nat} (h:l.length<=i):dU l d i=d:=by
 simp_all [dU]
theorem sQ {e:Type} {l:List e} {d:e} {i:Nat} (h:i<l.length):dU l d i=l[i]:=by
 simp_all [dU]
theorem getD_take {e:Type} {l:List e} {d:e} {i n:Nat} (h:i<n):(l.take n).getD i d=l.getD i d:=by
 simp_all
theorem JL {e:Type} {l:List e} {d x:e} {i j:Nat} (h:i≠j):dU (jd l i x) d j=dU l d j:=by
 simp_all [dU,jd]
def MX (a:Int) (p:mW):mW:=(p.1,p.2.1,a,p.2.2.2.1,false,())
theorem Ir (L:List mW) (j:Nat) (a:Int) (k:Nat) (d:j<L.length):dU (QE L j a) dP k=if j=k then MX a (dU L dP k)else dU L dP k:=by
 unfold QE;by_cases h:j=k
 .subst h;rw[am rfl,Il d];rfl
 .rw[aq h,JL h]
theorem OA (L:List mW) (j:Nat) (m:Int) (k:Nat) (d:j<L.length):dU (XW L j m) dP k=if j=k then(m,(dU L dP k).2)else dU L dP k:=by
 unfold XW;by_cases h:j=k
 .subst h;rw[am rfl,Il d]
 .rw[aq h,JL h]
theorem VC (F:List IW) (a:Int) (H:List Int) (c:Nat) (p: ∀n,n<H.length->0<=H.getD n 0): ∀(n:Nat) (L:List mW),c<=n->n<=H.length->
  (∀m,m<n->(H.getD m 0).toNat<L.length)->
  (∀m,m<c->m<F.length/\(F.getD m dF).2.1=(dU L dP (H.getD m 0).toNat).2.1)->
  (∀m,c<=m->m<n-> ¬(m+1<=F.length/\(F.getD m dF).2.1=(dU L dP (H.getD m 0).toNat).2.1))->
  (rE F a n L (H.take n)).2=H.take c/\
  (∀j,(∃m,c<=m/\m<n/\(H.getD m 0).toNat=j)->dU (rE F a n L (H.take n)).1 dP j=MX (a+1) (dU L dP j))/\
  (∀j,(∀m,c<=m->m<n->(H.getD m 0).toNat≠j)->dU (rE F a n L (H.take n)).1 dP j=dU L dP j)
 |0,L,q,u,g,v,i=>by
  have:c=0:=by omega
  subst this;exact⟨rfl,fun j ⟨m,_,h,_⟩=>by omega,fun j _=>rfl⟩
 |n+1,L,q,u,g,v,i=>by
  rw[rE,getD_take (by omega)];by_cases e:c=n+1
  .grind
  .have x:=i n (by omega) (by omega);have f:=g n (by omega);have D: ∀k,(dU (QE L (H.getD n 0).toNat (a+1)) dP k).2.1=(dU L dP k).2.1:=fun k=>by
    rw[Ir _ _ _ _ f];split<;>rfl
   rw[aq x,List.take_take,show min n (n+1)=n by omega];obtain⟨y,z,A⟩:=VC F a H c p n (QE L (H.getD n 0).toNat (a+1)) (by omega) (by omega) (fun m l=>by grind [Iq])
    (fun m l=>by grind) (fun m l B=>by grind)
   refine⟨y,fun j d=> ?_,fun j d=> ?_⟩
   .by_cases hq: ∃m,c<=m/\m<n/\(H.getD m 0).toNat=j
    .rw[z j hq,Ir _ _ _ _ f];split<;>rfl
    .obtain⟨m,I,B,J⟩:=d;have:m=n:=by
      grind
     simp_all [Ir]
   .rw[A j (fun k hk K=>d k hk (by omega)),Ir _ _ _ _ f,aq (d n (by omega) (by omega))]
theorem UO (F:List IW) (H:List Int) (f: ∀m n,m<H.length->n<H.length->(H.getD m 0).toNat=(H.getD n 0).toNat->m=n): ∀(k i:Nat) (L:List mW),i+k<=H.length->
  (∀m,m<H.length->(H.getD m 0).toNat<L.length)->
  (∀m,i<=m->m<i+k->dU (Dj F H k i L) dP (H.getD m 0).toNat=(counts (F.getD m dF).1,(dU L dP (H.getD m 0).toNat).2))/\
  (∀j,(∀m,i<=m->m<i+k->(H.getD m 0).toNat≠j)->dU (Dj F H k i L) dP j=dU L dP j)
 |0,i,L,h,g=>⟨fun m q u=>by omega,fun j _=>rfl⟩
 |k+1,i,L,h,g=>by
  have d:=g i (by omega);obtain⟨v,l⟩:=UO F H f k (i+1) (XW L (H.getD i 0).toNat (counts (F.getD i dF).1)) (by omega) (fun m x=>by grind [Ii]);rw[Dj];refine⟨fun m q u=> ?_,fun j p=> ?_⟩
  .by_cases e:m=i
   .subst e;rw[l _ (fun k hk z A=>by grind),OA _ _ _ _ d,am rfl]
   .rw[v m (by omega) (by omega),OA _ _ _ _ d,aq (fun y=>e (f i m (by omega) (by omega) y).symm)]
  .rw[l j (fun m x B=>p m (by omega) (by omega)),OA _ _ _ _ d,aq (p i (by omega) (by omega))]
def IX (F:List IW) (v:Int):Option Int:=(F.find? fun f=>f.2.1==v).map (·.1)
theorem TW {F:List IW} (hd: ∀m n,m<F.length->n<F.length->(F.getD m dF).2.1=(F.getD n dF).2.1->m=n) {m:Nat} (d:m<F.length):IX F (F.getD m dF).2.1=some (F.getD m dF).1:=by
 have e: ∃f,F.find? (fun f=>f.2.1==(F.getD m dF).2.1)=some f:=by
  cases h:F.find? (fun f=>f.2.1==(F.getD m dF).2.1)with
  |some f=>exact⟨f,rfl⟩
  |none=>
   grind
 grind [List.getElem_of_mem,IX]
theorem JC {F:List IW} {v:Int} (h: ∀m,m<F.length->(F.getD m dF).2.1≠v):IX F v=none:=by
 grind [IX,List.getElem_of_mem]
def pW (F:List IW) (a:Int) (p:mW):mW:=
 if p.2.2.2.2.1=true then(match IX F p.2.1 with
  |some m=>(counts m,p.2)
  |none=>MX (a+1) p)else p
def Z5 (F:List IW) (a:Int):Bool:=match F.getLast? with
 |some f=>decide (f.2.1=a)
 |none=>false
def arC (L:List Int) (v:Int):Int:=((L.findIdx fun p=>p==v:Nat):Int)
def BB (F:List IW) (a:Int) (fr:List Int):mW:=(counts (F.getLastD dF).1,a,0,(if F.length=1 then-1 else arC fr (F.getD (F.length-2) dF).2.1),true,())
def PX (F:List IW) (a:Int) (L:List mW):List mW:=L.map (pW F a)++if Z5 F a=true then [BB F a (L.map (·.2.1))]else []
structure Inv (L:List mW) (H:List Int) (F:List IW) (k:Int):Prop where
 len:H.length=F.length
 nn: ∀n,n<H.length->0<=H.getD n 0/\(H.getD n 0).toNat<L.length
 frm: ∀n,n<H.length->(dU L dP (H.getD n 0).toNat).2.1=(F.getD n dF).2.1/\(dU L dP (H.getD n 0).toNat).2.2.2.2.1=true
 opn: ∀j,(dU L dP j).2.2.2.2.1=true-> ∃n,n<H.length/\(H.getD n 0).toNat=j
 lt: ∀j,j<L.length->(dU L dP j).2.1<k
 inj: ∀i j,i<L.length->j<L.length->(dU L dP i).2.1=(dU L dP j).2.1->i=j
 fd: ∀m n,m<F.length->n<F.length->(F.getD m dF).2.1=(F.getD n dF).2.1->m=n
theorem Inv.hd {L:List mW} {H:List Int} {F:List IW} {k:Int} (h:Inv L H F k): ∀m n,m<H.length->n<H.length->(H.getD m 0).toNat=(H.getD n 0).toNat->m=n:=fun m n d f e=>by
 have g:=(h.frm m d).1;have i:=(h.frm n f).1;rw[e,i]at g;exact(h.fd n m (by rw[<-h.len];exact f) (by rw[<-h.len];exact d) g).symm
theorem uP {F:List IW} {n:Nat} (h:n<F.length:=by omega):(F.getD n dF).2.1=(F.map (·.2.1)).getD n 0:=by
 simp_all
theorem awW {f:Type} {d:f} {l e:List f} (h:l.length=e.length) (h2: ∀j,j<l.length->dU l d j=dU e d j):l=e:=by
 grind [List.ext_getElem,sQ]
theorem adT {L:List mW} (d: ∀i j,i<L.length->j<L.length->(dU L dP i).2.1=(dU L dP j).2.1->i=j) {j:Nat} (e:j<L.length):arC (L.map (·.2.1)) (dU L dP j).2.1=(j:Int):=by
 have f: ∀i,i<L.length->(L.map (·.2.1))[i]? =some (dU L dP i).2.1:=fun i g=>by
  simp_all [sQ]
 unfold arC
 grind
theorem auA {L:List mW} {H:List Int} {F g:List IW} {k:Int} (h:Inv L H F k) {c:Nat} (hc:c<=F.length)
  (hF:g.map (·.2.1)=(F.map (·.2.1)).take c\/g.map (·.2.1)=(F.map (·.2.1)).take c++[k]):
  (rE g k H.length L H).2.length<=g.length/\g.length<=(rE g k H.length L H).2.length+1/\
  (ab5 L H g k).1=PX g k L/\Inv (ab5 L H g k).1 (ab5 L H g k).2 g (k+1):=by
 have aY:g.length=c\/g.length=c+1:=by
  have u:g.length=(g.map (·.2.1)).length:=(aJ ..).symm;rcases hF with e|e<;>rw[u,e]<;>simp<;>omega
 have aK:c<=H.length:=by rw[h.len];exact hc
 have y: ∀m,m<c->m<g.length/\(g.getD m dF).2.1=(F.getD m dF).2.1:=fun m v=>by
  refine⟨by omega, ?_⟩;rw[uP,uP (F:=F) (by omega)];rcases hF with e|e
  .rw[e,getD_take v]
  .rw[e,List.getD_eq_getElem?_getD,List.getElem?_append_left (by simp;omega),<-List.getD_eq_getElem?_getD,getD_take v]
 have M:c<g.length->(g.getD c dF).2.1=k:=fun v=>by
  rcases hF with e|e
  .have:g.length=(g.map (·.2.1)).length:=(aJ ..).symm;rw[e]at this;simp at this;omega
  .rw[uP v,e,List.getD_eq_getElem?_getD,List.getElem?_append_right (by simp;omega)];simp[Nat.min_eq_left hc]
 have N: ∀m,m<F.length->(F.getD m dF).2.1<k:=fun m v=>by
  rw[<-(h.frm m (by rw[h.len];exact v)).1];exact h.lt _ (h.nn m (by rw[h.len];exact v)).2
 obtain⟨s1,s2,s3⟩:=VC g k H c (fun n q=>(h.nn n q).1) H.length L aK (af _) (fun m v=>(h.nn m v).2)
  (fun m v=>⟨(y m v).1,(y m v).2.trans (h.frm m (by omega)).1.symm⟩)
  (fun m aZ W ⟨I,A⟩=>by
   have v:m=c:=by omega
   subst v;rw[M (by omega),(h.frm m W).1]at A;have:=N m (by rw[<-h.len];exact W);omega)
 rw[List.take_length]at s1 s2 s3;have ai:=(O4 g k H.length L H).1;have B:(H.take c).length=c:=by rw[List.length_take];omega
 have D: ∀m,m<c->(H.take c).getD m 0=H.getD m 0:=fun m v=>getD_take v;obtain⟨m1,m2⟩:=UO g (H.take c) (fun m n v q e=>by
   rw[B]at v q;rw[D m v,D n q]at e;exact h.hd m n (by omega) (by omega) e) c 0 (rE g k H.length L H).1 (by omega) (fun m v=>by
   rw[B]at v;rw[D m v,ai];exact(h.nn m (by omega)).2)
 have aw:=Oz g (H.take c) c 0 (rE g k H.length L H).1;have aO: ∀j,j<L.length->dU (Dj g (H.take c) c 0 (rE g k H.length L H).1) dP j=pW g k (dU L dP j):=fun j x=>by
  unfold pW;have ab: ∀m n,m<g.length->n<g.length->(g.getD m dF).2.1=(g.getD n dF).2.1->m=n:=fun m n v q e=>by
   rcases ak m c with u|u<;>rcases ak n c with z|z
   .rw[(y m u).2,(y n z).2]at e;exact h.fd m n (by omega) (by omega) e
   .have:n=c:=by omega
    subst this;rw[(y m u).2,M q]at e;have:=N m (by omega);omega
   .have:m=c:=by omega
    subst this;rw[(y n z).2,M v]at e;have:=N n (by omega);omega
   .omega
  by_cases J:(dU L dP j).2.2.2.2.1=true
  .rw[am J];obtain⟨n,q,O⟩:=h.opn j J;have aj:=(h.frm n q).1;rw[O]at aj;rcases ak n c with S|S
   .have e:=m1 n (by omega) (by omega);rw[D n S,O]at e;rw[e,s3 j (fun m v W X=>by have:=h.hd m n W q (X.trans O.symm);omega),aj,<-(y n S).2,TW ab (y n S).1]
   .rw[m2 j (fun m _ v X=>by rw[D m (by omega)]at X;have:=h.hd m n (by omega) q (X.trans O.symm);omega),s2 j ⟨n,S,q,O⟩,JC];intro m v e;rw[aj]at e;rcases ak m c with u|u
    .rw[(y m u).2]at e;have:=h.fd m n (by omega) (by rw[<-h.len];exact q) e;omega
    .have:m=c:=by omega
     subst this;rw[M v]at e;have:=N n (by rw[<-h.len];exact q);omega
  .rw[aq J];have ax: ∀m,m<H.length->(H.getD m 0).toNat≠j:=fun m v e=>J (by rw[<-e];exact(h.frm m v).2);rw[m2 j (fun m _ v X=>ax m (by omega) (by rw[<-D m (by omega)];exact X)),s3 j (fun m _ v=>ax m v)]
 have aP:Dj g (H.take c) c 0 (rE g k H.length L H).1=L.map (pW g k):=awW (d:=dP) (by rw[aw,ai,aJ]) fun j x=>by
  rw[aw,ai]at x;rw[aO j x,sQ (l:=L.map _) (by rw[aJ];exact x),List.getElem_map,sQ x]
 have K: ∀p,(pW g k p).2.1=p.2.1:=fun p=>by
  unfold pW;split
  .split<;>rfl
  .rfl
 have ay:(ab5 L H g k)=if g.length=c then(L.map (pW g k),H.take c)else
   (L.map (pW g k)++[(counts (g.getD c dF).1,((g.getD c dF).2.1,(0,((if c=0 then-1 else(H.take c).getD (c-1) 0),(true,())))))],H.take c++[(L.length:Int)]):=by
  unfold ab5;simp only[s1,B,aP,aJ]
 have aQ: ∀p,(pW g k p).2.2.2.2.1=true->p.2.2.2.2.1=true/\ ∃m,IX g p.2.1=some m:=fun p Y=>by
  unfold pW at Y;split at Y
  .rename_i J
   split at Y
   .rename_i m v;exact⟨J,m,v⟩
   .cases Y
  .rename_i J;exact absurd Y J
 have ab: ∀m n,m<g.length->n<g.length->(g.getD m dF).2.1=(g.getD n dF).2.1->m=n:=fun m n v q e=>by
  rcases ak m c with u|u<;>rcases ak n c with z|z
  .rw[(y m u).2,(y n z).2]at e;exact h.fd m n (by omega) (by omega) e
  .have:n=c:=by omega
   subst this;rw[(y m u).2,M q]at e;have:=N m (by omega);omega
  .have:m=c:=by omega
   subst this;rw[(y n z).2,M v]at e;have:=N n (by omega);omega
  .omega
 have Z: ∀j,j<L.length->dU (L.map (pW g k)) dP j=pW g k (dU L dP j):=fun j x=>by
  rw[sQ (l:=L.map _) (by rw[aJ];exact x),List.getElem_map,sQ x]
 have az:PX g k L=L.map (pW g k)++if Z5 g k=true then [BB g k (L.map (·.2.1))]else []:=rfl
 have aA: ∀n,n<c->(pW g k (dU L dP (H.getD n 0).toNat)).2.1=(g.getD n dF).2.1/\(pW g k (dU L dP (H.getD n 0).toNat)).2.2.2.2.1=true:=fun n q=>by
  have U:=h.frm n (by omega);refine⟨by rw[K,U.1,(y n q).2], ?_⟩;unfold pW;rw[am U.2,U.1,<-(y n q).2,TW ab (y n q).1];exact U.2
 have aB: ∀j,j<L.length->(pW g k (dU L dP j)).2.2.2.2.1=true-> ∃n,n<c/\(H.getD n 0).toNat=j:=fun j x J=>by
  obtain⟨u,m,v⟩:=aQ _ J;obtain⟨n,q,O⟩:=h.opn j u;have U:=(h.frm n q).1;rw[O]at U;rcases ak n c with S|S
  .exact⟨n,S,O⟩
  .rw[U,JC]at v
   .cases v
   .intro m W e;rcases ak m c with u|u
    .rw[(y m u).2]at e;have:=h.fd m n (by omega) (by rw[<-h.len];exact q) e;omega
    .have:m=c:=by omega
     subst this;rw[M W]at e;have:=N n (by rw[<-h.len];exact q);omega
 have aF: ∀{l:List mW} {j:Nat},(dU l dP j).2.2.2.2.1=true->j<l.length:=fun {l j} x=>by
  rcases ak j l.length with u|u
  .exact u
  .rw[akh u]at x;cases x
 refine⟨by rw[s1,B];omega,by rw[s1,B];omega, ?_⟩;by_cases e:g.length=c
 .have al:Z5 g k=false:=by
   unfold Z5;cases I:g.getLast? with
   |none=>rfl
   |some f=>
    have aS:g≠[]:=by rintro rfl;cases I
    have Y:0<g.length:=List.length_pos_iff.2 aS;have:g.getD (c-1) dF=f:=by
     rw[List.getLast?_eq_getElem?,e]at I;rw[List.getD_eq_getElem?_getD,I];rfl
    have z:=(y (c-1) (by omega)).2;rw[this]at z;have:=N (c-1) (by omega);exact decide_eq_false (by omega)
  rw[ay,am e,az,al];refine⟨by simp, ?_⟩;exact {
   len:=by rw[B,e]
   nn:=fun n q=>by rw[B]at q;rw[D n q,aJ];exact h.nn n (by omega)
   frm:=fun n q=>by
    rw[B]at q;rw[D n q,Z _ (h.nn n (by omega)).2];exact aA n q
   opn:=fun j x=>by
    have I:=aF x;rw[aJ]at I;rw[Z j I]at x;obtain⟨n,q,A⟩:=aB j I x;exact⟨n,by rw[B];exact q,by rw[D n q];exact A⟩
   lt:=fun j x=>by
    rw[aJ]at x;rw[Z j x,K];have:=h.lt j x;omega
   inj:=fun i j hi x A=>by
    rw[aJ]at hi x;rw[Z i hi,Z j x,K,K]at A;exact h.inj i j hi x A
   fd:=ab}
 .have aG:g.length=c+1:=by omega
  have aH:g.getLast?=some (g.getD c dF):=by
   rw[List.getLast?_eq_getElem?,aG,List.getD_eq_getElem?_getD,show c+1-1=c by omega,List.getElem?_eq_getElem (by omega)];rfl
  have aU:g.getLastD dF=g.getD c dF:=by rw[List.getLastD_eq_getLast?,aH];rfl
  have an:=M (by omega);have al:Z5 g k=true:=by unfold Z5;rw[aH];exact decide_eq_true an
  have aV:(if c=0 then-1 else(H.take c).getD (c-1) 0)=(if g.length=1 then-1 else arC (L.map (·.2.1)) (g.getD (g.length-2) dF).2.1):=by
   by_cases c0:c=0
   .rw[am c0,am (by omega)]
   .have q:=h.nn (c-1) (by omega);rw[aq c0,aq (by omega),D _ (by omega),show g.length-2=c-1 by omega,(y (c-1) (by omega)).2,<-(h.frm (c-1) (by omega)).1,adT h.inj q.2];omega
  have aW:(counts (g.getD c dF).1,((g.getD c dF).2.1,((0:Int),((if c=0 then-1 else(H.take c).getD (c-1) 0),(true,())))))=BB g k (L.map (·.2.1)):=by
   unfold BB;rw[aV,aU,an]
  rw[ay,aq e,az,al,aW];refine⟨by simp, ?_⟩;have ag:(L.map (pW g k)++[BB g k (L.map (·.2.1))]).length=L.length+1:=by simp
  have V: ∀j,j<L.length->dU (L.map (pW g k)++[BB g k (L.map (·.2.1))]) dP j=pW g k (dU L dP j):=fun j x=>by
   rw[<-Z j x];unfold dU;rw[List.getD_eq_getElem?_getD,List.getD_eq_getElem?_getD,List.getElem?_append_left (by rw[aJ];exact x)]
  have ah:dU (L.map (pW g k)++[BB g k (L.map (·.2.1))]) dP L.length=BB g k (L.map (·.2.1)):=by
   unfold dU;rw[List.getD_eq_getElem?_getD,List.getElem?_append_right (by simp)];simp
  have ao: ∀n,n<c->(H.take c++[(L.length:Int)]).getD n 0=H.getD n 0:=fun n q=>by
   rw[<-D n q,List.getD_eq_getElem?_getD,List.getD_eq_getElem?_getD,List.getElem?_append_left (by rw[B];exact q)]
  have au:(H.take c++[(L.length:Int)]).getD c 0=L.length:=by
   rw[List.getD_eq_getElem?_getD,List.getElem?_append_right (by rw[B];omega)];simp[B]
  have ad:(H.take c++[(L.length:Int)]).length=c+1:=by rw[ae,B];rfl
  have aI: ∀n,n<c+1->n<c\/n=c:=fun n q=>by omega
  have av:(BB g k (L.map (·.2.1))).2.1=k:=rfl;exact {
   len:=by rw[ad,aG]
   nn:=fun n q=>by
    rw[ad]at q;rw[ag];rcases aI n q with u|rfl
    .rw[ao n u];have:=h.nn n (by omega);omega
    .rw[au];omega
   frm:=fun n q=>by
    rw[ad]at q;rcases aI n q with u|rfl
    .rw[ao n u,V _ (h.nn n (by omega)).2];exact aA n u
    .rw[au,aX,ah];exact⟨an.symm,rfl⟩
   opn:=fun j x=>by
    have I:=aF x;rw[ag]at I;rcases ak j L.length with u|u
    .rw[V j u]at x;obtain⟨n,q,A⟩:=aB j u x;exact⟨n,by rw[ad];omega,by rw[ao n q];exact A⟩
    .exact⟨c,by rw[ad];omega,by rw[au];omega⟩
   lt:=fun j x=>by
    rw[ag]at x;rcases ak j L.length with u|u
    .rw[V j u,K];have:=h.lt j u;omega
    .rw[show j=L.length by omega,ah,av];omega
   inj:=fun i j hi x A=>by
    rw[ag]at hi x;rcases ak i L.length with u|u<;>rcases ak j L.length with z|z
    .rw[V i u,V j z,K,K]at A;exact h.inj i j u z A
    .rw[V i u,K,show j=L.length by omega,ah,av]at A;have:=h.lt i u;omega
    .rw[V j z,K,show i=L.length by omega,ah,av]at A;have:=h.lt j z;omega
    .omega
   fd:=ab}
end
section
open Bool renaming and_true → aj
open List renaming drop_eq_getElem_cons → aH, length_map → aJ, eq_nil_of_length_eq_zero → bM
open Go.RowKit
def uV:dC->Int->gB×Bool->List mW->List mW
 |[],_,_,L=>L
 |b::l,a,x,L=>uV l (a+1) (gG x.1 x.2 (jr b) a) (PX (sJ (gG x.1 x.2 (jr b) a).1) a L)
def wL (s:dC) (p:mW):mW:=if p.1=12 then(p.1,p.2.1,p.2.1+1+((prl (s.drop (p.2.1+1).toNat):Nat):Int),p.2.2.2.1,false,())else if p.2.2.2.2.1=true then(p.1,p.2.1,(s.length:Int),p.2.2.2.1,true,())else p
def dB (s:dC):List mW:=(uV s 0 fK []).map (wL s)
theorem ang (F:List IW) (a:Int) (L:List mW):(PX F a L).length<=L.length+1:=by
 grind [PX]
theorem Lp (s:gB):(sJ s).length<=s.length:=by simp[sJ]
theorem awD {l:List IW} (h:l.length<1000000):qR l=some (l,()):=by
 grind [qR,uJ,fG,nC]
theorem av5 (s:dC) (v:s.length<=100000): ∀(N:Nat) (i:Int) (x:gB×Bool) (L:List mW) (H:List Int),(s.length:Int)-i<N->0<=i->i<=s.length->jg x.1->(x.1.length:Int)<=i+1->Inv L H (sJ x.1) i->(L.length:Int)<=i->
  ∃g p,LP N s (bV s) i x.2 i (lo x.1) H L=some (.inl ((s,()),(g,uV (s.drop i.toNat) i x L,(),())))/\Inv (uV (s.drop i.toNat) i x L) g p s.length/\(uV (s.drop i.toNat) i x L).length<=s.length
 |0,i,x,L,H,h,_,_,_,_,_,_=>by omega
 |N+1,i,x,L,H,h,f,D,l,I,m,J=>by
  rw[LP,RS];by_cases e:i<s.length
  .obtain⟨b,hd,K⟩:=drop_at f e;have d:=good_step l x.2 (dm s i) i;have M:(lo (gG x.1 x.2 (dm s i) i).1).length≠0:=by
    rw[rM];intro e;rw[bM e]at d;exact d.1
   obtain⟨c,q,u⟩:=MM l x.2 (dm s i) i;rw[<-vO,<-vO]at u;rw[<-vO,aJ]at q;obtain⟨y,z,O,S⟩:=auA m q u;obtain⟨t,U⟩:=aB7 d.1;have V:=Lp (gG x.1 x.2 (dm s i) i).1;have W:=Lp x.1;have X:=m.len;have Y:=aG7 (t:=t) (L:=L) (H:=H) (F:=sJ (gG x.1 x.2 (dm s i) i).1) (a:=i) f (by omega) (by have:=d.2;omega) (by omega) (by omega)
    (fun j A=>by
     obtain⟨n,B,Z⟩:=List.getElem_of_mem A;have:=m.nn n B
     grind) y z
   have ab:=ang (sJ (gG x.1 x.2 (dm s i) i).1) i L;obtain⟨g,p,r1,r2,r3⟩:=av5 s v N (i+1) (gG x.1 x.2 (dm s i) i) (PX (sJ (gG x.1 x.2 (dm s i) i).1) i L) (ab5 L H (sJ (gG x.1 x.2 (dm s i) i).1) i).2 (by omega) (by omega) (by omega) d.1 (by have:=d.2;omega) (by simp_all) (by omega);rw[dn (fQ (b:=bV s) e),dn (fD f e),agx l (by omega) x.2 (oI s i) f (by omega),bT];simp only[pst];rw[dY (fB (by rw[cu];omega)),awD (by grind),bT]
   grind [bT,dD,uV]
  .have ad:i=s.length:=by omega
   rw[dY (nS (b:=bV s) (by rw[cu];omega)),KE,uV]
   grind
theorem azI (s:dC) (p:s.length<=100000) (H:List Int): ∀(N i:Nat) (L:List mW),L.length-i<N->i<=L.length->L.length<1000000->(∀j,j<L.length->0<=(dU L dP j).2.1/\(dU L dP j).2.1<s.length)->
  Di N s (bV L) (i:Int) H L=some (.inl ((),(H,L.take i++(L.drop i).map (wL s),(),())))
 |0,i,L,h,_,_,_=>by omega
 |N+1,i,L,h,D,q,u=>by
  (rewrite [Di,Nl];delta fU kD fJ)
  by_cases e:i<L.length
  .have I:qO (dM (i:Int)) L=true:=rX (by assumption);have v:iy L (i:Int)=true:=fD;have y:dM (i:Int)=i:=by simp[dM]
   have jW: ∀x,dU (jd L i x) (0,(0,(0,(0,(false,()))))) i=x:=fun x=>Il e;have z:qO i L=true:=by assumption
   have J:=u i e;have g:XG s (dJ .i64 (dU L (0,(0,(0,(0,(false,()))))) i).2.1 1)=some (((prl (s.drop ((dU L dP i).2.1+1).toNat):Nat):Int),()):=by
    grind [dD,dP,awi]
   have l:dJ .i64 (dJ .i64 (dU L (0,(0,(0,(0,(false,()))))) i).2.1 1) ((prl (s.drop ((dU L dP i).2.1+1).toNat):Nat):Int)=(dU L dP i).2.1+1+((prl (s.drop ((dU L dP i).2.1+1).toNat):Nat):Int):=by
    grind [ahV,dP,dD]
   have A:dJ .i64 (i:Int) 1=((i+1:Nat):Int):=by grind [dD]
   have go: ∀x,x=wL s (dU L dP i)->Di N s (bV L) ((i+1:Nat):Int) H (jd L i x)=some (.inl ((),(H,L.take i++(L.drop i).map (wL s),(),()))):=fun x K=>by
    have M:(wL s (dU L dP i)).2.1=(dU L dP i).2.1:=by
     grind [wL]
    have m:=azI s p H N (i+1) (jd L i x) (by rw[yx];omega) (by rw[yx];omega) (by rw[yx];exact q) (fun j O=>by
     grind [jd,Il,JL])
    have B:bV (jd L i x)=bV L:=by rw[cu,cu,yx]
    rw[B]at m;rw[m];congr 4;have S:(jd L i x).take (i+1)=L.take i++[x]:=by
     simp_all [jd,List.take_add_one,List.take_set_of_le]
    grind [jd,List.drop_set_of_lt,aH,sQ]
   rw[dn (fQ (by rw[cu];omega))];simp only[y,v,z,akd,jW,afm,aa,ado,aj,A];by_cases ho:(dU L dP i).2.2.2.2.1=true
   .have f:(dU L (0,(0,(0,(0,(false,()))))) i).2.2.2.2.1=true:=ho;rw[f,aa];by_cases hm:(dU L dP i).1=12
    .have d:(dU L (0,(0,(0,(0,(false,()))))) i).1=12:=hm;rw[d,dn (gz rfl),g,bT];simp only[l];refine go _ ?_;unfold wL;rw[am hm,hm];rfl
    .have d: ¬(dU L (0,(0,(0,(0,(false,()))))) i).1=12:=hm;rw[dY (fB d)];refine go _ ?_;unfold wL;rw[aq hm,am ho];rfl
   .have f:(dU L (0,(0,(0,(0,(false,()))))) i).2.2.2.2.1=false:=Bool.eq_false_iff.2 ho;rw[f,ac];by_cases hm:(dU L dP i).1=12
    .have d:(dU L (0,(0,(0,(0,(false,()))))) i).1=12:=hm;rw[d,dn (gz rfl),g,bT];simp only[l];refine go _ ?_;unfold wL;rw[am hm,hm];rfl
    .have d: ¬(dU L (0,(0,(0,(0,(false,()))))) i).1=12:=hm;rw[dY (fB d)];simp_all [jd,sQ,wL]
  .have U:i=L.length:=by omega
   simp_all [iL,cu]
theorem anh:Inv [] [] (sJ fK.1) 0:={
 len:=rfl
 nn:=fun n e=>by cases e
 frm:=fun n e=>by cases e
 opn:=fun j d=>by rw[akh (by simp)]at d;cases d
 lt:=fun j d=>by cases d
 inj:=fun i j f=>by cases f
 fd:=fun m n g=>by cases g}
theorem X7: ∀(l:dC) (a:Int) (x:gB×Bool) (L:List mW),0<=a->(∀p∈L,0<=p.2.1)-> ∀p∈uV l a x L,0<=p.2.1
 |[],a,x,L,f,h,p,d=>h p d
 |b::l,a,x,L,f,h,p,d=>by
  rw[uV]at d;refine X7 l (a+1) _ _ (by omega) (fun p d=> ?_) p d;unfold PX at d;rcases List.mem_append.1 d with e|e
  .obtain⟨q,g,rfl⟩:=List.mem_map.1 e;have:(pW (sJ (gG x.1 x.2 (jr b) a).1) a q).2.1=q.2.1:=by
    unfold pW;split
    .split<;>rfl
    .rfl
   grind
  .split at e
   .rw[List.mem_singleton.1 e];exact f
   .cases e
theorem aIg (s:dC) (d:s.length<=100000):ai5 s=some (dB s,()):=by
 obtain⟨f,q,g,e,i⟩:=av5 s d bY 0 fK [] [] (by have:=PH (n:=s.length) (by omega);omega) (by omega) (by omega) mO (by simp[fK]) anh (by simp);unfold ai5;rw[show([(0,(0,()))]:List qP)=lo fK.1 from rfl,show(true:Bool)=fK.2 from rfl,g,bT];simp only[dX,Int.toNat_zero,List.drop_zero]at e i ⊢;have u:=X7 s 0 fK [] (by omega) (fun p l=>by cases l);have v:=azI s d f bY 0 (uV s 0 fK []) (PH) (by omega) (by omega) (fun j m=>by
  refine⟨?_,e.lt j m⟩
  grind [sQ])
 grind [bT,dB]
end
section
open Option renaming some → a6, none → a7
open List renaming append_assoc → ag, map_cons → ay, drop_eq_getElem_cons → aH, drop_of_length_le → aO, nil_append → aQ, map_nil → aV, map_append → aZ, cons_append → bz, mem_of_mem_take → bI
open Go.RowKit
def zf:dC->Int->gB×Bool->mW->mW
 |[],_,_,p=>p
 |b::l,a,x,p=>zf l (a+1) (gG x.1 x.2 (jr b) a) (pW (sJ (gG x.1 x.2 (jr b) a).1) a p)
def wE:dC->Int->gB×Bool->List Int->List mW
 |[],_,_,_=>[]
 |b::l,a,x,d=>
  if Z5 (sJ (gG x.1 x.2 (jr b) a).1) a=true then zf l (a+1) (gG x.1 x.2 (jr b) a) (BB (sJ (gG x.1 x.2 (jr b) a).1) a d)::wE l (a+1) (gG x.1 x.2 (jr b) a) (d++[a])
  else wE l (a+1) (gG x.1 x.2 (jr b) a) d
theorem YL (F:List IW) (a:Int) (p:mW):(pW F a p).2.1=p.2.1:=by
 unfold pW;split
 .split<;>rfl
 .rfl
theorem Hm: ∀(l:dC) (a:Int) (x:gB×Bool) (p:mW),(zf l a x p).2.1=p.2.1
 |[],_,_,_=>rfl
 |b::l,a,x,p=>by rw[zf,Hm l,YL]
theorem Xx (s:dC) (p:mW):(wL s p).2.1=p.2.1:=by
 grind [wL]
theorem Xw: ∀(l:dC) (a:Int) (x:gB×Bool) (p:mW),p.2.2.2.2.1=false->zf l a x p=p
 |[],_,_,_,_=>rfl
 |b::l,a,x,p,h=>by
  rw[zf];have:pW (sJ (gG x.1 x.2 (jr b) a).1) a p=p:=by grind [pW]
  rw[this];exact Xw l _ _ p h
theorem U9: ∀(l:dC) (a:Int) (x:gB×Bool) (L:List mW),uV l a x L=L.map (zf l a x)++wE l a x (L.map (·.2.1))
 |[],a,x,L=>by
  have:(zf [] a x)=id:=rfl;rw[uV,wE,this];simp
 |b::l,a,x,L=>by
  rw[uV,U9 l,wE];have d:L.map (zf (b::l) a x)=(L.map (pW (sJ (gG x.1 x.2 (jr b) a).1) a)).map (zf l (a+1) (gG x.1 x.2 (jr b) a)):=by
   rw[List.map_map];rfl
  have e:(L.map (pW (sJ (gG x.1 x.2 (jr b) a).1) a)).map (·.2.1)=L.map (·.2.1):=by
   simp_all [YL]
  unfold PX;rw[d];split
  .rw[aZ,aZ,e];simp only[ay,aV,ag,bz,aQ];rfl
  grind
theorem AB (s:dC):dB s=(wE s 0 fK []).map (wL s):=by
 unfold dB;rw[U9];rfl
structure PL (x:gB) (i:Int):Prop where
 up:(EZ x).Pairwise (· < ·)
 lt: ∀v∈EZ x,v<i
theorem atH:PL fK.1 0:=⟨List.Pairwise.nil,fun v d=>by cases d⟩
theorem ayQ {s:gB} {i:Int} (g:jg s) (h:PL s i) (fr:Bool) (b:Int):PL (gG s fr b i).1 (i+1):=by
 obtain⟨c,m,e|e⟩:=MM g fr b i
 .refine⟨by rw[e];exact h.up.sublist (List.take_sublist ..),fun v d=> ?_⟩;rw[e]at d;have:=h.lt v (bI d);omega
 .refine⟨?_,fun v d=> ?_⟩
  .rw[e,List.pairwise_append];refine⟨h.up.sublist (List.take_sublist ..),List.pairwise_singleton ..,fun a j b l=> ?_⟩;rw[List.mem_singleton.1 l];exact h.lt a (bI j)
  .rw[e]at d;rcases List.mem_append.1 d with f|f
   .have:=h.lt v (bI f);omega
   grind
theorem acQ {l:List Int} (h:l.Pairwise (· < ·)) {m n:Nat} {v:Int} (d:l[m]? =a6 v) (e:l[n]? =a6 v):m=n:=by
 grind [List.pairwise_iff_getElem]
theorem awY {l:List Int} (h:l.Pairwise (· < ·)) {n:Nat} {v:Int} (d:l[n]? =a6 v):l.findIdx? (· ==v)=a6 n:=by
 obtain⟨n1,e⟩:=List.getElem?_eq_some_iff.1 d;cases hf:l.findIdx? (· ==v)with
 |none=>
  simp_all
 |some m=>
  obtain⟨f,g,_⟩:=List.findIdx?_eq_some_iff_getElem.1 hf;have:l[m]? =a6 v:=by simp_all
  rw[acQ h this d]
theorem stay {s:gB} {i v:Int} {n:Nat} (l:jg s) (h:PL s i) (f:(EZ s)[n]? =a6 v) (fr:Bool) (b:Int):(EZ (gG s fr b i).1)[n]? =a6 v\/v∉EZ (gG s fr b i).1:=by
 have q:=h.lt v (List.mem_of_getElem? f);obtain⟨c,u,e|e⟩:=MM l fr b i<;>rw[e]
 .by_cases hnc:n<c
  .grind
  .right;intro g;obtain⟨m,d⟩:=List.getElem?_of_mem g;rw[List.getElem?_take]at d;split at d
   .rename_i p
    have:=acQ h.up d f;omega
   .cases d
 .have x:((EZ s).take c).length=c:=by simp_all
  by_cases hnc:n<c
  .grind
  .right;intro g;rcases List.mem_append.1 g with j|j
   .obtain⟨m,d⟩:=List.getElem?_of_mem j;rw[List.getElem?_take]at d;split at d
    .rename_i p
     have:=acQ h.up d f;omega
    .cases d
   simp_all
def atM (s:gB) (v:Int):Int:=match(EZ s).findIdx? (· ==v)with
 |some n=>((n+1:Nat):Int)
 |none=>0
theorem atJ {s:gB} (d:jg s): ∃t,po s=t::EZ s:=by
 have e:s≠[]:=by rintro rfl;exact d
 grind [List.dropLast_concat_getLast,po,EZ]
theorem aDX {s:gB} (e:jg s): ∃t,so s=t::(sJ s).map fun f=>letter f.1:=by
 have d:s≠[]:=by rintro rfl;exact e
 refine⟨letter (s.getLast d).1, ?_⟩
 conv=>lhs;rw[<-List.dropLast_concat_getLast d]
 simp[so,sJ,List.map_reverse];rfl
theorem aip (v:Int) (S:dC) (P:List Int) (fr:Bool) (d:P.length<1000000): ∀(N j:Nat),P.length-j<N->
  Ib N v (j:Int) S P fr=a6 (match(P.drop j).findIdx? (· ==v)with|some n=>.inr ((((j+n:Nat):Int),()),())|none=>.inl ((),()))
 |0,j,h=>by omega
 |N+1,j,h=>by
  rw[Ib,RG];by_cases e:j<P.length
  .have f:gW P 0 (j:Int)=P[j]:=by simp_all [gW]
   rw[dn (fQ (by rw[cu];omega)),dn (fD),f,aH e,List.findIdx?_cons,iT];by_cases e2:P[j]=v
   .simp[e2]
   .rw[dD,show(j:Int)+1=((j+1:Nat):Int) by omega,aip v S P fr d N (j+1) (by omega)]
    grind
  simp_all [iL,cu,aO]
theorem aA4 {s:gB} (d:jg s) (hl:s.length<900000) (fr:Bool) (v:Int):adE (so s,(po s,(fr,()))) v=a6 (atM s v,()):=by
 unfold adE;obtain⟨t,e⟩:=atJ d;have h:=aip v (so s) (po s) fr (by rw[Vk];omega) bY 1 (di (by rw[Vk];omega));rw[show Ib bY v 1 (so s) (po s) fr=_ from h,bT,e]
 grind [atM,dX]
theorem atd: ∀n:Fin 15,aiS ((letter ((n.val:Nat):Int)).toNat:Int)=a6 (counts ((n.val:Nat):Int),()):=by decide+kernel
theorem aC7 {m:Int} (d:0<=m) (e:m<=14):aiS ((letter m).toNat:Int)=a6 (counts m,()):=by
 have:=atd ⟨m.toNat,by omega⟩
 grind
theorem JD: ∀{s:gB},jg s-> ∀f∈s,0<=f.1/\f.1<=14
 |[],h=>by cases h
 |[f],h=>by
  intro g d;rw[List.mem_singleton.1 d];have:f.1=0:=h;omega
 |f::g::r,h=>by
  intro q e;rcases List.mem_cons.1 e with rfl|i
  .have:=h.1;have:=h.2.1;omega
  .exact JD h.2.2.2 q i
theorem am9 {s:gB} (e:jg s) {n:Nat} (i:n<(sJ s).length):0<=((sJ s).getD n dF).1/\((sJ s).getD n dF).1<=14:=by
 have d:(sJ s).getD n dF∈sJ s:=by simp_all
 generalize (sJ s).getD n dF=q at d;unfold sJ at d;rw[List.mem_reverse,List.mem_map]at d;obtain⟨f,g,rfl⟩:=d;exact JD e f (List.dropLast_subset s g)
theorem aG8 {s:gB} (d:jg s) {n:Nat} (e:n<(sJ s).length):dm (so s) ((n+1:Nat):Int)=((letter ((sJ s).getD n dF).1).toNat:Int)/\iy (so s) ((n+1:Nat):Int)=true:=by
 grind [aDX,fD,dm]
theorem PV (s:gB):(sJ s).length=(EZ s).length:=by grind [vO]
theorem ars {s:gB} {n:Nat} {v:Int} (h:(EZ s)[n]? =a6 v):((sJ s).getD n dF).2.1=v/\n<(sJ s).length:=by
 grind [vO]
theorem aBQ {s:gB} {i:Int} (h:PL s i): ∀m n,m<(sJ s).length->n<(sJ s).length->((sJ s).getD m dF).2.1=((sJ s).getD n dF).2.1->m=n:=fun m n d f e=>by
 rw[uP d,uP f,vO]at e;rw[PV]at d f;rw[List.getD_eq_getElem?_getD,List.getD_eq_getElem?_getD,List.getElem?_eq_getElem d,List.getElem?_eq_getElem f]at e;exact acQ h.up (List.getElem?_eq_getElem d) (by simp_all)
theorem ard {s:gB} {i v:Int} {n:Nat} (h:PL s i) (d:(EZ s)[n]? =a6 v):IX (sJ s) v=a6 ((sJ s).getD n dF).1:=by
 grind [ars,TW,aBQ]
theorem arc {s:gB} {v:Int} (h:v∉EZ s):IX (sJ s) v=a7:=by
 grind [JC,vO]
theorem ao1 {s:gB} {i v:Int} {n:Nat} (h:PL s i) (d:(EZ s)[n]? =a6 v):atM s v=((n+1:Nat):Int):=by
 unfold atM;rw[awY h.up d]
theorem ao2 {s:gB} {v:Int} (h:v∉EZ s):atM s v=0:=by
 grind [atM]
def jJ (s:dC) (k:Nat):gB×Bool:=nH (s.take k) 0 fK
theorem afc: ∀(l m:dC) (a:Int) (x:gB×Bool),nH (l++m) a x=nH m (a+l.length) (nH l a x)
 |[],m,a,x=>by simp[nH]
 |b::l,m,a,x=>by
  rw[bz,nH,nH,afc l m]
  grind
theorem IC {s:List UInt8} {k:Nat} (h:k<s.length):jJ s (k+1)=gG (jJ s k).1 (jJ s k).2 (dm s k) k:=by
 unfold jJ;rw[List.take_add_one,List.getElem?_eq_getElem h,Option.toList_some,afc,nH,nH,byte_at h,List.length_take,Nat.min_eq_left (by omega)];simp[jr]
theorem yO (s:dC) (k:Nat):jg (jJ s k).1/\(jJ s k).1.length<=k+1:=by
 have h:=CZ (s.take k) 0 fK mO;refine⟨h.1, ?_⟩;have d:=h.2;have:fK.1.length=1:=rfl
 grind [jJ]
theorem Nq (s:dC): ∀k,k<=s.length->PL (jJ s k).1 k
 |0,_=>atH
 |k+1,h=>by
  rw[IC (by omega)];have:=ayQ (yO s k).1 (Nq s k (by omega)) (jJ s k).2 (dm s k);simpa using this
end
section
open Option renaming some → a6, none → a7
open Bool renaming false_eq_true → ai
open List renaming length_append → ae, append_assoc → ag, map_cons → ay, length_cons → az, drop_eq_getElem_cons → aH, getElem_mem → aI, length_map → aJ, drop_of_length_le → aO, length_drop → aP, nil_append → aQ, map_nil → aV, length_nil → aY, map_append → aZ, mem_append_right → bH, mem_of_mem_take → bI, mem_append_left → bJ
open Nat renaming le_refl → af, lt_or_ge → ak
open Go.RowKit
abbrev RSt:=List UInt8×(List Int×xy)
def dS:RSt:=([],([],(false,())))
def wB (s:dC) (n:Nat):List RSt:=(List.range n).map fun k=>Jd (jJ s k)
theorem tZ (s:dC) (n:Nat):(wB s n).length=n:=by simp[wB]
theorem J9 (s:dC) {n k:Nat} (h:k<n):dU (wB s n) dS k=Jd (jJ s k):=by
 simp_all [sQ,wB]
theorem acV (s:dC) (d:s.length<=100000): ∀(N k:Nat),s.length-k<N->k<=s.length->
  H9 N s (k:Int) (wB s (k+1))=a6 (.inl ((s,()),(wB s (s.length+1),())))
 |0,k,h,_=>by omega
 |N+1,k,h,hk=>by
  rw[H9,Rt];by_cases e:k<s.length
  .have j:=yO s k;have f:dU (wB s (k+1)) ([],([],(false,()))) (dM (k:Int))=Jd (jJ s k):=by
    rw[show dM (k:Int)=k from rfl];exact J9 s (by omega)
   have g:agF (so (jJ s k).1,(po (jJ s k).1,((jJ s k).2,()))) (dm s (k:Int)) (k:Int)=a6 (Jd (jJ s (k+1)),()):=by
    grind [IC,agy,oI]
   have i:bZ (wB s (k+1)) [Jd (jJ s (k+1))]=wB s (k+2):=by
    simp_all [bZ,wB,List.range_succ]
   rw[dn (fQ (by rw[cu];omega)),dn (fD (by omega) (by rw[tZ];omega)),dn (fD),dn (rX (by simp_all [tZ,dM])),f];simp only[Jd];rw[g,bT];simp only;rw[i,dn (by grind [fG,tZ,nC]),dD,show(k:Int)+1=((k+1:Nat):Int) by omega];exact acV s d N (k+1) (by omega) (by omega)
  .rw[dY (iL (by rw[cu];omega)),show k=s.length by omega]
theorem alX (s:dC) (A:List RSt) (out:List mW) (from_ n:Int) (P:List Int) (m f to_:Int) (d:Bool) (x:out.length<1000000) (y:n<1000000)
  (g:(dU A dS (dM (dJ .i64 from_ 1))).2.1=P) (i:iy A (dJ .i64 from_ 1)=true) (l:qO (dM (dJ .i64 from_ 1)) A=true) (p:1<n->iy P (fO .i64 n 1)=true)
  (j:Nat) (q:1<n->j<out.length/\(dU out dP j).2.1=gW P 0 (fO .i64 n 1)) (u: ∀a b,a<out.length->b<out.length->(dU out dP a).2.1=(dU out dP b).2.1->a=b):
  ∀(N k:Nat),out.length-k<N->k<=out.length->
  Dc N s from_ n (k:Int) m f to_ (if 1<n/\j<k then(j:Int)else-1) d out A=a6 (.inl ((s,from_,n,()),((m,f,to_,(if 1<n then(j:Int)else-1),d,()),out,A,())))
 |0,k,h,_=>by omega
 |N+1,k,h,hk=>by
  rw[Dc,MZ];by_cases e:k<out.length
  .have v:=alX s A out from_ n P m f to_ d x y g i l p j q u N (k+1) (by omega) (by omega);rw[dn (fQ (by rw[cu];omega)),dD (a:=(k:Int)) (by omega) (by omega),show(k:Int)+1=((k+1:Nat):Int) by omega];by_cases e1:1<n
   .obtain⟨z,B⟩:=q e1;have D:(dU A ([],([],(false,()))) (dM (dJ .i64 from_ 1))).2.1=P:=g;rw[dn (fQ e1),dn (fD),dn (rX (by assumption)),i,l,D,p e1];simp only[aa];by_cases e2:k=j
    .simp_all [dU,dM,gz]
    .have: ¬(dU out (0,(0,(0,(0,(false,()))))) (dM (k:Int))).2.1=gW P 0 (fO .i64 n 1):=fun I=>e2 (u k j e z (I.trans B.symm));rw[dY (fB this)]
     grind
   .rw[aq (fun h=>e1 h.1)]at v ⊢;rw[dY (iL e1)];exact v
  .rw[dY (iL (by rw[cu];omega))]
   grind
theorem Yl (s:dC) (A:s.length<=100000) (out:List mW) (f n:Nat) (up:Int): ∀(N k:Nat) (m:Int) (p:mW),s.length+1-k<N->f<k->k<=s.length->
  (EZ (jJ s k).1)[n]? =a6 (f:Int)->p.1=counts ((sJ (jJ s k).1).getD n dF).1->p.2.1=f->p.2.2.2.2.1=true->p.2.2.2.1=up->
  zA N s (f:Int) ((n+1:Nat):Int) (k:Int) m f (s.length:Int) up true out (wB s (s.length+1))=
   a6 (.inl ((s,(f:Int),()),(((zf (s.drop k) k (jJ s k) p).1,(f:Int),(if(zf (s.drop k) k (jJ s k) p).2.2.2.2.1=true then(s.length:Int)else(zf (s.drop k) k (jJ s k) p).2.2.1),up,(zf (s.drop k) k (jJ s k) p).2.2.2.2.1,()),out,wB s (s.length+1),())))
   /\(zf (s.drop k) k (jJ s k) p).2.2.2.1=up
 |0,k,m,p,h,_,_,_,_,_,_,_=>by omega
 |N+1,k,m,p,h,Z,hk,j,B,u,g,v=>by
  have i:=yO s k;have x:=Nq s k hk;obtain⟨ab,y⟩:=ars j;have D:dU (wB s (s.length+1)) ([],([],(false,()))) (dM (k:Int))=Jd (jJ s k):=by
   rw[show dM (k:Int)=k from rfl];exact J9 s (by omega)
  have I:iy (wB s (s.length+1)) (k:Int)=true:=fD (by omega) (by rw[tZ];omega);have J:qO (dM (k:Int)) (wB s (s.length+1))=true:=rX (by grind [tZ,dM]);obtain⟨K,L⟩:=aG8 i.1 y;have z:=am9 i.1 y;rw[zA,Dv,dn (ul (by rw[cu];omega)),I,J,D];simp only[aa,Jd];rw[aA4 i.1 (by omega),bT,ao1 x j,dY (fB),L,K];simp only[aa];rw[aC7 z.1 z.2,bT,dD,show(k:Int)+1=((k+1:Nat):Int) by omega];simp only;by_cases e:k<s.length
  .have hd:s.drop k=s[k]::s.drop (k+1):=aH e;have l:=IC e;have M:dm s (k:Int)=jr s[k]:=byte_at e;rw[M]at l;have O:=yO s (k+1);have S:=Nq s (k+1) (by omega);have U:zf (s.drop k) k (jJ s k) p=zf (s.drop (k+1)) ((k+1:Nat):Int) (jJ s (k+1)) (pW (sJ (jJ s (k+1)).1) k p):=by
    grind [zf]
   rw[U];rcases stay i.1 x j (jJ s k).2 (jr s[k])with h1|h1
   .rw[<-l]at h1;have q:pW (sJ (jJ s (k+1)).1) k p=(counts ((sJ (jJ s (k+1)).1).getD n dF).1,p.2):=by
     unfold pW;rw[am g,u,ard S h1]
    rw[q];exact Yl s A out f n up N (k+1) _ _ (by omega) (by omega) (by omega) h1 rfl u g v
   .rw[<-l]at h1;have q:pW (sJ (jJ s (k+1)).1) k p=MX (k+1) p:=by
     simp_all [pW,arc]
    have V:dU (wB s (s.length+1)) ([],([],(false,()))) (dM ((k+1:Nat):Int))=Jd (jJ s (k+1)):=by
     rw[show dM ((k+1:Nat):Int)=k+1 from rfl];exact J9 s (by omega)
    have W:iy (wB s (s.length+1)) ((k+1:Nat):Int)=true:=fD (by omega) (by rw[tZ];omega);have X:qO (dM ((k+1:Nat):Int)) (wB s (s.length+1))=true:=rX (by simp_all [tZ,dM]);rw[q,Xw _ _ _ _ rfl];obtain⟨d,rfl⟩: ∃d,N=d+1:=⟨N-1,by omega⟩;rw[zA,Dv,dn (ul (by rw[cu];omega)),W,X,V];simp only[aa,Jd];rw[aA4 O.1 (by omega),bT,ao2 h1,dn (gz rfl)];simp_all [MX]
  .have Y:k=s.length:=by omega
   subst Y;rw[List.drop_length,zf];obtain⟨d,rfl⟩: ∃d,N=d+1:=⟨N-1,by omega⟩;rw[zA,Dv,dY (EY (by rw[cu];omega)),am g,g,B];exact⟨rfl,v⟩
theorem anB (F:List IW) (a:Int):Z5 F a=decide ((F.map (·.2.1)).getLast?=a6 a):=by
 grind [Z5]
theorem aab (s:dC) (K:s.length<=100000): ∀(N k:Nat) (out:List mW),s.length-k<N->k<=s.length->out.length<=k->
  (∀a b,a<out.length->b<out.length->(dU out dP a).2.1=(dU out dP b).2.1->a=b)->(∀p∈out,p.2.1<(k:Int))->(∀v∈EZ (jJ s k).1,v∈out.map (·.2.1))->
  Ef N s (k:Int) out (wB s (s.length+1))=a6 (.inl ((),(out++(wE (s.drop k) k (jJ s k) (out.map (·.2.1))).map (wL s),())))
 |0,k,out,h,_,_,_,_,_=>by omega
 |N+1,k,out,h,hk,bf,z,L,aB=>by
  rw[Ef,Ru];by_cases e:k<s.length
  .have hd:s.drop k=s[k]::s.drop (k+1):=aH e;have M:=IC e;have A:dm s (k:Int)=jr s[k]:=byte_at e;rw[A]at M;have hg:=yO s k;have aF:=Nq s k hk;have O:=yO s (k+1);have aG:=Nq s (k+1) (by omega);have i:dJ .i64 (k:Int) 1=((k+1:Nat):Int):=by rw[dD];omega
   have Z:dU (wB s (s.length+1)) ([],([],(false,()))) (dM ((k+1:Nat):Int))=Jd (jJ s (k+1)):=by
    rw[show dM ((k+1:Nat):Int)=k+1 from rfl];exact J9 s (by omega)
   have ab:iy (wB s (s.length+1)) ((k+1:Nat):Int)=true:=fD (by omega) (by rw[tZ];omega);have ad:qO (dM ((k+1:Nat):Int)) (wB s (s.length+1))=true:=rX (by rw[tZ];simp only[dM];omega);rw[dn (fQ (by rw[cu];omega)),i,ab,ad,Z,hd,wE,<-M];simp only[aa,Jd];rw[aA4 O.1 (by omega),bT,anB,vO];obtain⟨c,hc,g⟩:=MM hg.1 (jJ s k).2 (jr s[k]) k;rw[<-M]at g;have ah:((EZ (jJ s k).1).take c).length=c:=by rw[List.length_take];omega
   have S: ∀v∈(EZ (jJ s k).1).take c,v∈out.map (·.2.1):=fun v f=>aB v (bI f);rcases g with g|g
   .
    have aj:(k:Int)∉EZ (jJ s (k+1)).1:=fun f=>by
     rw[g]at f;have:=aF.lt _ (bI f);omega
    have U: ¬(EZ (jJ s (k+1)).1).getLast?=a6 (k:Int):=fun f=>aj (List.mem_of_getLast? f);rw[ao2 aj,dn (gz rfl),decide_eq_false U];simp only[ai,if_false];exact aab s K N (k+1) out (by omega) (by omega) (by omega) z (fun p V=>by have:=L p V;omega) (fun v f=>by rw[g]at f;exact S v f)
   .have al:(EZ (jJ s (k+1)).1)[c]? =a6 (k:Int):=by
     rw[g,List.getElem?_append_right (by omega),ah];simp
    have U:(EZ (jJ s (k+1)).1).getLast?=a6 (k:Int):=by rw[g];simp
    have an:(sJ (jJ s (k+1)).1).length=c+1:=by rw[PV,g,ae,ah];rfl
    rw[ao1 aG al,dY (fB),decide_eq_true U];simp only[if_true];have bg:=Lp (jJ s (k+1)).1;have bi:=O.2;have aK:1<((c+1:Nat):Int)->iy (po (jJ s (k+1)).1) (fO .i64 ((c+1:Nat):Int) 1)=true:=fun d=>by
     rw[iH];refine fD (by omega) ?_;rw[Vk];have:=Lp (jJ s (k+1)).1;omega
    obtain⟨t,ht⟩:=atJ O.1;have aS:1<((c+1:Nat):Int)->gW (po (jJ s (k+1)).1) 0 (fO .i64 ((c+1:Nat):Int) 1)=((sJ (jJ s (k+1)).1).getD (c-1) dF).2.1:=fun d=>by
     rw[iH,ht,uP,vO];unfold gW;rw[show(((c+1:Nat):Int)-1).toNat=(c-1)+1 by omega,List.getD_cons_succ]
    have aU: ∃j:Nat,1<((c+1:Nat):Int)->j<out.length/\(dU out dP j).2.1=((sJ (jJ s (k+1)).1).getD (c-1) dF).2.1/\arC (out.map (·.2.1)) ((sJ (jJ s (k+1)).1).getD (c-1) dF).2.1=(j:Int):=by
     by_cases d:1<((c+1:Nat):Int)
     .have aW:((sJ (jJ s (k+1)).1).getD (c-1) dF).2.1∈out.map (·.2.1):=by
       refine S _ ?_;rw[uP,vO,g,List.getD_eq_getElem?_getD,List.getElem?_append_left (by omega),List.getElem?_eq_getElem (by omega)];exact aI _
      obtain⟨j,B,ao⟩:=List.getElem_of_mem aW;rw[aJ]at B;rw[List.getElem_map]at ao;have au:(dU out dP j).2.1=((sJ (jJ s (k+1)).1).getD (c-1) dF).2.1:=by rw[sQ B];exact ao
      exact⟨j,fun _=>⟨B,au,by rw[<-au];exact adT z B⟩⟩
     .exact⟨0,fun l=>absurd l d⟩
    obtain⟨j,W⟩:=aU;have av:=alX s (wB s (s.length+1)) out (k:Int) ((c+1:Nat):Int) (po (jJ s (k+1)).1) 0 (k:Int) (s.length:Int) true (by omega) (by have:=Lp (jJ s (k+1)).1;omega)
     (by rw[i];exact congrArg (·.2.1) Z) (by rw[i];exact ab) (by rw[i];exact ad) aK j (fun d=>⟨(W d).1,(W d).2.1.trans (aS d).symm⟩) z bY 0 (di) (by omega)
    rw[aq (by omega)]at av;rw[show Dc bY s (k:Int) ((c+1:Nat):Int) 0 0 (k:Int) (bV s) (-1) true out (wB s (s.length+1))=_ from av,bT];simp only[dX];have D:BB (sJ (jJ s (k+1)).1) k (out.map (·.2.1))=(counts ((sJ (jJ s (k+1)).1).getD c dF).1,(k:Int),0,(if 1<((c+1:Nat):Int)then(j:Int)else-1),true,()):=by
     unfold BB;have aX:(sJ (jJ s (k+1)).1).getLastD dF=(sJ (jJ s (k+1)).1).getD c dF:=by
      rw[List.getLastD_eq_getLast?,List.getLast?_eq_getElem?,an,List.getD_eq_getElem?_getD];rfl
     rw[aX,an];by_cases d:1<((c+1:Nat):Int)
     .rw[aq (by omega),am d,show c+1-2=c-1 by omega,(W d).2.2]
     .rw[am (by omega),aq d]
    obtain⟨bb,X⟩:=Yl s K out k c (if 1<((c+1:Nat):Int)then(j:Int)else-1) bY (k+1) 0 (BB (sJ (jJ s (k+1)).1) k (out.map (·.2.1))) (di) (by omega) (by omega) al (by rw[D]) (by rw[D]) (by rw[D]) (by rw[D]);rw[i,bb,bT];simp only;have u:=Hm (s.drop (k+1)) ((k+1:Nat):Int) (jJ s (k+1)) (BB (sJ (jJ s (k+1)).1) k (out.map (·.2.1)));have bd:(BB (sJ (jJ s (k+1)).1) k (out.map (·.2.1))).2.1=(k:Int):=rfl;rw[bd]at u;rw[show((k:Int)+1)=((k+1:Nat):Int) by omega];generalize hq:zf (s.drop (k+1)) ((k+1:Nat):Int) (jJ s (k+1)) (BB (sJ (jJ s (k+1)).1) k (out.map (·.2.1)))=q at*;have aw: ∀x:mW,fG (bZ out [x]) 40=true:=fun x=>by
     unfold fG bZ;exact decide_eq_true (by rw[ae];simp only[az,aY];unfold nC;omega)
    have go:Ef N s ((k+1:Nat):Int) (out++[wL s q]) (wB s (s.length+1))=a6 (.inl ((),(out++(q::wE (s.drop (k+1)) ((k+1:Nat):Int) (jJ s (k+1)) (out.map (·.2.1)++[(k:Int)])).map (wL s),()))):=by
     have y:(wL s q).2.1=(k:Int):=(Xx s q).trans u;have I: ∀a,a<out.length->dU (out++[wL s q]) dP a=dU out dP a:=fun a m=>by
      unfold dU;rw[List.getD_eq_getElem?_getD,List.getD_eq_getElem?_getD,List.getElem?_append_left m]
     have ax:dU (out++[wL s q]) dP out.length=wL s q:=by
      unfold dU;rw[List.getD_eq_getElem?_getD,List.getElem?_append_right (af _)];simp
     have aA: ∀a,a<out.length->(dU out dP a).2.1<(k:Int):=fun a m=>by rw[sQ m];exact L _ (aI m)
     have ih:=aab s K N (k+1) (out++[wL s q]) (by omega) (by omega) (by simp;omega)
      (fun a b m A J=>by
       rw[ae]at m A;simp only[az,aY]at m A;rcases ak a out.length with d|d<;>rcases ak b out.length with l|l
       .rw[I a d,I b l]at J;exact z a b d l J
       .rw[I a d,show b=out.length by omega,ax,y]at J;have:=aA a d;omega
       .rw[I b l,show a=out.length by omega,ax,y]at J;have:=aA b l;omega
       .omega)
      (fun p V=>by
       rcases List.mem_append.1 V with d|d
       .have:=L p d;omega
       .rw[List.mem_singleton.1 d,y];omega)
      (fun v f=>by
       rw[g]at f;rw[aZ];rcases List.mem_append.1 f with d|d
       .exact bJ _ (S v d)
       .rw[List.mem_singleton.1 d];exact bH _ (by simp[y]))
     rw[ih];rw[aZ,ag,ay];simp only[ay,aV,y];rfl
    by_cases e12:q.1=12
    .rw[dn (gz e12),i,awj (by omega) (by omega),bT,aw,aa];have be:=ahV (s.drop (k+1));rw[aP]at be;rw[dD];have Y:wL s q=(q.1,(k:Int),((k+1:Nat):Int)+((prl (s.drop (k+1)):Nat):Int),(if 1<((c+1:Nat):Int)then(j:Int)else-1),false,()):=by
      unfold wL;rw[am e12,u,X,show((k:Int)+1).toNat=k+1 by omega,show(k:Int)+1=((k+1:Nat):Int) by omega]
     rw[<-Y];exact go
    .rw[dY (fB e12),i,aw,aa];have Y:wL s q=(q.1,(k:Int),(if q.2.2.2.2.1=true then(s.length:Int)else q.2.2.1),(if 1<((c+1:Nat):Int)then(j:Int)else-1),q.2.2.2.2.1,()):=by
      unfold wL;rw[aq e12];by_cases ho:q.2.2.2.2.1=true
      .rw[am ho,am ho,u,X,ho]
      .rw[aq ho,aq ho,<-u,<-X]
     rw[<-Y];exact go
  .rw[dY (iL (by rw[cu];omega)),aO (by omega),wE];simp
theorem aIh (s:dC) (d:s.length<=100000):aiL s=a6 (dB s,()):=by
 unfold aiL;have e:=acV s d bY 0 (PH) (by omega);have f:=aab s d bY 0 [] (PH) (by omega) (by simp) (fun a b g=>by cases g) (fun p i=>by cases i) (fun v j=>by cases j);rw[show agE=a6 (Jd fK,()) from rfl,bT,show H9 bY s 0 [(Jd fK,()).1]=_ from e,bT];simp only[dX];rw[show Ef bY s 0 [] (wB s (s.length+1))=_ from f,bT];simp only[aQ,List.drop_zero];rw[AB];rfl
end
section
open List renaming mem_cons_of_mem → aB, length_drop → aP
open Nat renaming le_refl → af
open Go.RowKit
theorem ag7 {g f:Int×Int} {r:gB} (d:jg (f::g::r)):g.1≠13:=by
 have:=d.2.2.1
 grind [QM]
theorem Hl {m:Int} {f:Int×Int} {r:gB} (hf:f.1=m\/m≠13/\f.1≠13) (e: ∀g d,r=g::d->g.1≠13) (u:r=[]->m≠13) (fr:Bool) (b i:Int):
  ∀g d,(kP m (f::r) fr b i).1=g::d->g.1=13->g.2=i:=by
 intro g d h j;have l: ∀{x:Int×Int} {y:gB},x::y=g::d->x=g:=fun h=>(List.cons.inj h).1;have v:m≠13->f::r=g::d->False:=fun p h=>by
  simp_all
 have q:r=g::d->False:=fun h=>e g d h j;have z: ∀k,(k,i)::f::r=g::d->g.2=i:=fun k h=>by rw[<-l h]
 unfold kP at h;split at h
 .rename_i p
  have A:m≠13:=by omega
  unfold MN at h
  grind
 .split at h
  .exact(q h).elim
  grind [JE]
theorem aqY {s:gB} (j:jg s) (fr:Bool) (b i:Int): ∀g∈(gG s fr b i).1,g.1=13->g.2=i:=by
 have p: ∀g d,(gG s fr b i).1=g::d->g.1=13->g.2=i:=by
  cases s with
  |nil=>cases j
  |cons f r=>
  intro g d h l;have I: ∀{x:Int×Int} {y:gB},x::y=g::d->x=g:=fun h=>(List.cons.inj h).1;have u: ∀g d,r=g::d->g.1≠13:=fun g d e=>by subst e;exact ag7 j
  have B: ∀g v d,r=g::v::d->v.1≠13:=fun g v d e=>by subst e;exact ag7 j.2.2.2
  have J: ∀k:Int,k≠13->(k,f.2)::r=g::d->False:=fun k hk h=>by
   grind
  simp only[gG]at h;split at h
  .split at h
   .simp_all
   .split at h
    .grind
    .split at h
     .grind
     .cases r with
      |nil=>rename_i K _ _ _;have:f.1=0:=j;omega
      |cons q r=>
       exact Hl (.inl rfl) (fun g d e=>B q g d (by rw[e])) (fun _=>by simp_all) fr b i g d h l
  .split at h
   .split at h
    .simp_all
    .exact Hl (f:=(1,f.2)) (.inl rfl) u (fun _=>by omega) fr b i g d h l
   .split at h
    .split at h
     .grind
     .exact Hl (f:=(9,f.2)) (.inl rfl) u (fun _=>by omega) fr b i g d h l
    .refine Hl (.inl rfl) u (fun e=> ?_) fr b i g d h l;subst e;have:f.1=0:=j;omega
 have z:=(good_step j fr b i).1;revert p z;generalize (gG s fr b i).1=y;intro p z g m l;cases y with
 |nil=>cases m
 |cons f r=>
  rcases List.mem_cons.1 m with e|m
  .simp_all
  .exfalso;clear p
   induction r generalizing f with
   |nil=>cases m
   |cons q r D=>
    rcases List.mem_cons.1 m with e|A
    .grind [ag7]
    .exact D q z.2.2.2 (aB _ A) A
def PI (p:mW) (a:Int):Prop:=0<=p.2.1/\p.2.1<a/\(p.2.2.2.2.1=true/\(p.1=13->p.2.1+1=a)\/p.2.2.2.2.1=false/\p.2.1+2<=p.2.2.1/\p.2.2.1<=a/\(p.1=13->p.2.2.1=p.2.1+2))
theorem ama {m:Int} (h:counts m=13):m=13:=by
 grind [counts]
theorem axg {s:gB} {f:IW} (h:f∈sJ s):(f.1,f.2.1)∈s:=by
 unfold sJ at h;rw[List.mem_reverse,List.mem_map]at h;obtain⟨g,d,rfl⟩:=h
 grind [List.dropLast_sublist]
theorem am5 {F:List IW} {v m:Int} (h:IX F v=some m): ∃f∈F,f.2.1=v/\f.1=m:=by
 unfold IX at h;obtain⟨f,d,rfl⟩:=Option.map_eq_some_iff.1 h
 grind
theorem aDI {s:gB} (j:jg s) (fr:Bool) (b a:Int) {p:mW} (h:PI p a):PI (pW (sJ (gG s fr b a).1) a p) (a+1):=by
 obtain⟨g,x,l⟩:=h;unfold pW;rcases l with ⟨d,i⟩|⟨d,i,y,q⟩
 .rw[am d];split
  .rename_i m u
   refine⟨g,by simp only;omega,.inl ⟨d,fun h=> ?_⟩⟩;have z:m=13:=ama h;obtain⟨f,v,A,e⟩:=am5 u;have:=aqY j fr b a _ (axg v) (by simp only;omega);omega
  .refine⟨g,by simp only[MX];omega,.inr ⟨rfl,by simp only[MX];omega,by simp[MX],fun h=> ?_⟩⟩
   grind [MX]
 .rw[aq (by rw[d];simp)];exact⟨g,by omega,.inr ⟨d,i,by omega,q⟩⟩
theorem aDH {s:gB} (e:jg s) (fr:Bool) (b:Int) {a:Int} (d:0<=a) (l:List Int):PI (BB (sJ (gG s fr b a).1) a l) (a+1):=
 ⟨d,by simp only[BB];omega,.inl ⟨rfl,fun h=>by simp only[BB]⟩⟩
theorem akL: ∀(l:dC) (a:Int) (x:gB×Bool) (p:mW),jg x.1->PI p a->PI (zf l a x p) (a+l.length)
 |[],a,x,p,_,h=>by simpa [zf] using h
 |b::l,a,x,p,d,h=>by
  rw[zf];have:=akL l (a+1) (gG x.1 x.2 (jr b) a) _ (good_step d _ _ _).1 (aDI d x.2 (jr b) a h)
  grind
theorem abT: ∀(l:dC) (a:Int) (x:gB×Bool) (fr:List Int),0<=a->jg x.1-> ∀p∈wE l a x fr,PI p (a+l.length)/\a<=p.2.1
 |[],a,x,fr,_,_,p,h=>by cases h
 |b::l,a,x,fr,j,f,p,h=>by
  have g:=(good_step f x.2 (jr b) a).1;have e: ∀d,p∈wE l (a+1) (gG x.1 x.2 (jr b) a) d->PI p (a+((b::l).length:Int))/\a<=p.2.1:=fun d i=>by
   have:=abT l (a+1) _ d (by omega) g p i
   grind
  rw[wE]at h;split at h
  .rcases List.mem_cons.1 h with rfl|h
   .grind [akL,aDH,Hm,BB]
   .exact e _ h
  .exact e _ h
theorem Y0: ∀(l:dC) (a:Int) (x:gB×Bool) (fr:List Int),0<=a->jg x.1->(wE l a x fr).Pairwise (fun p q=>p.2.1<q.2.1)
 |[],a,x,fr,_,_=>List.Pairwise.nil
 |b::l,a,x,fr,g,e=>by
  have d:=(good_step e x.2 (jr b) a).1;rw[wE];split
  .refine List.Pairwise.cons (fun p f=> ?_) (Y0 l (a+1) _ _ (by omega) d);have:=(abT l (a+1) _ _ (by omega) d p f).2
   grind [Hm,BB]
  .exact Y0 l (a+1) _ _ (by omega) d
structure PF (s:dC) (p:mW):Prop where
 f0:0<=p.2.1
 f1:p.2.1<s.length
 t0:p.2.1<p.2.2.1
 t1:p.2.2.1<=s.length
 op:p.2.2.2.2.1=true->p.2.2.1=s.length/\p.1≠12
 sh:p.2.2.2.2.1=false->p.1≠12->p.2.1+2<=p.2.2.1
 es:p.1=13->p.2.2.1<=p.2.1+2
 dl:p.1=12->p.2.2.1=p.2.1+1+((prl (s.drop (p.2.1+1).toNat):Nat):Int)
theorem anL (s:dC): ∀p∈dB s,PF s p:=by
 intro p i;rw[AB]at i;obtain⟨q,m,rfl⟩:=List.mem_map.1 i;obtain⟨⟨f,d,j⟩,_⟩:=abT s 0 fK [] (by omega) mO q m;rw[Int.zero_add]at d j;have u:=ahV (s.drop (q.2.1+1).toNat);rw[aP]at u;unfold wL;split
 .rename_i e
  exact⟨f,d,by simp only;omega,by simp only;omega,fun h=>(by cases h),fun _ h=>absurd e h,fun h=>(by omega),fun _=>rfl⟩
 .rename_i e
  split
  .rename_i g
   refine⟨f,d,d,Int.le_refl _,fun _=>⟨rfl,e⟩,fun h=>(by cases h),fun h=> ?_,fun h=>absurd h e⟩
   grind
  .rename_i g
   rcases j with ⟨l,_⟩|⟨l,v,x,y⟩
   .exact absurd l g
   .exact⟨f,d,by omega,x,fun h=>absurd h g,fun _ _=>v,fun h=>by have:=y h;omega,fun h=>absurd h e⟩
theorem X6 (s:dC):(dB s).Pairwise (fun p q=>p.2.1<q.2.1):=by
 grind [AB,Y0,mO,Xx]
theorem EF (s:dC):(dB s).length<=s.length:=by
 have h: ∀(l:dC) (a:Int) (x:gB×Bool) (d:List Int),(wE l a x d).length<=l.length:=by
  intro l
  induction l with
  |nil=>intro a x d;exact af 0
  |cons b l e=>
   grind [wE]
 simp_all [AB,fK]
end
section
open Nat renaming le_trans → aK
open Go.RowKit
def zg (L:List mW) (v:Int):Option mW:=L.find? fun p=>p.2.1==v
theorem TU {L:List mW} {v:Int} {p:mW} (h:zg L v=some p):p∈L/\p.2.1=v:=
 ⟨List.mem_of_find?_eq_some h,by simpa using List.find?_some h⟩
theorem zh {s:List UInt8} {v:Int} {p:mW} (h:zg (dB s) v=some p):PF s p/\p.2.1=v:=
 ⟨anL s p (TU h).1,(TU h).2⟩
def lone (p:mW):Bool:=decide (p.1=12)&&decide (p.2.2.1=p.2.1+1)
def qx (s:dC) (p:mW):dC:=sub s p.2.1 p.2.2.1
def zV (p:mW):Int:=if p.2.2.2.2.1=true then p.2.2.1 else p.2.2.1-1
def WG (s:dC) (p:mW):dC:=if p.2.2.1=p.2.1+2/\dm s (p.2.1+1)≠10 then sub s (p.2.1+1) p.2.2.1 else []
def WF (s:dC) (p:mW):dC:=if p.2.2.1=p.2.1+2 then(if dm s (p.2.1+1)=36\/dm s (p.2.1+1)=96\/dm s (p.2.1+1)=34\/dm s (p.2.1+1)=92 then sub s (p.2.1+1) p.2.2.1 else if dm s (p.2.1+1)=10 then []else qx s p)else []
def jq (s:dC) (L:List mW) (at_:Int):Int×List UInt8×Bool:=
 match zg L at_ with
 |none=>(at_+1,sub s at_ (at_+1),false)
 |some p=>if lone p=true then(at_+1,sub s at_ (at_+1),false)
  else if p.1=13 then(p.2.2.1,WF s p,false)
  else(p.2.2.1,qx s p,true)
def uN (s:dC) (L:List mW) (to_:Int):Nat->Int->dC
 |0,_=>[]
 |n+1,at_=>if at_<to_ then(jq s L at_).2.1++uN s L to_ n (jq s L at_).1 else []
def stepT (s:dC) (L:List mW) (at_:Int):Int×List UInt8:=
 match zg L at_ with
 |none=>(at_+1,sub s at_ (at_+1))
 |some p=>if lone p=true\/p.1=14 then(p.2.2.1,qx s p)
  else if p.1=13 then(p.2.2.1,WG s p)
  else if p.1=4 then(p.2.2.1,sub s (p.2.1+1) (zV p))
  else if p.1=5 then(p.2.2.1,uN s L (zV p) s.length (p.2.1+1))
  else(p.2.2.1,qx s p)
def nX (s:dC) (L:List mW):Nat->Int->dC
 |0,_=>[]
 |n+1,at_=>if at_<s.length then(stepT s L at_).2++nX s L n (stepT s L at_).1 else []
def Kr (s:dC):dC:=nX s (dB s) s.length 0
theorem VQ {s:List UInt8} {at_:Int}:at_<(jq s (dB s) at_).1:=by
 unfold jq;split
 .simp only;omega
 .rename_i p d
  obtain⟨h,e⟩:=zh d;have:=h.t0
  grind
theorem VR {s:List UInt8} {at_:Int}:at_<(stepT s (dB s) at_).1:=by
 unfold stepT;split
 .simp only;omega
 .rename_i p d
  obtain⟨h,e⟩:=zh d;have:=h.t0
  grind
theorem afo {s:List UInt8} {at_:Int} (f:at_<s.length):(stepT s (dB s) at_).1<=s.length:=by
 unfold stepT;split
 .simp only;omega
 .rename_i p d
  obtain⟨h,e⟩:=zh d;have:=h.t1
  grind
theorem NT (s:dC) (to_:Int): ∀(n m:Nat) (at_:Int),to_-at_<=n->to_-at_<=m->uN s (dB s) to_ n at_=uN s (dB s) to_ m at_
 |0,0,_,_,_=>rfl
 |0,m+1,at_,h,_=>by rw[uN,uN,aq (by omega)]
 |n+1,0,at_,_,h=>by rw[uN,uN,aq (by omega)]
 |n+1,m+1,at_,d,e=>by
  rw[uN,uN];split
  .have:= @VQ s at_;rw[NT s to_ n m _ (by omega) (by omega)]
  .rfl
theorem Jr (s:dC): ∀(n m:Nat) (at_:Int),(s.length:Int)-at_<=n->(s.length:Int)-at_<=m->nX s (dB s) n at_=nX s (dB s) m at_
 |0,0,_,_,_=>rfl
 |0,m+1,at_,h,_=>by rw[nX,nX,aq (by omega)]
 |n+1,0,at_,_,h=>by rw[nX,nX,aq (by omega)]
 |n+1,m+1,at_,d,e=>by
  rw[nX,nX];split
  .have:= @VR s at_;rw[Jr s n m _ (by omega) (by omega)]
  .rfl
theorem JY {d:Type} (l:List d) (a b:Int):(sub l a b).length<=l.length:=by
 grind [sub]
theorem O8 (s:dC) (L:List mW) (at_:Int):(jq s L at_).2.1.length<=s.length:=by
 unfold jq;split
 .exact JY s _ _
 .split
  .exact JY s _ _
  .split
   .simp only;unfold WF qx
    repeat' split
    all_goals simp_all [JY]
   .exact JY s _ _
theorem adi (s:dC) (L:List mW) (to_:Int): ∀(n:Nat) (at_:Int),(uN s L to_ n at_).length<=n*s.length
 |0,_=>by simp[uN]
 |n+1,at_=>by
  rw[uN];split
  .have:=O8 s L at_;have:=adi s L to_ n (jq s L at_).1
   grind
  simp
theorem O9 (s:dC) (L:List mW) (at_:Int):(stepT s L at_).2.length<=s.length*s.length+s.length:=by
 have h: ∀a b,(sub s a b).length<=s.length*s.length+s.length:=fun a b=>aK (JY s a b) (Nat.le_add_left _ _);unfold stepT;split
 .exact h _ _
 .split
  .exact h _ _
  .split
   .simp only;unfold WG
    grind
   .split
    .exact h _ _
    .split
     .exact aK (adi _ _ _ _ _) (Nat.le_add_right _ _)
     .exact h _ _
theorem Xl (s:dC) (L:List mW): ∀(n:Nat) (at_:Int),(nX s L n at_).length<=n*(s.length*s.length+s.length)
 |0,_=>by simp[nX]
 |n+1,at_=>by
  rw[nX];split
  .have:=O9 s L at_;have:=Xl s L n (stepT s L at_).1
   grind
  simp
end
section
open Option renaming some → a6, none → a7
open Tryz
open Go.RowKit
noncomputable def b48:Code:=(f48.body).getD .skip
noncomputable def azs:Code:=cA (cA (cA (cB (cB (cA (cA (cB (cA (cA (cB (cA (cB (cB (b48))))))))))))))
noncomputable def azr:Code:=cA (cA (cB (cA (cB (cB (b48))))))
def azW:fZ:=⟨[0,5,9,10,100007],[],[0,5,9,10],[],[6,7],[]⟩
def azV:fZ:=⟨[0,5,8,9,100003],[],[0],[],[6,7],[]⟩
def aku:SP:=⟨eC,dc⟩
def ahk:SP:=⟨eC,dc⟩
def ahG:SP:=⟨us [.u,.u,.u,.u,.u,.u,bL,bL] 66,[]⟩
def aco {j:Type} (m l:dC->Int->Int->dC->Bool->Option j) (p:Int->Int->Option j) (e:dC) (f d:Int) (i:dC) (g:Bool):Option j:=cond g (cond (iV d f) (cond (iy e d) (cond (cZ (dm e d) 9) (m e f (dJ .i64 d 1) i g)<|l e f d i g) a7)<|l e f d i g)<|l e f d i g
def UF:Nat->dC->Int->Int->dC->Bool->Option (ahk.den⊕ahG.den)
 |0,_,_,_,_,_=>a7
 |n+1,d,e,f,g,i=>aco (UF n) (fun j l m p q=>a6 (.inl ((j,l,m,()),((p,q,()),())))) (fun u v=>a6 (.inr ((u,v,()),()))) d e f g i
def aCP (n:Nat) (v:aku.den):=UF n v.1.1 v.1.2.1 v.1.2.2.1 v.2.1.1 v.2.1.2.1
noncomputable def asW:dO:=iq azW aku ahk ahG (.exit 2) (aCP bY) 6
def akt:SP:=⟨us [bN,.u,.u,.u,.u,cr,.u,.u,bL,bL] 64,dc⟩
def abh:SP:=⟨us [bN] 73,[]⟩
def abQ:SP:=⟨us [.u,.u,.u,.u,.u,.u,bL,bL] 66,[]⟩
def wZ {e:Type} (i:dC) (j l:Int) (m:dC) (p:Bool) (f:Int->Int->Option e) (q:dC->Int->Int->dC->Bool->Option e):Option e:=bU (UF bY i j l m p) fun u=>dX u (fun d=>cond (gy (bV d.1.1) d.1.2.2.1 d.1.2.1) (cond (iG (sub d.1.1 d.1.2.2.1 d.1.2.1) d.2.1.1) (cond (iV d.1.2.1 (bV d.1.1)) (f (dJ .i64 d.1.2.1 1) 1)<|f d.1.2.1 1)<|q d.1.1 (dJ .i64 d.1.2.1 1) (dJ .i64 d.1.2.1 1) d.2.1.1 d.2.1.2.1) a7) (fun g=>f g.1.1 g.1.2.1)
def O7 {l:Type} (g:dC->Int->Int->dC->Bool->Option l) (p:dC->Option l) (m:Int->Int->Option l) (e:dC) (f d:Int) (i:dC) (j:Bool):Option l:=cond (leI d (bV e)) (cond (iV d (bV e)) (cond (iy e d) (cond (!(cZ (dm e d) 10)) (g e f (dJ .i64 d 1) i j)<|cond (cZ d (bV e)) (cond (cZ f d) (g e f (dJ .i64 d 1) i j)<|wZ e d f i j m g)<|wZ e d f i j m g) a7)<|cond (cZ d (bV e)) (cond (cZ f d) (g e f (dJ .i64 d 1) i j)<|wZ e d f i j m g)<|wZ e d f i j m g)<|p e
def Ej:Nat->dC->Int->Int->dC->Bool->Option (abh.den⊕abQ.den)
 |0,_,_,_,_,_=>a7
 |n+1,d,e,f,g,i=>O7 (Ej n) (fun j=>a6 (.inl ((j,()),()))) (fun l m=>a6 (.inr ((l,m,()),()))) d e f g i
def aCO (n:Nat) (v:akt.den):=Ej n v.1.1 v.1.2.1 v.1.2.2.1 v.2.1.1 v.2.1.2.1
noncomputable def asV:dO:=iq azV akt abh abQ (.exit 0) (aCO bY) 12
def aw8 (g:dC) (d:Int) (e:dC×xy):Option qP:=bU (Ej bY g d d e.1 e.2.1) fun i=>dX i (fun j=>a6 ((bV j.1.1),(0,()))) (fun f=>a6 (f.1.1,(f.1.2.1,())))
def aAv:Sum:=⟨[.str,dL,EU],tzJ,fun x=>aw8 x.1 x.2.1 x.2.2.1⟩
noncomputable def aiH:Env:=kU prog tt 48 [] [(7,azW),(3,azV)] [(7,asW),(3,asV)]
def aui {d:Type} (a:aku.den->Option d) (b:ahk.den->Option d) (c:ahG.den->Option d) (v:aku.den):Option d:=aco (fun e f g i j=>a ((e,f,g,()),((i,j,()),()))) (fun l m p q u=>b ((l,m,p,()),((q,u,()),()))) (aL c) v.1.1 v.1.2.1 v.1.2.2.1 v.2.1.1 v.2.1.2.1
theorem aDp:eY aiH 48 azs asW:=En (aui) (h2:=by intros;simp only[aui,aL,aco,dG,dH,bT,dw,dI])
def auh {d:Type} (a:akt.den->Option d) (b:abh.den->Option d) (c:abQ.den->Option d) (v:akt.den):Option d:=O7 (fun e f g i j=>a ((e,f,g,()),((i,j,()),()))) (aE b) (aL c) v.1.1 v.1.2.1 v.1.2.2.1 v.2.1.1 v.2.1.2.1
theorem aDo:eY aiH 48 azr asV:=En (auh) (h2:=by intros;simp only[auh,aE,aL,O7,dG,dH,bT,dw,dI,wZ])
theorem aGE:eP aiH 48 b48:=tC [azs,azr] (aD (fM (aDp)) (aD (fM (aDo)) aN))
theorem aqm:gm aiH:=eA f48 aN (aGE)
theorem avu:eX prog 48 aAv:=sA aqm
noncomputable def b49:Code:=(f49.body).getD .skip
noncomputable def azt:Code:=cA (cA (cA (cB (b49))))
def akv:SP:=⟨us [bN,bL] 40,[]⟩
def abj:SP:=⟨us [.u,bL] 40,[]⟩
def abR:SP:=⟨us cS 37,[]⟩
def acp {g:Type} (i:dC->Int->Option g) (f j:Int->Option g) (e:dC) (d:Int):Option g:=cond (iV d (bV e)) (cond (iy e d) (cond (cZ (dm e d) 32) (i e (dJ .i64 d 1))<|cond (iy e d) (cond (cZ (dm e d) 9) (i e (dJ .i64 d 1))<|cond (iy e d) (cond (cZ (dm e d) 92) (cond (iV (dJ .i64 d 1) (bV e)) (cond (iy e (dJ .i64 d 1)) (cond (cZ (dm e (dJ .i64 d 1)) 10) (i e (dJ .i64 d 2))<|f d) a7)<|f d)<|f d) a7) a7) a7)<|f d
def Oq:Nat->dC->Int->Option (abj.den⊕abR.den)
 |0,_,_=>a7
 |n+1,d,e=>acp (Oq n) (fun f=>a6 (.inl ((f,()),()))) (fun g=>a6 (.inr ((g,()),()))) d e
def aCQ (n:Nat) (v:akv.den):=Oq n v.1.1 v.1.2.1
noncomputable def asX:dO:=iq ZO akv abj abR (.exit 0) (aCQ bY) 6
def aw9 (d:dC) (e:Int):Option Fb:=bU (Oq bY d e) fun f=>dX f (fun g=>a6 (g.1.1,())) (fun i=>a6 (i.1.1,()))
def aAw:Sum:=⟨[.str,dL],Xg,fun x=>aw9 x.1 x.2.1⟩
noncomputable def aqn:Env:=kU prog tt 49 [] [(1,ZO)] [(1,asX)]
def auj {d:Type} (a:akv.den->Option d) (b:abj.den->Option d) (c:abR.den->Option d) (v:akv.den):Option d:=acp (aL a) (aE b) (aE c) v.1.1 v.1.2.1
theorem aDq:eY aqn 49 azt asX:=En (auj) (h2:=by intros;simp only[auj,aL,aE,acp,dG,dH,bT,dw,dI])
theorem aGF:eP aqn 49 b49:=tC [azt] (aD (fM (aDq)) aN)
theorem aqo:gm aqn:=eA f49 aN (aGF)
theorem avv:eX prog 49 aAw:=sA aqo
noncomputable def b51:Code:=(f51.body).getD .skip
noncomputable def azv:Code:=cA (cA (cA (cB (cB (cB (b51))))))
def azX:fZ:=⟨[3,100004],[],[3],[],[2],[]⟩
def akx:SP:=⟨us [.u,.u,.u,bN] 29,[]⟩
def ahm:SP:=⟨us [.u,.u,.u,bN] 29,[]⟩
def ahI:SP:=⟨us [.u,.u,bN] 30,[]⟩
def ah6 {e:Type} (g f i:dC->Option e) (d:dC):Option e:=cond (iV 0 (bV d)) (cond (iy d (fO .i64 (bV d) 1)) (cond (cZ (dm d (fO .i64 (bV d) 1)) 32) (cond (gy (bV d) 0 (fO .i64 (bV d) 1)) (g (sub d 0 (fO .i64 (bV d) 1))) a7)<|f d) a7)<|f d
def ag8:Nat->dC->Option (ahm.den⊕ahI.den)
 |0,_=>a7
 |n+1,d=>ah6 (ag8 n) (fun e=>a6 (.inl ((e,()),()))) (fun f=>a6 (.inr ((f,()),()))) d
def aCS (n:Nat) (v:akx.den):=ag8 n v.1.1
noncomputable def asZ:dO:=iq azX akx ahm ahI (.exit 0) (aCS bY) 6
def ZA (d:Int):Option (dC×Unit):=cond (iV d 1) (a6 ([],()))<|cond (iV 17 d) (a6 ([],()))<|cond (gy (bV [38,38,32,124,124,32,59,59,32,60,60,32,60,60,45,62,62,32,60,38,32,62,38,32,60,62,32,62,124,32,60,32,32,62,32,32,38,32,32,59,32,32,124,32,32,40,32,32,41,32,32]) (anA .i64 3 (fO .i64 d 1)) (anA .i64 3 d)) (bU (ag8 bY (sub [38,38,32,124,124,32,59,59,32,60,60,32,60,60,45,62,62,32,60,38,32,62,38,32,60,62,32,62,124,32,60,32,32,62,32,32,38,32,32,59,32,32,124,32,32,40,32,32,41,32,32] (anA .i64 3 (fO .i64 d 1)) (anA .i64 3 d))) fun e=>dX e (fun f=>a6 (f.1.1,())) (fun g=>a6 (g.1.1,()))) a7
def alR:Sum:=⟨[dL],tzI,fun x=>ZA x.1⟩
noncomputable def aqs:Env:=kU prog tt 51 [] [(4,azX)] [(4,asZ)]
def aul {d:Type} (a:akx.den->Option d) (b:ahm.den->Option d) (c:ahI.den->Option d) (v:akx.den):Option d:=ah6 (aE a) (aE b) (aE c) v.1.1
theorem aDs:eY aqs 51 azv asZ:=En (aul) (h2:=by intros;simp only[aul,aE,ah6,dG,dH,bT,dw,dI])
theorem aGH:eP aqs 51 b51:=tC [azv] (aD (fM (aDs)) aN)
theorem aqt:gm aqs:=eA f51 aN (aGH)
theorem VV:eX prog 51 alR:=sA aqt
noncomputable def b50:Code:=(f50.body).getD .skip
noncomputable def azu:Code:=cA (cA (cB (cA (cB (cB (b50))))))
def akw:SP:=⟨us [bN,bL,.u,.u,.u,bL,bL] 35,[]⟩
def ahl:SP:=⟨us [.u,.u,.u,.u,.u,bL] 36,[]⟩
def ahH:SP:=⟨us cS 37,[]⟩
def acr {l:Type} (j:dC->Int->Int->Int->Option l) (m q:Int->Option l) (e:dC) (d g f:Int):Option l:=cond (leI f 17) (bU (ZA f) fun i=>cond (leI (bV i.1) (fO .i64 (bV e) d)) (cond (gy (bV e) d (dJ .i64 d (bV i.1))) (cond (iG (sub e d (dJ .i64 d (bV i.1))) i.1) (bU (ZA g) fun p=>cond (iV (bV p.1) (bV i.1)) (j e d f (dJ .i64 f 1))<|j e d g (dJ .i64 f 1))<|j e d g (dJ .i64 f 1)) a7)<|j e d g (dJ .i64 f 1))<|m g
def Ot:Nat->dC->Int->Int->Int->Option (ahl.den⊕ahH.den)
 |0,_,_,_,_=>a7
 |n+1,d,e,f,g=>acr (Ot n) (fun i=>a6 (.inl ((i,()),()))) (fun j=>a6 (.inr ((j,()),()))) d e f g
def aCR (n:Nat) (v:akw.den):=aM (Ot n) v
noncomputable def asY:dO:=iq ZQ akw ahl ahH (.exit 0) (aCR bY) 6
def arj (d:dC) (e:Int):Option Fb:=bU (Ot bY d e 0 1) fun f=>dX f (fun g=>a6 (g.1.1,())) (fun i=>a6 (i.1.1,()))
def aAx:Sum:=⟨[.str,dL],Xg,fun x=>arj x.1 x.2.1⟩
noncomputable def aqp:Env:=kU prog tt 50 [(51,alR)] [(3,ZQ)] [(3,asY)]
def auk {d:Type} (a:akw.den->Option d) (b:ahl.den->Option d) (c:ahH.den->Option d) (v:akw.den):Option d:=aM (acr (fun e f g i=>a ((e,f,g,i,()),())) (aE b) (aE c)) v
theorem aDr:eY aqp 50 azu asY:=En (auk) (h2:=by intros;simp only[auk,aE,aM,acr,dG,dH,bT,dw,dI])
theorem aGG:eP aqp 50 b50:=tC [azu] (aD (fM (aDr)) aN)
theorem aqr:gm aqp:=eA f50 (aD VV aN) (aGG)
theorem avw:eX prog 50 aAx:=sA aqr
def agB (e:dC):Option xy:=bU (axd e) fun d=>cond (iG d.1.1 [84]) (a6 (true,()))<|some ((iG d.1.1 [84,76]),())
def aAA:Sum:=⟨[.str],YK,fun x=>agB x.1⟩
theorem avA:eX prog 55 aAA:=qA f55 [] (sE avH aN)
end
section
open Option renaming some → a6, none → a7
open Bool renaming false_eq_true → ai, not_true → au, or_eq_true → bi, not_eq_true → bG
open List renaming length_append → ae, drop_eq_getElem_cons → aH, getElem_mem → aI, length_map → aJ, drop_of_length_le → aO, length_drop → aP
open Nat renaming le_refl → af, lt_or_ge → ak, add_zero → aW
open Go.RowKit
def oW (b:Int):Bool:=decide (b=32)||decide (b=9)
def I8 (b:Int):Bool:=decide (b=124)||decide (b=38)||decide (b=59)||decide (b=60)||decide (b=62)||decide (b=40)||decide (b=41)
theorem aDe: ∀n:Fin 256,(match KZ ((n.val:Nat):Int)with|some (k,_)=>(cZ k 1==oW ((n.val:Nat):Int))&&(cZ k 3==I8 ((n.val:Nat):Int))|none=>false)=true:=by decide+kernel
theorem aDd {b:Int} (h:isByte b): ∃k,KZ b=a6 (k,())/\cZ k 1=oW b/\cZ k 3=I8 b:=by
 obtain⟨n,rfl⟩:=SL h;have:=aDe n
 grind
def Md:List dC:=[[38,38],[124,124],[59,59],[60,60],[60,60,45],[62,62],[60,38],[62,38],[60,62],[62,124],[60],[62],[38],[59],[124],[40],[41]]
def ofF (u:dC):Nat:=match Md.findIdx? (· ==u)with
 |some j=>j+1
 |none=>0
theorem avZ: ∀n:Fin 18,n.val≠0->aiZ ((n.val:Nat):Int)=a6 (Md.getD (n.val-1) [],()):=by decide+kernel
theorem Zo {d:Type} (p:d->Bool) (l:List d) {k:Nat} (h:k<l.length):(l.drop k).findIdx? p=if p l[k]=true then a6 0 else((l.drop (k+1)).findIdx? p).map (· +1):=by
 grind [aH]
theorem X0 (u:dC): ∀(d N k:Nat),k+d=17->d<N->
  Eh N u ((k+1:Nat):Int)=a6 (match(Md.drop k).findIdx? (· ==u)with
   |some j=>.inr ((((k+j+1:Nat):Int),()),())
   |none=>.inl ((),()))
 |d,0,k,_,h=>by omega
 |0,N+1,k,h,_=>by
  have hk:k=17:=by omega
  subst hk;rfl
 |d+1,N+1,k,h,i=>by
  have hk:k<Md.length:=by show k<17;omega
  have f:=avZ ⟨k+1,by omega⟩ (by simp);simp only[Nat.add_sub_cancel]at f;rw[Eh,Nb,dn (ul),f,bT,Zo _ _ hk];have g:Md.getD k []=Md[k]:=by simp_all
  simp only[g,iG];by_cases e:(Md[k]==u)=true
  .rw[e];simp
  .rw[bG]at e;rw[e,dD,show((k+1:Nat):Int)+1=((k+1+1:Nat):Int) by omega];simp only[ac];rw[X0 u d N (k+1) (by omega) (by omega)]
   grind
theorem aDc (u:dC) (h:ofF u≠0):u∈Md:=by
 unfold ofF at h
 grind
theorem atp (u:dC):PS u=a6 (((ofF u:Nat):Int),()):=by
 rw[PS];by_cases e:u=[]
 .subst e;rfl
 .rw[dY (by grind [iG])];have h:=X0 u 17 bY 0 rfl (di)
  grind [bT,ofF,dX]
def Kq (t:dC):Nat->Nat×Nat
 |0=>(0,0)
 |n+1=>if ofF (t.take (n+1))≠0 then(ofF (t.take (n+1)),n+1)else Kq t n
theorem DC (s:dC) (a n:Nat):sub s (a:Int) ((a+n:Nat):Int)=(s.drop a).take n:=by
 grind [sub,List.drop_take]
theorem ac0 (s:dC) (d:s.length<1000000) (a:Nat): ∀(n N:Nat),n<N->a+n<=s.length->
  LG N s (a:Int) 0 (n:Int)=a6 (.inl (((((Kq (s.drop a) n).1:Nat):Int),(((Kq (s.drop a) n).2:Nat):Int),()),()))
 |n,0,h,_=>by omega
 |0,N+1,_,_=>by
  rfl
 |n+1,N+1,h,f=>by
  rw[LG,Rz,dn (fQ),dD,show(a:Int)+((n+1:Nat):Int)=((a+(n+1):Nat):Int) by omega,
   dn (ig (by omega) (by omega) (by rw[cu];omega)),DC,atp,bT,Kq]
  by_cases e:ofF ((s.drop a).take (n+1))=0
  .rw[e];simp only[show(!cZ ((0:Nat):Int) 0)=false from rfl,ac,ne_eq,not_true_eq_false,if_false];rw[iH,show((n+1:Nat):Int)-1=(n:Int) by omega];exact ac0 s d a n N (by omega) (by omega)
  simp_all [fB]
def BC (t:dC):Nat×Nat:=Kq t (min 3 t.length)
theorem ayM {c:UInt8} {t:List UInt8} (h:c::t∈Md):I8 (c.toNat:Int)=true:=by
 have: ∀u∈Md,(match u with|c::_=>I8 (c.toNat:Int)|[]=>true)=true:=by decide
 exact this _ h
theorem aio {c:UInt8} {t:List UInt8} (h:I8 (c.toNat:Int)=false): ∀n,Kq (c::t) n=(0,0)
 |0=>rfl
 |n+1=>by
  rw[Kq,aq,aio h n]
  grind [ayM,aDc]
theorem aId {s:List UInt8} (e:s.length<1000000) {a:Nat} (d:a<s.length):aiN s a=a6 ((((BC (s.drop a)).1:Nat):Int),((((BC (s.drop a)).2:Nat):Int),())):=by
 rw[aiN,dY (nS),dY (Uy (by rw[cu];omega)),dn (fD)];obtain⟨k,f,_,g⟩:=aDd (oI s a);rw[f,bT];simp only[g];have hd:=aH d;rw[byte_at d];cases hm:I8 (s[a].toNat:Int)with
 |false=>
  grind [BC,aio]
 |true=>
  simp only[au,ac];have i:JJ 3 (fO .i64 (bV s) (a:Int))=((min 3 (s.drop a).length:Nat):Int):=by
   grind [cu,iH,JJ]
  rw[i,ac0 s e a _ bY (di) (by grind),bT];rfl
theorem QZ (t:dC):(BC t).2<=t.length/\((BC t).2=0↔(BC t).1=0)/\(BC t).1<=17:=by
 have h: ∀n,(Kq t n).2<=n/\((Kq t n).2=0↔(Kq t n).1=0)/\(Kq t n).1<=17:=by
  intro n
  induction n with
  |zero=>exact⟨af _,Iff.rfl,by simp[Kq]⟩
  |succ n f=>
   rw[Kq];split
   .rename_i e
    refine⟨af _,⟨fun h=>absurd h (by simp),fun h=>absurd h e⟩, ?_⟩;unfold ofF;split
    .rename_i j d
     have:=(List.findIdx?_eq_some_iff_getElem.1 d).1
     assumption
    omega
   omega
 grind [BC]
theorem arB (c:UInt8): ∀l:dC,Lib.indexByte l c=if(l.takeWhile (· !=c)).length<l.length then(((l.takeWhile (· !=c)).length:Nat):Int)else-1
 |[]=>rfl
 |b::l=>by
  unfold Lib.indexByte;rw[arB c l];by_cases e:b=c
  .subst e;simp
  .have d:(b==c)=false:=by simpa using e
   have f:(b !=c)=true:=by simpa using e
   have g:(b::l).takeWhile (fun x=>x !=c)=b::l.takeWhile (fun x=>x !=c):=by simp_all
   grind
def iW (s:dC) (a:Nat):Nat:=a+((s.drop a).takeWhile (· !=10)).length
theorem wP (s:dC) (a:Nat):a<=iW s a:=Nat.le_add_right _ _
theorem wQ {s:List UInt8} {a:Nat} (h:a<=s.length):iW s a<=s.length:=by
 grind [NC,iW]
theorem asu {s:List UInt8} (g:s.length<1000000) {a:Nat} (d:a<=s.length):adz s a=a6 (((iW s a:Nat):Int),(decide (iW s a<s.length),())):=by
 have i:=wQ d;have j:=wP s a;rw[adz,dn (ig (by omega) (by rw[cu];omega) (by omega)),adC,ai0,bT,bT];have e:sub s (a:Int) (bV s)=s.drop a:=by simp[sub,cu]
 have f:ibW (sub s (a:Int) (bV s)) 10=if iW s a<s.length then((iW s a-a:Nat):Int)else-1:=by
  rw[e];unfold ibW;rw[show(10:Int).toNat.toUInt8=10 from rfl,arB,aP];unfold iW at*;omega
 rw[f];by_cases h:iW s a<s.length
 .rw[am h,dn (ul),dD,decide_eq_true h];congr 2;omega
 .rw[aq h,dY (Uy),decide_eq_false h,cu];congr 2;omega
def nK:dC->Nat
 |[]=>0
 |[c]=>if oW (c.toNat:Int)=true then 1 else 0
 |c::d::t=>if oW (c.toNat:Int)=true then nK (d::t)+1 else if c=92/\d=10 then nK t+2 else 0
theorem YX: ∀t:dC,nK t<=t.length
 |[]=>af _
 |[c]=>by grind [nK]
 |c::d::t=>by
  have e:=YX (d::t);have f:=YX t
  grind [nK]
def CE (t:dC):Bool:=match t with
 |c::d::_=>decide (c=92)&&decide (d=10)
 |_=>false
theorem aBS (t:dC):aiU t [92,10]=a6 (CE t,()):=by
 rw[aiU,ari];cases t with
 |nil=>rfl
 |cons c t=>
  cases t with
  |nil=>rfl
  |cons d t=>
   have e:leI (bV [(92:UInt8),10]) (bV (c::d::t))=true:=ul (by grind [cu]);have f:gy (bV (c::d::t)) 0 (bV [(92:UInt8),10])=true:=ig (by omega) (by rw[cu];simp) (by grind [cu]);simp_all [sub,cu,bT,CE,iG,Bool.beq_eq_decide_eq]
theorem apR {s:List UInt8} {a:Nat} (d:a<=s.length):adx s a=a6 (CE (s.drop a),()):=by
 rw[adx,dn (ig (by omega) (by rw[cu];omega) (by omega)),show sub s (a:Int) (bV s)=s.drop a by simp[sub,cu],aBS,bT]
theorem Ku {c:UInt8} {t:List UInt8}:nK (c::t)=if oW (c.toNat:Int)=true then nK t+1 else if CE (c::t)=true then nK (t.drop 1)+2 else 0:=by
 cases t with
 |nil=>rfl
 |cons d t=>rw[nK];simp[CE]
theorem Jt {s:List UInt8} (d:s.length<1000000): ∀(N a:Nat),s.length-a<N->a<=s.length->
  ∃o,LH N s (a:Int)=a6 o/\dX o (fun f=>a6 (f.1.1,())) (fun g=>a6 (g.1.1,()))=a6 ((((a+nK (s.drop a):Nat):Int)),())
 |0,a,h,_=>by omega
 |N+1,a,h,q=>by
  rw[LH,RD];by_cases e:a<s.length
  .obtain⟨k,i,j,_⟩:=aDd (oI s a);have hd:=aH e;rw[dn (fQ (by rw[cu];omega)),dn (fD),i,bT];simp only[j];rw[byte_at e,hd,Ku];by_cases hb:oW (s[a].toNat:Int)=true
   .rw[hb,aa,am rfl,dD,show(a:Int)+1=((a+1:Nat):Int) by omega];obtain⟨o,l,m⟩:=Jt d N (a+1) (by omega) (by omega)
    grind
   .rw[bG]at hb;rw[hb,ac,aq (by simp),apR (by omega),bT,hd];cases hc:CE (s[a]::s.drop (a+1))with
    |true=>
     have u:a+2<=s.length:=by
      rw[<-hd]at hc;rcases ak s.length (a+2)with hl|hl
      .have:(s.drop a).length=1:=by grind
       obtain⟨x,p⟩:=List.length_eq_one_iff.1 this;rw[p]at hc;cases hc
      .exact hl
     simp only[aa,if_true];rw[dD,show(a:Int)+2=((a+2:Nat):Int) by omega,List.drop_drop,show a+1+1=a+2 from rfl];obtain⟨o,l,m⟩:=Jt d N (a+2) (by omega) (by omega)
     grind
    |false=>
     simp only[ac,ai,if_false,aW];exact⟨_,rfl,rfl⟩
  .rw[dY (iL (by rw[cu];omega)),aO (by omega)];exact⟨_,rfl,rfl⟩
theorem awt {s:List UInt8} (d:s.length<1000000) {a:Nat} (e:a<=s.length):ady s a=a6 ((((a+nK (s.drop a):Nat):Int)),()):=by
 rw[ady];obtain⟨o,f,g⟩:=Jt d bY a (di) e
 grind [bT]
def zC (t:dC):Nat:=if lg t≠0/\(t.drop (lg t)).head?=a6 60\/lg t≠0/\(t.drop (lg t)).head?=a6 62 then lg t else 0
theorem MS (t:dC):lg t<=t.length:=NC _ _
theorem atm {s:List UInt8} (g:s.length<1000000) {a:Nat} (d:a<=s.length):adA s a=a6 ((((a+zC (s.drop a):Nat):Int)),()):=by
 have e:=MS (s.drop a);rw[aP]at e;rw[adA,acU (s:=s) (by omega) d,bT];simp only;rw[dD,show(a:Int)+((lg (s.drop a):Nat):Int)=((a+lg (s.drop a):Nat):Int) by omega];unfold zC;by_cases h0:lg (s.drop a)=0
 .simp_all [nS]
 .rw[dn (fQ)];by_cases h1:a+lg (s.drop a)<s.length
  .have hd:((s.drop a).drop (lg (s.drop a))).head?=a6 s[a+lg (s.drop a)]:=by
    simp
   rw[dn (fQ (by rw[cu];omega)),dn (fD),byte_at h1,hd];by_cases e1:s[a+lg (s.drop a)]=60
   .rw[e1,am (.inl ⟨h0,rfl⟩)];rfl
   .have f:((s[a+lg (s.drop a)].toNat:Nat):Int)≠60:=fun h=>e1 (UInt8.toNat_inj.1 (by grind));rw[dY (fB f),dn (fD)];by_cases e2:s[a+lg (s.drop a)]=62
    .rw[e2,am (.inr ⟨h0,rfl⟩)];rfl
    .have i:((s[a+lg (s.drop a)].toNat:Nat):Int)≠62:=fun h=>e2 (UInt8.toNat_inj.1 (by grind));simp_all [fB]
  .have hd:((s.drop a).drop (lg (s.drop a))).head?=a7:=by
    simp_all
   rw[dY (nS (by rw[cu];omega)),hd,aq (by simp)];simp
theorem afZ: ∀n:Fin 15,(match aiX ((n.val:Nat):Int)with|some (t,_)=>(t==([]:dC))==(decide (n.val=0)||decide (n.val=12))&&decide (t.length<=2)|none=>false)=true:=by decide+kernel
theorem apL {m:Int} (d:0<=m) (e:m<=14): ∃t,aiX m=a6 (t,())/\(t=[]↔m=0\/m=12)/\t.length<=2:=by
 have:=afZ ⟨m.toNat,by omega⟩
 grind
def GH (s:gB):Bool:=s.all fun f=>decide (f.1=0)||decide (f.1=12)
theorem Kw (F:List IW) (hF:F.length<1000000) (d: ∀f∈F,0<=f.1/\f.1<=14): ∀(N k:Nat) (a b:dC) (t:List Int),k<N->k<=F.length->t.length<=2*(F.length-k)->
  ∃t',tJ N ((k:Int)-1) a b F t=a6 (.inl ((),((a,()),(),(),()),((b,()),(F,()),(),t',())))/\(t'=[]↔t=[]/\ ∀f∈F.take k,f.1=0\/f.1=12)
 |0,k,a,b,t,h,_,_=>by omega
 |N+1,0,a,b,t,h,_,_=>by
  rw[tJ,wX];refine⟨t,rfl, ?_⟩;simp
 |N+1,k+1,a,b,t,h,hk,q=>by
  rw[tJ,wX];have e:k<F.length:=by omega
  have i:gW F (0,(0,())) (k:Int)=F[k]:=by
   simp_all [gW]
  have g:=d F[k] (aI e);obtain⟨c,j,u,v⟩:=apL g.1 g.2;have l:fG (bZ t (dR c)) 1=true:=by
   simp only[fG,bZ,dR,ae,aJ,decide_eq_true_eq,nC];omega
  rw[show((k+1:Nat):Int)-1=(k:Int) by omega,dn (ul),dn (fD),i,j,bT];simp only[l,eU,aa];rw[iH];obtain⟨t',m,p⟩:=Kw F hF d N k a b (bZ t (dR c)) (by omega) (by omega) (by grind [bZ,dR]);refine⟨t',m, ?_⟩;rw[p,List.take_add_one,List.getElem?_eq_getElem e];have:bZ t (dR c)=[]↔t=[]/\(F[k].1=0\/F[k].1=12):=by
   simp_all [bZ,dR]
  rw[this];simp only[Option.toList_some,List.mem_append,List.mem_singleton]
  grind
theorem al1 (w:dC) (m:w.length<=100000): ∃t,aiP w=a6 (t,())/\(!iG t [])= !GH (nH w 0 fK).1:=by
 have j:=CZ w 0 fK mO;have u:fK.1.length=1:=rfl;have v:=JD j.1;rw[aiP,aFw w m,bT];obtain⟨l,p,d⟩:=Kw (lo (nH w 0 fK).1) (by rw[rM];omega) (fun f i=>by
  unfold lo at i
  grind) bY (lo (nH w 0 fK).1).length [] [] [] (di (by rw[rM];omega)) (af _) (by simp)
 simp only;rw[cu,iH (by rw[rM];omega) (by rw[rM];omega),p,bT];refine⟨_,rfl, ?_⟩;congr 1;simp only;rw[List.take_length]at d;have q:(∀f∈lo (nH w 0 fK).1,f.1=0\/f.1=12)↔GH (nH w 0 fK).1=true:=by
  unfold GH lo;simp only[List.mem_reverse,List.mem_map,List.all_eq_true,bi,decide_eq_true_eq];exact⟨fun h f i=>h _ ⟨f,i,rfl⟩,fun h f ⟨g,j,e⟩=>by grind⟩
 rw[q]at d;unfold iG;cases hs:GH (nH w 0 fK).1 with
 |true=>rw[d.2 ⟨rfl,hs⟩];rfl
 |false=>
  have:l≠[]:=fun e=>by simp_all
  cases l with
  |nil=>simp_all
  |cons x y=>rfl
def rD (s:dC) (d:Bool) (a:Nat):dC:=if d=true then((s.take (iW s a)).drop a).dropWhile (· ==9)else(s.take (iW s a)).drop a
def lS (s:dC) (a:Nat):Nat:=if iW s a<s.length then iW s a+1 else iW s a
def kK (s w:dC) (d:Bool):Nat->Nat->Nat×Bool
 |0,a=>(a,false)
 |n+1,a=>if a<s.length then(if rD s d a=w then(lS s a,true)else kK s w d n (lS s a))else(a,false)
theorem UV {s:List UInt8} {a:Nat} (h:a<s.length):a<lS s a/\lS s a<=s.length:=by
 grind [wP,wQ,lS]
theorem Wh: ∀(l:dC) (N:Nat),l.length<N->LM N l 9=a6 (.inl ((l.dropWhile (· ==9),()),()))
 |l,0,h=>by omega
 |[],N+1,_=>by rfl
 |c::l,N+1,h=>by
  rw[LM,RQ,dn (fQ (by simp_all [cu])),dn (fD (by omega) (by simp)),show dm (c::l) 0=(c.toNat:Int) from rfl];by_cases e:c=9
  .subst e;rw[show cZ (((9:UInt8).toNat:Nat):Int) 9=true from rfl,aa,dn (ig (by omega) (by grind [cu]) (by omega))];rw[show sub ((9:UInt8)::l) 1 (bV ((9:UInt8)::l))=l by simp[sub,cu],Wh l N (by simp at h;omega)];simp
  .rw[dY (fB (fun h=>e (UInt8.toNat_inj.1 (by grind)))),List.dropWhile_cons_of_neg (by simpa using e)]
theorem ay7 (l:dC) (hl:l.length<1000000):ai4 l 9=a6 (l.dropWhile (· ==9),()):=by
 rw[ai4,Wh l bY (di),bT];rfl
theorem XK {s w:List UInt8} (f:s.length<1000000) (d:Bool): ∀(N a:Nat),s.length-a<N->a<=s.length->
  Eg N s (a:Int) w d=a6 (if(kK s w d N a).2=true then .inr (((((kK s w d N a).1:Nat):Int),true,()),())else .inl (((((kK s w d N a).1:Nat):Int),()),()))
 |0,a,h,_=>by omega
 |N+1,a,h,p=>by
  (rewrite [Eg,Ry];delta Dw;rw[kK])
  by_cases e:a<s.length
  .have q:=wP s a;have u:=wQ (s:=s) (a:=a) (by omega);have v:=UV e;have y:=XK (w:=w) f d N (lS s a) (by omega) (by omega);have i:sub s (a:Int) ((iW s a:Nat):Int)=(s.take (iW s a)).drop a:=by simp[sub]
   have g: ∀(x:dC),x=rD s d a->
     (bif decide (iW s a<s.length)then
      bif iG x w then(a6 (.inr ((dJ .i64 ((iW s a:Nat):Int) 1,true,()),())):Option (Ri.den⊕Rj.den))
      else Eg N s (dJ .i64 ((iW s a:Nat):Int) 1) w d
     else bif iG x w then a6 (.inr ((((iW s a:Nat):Int),true,()),()))
      else Eg N s ((iW s a:Nat):Int) w d)=
     a6 (if(if rD s d a=w then(lS s a,true)else kK s w d N (lS s a)).2=true
      then .inr (((((if rD s d a=w then(lS s a,true)else kK s w d N (lS s a)).1:Nat):Int),true,()),())
      else .inl (((((if rD s d a=w then(lS s a,true)else kK s w d N (lS s a)).1:Nat):Int),()),())):=by
    intro x j;subst j;have l:iG (rD s d a) w=decide (rD s d a=w):=by
     grind [iG]
    rw[l];by_cases hl:iW s a<s.length
    .have m:lS s a=iW s a+1:=by simp_all [lS]
     rw[decide_eq_true hl,aa,dD,show((iW s a:Nat):Int)+1=((lS s a:Nat):Int) by omega]
     grind
    .have m:lS s a=iW s a:=by simp_all [lS]
     grind
   rw[dn (fQ (by rw[cu];omega)),asu f (by omega),bT,am e];simp only;rw[dn (ig (by omega) (by omega) (by rw[cu];omega)),i];cases d with
   |false=>simp_all [rD]
   |true=>
    simp only[aa];by_cases e0:(s.take (iW s a)).drop a=[]
    .rw[e0,show iG ([]:dC) []=true from rfl,aa];exact g _ (by rw[rD,am rfl,e0];rfl)
    .rw[dY (by simp_all [iG])];refine(dY (by rfl)).trans ?_;refine(dn (by rfl)).trans ?_;refine(dn (by rfl)).trans ?_;refine(dn (by rfl)).trans ?_;refine(dn (by rfl)).trans ?_;rw[show dm [9] 0=9 from rfl];rw[ay7 _ (by grind),bT];exact g _ (by rfl)
  simp_all [iL,cu,aq]
def rC (s w:dC) (d:Bool) (a:Nat):Nat×Bool:=kK s w d bY a
theorem aBT {s:List UInt8} (e:s.length<1000000) (d:dC×Bool×Unit) {a:Nat} (f:a<=s.length):aiM s a d=a6 ((((rC s d.1 d.2.1 a).1:Nat):Int),((rC s d.1 d.2.1 a).2,())):=by
 rw[aiM,XK e d.2.1 bY a (di) f,bT];unfold rC;cases h:(kK s d.1 d.2.1 bY a).2 with
 |true=>simp[dX]
 |false=>simp[dX]
end
end Go.Proofs.YtjegbhogodknhaaGreatDoor
