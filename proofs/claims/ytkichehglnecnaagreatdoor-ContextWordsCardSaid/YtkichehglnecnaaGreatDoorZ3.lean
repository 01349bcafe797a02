/- Parts of the proof, joined and shortened by a program: the plain machine, the functions as it prints them, and the mathematics over them. -/
import Derived.ChangeArms
import Derived.WideShapes
import Derived.Test.YtkichehglnecnaaGreatDoorProg
import Derived.Shelf.Strings.Builder1
import Derived.Test.YtkichehglnecnaaGreatDoorZ2
set_option linter.unusedVariables false
set_option linter.unusedSimpArgs false
set_option maxRecDepth 100000
set_option maxHeartbeats 4000000
namespace Go.Proofs.YtkichehglnecnaaGreatDoor
section
open Option renaming some → a6, none → a7
open Bool renaming and_eq_true → af, not_eq_true → bz
open List renaming mem_cons_of_mem → aj
open Nat renaming le_refl → ae
open Go.RowKit
def TT.allK:TT->Bool
 |.nil=>true
 |.node _ i l r=>i.known&&(l.allK&&r.allK)
theorem TT.allK_at: ∀(T:TT) (t:TypeId),T.allK=true->(T.at t).ty.isSome=true->(T.at t).known=true
 |.nil,t,_,h=>by assumption
 |.node k i l r,t,h,d=>by
  simp only[TT.allK,af]at h;simp only[TT.at]at d ⊢;by_cases e:Nat.beq k t=true
  .simp_all
  .have f:Nat.beq k t=false:=(bz _).mp e;simp only[f,ac]at d ⊢;by_cases e2:Nat.blt t k=true
   .simp only[e2,aa]at d ⊢;exact TT.allK_at l t h.2.1 d
   .have g:Nat.blt t k=false:=(bz _).mp e2;simp only[g,ac]at d ⊢;exact TT.allK_at r t h.2.2 d
def wfD:(t:Ty)->t.den->Prop
 |.unit,_=>True
 |.bool,_=>True
 |.int k,x=>(Lit.int k x).wf=true
 |.str,x=>x.length<=maxLen
 |.list e,d=>d.length<=maxLen/\ ∀x∈d,wfD e x
 |.pair a b,x=>wfD a x.1/\wfD b x.2
section
variable {P:Program} {T:TT} {w:World} {H:Type} {enc:TypeId×Value->H} {spare:Nat->Bool} {held:Bool}
theorem aAP {t:TypeId} {k:TK} (h:(P.underlying t).map lY=a6 (a6 k)): ∃d,P.underlying t=a6 d/\lY d=a6 k:=by
 simp_all
theorem Lh (hT:TOk P T) {t:TypeId} (hk:(T.at t).known=true):P.cellsOf t=(T.at t).size:=by
 obtain⟨h,_⟩:=hT t hk;unfold Program.cellsOf;cases hi:P.info? t with
 |none=>simp_all
 |some f=>
  simp_all
theorem aBj {a:Addr} {v:Value} (h:w.cell? a=a6 v):a.block<w.heap.size/\a.spot=a7:=by
 unfold World.cell? at h;split at h
 .rename_i d
  refine⟨(Array.getElem?_eq_some_iff.1 d).1, ?_⟩;simp_all
 .cases h
theorem addr_add_add (a:Addr) (x m:Nat):(a.add x).add m=a.add (x+m):=by
 grind [Addr.add]
theorem ah3 {e:Ty} {size:Nat} (p:e.size=size) {a:Addr} {len:Nat} {F:List Value->Option (DataW H×List MemPlace)} (hF: ∀cs y,F cs=a6 y-> ∃x:e.den,fV w (fun b=>b<w.heap.size) e x cs/\wfD e x)
  (h: ∀i,i<len-> ∃y,(w.cells? 0 (a.add (i*size)) size).bind F=a6 y): ∀(k j:Nat),j+k<=len->
  ∃(xs:List e.den) (d:List Value),xs.length=k/\gK (fV w (fun b=>b<w.heap.size) e) e.size xs d/\(∀m (f:m<d.length),w.cell? (a.add (j*size+m))=a6 d[m])/\ ∀x∈xs,wfD e x
 |0,j,_=>⟨[],[],rfl,rfl,fun m f=>absurd f (by simp),fun x g=>by cases g⟩
 |k+1,j,v=>by
  obtain⟨xs,d,q,s,A,B⟩:=ah3 p hF h k (j+1) (by omega);obtain⟨y,l⟩:=h j (by omega);obtain⟨c,o,l⟩:=Option.bind_eq_some_iff.1 l;obtain⟨x,g,D⟩:=hF c y l;have u:c.length=e.size:=fV.length e x c g;have E: ∀m (f:m<c.length),w.cell? (a.add (j*size+m))=a6 c[m]:=fun m f=>by
   simp only[World.cells?,Nat.zero_le,if_true]at o;have:=mapM_some_get o m m (by simp_all);simp_all [addr_add_add]
  refine⟨x::xs,c++d,by simp[q],⟨c,d,rfl,u,g,s⟩,fun m f=> ?_,fun z G=> ?_⟩
  all_goals grind
theorem VV (hT:TOk P T) {n:Nat} {cs:List Value} (e: ∀(t:TypeId) (cs:List Value) (y:DataW H×List MemPlace) (ty:Ty),(T.at t).known=true->(T.at t).ty=a6 ty->DataW.trod enc P w 0 spare held n t cs=a6 y-> ∃x:ty.den,fV w (fun b=>b<w.heap.size) ty x cs/\wfD ty x):
  ∀(f:List (Nat×TypeId)) (off:Nat) (ty:Ty),kH T off f=a6 ty->(∀p∈f,∃y,DataW.trod enc P w 0 spare held n p.2 ((cs.drop p.1).take (P.cellsOf p.2))=a6 y)->
   ∃x:ty.den,fV w (fun b=>b<w.heap.size) ty x ((cs.drop off).take ty.size)/\wfD ty x
 |[],off,ty,h,_=>by
  simp only[kH,Option.some.injEq]at h;subst h;exact⟨(),by simp[fV,Ty.size],trivial⟩
 |(o,g)::l,off,ty,h,i=>by
  simp only[kH]at h;split at h
  .rename_i m
   split at h
   .rename_i a q
    split at h
    .rename_i d
     split at h
     .rename_i b s
      simp only[Option.some.injEq]at h;subst h m;obtain⟨y,j⟩:=i (o,g) (by simp);simp only[Lh hT d.2,<-d.1]at j;obtain⟨u,v,z⟩:=e g _ y a d.2 q j;obtain⟨A,B,D⟩:=VV hT e l _ b s fun p E=>i p (aj _ E);refine⟨(u,A),⟨_,_, ?_,v,B⟩,z,D⟩;simp_all [Ty.size,List.take_add]
     .cases h
    .cases h
   .cases h
  .cases h
theorem YG (hT:TOk P T) (q:T.allK=true): ∀(m:Nat) (t:TypeId) (cs:List Value) (y:DataW H×List MemPlace) (ty:Ty),(T.at t).known=true->(T.at t).ty=a6 ty->DataW.trod enc P w 0 spare held m t cs=a6 y->
  ∃x:ty.den,fV w (fun b=>b<w.heap.size) ty x cs/\wfD ty x
 |0,t,cs,y,ty,_,_,h=>by simp[DataW.trod]at h
 |m+1,t,cs,y,ty,hk,L,h=>by
  obtain⟨ag,M,ah,N,-,-,-,-⟩:=hT t hk;obtain⟨d,hd,l⟩:=aAP M;have g:nz T (T.at t).k=a6 ty:=by
   simp_all
  have hc:=Lh hT hk;have ai:=N ty L;cases d with
  |bool=>
   simp only[lY,Option.some.injEq]at l;rw[<-l]at g;simp only[nz,Option.some.injEq]at g;subst g;obtain⟨b,rfl,_⟩:=DataW.trod_bool hd h;exact⟨b,rfl,trivial⟩
  |int k=>
   simp only[lY,Option.some.injEq]at l;rw[<-l]at g;simp only[nz,Option.some.injEq]at g;subst g;obtain⟨b,rfl,_,A⟩:=DataW.trod_int hd h;exact⟨b,rfl,A⟩
  |string=>
   simp only[lY,Option.some.injEq]at l;rw[<-l]at g;simp only[nz,Option.some.injEq]at g;subst g;obtain⟨s,rfl,_,A⟩:=DataW.trod_string hd h;exact⟨s.data.toList,by simp[fV],(show s.data.toList.length<=maxLen from by assumption)⟩
  |slice e=>
   simp only[lY,Option.some.injEq]at l;rw[<-l]at g;simp only[nz,Option.map_eq_some_iff]at g;obtain⟨o,u,rfl⟩:=g;have v:=TT.allK_at T e q (by rw[u];rfl);have O:o.size=(T.at e).size:=(hT e v).2.2.2.1 o u;have S:=Lh hT v;rcases DataW.trod_slice hd h with ⟨rfl,_⟩|⟨a,B,U,ak,al,n,V,rfl,_,_,hl,hm,W,an,_,_⟩
   .exact⟨[],⟨a7,0,[],rfl,ae _,rfl,.inl rfl⟩,Nat.zero_le _,fun x X=>by cases X⟩
   .obtain rfl:n=m:=by omega
    have Y: ∀i,i<B-> ∃y,(w.cells? 0 (a.add (i*P.cellsOf e)) (P.cellsOf e)).bind (DataW.trod enc P w 0 spare held n e)=a6 y:=fun i Z=>by
     simp_all
    obtain⟨D,E,z,G,h3,h4⟩:=ah3 (w:=w) (e:=o) (O.trans S.symm) (fun cs y hy=>YG hT q n e cs y o v u hy) Y B 0 (by omega);refine⟨D,⟨a6 a,U,E,by rw[z],by omega,G, ?_⟩,by rw[z];omega,h4⟩;by_cases hz:E=[]
    .exact .inl hz
    .have I:=h3 0 (List.length_pos_iff.2 hz);rw[show a.add (0*P.cellsOf e+0)=a by simp[Addr.add]]at I;obtain⟨J,K⟩:=aBj I;obtain⟨ab,ao,au⟩:=a;simp only at J K;subst K;refine .inr ⟨ab,ao,rfl,J,fun j hj=> ?_⟩;simp_all [lI]
  |struct fs=>
   simp only[lY,Option.some.injEq]at l;rw[<-l]at g;simp only[nz]at g;obtain⟨D,n,V,_,W,av,hf⟩:=DataW.trod_struct hd h;obtain rfl:n=m:=by omega
   obtain⟨x,z,G⟩:=VV (P:=P) (T:=T) (w:=w) (enc:=enc) (spare:=spare) (held:=held) (cs:=cs) hT (fun t cs y ty a b c=>YG hT q n t cs y ty a b c) _ 0 ty g (fun p hp=>by
    obtain⟨f,ad,rfl⟩:=List.mem_map.1 hp;obtain⟨i,Z⟩:=List.getElem?_of_mem ad
    grind)
   grind
  |func a b c=>
   grind [lY,nz]
  |array a b=>simp[lY]at l
  |_=>
   grind [lY,nz]
theorem Xp (hT:TOk P T) (y:T.allK=true) {t:TypeId} {v:Value} {d:DataW H} {B:List MemPlace} {r:Reach} {b0:Nat} {ty:Ty} (m:(T.at t).ty=a6 ty) (q:Value.okWide P w r b0 t v) (h:DataW.Trod enc P w 0 spare held t v d B):
  ∃x:ty.den,VD (lu w fun _=>False) ty x v/\wfD ty x:=by
 have hk:=TT.allK_at T t y (by rw[m];rfl);obtain⟨D,E⟩:=h;obtain⟨x,s,G⟩:=YG hT y D t _ _ ty hk m E;have u:fV w (lu w fun _=>False).free ty x v.cells.toList:=fV.mono (fun b I=>⟨⟨I,(by rintro ⟨i,o,h,_⟩;simp[lu,dW]at h),by simp[lu],fun h=>h⟩,rfl⟩) ty x _ s;refine⟨x, ?_,G⟩;obtain⟨M,J,K,-⟩:=hT t hk;obtain⟨z,hd,j⟩:=aAP J;have g:nz T (T.at t).k=a6 ty:=by
  rcases K with s|s
  .rw[s]at m;cases m
  .rw[<-s,m]
 cases ha:ty.isAgg with
 |true=>
  cases z with
  |struct A=>
   obtain⟨cs,rfl,_⟩:=Go.WideShapes.okWide_struct hd q;exact(VD.agg ha).2 ⟨cs,rfl,u⟩
  |array a b=>simp[lY]at j
  |slice e=>
   simp only[lY,Option.some.injEq]at j;rw[<-j]at g;simp only[nz,Option.map_eq_some_iff]at g;obtain⟨N,_,rfl⟩:=g;cases ha
  |_=>
   simp only[lY,Option.some.injEq]at j;rw[<-j]at g;simp[nz]at g
   all_goals (subst g;cases ha)
 |false=>
  rw[VD.leaf ha];have L:v.cells= #[v]:=by
   cases z with
   |struct A=>
    simp only[lY,Option.some.injEq]at j;rw[<-j]at g;simp only[nz]at g;exfalso;cases hfs:(A.toList.map fun f=>(f.offset,f.type))with
    |nil=>rw[hfs]at g;simp only[kH,Option.some.injEq]at g;subst g;cases ha
    |cons p l=>
     rw[hfs]at g;simp only[kH]at g;split at g
     .split at g
      .split at g
       .split at g
        .simp only[Option.some.injEq]at g;subst g;cases ha
        .cases g
       .cases g
      .cases g
     .cases g
   |array a b=>simp[lY]at j
   |bool=>obtain⟨b,rfl⟩:=Go.WideShapes.okWide_bool hd q;rfl
   |int k=>obtain⟨b,rfl⟩:=Go.WideShapes.okWide_int hd q;rfl
   |string=>obtain⟨b,rfl⟩:=Go.WideShapes.okWide_string hd q;rfl
   |slice e=>obtain⟨a,b,c,rfl⟩:=Go.WideShapes.okWide_slice hd q;rfl
   |_=>
    simp only[lY,Option.some.injEq]at j;rw[<-j]at g;simp[nz]at g
  rw[L]at u;exact u
end
abbrev dA:Ty:=.int .i64
abbrev bV:Type:=List UInt8
abbrev gJ:Type:=Int×bV×(Int×Int×Unit)
abbrev gQ:Type:=Int×Int×Int×Int×Unit
abbrev Ko:Ty:=.pair dA (.pair dA .unit)
abbrev iM:Type:=Int×Int×Int×Int×Bool×Unit
abbrev MR:Ty:=.pair dA (.pair dA (.pair dA (.pair .bool .unit)))
abbrev tyD:Ty:=.pair dA (.pair .str Ko)
abbrev o8:Ty:=.pair dA (.pair dA Ko)
abbrev wF:Type:=((List gJ)×Int×(List gQ)×Int×Int×Unit)×(Unit)
abbrev taF:Type:=(List gJ)×bV×(List gQ)×Int×Int×Int×Unit
abbrev sQ:Type:=Int×Int×Int×Bool×Unit
abbrev lL:Type:=Int×Int×Unit
abbrev vJ:Type:=Bool×Unit
abbrev iG:Type:=List (Int)
abbrev tyF:Ty:=.pair .bool .unit
abbrev taK:Type:=(bV×Int×Int×(List sQ)×Int×Int×Int×Bool×Bool×Unit)×((Int×Int×Int×Int×bV×(Bool×bV×lL))×Unit)
abbrev JY:Type:=Bool×Bool×bV×(Unit)
abbrev Zm:Ty:=.pair .bool (.pair .bool (.pair .str .unit))
abbrev lW:Type:=Int×Int
abbrev Kq:Ty:=.pair dA MR
abbrev taN:Type:=((List gJ)×Int×(List gQ)×Int×Int×Unit)×vJ
abbrev taO:Type:=(List lL)×Bool×Int×Unit
abbrev J9:Type:=List (bV×vJ)
abbrev II:Ty:=.pair .str tyF
abbrev KT:Type:=bV×(iG×vJ)
abbrev tyJ:Ty:=.pair dA (.pair dA (.pair dA (.pair .str (.pair .bool (.pair .str Ko)))))
abbrev ru:Ty:=.list tyD
abbrev tyL:Ty:=.pair (.list dA) tyF
abbrev Gs:Type:=taF×(Unit)
abbrev AQ:Type:=Int×Unit
abbrev taT:Type:=bV×Int×Int×(List sQ)×Int×Int×Int×Bool×Bool×Unit
abbrev taU:Type:=sQ×(Int×J9×vJ)×Unit
abbrev MS:Ty:=.list Kq
abbrev tyN:Ty:=.pair (.list II) tyF
abbrev taV:Type:=bV×Unit
abbrev taW:Type:=KT×Unit
abbrev AA:List (Ty×Bool):=[(.list tyD,false),(.int .i64,false),(.list o8,true),(.int .i64,false),(.int .i64,false)]
abbrev ML:List (Ty×Bool):=[(.list tyD,false),(.str,false),(.list o8,true),(.int .i64,false),(.int .i64,false),(.int .i64,false)]
abbrev tzC:List (Ty×Bool):=[(.str,false),(.int .i64,false),(.int .i64,false),(.list MR,false),(.int .i64,false),(.int .i64,false),(.int .i64,false),(.bool,false),(.bool,false)]
abbrev tzD:List (Ty×Bool):=[(.list Ko,true),(.bool,false),(.int .i64,false)]
abbrev U7:List (Ty×Bool):=[(.int .i64,false)]
abbrev YI:List (Ty×Bool):=[(.bool,false)]
abbrev tzG:List (Ty×Bool):=[(.str,false)]
abbrev tzH:List (Ty×Bool):=[(.pair .str tyL,false)]
abbrev tzI:List (Ty×Bool):=[(.pair dA (.pair dA (.pair dA tyF)),false),(.pair dA tyN,false)]
abbrev tzJ:List (Ty×Bool):=[(.int .i64,false),(.int .i64,false)]
end
section
open Option renaming some → a6, none → a7
open Bool renaming and_eq_true → af, not_true → ax, not_eq_true' → aW
open Nat renaming eq_of_beq_eq_true → ak
open Tryz
open Go.RowKit
def jh:TI:=⟨true,.fn,1,8,a7,[.nilfn],false,false,true⟩
def ti2:TI:=⟨true,(.int .i64),1,8,a6 (.int .i64),[.val (.int .i64) 0],false,false,true⟩
def ti4:TI:=⟨true,.bool,1,1,a6 .bool,[.val .bool false],false,false,true⟩
def ti5:TI:=⟨true,(.int .u8),1,1,a6 (.int .u8),[.val (.int .u8) 0],false,false,true⟩
def ti7:TI:=⟨true,(.struct [(0,2),(1,3),(2,4),(3,6)]),4,24,a7,[.val (.int .i64) 0,.val (.int .i64) 0,.val .bool false,.val (.int .u8) 0],false,false,true⟩
def ti9:TI:=⟨true,.str,1,16,a6 .str,[.val .str []],false,false,true⟩
def aKq:TI:=⟨true,(.int .u64),1,8,a6 (.int .u64),[.val (.int .u64) 0],false,false,true⟩
def aNt:TI:=⟨true,(.struct [(0,9),(1,12)]),2,24,a6 (.pair .str (.pair (.int .u64) .unit)),[.val .str [],.val (.int .u64) 0],false,false,true⟩
def aOD:TI:=⟨true,(.ptr 255),1,8,a7,[.nilp],false,false,true⟩
def aOE:TI:=⟨true,(.ptr 258),1,8,a7,[.nilp],false,false,true⟩
def aOF:TI:=⟨true,(.ptr 265),1,8,a7,[.nilp],false,false,true⟩
def aNF:TI:=⟨true,(.struct [(0,17)]),1,8,a7,[.nilp],false,false,true⟩
def aKr:TI:=⟨true,(.int .i32),1,4,a6 (.int .i32),[.val (.int .i32) 0],false,false,true⟩
def aOH:TI:=⟨true,(.slice 9),1,24,a6 (.list .str),[.nils],false,false,true⟩
def aOI:TI:=⟨true,(.struct [(0,3),(1,3),(2,3),(3,3),(4,9),(5,4),(6,9),(7,3),(8,3)]),9,88,a6 (.pair (.int .i64) (.pair (.int .i64) (.pair (.int .i64) (.pair (.int .i64) (.pair .str (.pair .bool (.pair .str (.pair (.int .i64) (.pair (.int .i64) .unit))))))))),[.val (.int .i64) 0,.val (.int .i64) 0,.val (.int .i64) 0,.val (.int .i64) 0,.val .str [],.val .bool false,.val .str [],.val (.int .i64) 0,.val (.int .i64) 0],false,false,true⟩
def aOJ:TI:=⟨true,(.struct [(0,3),(1,3),(2,3),(3,3),(4,9),(5,4),(6,9),(7,3),(8,3)]),9,88,a6 (.pair (.int .i64) (.pair (.int .i64) (.pair (.int .i64) (.pair (.int .i64) (.pair .str (.pair .bool (.pair .str (.pair (.int .i64) (.pair (.int .i64) .unit))))))))),[.val (.int .i64) 0,.val (.int .i64) 0,.val (.int .i64) 0,.val (.int .i64) 0,.val .str [],.val .bool false,.val .str [],.val (.int .i64) 0,.val (.int .i64) 0],true,false,true⟩
def aOK:TI:=⟨true,(.slice 43),1,24,a6 (.list (.pair (.int .i64) (.pair .str (.pair (.int .i64) (.pair (.int .i64) .unit))))),[.nils],false,false,true⟩
def aOL:TI:=⟨true,(.slice 41),1,24,a6 (.list (.pair (.int .i64) (.pair (.int .i64) (.pair (.int .i64) (.pair (.int .i64) .unit))))),[.nils],false,false,true⟩
def aOM:TI:=⟨true,(.struct [(0,3),(1,3),(2,3),(3,3)]),4,32,a6 (.pair (.int .i64) (.pair (.int .i64) (.pair (.int .i64) (.pair (.int .i64) .unit)))),[.val (.int .i64) 0,.val (.int .i64) 0,.val (.int .i64) 0,.val (.int .i64) 0],false,false,true⟩
def aON:TI:=⟨true,(.struct [(0,3),(1,3),(2,3),(3,3)]),4,32,a6 (.pair (.int .i64) (.pair (.int .i64) (.pair (.int .i64) (.pair (.int .i64) .unit)))),[.val (.int .i64) 0,.val (.int .i64) 0,.val (.int .i64) 0,.val (.int .i64) 0],true,false,true⟩
def aOO:TI:=⟨true,(.struct [(0,3),(1,9),(2,3),(3,3)]),4,40,a6 (.pair (.int .i64) (.pair .str (.pair (.int .i64) (.pair (.int .i64) .unit)))),[.val (.int .i64) 0,.val .str [],.val (.int .i64) 0,.val (.int .i64) 0],false,false,true⟩
def aOP:TI:=⟨true,(.struct [(0,3),(1,9),(2,3),(3,3)]),4,40,a6 (.pair (.int .i64) (.pair .str (.pair (.int .i64) (.pair (.int .i64) .unit)))),[.val (.int .i64) 0,.val .str [],.val (.int .i64) 0,.val (.int .i64) 0],true,false,true⟩
def aOQ:TI:=⟨true,(.slice 3),1,24,a6 (.list (.int .i64)),[.nils],false,false,true⟩
def aOR:TI:=⟨true,(.ptr 51),1,8,a7,[.nilp],false,false,true⟩
def aOS:TI:=⟨true,(.slice 5),1,24,a6 (.list (.int .u8)),[.nils],false,false,true⟩
def aOT:TI:=⟨true,(.struct [(0,48),(1,49)]),2,32,a7,[.nilp,.nils],false,false,true⟩
def aOU:TI:=⟨true,(.struct [(0,48),(1,49)]),2,32,a7,[.nilp,.nils],false,true,true⟩
def aOV:TI:=⟨true,(.ptr 65),1,8,a7,[.nilp],false,false,true⟩
def aNK:TI:=⟨true,(.struct [(0,36),(1,37),(2,51),(4,3)]),5,88,a7,[.nils,.nils,.nilp,.nils,.val (.int .i64) 0],false,false,true⟩
def aOW:TI:=⟨true,(.slice 78),1,24,a6 (.list (.pair (.int .i64) (.pair (.int .i64) (.pair (.int .i64) (.pair .bool .unit))))),[.nils],false,false,true⟩
def aOX:TI:=⟨true,(.slice 157),1,24,a6 (.list (.pair .str (.pair .bool .unit))),[.nils],false,false,true⟩
def aOY:TI:=⟨true,(.struct [(0,3),(1,71),(2,4)]),3,40,a6 (.pair (.int .i64) (.pair (.list (.pair .str (.pair .bool .unit))) (.pair .bool .unit))),[.val (.int .i64) 0,.nils,.val .bool false],false,false,true⟩
def aOZ:TI:=⟨true,(.struct [(0,3),(1,71),(2,4)]),3,40,a6 (.pair (.int .i64) (.pair (.list (.pair .str (.pair .bool .unit))) (.pair .bool .unit))),[.val (.int .i64) 0,.nils,.val .bool false],false,false,false⟩
def aO0:TI:=⟨true,(.struct [(0,3),(1,3),(2,3),(3,4)]),4,32,a6 (.pair (.int .i64) (.pair (.int .i64) (.pair (.int .i64) (.pair .bool .unit)))),[.val (.int .i64) 0,.val (.int .i64) 0,.val (.int .i64) 0,.val .bool false],false,false,true⟩
def aO1:TI:=⟨true,(.struct [(0,3),(1,3),(2,3),(3,4)]),4,32,a6 (.pair (.int .i64) (.pair (.int .i64) (.pair (.int .i64) (.pair .bool .unit)))),[.val (.int .i64) 0,.val (.int .i64) 0,.val (.int .i64) 0,.val .bool false],true,false,true⟩
def aO2:TI:=⟨true,(.ptr 82),1,8,a7,[.nilp],false,false,true⟩
def aNL:TI:=⟨true,(.struct [(0,36),(1,9),(2,37),(3,3),(4,3),(5,3)]),6,88,a6 (.pair (.list (.pair (.int .i64) (.pair .str (.pair (.int .i64) (.pair (.int .i64) .unit))))) (.pair .str (.pair (.list (.pair (.int .i64) (.pair (.int .i64) (.pair (.int .i64) (.pair (.int .i64) .unit))))) (.pair (.int .i64) (.pair (.int .i64) (.pair (.int .i64) .unit)))))),[.nils,.val .str [],.nils,.val (.int .i64) 0,.val (.int .i64) 0,.val (.int .i64) 0],false,false,true⟩
def aO3:TI:=⟨true,(.ptr 5),1,8,a7,[.nilp],false,false,true⟩
def aO4:TI:=⟨true,(.ptr 90),1,8,a7,[.nilp],false,false,true⟩
def aNM:TI:=⟨true,(.struct [(0,9),(1,3),(2,3),(3,70),(4,78),(8,4)]),9,96,a6 (.pair .str (.pair (.int .i64) (.pair (.int .i64) (.pair (.list (.pair (.int .i64) (.pair (.int .i64) (.pair (.int .i64) (.pair .bool .unit))))) (.pair (.pair (.int .i64) (.pair (.int .i64) (.pair (.int .i64) (.pair .bool .unit)))) (.pair .bool .unit)))))),[.val .str [],.val (.int .i64) 0,.val (.int .i64) 0,.nils,.val (.int .i64) 0,.val (.int .i64) 0,.val (.int .i64) 0,.val .bool false,.val .bool false],false,false,true⟩
def aO6:TI:=⟨true,(.slice 97),1,24,a6 (.list (.pair (.int .i64) (.pair (.int .i64) .unit))),[.nils],false,false,true⟩
def aO7:TI:=⟨true,(.struct [(0,3),(1,3)]),2,16,a6 (.pair (.int .i64) (.pair (.int .i64) .unit)),[.val (.int .i64) 0,.val (.int .i64) 0],false,false,true⟩
def aO8:TI:=⟨true,(.struct [(0,3),(1,3)]),2,16,a6 (.pair (.int .i64) (.pair (.int .i64) .unit)),[.val (.int .i64) 0,.val (.int .i64) 0],true,false,true⟩
def aNr:TI:=⟨true,(.ptr 117),1,8,a7,[.nilp],false,false,true⟩
def aFZ:TI:=⟨true,(.struct [(0,36),(1,3),(2,37),(3,3),(4,3)]),5,72,a6 (.pair (.list (.pair (.int .i64) (.pair .str (.pair (.int .i64) (.pair (.int .i64) .unit))))) (.pair (.int .i64) (.pair (.list (.pair (.int .i64) (.pair (.int .i64) (.pair (.int .i64) (.pair (.int .i64) .unit))))) (.pair (.int .i64) (.pair (.int .i64) .unit))))),[.nils,.val (.int .i64) 0,.nils,.val (.int .i64) 0,.val (.int .i64) 0],false,false,true⟩
def aNs:TI:=⟨true,(.ptr 168),1,8,a7,[.nilp],false,false,true⟩
def aNu:TI:=⟨true,(.slice 138),1,24,a6 (.list (.pair (.int .i64) (.pair (.int .i64) (.pair (.int .i64) (.pair (.int .i64) (.pair .bool .unit)))))),[.nils],false,false,true⟩
def aNv:TI:=⟨true,(.struct [(0,3),(1,3),(2,3),(3,3),(4,4)]),5,40,a6 (.pair (.int .i64) (.pair (.int .i64) (.pair (.int .i64) (.pair (.int .i64) (.pair .bool .unit))))),[.val (.int .i64) 0,.val (.int .i64) 0,.val (.int .i64) 0,.val (.int .i64) 0,.val .bool false],false,false,true⟩
def aNw:TI:=⟨true,(.struct [(0,3),(1,3),(2,3),(3,3),(4,4)]),5,40,a6 (.pair (.int .i64) (.pair (.int .i64) (.pair (.int .i64) (.pair (.int .i64) (.pair .bool .unit))))),[.val (.int .i64) 0,.val (.int .i64) 0,.val (.int .i64) 0,.val (.int .i64) 0,.val .bool false],true,false,true⟩
def aNx:TI:=⟨true,(.ptr 179),1,8,a7,[.nilp],false,false,true⟩
def aNy:TI:=⟨true,(.struct [(0,4),(1,4),(2,9)]),3,24,a6 (.pair .bool (.pair .bool (.pair .str .unit))),[.val .bool false,.val .bool false,.val .str []],false,false,true⟩
def aNz:TI:=⟨true,(.struct [(0,4),(1,4),(2,9)]),3,24,a6 (.pair .bool (.pair .bool (.pair .str .unit))),[.val .bool false,.val .bool false,.val .str []],true,false,true⟩
def aNA:TI:=⟨true,(.struct [(0,9),(1,4)]),2,24,a6 (.pair .str (.pair .bool .unit)),[.val .str [],.val .bool false],false,false,true⟩
def aNB:TI:=⟨true,(.struct [(0,9),(1,4)]),2,24,a6 (.pair .str (.pair .bool .unit)),[.val .str [],.val .bool false],true,false,true⟩
def aF0:TI:=⟨true,(.struct [(0,92),(1,4),(2,3)]),3,40,a6 (.pair (.list (.pair (.int .i64) (.pair (.int .i64) .unit))) (.pair .bool (.pair (.int .i64) .unit))),[.nils,.val .bool false,.val (.int .i64) 0],false,false,true⟩
def aNC:TI:=⟨true,(.ptr 174),1,8,a7,[.nilp],false,false,true⟩
def aF1:TI:=⟨true,(.struct [(0,135),(1,47)]),2,48,a6 (.pair (.list (.pair (.int .i64) (.pair (.int .i64) (.pair (.int .i64) (.pair (.int .i64) (.pair .bool .unit)))))) (.pair (.list (.int .i64)) .unit)),[.nils,.nils],false,false,true⟩
def aND:TI:=⟨true,(.ptr 138),1,8,a7,[.nilp],false,false,true⟩
def aNE:TI:=⟨true,(.map 3 3),1,8,a7,[.undef],false,false,true⟩
def aF2:TI:=⟨true,(.struct [(0,9),(1,135),(2,177)]),3,48,a7,[.val .str [],.nils,.undef],false,false,true⟩
def aF3:TI:=⟨true,(.struct [(0,9),(1,47),(2,4)]),3,48,a6 (.pair .str (.pair (.list (.int .i64)) (.pair .bool .unit))),[.val .str [],.nils,.val .bool false],false,false,true⟩
def aNG:TI:=⟨true,(.slice 145),1,24,a6 (.list (.pair .bool (.pair .bool (.pair .str .unit)))),[.nils],false,false,true⟩
def aNH:TI:=⟨true,(.int .u32),1,4,a6 (.int .u32),[.val (.int .u32) 0],false,false,true⟩
def aNI:TI:=⟨true,(.slice 193),1,24,a6 (.list (.pair .str (.pair (.list (.int .i64)) (.pair .bool .unit)))),[.nils],false,false,true⟩
def aF4:TI:=⟨true,(.struct [(0,5),(1,5)]),2,2,a6 (.pair (.int .u8) (.pair (.int .u8) .unit)),[.val (.int .u8) 0,.val (.int .u8) 0],false,false,true⟩
def aNJ:TI:=⟨true,(.ptr 244),1,8,a7,[.nilp],false,false,true⟩
def aF5:TI:=⟨true,(.struct [(0,17),(1,17),(2,17),(3,9)]),4,40,a7,[.nilp,.nilp,.nilp,.val .str []],false,false,true⟩
def aF6:TI:=⟨true,(.struct [(0,12),(1,12),(2,201),(3,259),(4,5),(5,5),(6,260),(7,261),(8,85),(9,262),(10,263)]),11,48,a7,[.val (.int .u64) 0,.val (.int .u64) 0,.val (.int .u32) 0,.val (.int .u8) 0,.val (.int .u8) 0,.val (.int .u8) 0,.val (.int .u8) 0,.nilfn,.nilp,.val (.int .i32) 0,.val (.int .i32) 0],false,false,true⟩
def tt:TT:=(.node 129 jh (.node 66 jh (.node 32 jh (.node 16 aOE (.node 9 ti9 (.node 4 ti4 (.node 2 ti2 (.node 1 jh .nil .nil) (.node 3 ti2 .nil .nil)) (.node 7 ti7 (.node 5 ti5 .nil .nil) (.node 8 ti7 .nil .nil))) (.node 13 aNt (.node 11 ti9 (.node 10 ti9 .nil .nil) (.node 12 aKq .nil .nil)) (.node 15 aOD (.node 14 aNt .nil .nil) .nil))) (.node 24 jh (.node 21 aKr (.node 18 aNF (.node 17 aOF .nil .nil) (.node 19 aNF .nil .nil)) (.node 23 aOH (.node 22 jh .nil .nil) .nil)) (.node 28 aOI (.node 26 jh (.node 25 jh .nil .nil) (.node 27 jh .nil .nil)) (.node 30 ti2 (.node 29 aOJ .nil .nil) .nil)))) (.node 48 aOR (.node 41 aON (.node 37 aOL (.node 35 jh (.node 33 jh .nil .nil) (.node 36 aOK .nil .nil)) (.node 40 aOM (.node 39 jh .nil .nil) .nil)) (.node 45 jh (.node 43 aOP (.node 42 aOO .nil .nil) (.node 44 jh .nil .nil)) (.node 47 aOQ (.node 46 jh .nil .nil) .nil))) (.node 58 jh (.node 54 jh (.node 50 aOT (.node 49 aOS .nil .nil) (.node 51 aOU .nil .nil)) (.node 57 jh (.node 56 jh .nil .nil) .nil)) (.node 63 aOV (.node 60 jh (.node 59 jh .nil .nil) (.node 62 jh .nil .nil)) (.node 65 aNK (.node 64 aNK .nil .nil) .nil))))) (.node 97 aO8 (.node 82 aNL (.node 75 jh (.node 70 aOW (.node 68 jh (.node 67 jh .nil .nil) (.node 69 jh .nil .nil)) (.node 72 aOY (.node 71 aOX .nil .nil) (.node 73 aOZ .nil .nil))) (.node 79 jh (.node 77 aO0 (.node 76 jh .nil .nil) (.node 78 aO1 .nil .nil)) (.node 81 aNL (.node 80 aO2 .nil .nil) .nil))) (.node 89 aNM (.node 86 aO4 (.node 84 jh (.node 83 jh .nil .nil) (.node 85 aO3 .nil .nil)) (.node 88 jh (.node 87 jh .nil .nil) .nil)) (.node 94 jh (.node 91 jh (.node 90 aNM .nil .nil) (.node 92 aO6 .nil .nil)) (.node 96 aO7 (.node 95 jh .nil .nil) .nil)))) (.node 113 jh (.node 106 jh (.node 103 jh (.node 100 jh (.node 99 jh .nil .nil) (.node 101 jh .nil .nil)) (.node 105 jh (.node 104 jh .nil .nil) .nil)) (.node 110 jh (.node 108 jh (.node 107 jh .nil .nil) (.node 109 jh .nil .nil)) (.node 112 jh (.node 111 jh .nil .nil) .nil))) (.node 121 jh (.node 117 aFZ (.node 115 aNr (.node 114 jh .nil .nil) (.node 116 aFZ .nil .nil)) (.node 120 jh (.node 118 jh .nil .nil) .nil)) (.node 126 jh (.node 124 jh (.node 123 jh .nil .nil) (.node 125 jh .nil .nil)) (.node 128 jh (.node 127 aNs .nil .nil) .nil)))))) (.node 192 aF3 (.node 159 jh (.node 144 aNy (.node 137 aNv (.node 133 jh (.node 131 jh (.node 130 jh .nil .nil) (.node 132 jh .nil .nil)) (.node 135 aNu (.node 134 jh .nil .nil) (.node 136 jh .nil .nil))) (.node 141 aNx (.node 139 jh (.node 138 aNw .nil .nil) (.node 140 jh .nil .nil)) (.node 143 jh (.node 142 jh .nil .nil) .nil))) (.node 152 jh (.node 149 jh (.node 146 jh (.node 145 aNz .nil .nil) (.node 147 jh .nil .nil)) (.node 151 jh (.node 150 jh .nil .nil) .nil)) (.node 156 aNA (.node 154 jh (.node 153 jh .nil .nil) (.node 155 jh .nil .nil)) (.node 158 jh (.node 157 aNB .nil .nil) .nil)))) (.node 175 jh (.node 168 aF0 (.node 165 jh (.node 162 jh (.node 161 aKq .nil .nil) (.node 163 jh .nil .nil)) (.node 167 aF0 (.node 166 jh .nil .nil) .nil)) (.node 172 aNC (.node 170 jh (.node 169 jh .nil .nil) (.node 171 jh .nil .nil)) (.node 174 aF1 (.node 173 aF1 .nil .nil) .nil))) (.node 183 jh (.node 179 aF2 (.node 177 aNE (.node 176 aND .nil .nil) (.node 178 aF2 .nil .nil)) (.node 182 jh (.node 180 jh .nil .nil) .nil)) (.node 189 jh (.node 186 jh (.node 185 jh .nil .nil) (.node 188 jh .nil .nil)) (.node 191 jh (.node 190 jh .nil .nil) .nil))))) (.node 225 jh (.node 209 jh (.node 199 jh (.node 196 aNG (.node 194 jh (.node 193 aF3 .nil .nil) (.node 195 jh .nil .nil)) (.node 198 jh (.node 197 jh .nil .nil) .nil)) (.node 205 jh (.node 203 aKq (.node 201 aNH .nil .nil) (.node 204 jh .nil .nil)) (.node 208 jh (.node 206 jh .nil .nil) .nil))) (.node 217 jh (.node 214 jh (.node 212 jh (.node 210 jh .nil .nil) (.node 213 jh .nil .nil)) (.node 216 jh (.node 215 jh .nil .nil) .nil)) (.node 221 jh (.node 219 jh (.node 218 jh .nil .nil) (.node 220 jh .nil .nil)) (.node 224 jh (.node 223 jh .nil .nil) .nil)))) (.node 246 jh (.node 232 jh (.node 229 jh (.node 227 jh (.node 226 jh .nil .nil) (.node 228 jh .nil .nil)) (.node 231 jh (.node 230 jh .nil .nil) .nil)) (.node 239 aF4 (.node 234 jh (.node 233 aNI .nil .nil) (.node 237 jh .nil .nil)) (.node 242 jh (.node 240 aF4 .nil .nil) .nil))) (.node 254 aF5 (.node 251 jh (.node 248 aNJ (.node 247 jh .nil .nil) (.node 250 jh .nil .nil)) (.node 253 jh (.node 252 jh .nil .nil) .nil)) (.node 263 aKr (.node 261 jh (.node 255 aF5 .nil .nil) (.node 262 aKr .nil .nil)) (.node 265 aF6 (.node 264 aF6 .nil .nil) .nil)))))))
theorem aEd {P:Program} {t:TypeId} {j:TypeInfo} {k:IntKind} (h:(P.info? t).map (·.zero)=a6 (a6 (.int k 0))) (d:P.info? t=a6 j):j.zero=a6 (.int k 0):=by rw[d]at h;simpa using h
theorem tkN {P:Program} {T:TT} {t:TypeId} {i:TI} (u:(P.info? t).map (fun f=>(f.size,f.bytes,f.zero.map fun z=>(z.cells.toList.map zF,z.cells.toList.all Value.oneCell')))=a6 (i.size,i.bytes,a6 (i.zero,true)):=by kernel_rfl)
  (h2:(P.underlying t).map lY=a6 (a6 i.k):=by kernel_rfl) (g:(match i.ty with|none=>a7|some _=>i.ty)=(match i.ty with|none=>a7|some _=>nz T i.k):=by kernel_rfl) (l:(match i.ty with|none=>true|some y=>Nat.beq y.size i.size)=true:=by kernel_rfl) (m:(i.isAgg||Nat.beq i.size 1)=true:=by kernel_rfl)
  (e:(!i.eq||(!P.eqGuardType P.depth t&&(!P.stoodInHeld t&&((P.underlying t).map (fun d=>match d with|.struct fs=>fs.toList.all fun f=>f.name != "_" |_=>false)).getD false)))=true:=by kernel_rfl)
  (v:(P.underlying t).map (fun d=>match d with|.struct fs=>fs.toList.all fun f=>(P.info? f.type).isSome|_=>true)=a6 true:=by kernel_rfl) (x:Nat.beq i.zero.length i.size=true:=by kernel_rfl)
  (p:(match i.ty with|some (.int .u8)=>Nat.beq t qX|_=>true)=true:=by kernel_rfl) (q:(!i.bld||Nat.beq t Zw)=true:=by kernel_rfl)
  (s:(match i.k with|.int _=>(P.info? t).map (fun j:TypeInfo=>j.zero)|_=>a7)=(match i.k with|.int k=>a6 (a6 (Value.int k 0))|_=>a7):=by kernel_rfl):aGj P T t i:=fun _=>by
 refine⟨u,h2, ?_,fun y A=> ?_, ?_,fun B=> ?_,v,ak x,fun D=> ?_,fun E=> ?_,fun k hk j G=> ?_⟩
 .cases hi:i.ty with
  |none=>exact .inl rfl
  |some y=>rw[hi]at g;exact .inr g
 .rw[A]at l;exact ak l
 .rw[Bool.or_eq_true]at m;exact m.imp id ak
 .rw[B]at e;simp only[ax,Bool.false_or,af,aW]at e;refine⟨e.1,e.2.1, ?_⟩;have h:=e.2.2;generalize (P.underlying t).map _=o at h ⊢;cases o with
  |none=>cases h
  |some b=>exact congrArg a6 h
 .rw[D]at p;exact ak p
 .rw[E]at q;exact ak q
 .rw[hk]at s;exact aEd s G
theorem tok:TOk prog tt:=TOk.of_all (by repeat' first|exact trivial|refine⟨tkN, ?_, ?_⟩)
def aIz (P:Program):Bool:=P.funcs.toList.all fun fn=>fn.body.isNone|| !(fn.name== "runtime.NumGoroutine")
theorem ax3 {P:Program} (h:aIz P=true):MX P:=fun f fn c d e=>by
 have g:=List.all_eq_true.1 h fn (by have:=Array.mem_of_getElem? d;simpa using this);simpa [e] using g
theorem Xk:MX prog:=ax3 (by kernel_rfl)
theorem mixed:prog.follows .mixedOrders=true:=by kernel_rfl
noncomputable def sg0 (g:FuncId):Option Sum:=cond (Nat.beq g 261) (a6 aAE) a7
theorem ay9: ∀g s,sg0 g=a6 s->dU prog g s:=fun g s h=>by
 unfold sg0 at h;rw[cond_eq_ite]at h;split at h
 .rename_i d
  obtain rfl:g=261:=ak d;cases h;exact(air func261 (by kernel_rfl) (by kernel_rfl) (by kernel_rfl) (by kernel_rfl))
 cases h
def auv:Go.Shelf.Ren:=⟨fun|240=>39|276=>77|n=>n,fun|0=>0|4=>4|9=>9|20=>20|37=>49|70=>48|72=>51|164=>122|n=>n,fun n=>n⟩
theorem al4:Go.Proofs.Lays.n240 prog auv:={
 mixed:=mixed,
 f240:=(func39).trans (by kernel_rfl),
 f276:=(func77).trans (by kernel_rfl),
 t0:=underlying0,a0:=isAgg0,z0:=sizeOf0,v0:=zeroValue0,
 t4:=underlying4,a4:=isAgg4,z4:=sizeOf4,v4:=zeroValue4,
 t9:=underlying9,a9:=isAgg9,z9:=sizeOf9,v9:=zeroValue9,
 t20:=underlying20,a20:=isAgg20,z20:=sizeOf20,v20:=zeroValue20,
 t70:=underlying48,a70:=isAgg48,z70:=sizeOf48,v70:=zeroValue48,
 t72:=underlying51,a72:=isAgg51,z72:=sizeOf51,v72:=zeroValue51,
 t164:=underlying122,a164:=isAgg122,z164:=sizeOf122,v164:=zeroValue122}
theorem aLv:Go.Proofs.Builder.X72 prog auv:={sizeBuilder:=by kernel_rfl,liesBuilder:=by kernel_rfl}
theorem VG (g:FuncId) (h:NR g=true):EE prog g:=by
 simp only[NR,af]at h;obtain rfl:g=39:=ak h.1;exact fun w b e f=>⟨EJ Xk func39 (show f39.body=a6 ((f39.body).getD .skip) by kernel_rfl) _ _,fun d=>Any.Builder_copyCheck_used al4 aLv b w d,fun d=>Any.Builder_copyCheck_fresh al4 aLv b w d e f⟩
noncomputable def auN:Env:={P:=prog,T:=tt,cl:=true,kp:=fun _ _=>a7,sg:=sg0,lp:=fun _ _=>a7,bf:=NR}
theorem ah0: ∀E,vK prog E->aiH E:=fun E h f k asg d e=>aDY h f k asg d e
theorem ama:fK auN:=⟨tok,mixed,Xk,ay9,fun f fn c _ _=>jW (fun _=>rfl) (fun _=>rfl) c,ah0 _ fun f fn c _ _=>jW (fun _=>rfl) (fun _=>rfl) c,VG,fun _ _ h=>by cases h⟩
abbrev AU:Ty:=(.pair (.int .i64) (.pair (.int .i64) .unit))
def uG (l:List AU.den):Option (List AU.den):=cond (eu l 16) (a6 l) a7
theorem abx (xs:List AU.den):lX auN 1000000 (.call 133 [.lst AU xs false]) ⟨[],[],[],0⟩ (fun v st=>jr true [(.list AU,true)] (J7 1 v) st.hp)=(bif eu xs 16 then a6 (xs,())else a7):=by kernel_rfl
theorem abz:lX auN 1000000 (.call 133 [.lst AU [] true]) ⟨[],[],[],0⟩ (fun v st=>match v,st.hp with|.nils,[]=>a6 ()|_,_=>a7)=a6 ():=by kernel_rfl
def qx (l:List AU.den):Option (List AU.den×Unit):=match uG l with|some y=>a6 (y,())|none=>a7
def BZ:Sum:=⟨[.list AU],[(.list AU,true)],fun x=>qx x.1⟩
theorem Au:dU prog 133 BZ:=by
 have base:=Gq ama (e:=AU) (e2:=AU) (g:=133) (f:=uG) (show 0<AU.size by decide) (show 0<AU.size by decide) (fun i y h=>by
  unfold uG at h;rw[abx];cases hf:eu i 16 with
  |true=>rw[hf]at h;cases h;rfl
  |false=>rw[hf]at h;cases h) fun y h=>by
  have e:uG []=a6 []:=rfl;rw[e]at h;cases h;exact⟨rfl,abz⟩
 intro w j l x y m o hd d;refine base w j l x y m o hd ?_;have d:qx x.1=a6 y:=d;unfold qx at d;cases hc:uG x.1 with
 |none=>rw[hc]at d;cases d
 |some z=>rw[hc]at d;simp only[hc];exact d
abbrev AV:Ty:=(.pair .str (.pair .bool .unit))
def yZ (l:List AV.den):Option (List AV.den):=cond (eu l 24) (a6 l) a7
theorem aby (xs:List AV.den):lX auN 1000000 (.call 193 [.lst AV xs false]) ⟨[],[],[],0⟩ (fun v st=>jr true [(.list AV,true)] (J7 1 v) st.hp)=(bif eu xs 24 then a6 (xs,())else a7):=by kernel_rfl
theorem abA:lX auN 1000000 (.call 193 [.lst AV [] true]) ⟨[],[],[],0⟩ (fun v st=>match v,st.hp with|.nils,[]=>a6 ()|_,_=>a7)=a6 ():=by kernel_rfl
def uH (l:List AV.den):Option (List AV.den×Unit):=match yZ l with|some y=>a6 (y,())|none=>a7
def Tv:Sum:=⟨[.list AV],[(.list AV,true)],fun x=>uH x.1⟩
theorem Aw:dU prog 193 Tv:=by
 have base:=Gq ama (e:=AV) (e2:=AV) (g:=193) (f:=yZ) (show 0<AV.size by decide) (show 0<AV.size by decide) (fun i y h=>by
  unfold yZ at h;rw[aby];cases hf:eu i 24 with
  |true=>rw[hf]at h;cases h;rfl
  |false=>rw[hf]at h;cases h) fun y h=>by
  have e:yZ []=a6 []:=rfl;rw[e]at h;cases h;exact⟨rfl,abA⟩
 intro w j l x y m o hd d;refine base w j l x y m o hd ?_;have d:uH x.1=a6 y:=d;unfold uH at d;cases hc:yZ x.1 with
 |none=>rw[hc]at d;cases d
 |some z=>rw[hc]at d;simp only[hc];exact d
noncomputable def sg1 (g:FuncId):Option Sum:=cond (Nat.beq g 133) (a6 BZ)<|cond (Nat.beq g 193) (a6 Tv)<|sg0 g
theorem alq: ∀g s,sg1 g=a6 s->dU prog g s:=fun g s h=>by
 unfold sg1 at h;rw[cond_eq_ite]at h;split at h
 .rename_i d
  obtain rfl:g=133:=ak d;cases h;exact Au
 rw[cond_eq_ite]at h;split at h
 .rename_i d
  obtain rfl:g=193:=ak d;cases h;exact Aw
 exact ay9 g s h
noncomputable def aOp:Env:={P:=prog,T:=tt,cl:=true,kp:=fun _ _=>a7,sg:=sg1,lp:=fun _ _=>a7,bf:=NR}
theorem aNV:fK aOp:=⟨tok,mixed,Xk,alq,fun f fn c _ _=>jW (fun _=>rfl) (fun _=>rfl) c,ah0 _ fun f fn c _ _=>jW (fun _=>rfl) (fun _=>rfl) c,VG,fun _ _ h=>by cases h⟩
end
section
open Go.ChangeShapes Go.WideShapes Go.RowKit
theorem aFa {P:Program} {w:World} {H:Type} {enc:TypeId×Value->H} {base:Nat} {spare:Nat->Bool} {held:Bool} {c:Cx} {f:Ty} {x:List f.den} {t e:TypeId} {v:Value} {d:DataW H} {m:List MemPlace}
  (o:P.underlying t=some (.slice e)) (hx:VD c (.list f) x v) (h:DataW.Trod enc P w base spare held t v d m):x.length=0\/ ∃g p,d=.slice g p/\g.length=x.length:=by
 have i:=(VD.leaf rfl).1 hx;simp only[fV]at i;obtain⟨a,k,y,j,z,A,B⟩:=i;simp only[List.cons.injEq,and_true]at j;obtain⟨D,l⟩:=h;subst j;have q:(Value.slice a x.length k).cells.toList=[.slice a x.length k]:=rfl;rw[q]at l;rcases DataW.trod_slice o l with ⟨s,u⟩|⟨E,G,I,J,K,n,s,u,L,M,N,O,S,U⟩
 all_goals simp_all
end
section
open Option renaming some → a6, none → a7
open Tryz
open Go.RowKit
theorem yu {E:Env} {f:FuncId} {c:Code} {k:fJ} {l i j:SP} {m p:Ex} {D:Nat} {lp:Nat->l.den->Option (i.den⊕j.den)}
  (st:{g:Type}->(l.den->Option g)->(i.den->Option g)->(j.den->Option g)->l.den->Option g)
  (hk:E.kp f (dK c)=a6 k:=by kernel_rfl) (q: ∀v,lp 0 v=a7:=by intro _;rfl) (s: ∀n v,lp (n+1) v=st (lp n) (fun e=>a6 (.inl e)) (fun r=>a6 (.inr r)) v:=by intro _ _;rfl)
  (u: ∀{R:Type} (d n:Nat) (K:Ex->St->Option R) (v:l.den),iter (a6 k) (xx E (d+D) f c) (n+1) (lg l v) K=st (fun v=>iter (a6 k) (xx E (d+D) f c) n (lg l v) K) (fun e=>K m (lg i e)) (fun r=>K p (lg j r)) v:=by intro _ d n K v;kernel_rfl)
  (h2: ∀{g A:Type} (x:l.den->Option g) (y:i.den->Option g) (z:j.den->Option g) (v:l.den) (K:g->Option A),bJ (st x y z v) K=st (fun v=>bJ (x v) K) (fun e=>bJ (y e) K) (fun r=>bJ (z r) K) v):
  dX E f c (gu k l i j m (fun v=>lp bT v) D p):=by
 refine arG hk fun R d K v o h=>⟨bT, ?_⟩;have B: ∀(n:Nat) (v:l.den),iter (a6 k) (xx E (d+D) f c) n (lg l v) K=bJ (lp n v) fun o=>dR o (fun a=>K m (lg i a)) fun b=>K p (lg j b):=by
  intro n
  induction n with
  |zero=>intro v;rw[q];rfl
  |succ n G=>intro v;rw[u,s,h2,funext G];rfl
 exact(B bT v).trans (congrArg (fun o=>bJ o _) h)
theorem mF {E:Env} {f:FuncId} {c:Code} {k:fJ} {l i j:SQ} {m p:Ex} {D:Nat} {lp:Nat->l.den->Option (i.den⊕j.den)}
  (st:{g:Type}->(l.den->Option g)->(i.den->Option g)->(j.den->Option g)->l.den->Option g)
  (hk:E.kp f (dK c)=a6 k:=by kernel_rfl) (q: ∀v,lp 0 v=a7:=by intro _;rfl) (s: ∀n v,lp (n+1) v=st (lp n) (fun e=>a6 (.inl e)) (fun r=>a6 (.inr r)) v:=by intro _ _;rfl)
  (u: ∀{R:Type} (d n:Nat) (K:Ex->St->Option R) (v:l.den),iter (a6 k) (xx E (d+D) f c) (n+1) (jR l v) K=st (fun v=>iter (a6 k) (xx E (d+D) f c) n (jR l v) K) (fun e=>K m (jR i e)) (fun r=>K p (jR j r)) v:=by intro _ d n K v;kernel_rfl)
  (h2: ∀{g A:Type} (x:l.den->Option g) (y:i.den->Option g) (z:j.den->Option g) (v:l.den) (K:g->Option A),bJ (st x y z v) K=st (fun v=>bJ (x v) K) (fun e=>bJ (y e) K) (fun r=>bJ (z r) K) v):
  dX E f c (fP k l i j m (fun v=>lp bT v) D p):=by
 refine aj3 hk fun R d K v o h=>⟨bT, ?_⟩;have B: ∀(n:Nat) (v:l.den),iter (a6 k) (xx E (d+D) f c) n (jR l v) K=bJ (lp n v) fun o=>dR o (fun a=>K m (jR i a)) fun b=>K p (jR j b):=by
  intro n
  induction n with
  |zero=>intro v;rw[q];rfl
  |succ n G=>intro v;rw[u,s,h2,funext G];rfl
 exact(B bT v).trans (congrArg (fun o=>bJ o _) h)
theorem aKo {E:Env} (d:fK E) {g:FuncId} {s:Sum} (e:news s.rs<=1) (h: ∀x,XQ E g s.ps s.rs x=s.f x):dU E.P g s:=
 Yx d e fun x y i=>(h x).trans i
theorem fL {E:Env} {f:FuncId} {c:Code} {L:dD} (e:E.lp f (dK c)=a6 L) (h2:dX E f c L): ∀d,E.lp f (dK c)=a6 d->dX E f c d:=fun d h=>by
 simp_all
theorem fC {E:Env} {f:FuncId} {c:Code} {L:dD} (e:E.lp f (800000+dK c)=a6 L) (h2:tH E f c L): ∀d,E.lp f (800000+dK c)=a6 d->tH E f c d:=fun d h=>by
 simp_all
theorem aC {d:Type} {p:d->Prop} {a:d} {l:List d} (h:p a/\ ∀x∈l,p x): ∀x∈a::l,p x:=List.forall_mem_cons.2 h
theorem aN {d:Type} {p:d->Prop}: ∀x∈([]:List d),p x:=fun _ h=>absurd h List.not_mem_nil
theorem aFW {E:Env} (d:fK E) {g:FuncId} {s:fZ} (h: ∀x y,ayC E g s.bt s.cs s.ps s.rs x y=s.f x y):dQ E.P g s:=aiq d fun x y _ e=>(h x y).trans e
theorem pM {P:Program} {g:FuncId} {s:fZ} (h: ∀x y,s.f x y=a7):dQ P g s:=fun W0 c x y z _ _ _ _ e _ d=>nomatch (show(a7:Option _)=a6 z from(h x y).symm.trans d)
theorem aD {d:Type} {p:d->Prop} {a:d} {l:List d} (h:p a) (h2: ∀x∈l,p x): ∀x∈a::l,p x:=aC ⟨h,h2⟩
theorem fM {E:Env} {f:FuncId} {c:Code} {L:dD} (h2:dX E f c L) (e:E.lp f (dK c)=a6 L:=by kernel_rfl): ∀d,E.lp f (dK c)=a6 d->dX E f c d:=fL e h2
theorem sA {E:Env} (d:fK E) {g:FuncId} {s:Sum} (e:news s.rs<=1:=by decide) (h: ∀x,XQ E g s.ps s.rs x=s.f x:=by intro x;kernel_rfl):dU E.P g s:=aKo d e h
theorem sB {E:Env} (d:fK E) {g:FuncId} {s:fZ} (h: ∀x y,ayC E g s.bt s.cs s.ps s.rs x y=s.f x y:=by intro x y;kernel_rfl):dQ E.P g s:=aFW d h
theorem pI {E:Env} {f:FuncId} {c:Code} (l:List Code) (h: ∀d∈l,∀L,E.lp f (dK d)=a6 L->dX E f d L) (hl:jF c=l:=by kernel_rfl) (k:acF E f c=true:=by kernel_rfl) (e: ∀id,E.rf f id=false:=by intro _;rfl):dO E f c:=aj6 c e (by rw[hl];exact h) k
theorem eA {f:FuncId} {sg:List (FuncId×Sum)} {kp:List (Nat×fJ)} {lp:List (Nat×dD)} {sb:List (FuncId×fZ)} (fn:Func) (d: ∀e∈sg,dU prog e.1 e.2) (hl:dO (jm prog tt f sg kp lp sb) f (fn.body.getD .skip):=by exact jW (fun _=>rfl) (fun _=>rfl) _) (hf:prog.funcs[f]? =a6 fn:=by kernel_rfl) (hb:fn.body=a6 (fn.body.getD .skip):=by kernel_rfl) (hx: ∀e∈sb,dQ prog e.1 e.2:=by simp):fK (jm prog tt f sg kp lp sb):=avF tok mixed Xk d hf hb hl ah0 VG hx
theorem eB {sg:List (FuncId×Sum)} {kp:List (FuncId×Nat×fJ)} {lp:List (FuncId×Nat×dD)} {rf:List FuncId} {sb:List (FuncId×fZ)} (f: ∀e∈sg,dU prog e.1 e.2) (d:List FuncId) (hl: ∀g∈d,∃fn c,prog.funcs[g]? =a6 fn/\fn.body=a6 c/\dO (gY prog tt sg kp lp rf sb) g c) (hx: ∀e∈sb,dQ prog e.1 e.2:=by simp) (i:(lp.all fun e=>d.any fun g=>Nat.beq e.1 g)=true:=by kernel_rfl) (j:(rf.all fun e=>d.any fun g=>Nat.beq e g)=true:=by kernel_rfl):fK (gY prog tt sg kp lp rf sb):=aq5 tok mixed Xk f d i j hl ah0 VG hx
theorem sE {g:FuncId} {s:Sum} {l:List (FuncId×Sum)} (h:dU prog g s) (h2: ∀e∈l,dU prog e.1 e.2): ∀e∈(g,s)::l,dU prog e.1 e.2:=aD (p:=fun e:FuncId×Sum=>dU prog e.1 e.2) h h2
theorem sF {g:FuncId} {s:fZ} {l:List (FuncId×fZ)} (h:dQ prog g s) (h2: ∀e∈l,dQ prog e.1 e.2): ∀e∈(g,s)::l,dQ prog e.1 e.2:=aD (p:=fun e:FuncId×fZ=>dQ prog e.1 e.2) h h2
theorem qA {g:FuncId} {s:Sum} {sg:List (FuncId×Sum)} {sb:List (FuncId×fZ)} (fn:Func) (kp:List (Nat×fJ)) (d: ∀e∈sg,dU prog e.1 e.2) (hx: ∀e∈sb,dQ prog e.1 e.2:=by exact aN) (hf:prog.funcs[g]? =a6 fn:=by kernel_rfl) (hb:fn.body=a6 (fn.body.getD .skip):=by kernel_rfl) (h: ∀x,XQ (jm prog tt g sg kp [] sb) g s.ps s.rs x=s.f x:=by intro x;kernel_rfl) (i:news s.rs<=1:=by decide):dU prog g s:=aKo (eA fn d (hl:=jW (fun _=>by show(bif Nat.beq g g then a7 else a7)=a7;cases Nat.beq g g<;>rfl) (fun _=>rfl) _) (hf:=hf) (hb:=hb) (hx:=hx)) i h
theorem qC {g:FuncId} {s:Sum} {sg:List (FuncId×Sum)} {sb:List (FuncId×fZ)} (kp:List (FuncId×Nat×fJ)) (d: ∀e∈sg,dU prog e.1 e.2) (hx: ∀e∈sb,dQ prog e.1 e.2:=by exact aN) (h: ∀x,XQ (gY prog tt sg kp [] [] sb) g s.ps s.rs x=s.f x:=by intro x;kernel_rfl) (i:news s.rs<=1:=by decide):dU prog g s:=aKo (eB d [] aN hx) i h
theorem qB {g:FuncId} {s:fZ} {sg:List (FuncId×Sum)} {sb:List (FuncId×fZ)} (kp:List (FuncId×Nat×fJ)) (d: ∀e∈sg,dU prog e.1 e.2) (hx: ∀e∈sb,dQ prog e.1 e.2:=by exact aN) (h: ∀x y,ayC (gY prog tt sg kp [] [] sb) g s.bt s.cs s.ps s.rs x y=s.f x y:=by intro x y;kernel_rfl):dQ prog g s:=aFW (eB d [] aN hx) h
end
section
open Option renaming some → a6, none → a7
open Tryz
open Go.RowKit
def xP (d:List lL) (e:Bool) (f g:Int):Option (taO×(Unit)):=cond (gy d (eP .i64 (bK d) 1)) (cond (pK (dI (eP .i64 (bK d) 1)) d) (a6 (((iR d (dI (eP .i64 (bK d) 1)) (g,((dN d (0,(0,())) (dI (eP .i64 (bK d) 1))).2.1,()))),(e,(f,()))),())) a7) a7
def azy:fZ:=⟨168,tzD,[dA],[],fun x y=>xP x.1 x.2.1 x.2.2.1 y.1⟩
theorem QZ:dQ prog 130 azy:=qB [] aN
def zL (d:List lL) (e:Bool) (f:Int):Option (taO×(Unit)):=cond (iF 1 (bK d)) (cond (eY (bK d) 0 (eP .i64 (bK d) 1)) (a6 (((takeN d (dI (eP .i64 (bK d) 1))),(e,(f,()))),())) a7)<|some ((d,(e,(f,()))),())
def azz:fZ:=⟨168,tzD,[],[],fun x y=>zL x.1 x.2.1 x.2.2.1⟩
theorem zx:dQ prog 131 azz:=qB [] aN
def amv (d:List lL) (e:Bool) (f:Int):Option (taO×AQ):=cond (gy d (Fh (eP .i64 (bK d) 2) 0)) (cond (pK (dI (Fh (eP .i64 (bK d) 2) 0)) d) (a6 ((d,(e,(f,()))),((dN d (0,(0,())) (dI (Fh (eP .i64 (bK d) 2) 0))).1,()))) a7) a7
def aJC:fZ:=⟨168,tzD,[],[dA],fun x y=>amv x.1 x.2.1 x.2.2.1⟩
theorem asD:dQ prog 175 aJC:=qB [] aN
def RD (f:List lL) (g:Bool) (i j:Int):Option (taO×vJ):=cond (bY j 40) (bJ (xP f g i 3) fun d=>a6 ((d.1.1,(true,(d.1.2.2.1,()))),(true,())))<|cond (bY j 123) (bJ (amv f g i) fun d=>cond (bY d.2.1 5) (cond (bY d.2.1 5) (bJ (xP d.1.1 d.1.2.1 d.1.2.2.1 8) fun e=>a6 ((e.1.1,(e.1.2.1,(e.1.2.2.1,()))),(true,())))<|bJ (xP d.1.1 d.1.2.1 d.1.2.2.1 7) fun e=>a6 ((e.1.1,(e.1.2.1,(e.1.2.2.1,()))),(true,())))<|cond (bY d.2.1 8) (bJ (xP d.1.1 d.1.2.1 d.1.2.2.1 8) fun e=>a6 ((e.1.1,(e.1.2.1,(e.1.2.2.1,()))),(true,())))<|bJ (xP d.1.1 d.1.2.1 d.1.2.2.1 7) fun e=>a6 ((e.1.1,(e.1.2.1,(e.1.2.2.1,()))),(true,())))<|cond (bY j 36) (bJ (zL f g i) fun d=>a6 ((d.1.1,(d.1.2.1,(d.1.2.2.1,()))),(true,())))<|bJ (zL f g i) fun d=>a6 ((d.1.1,(d.1.2.1,(d.1.2.2.1,()))),(false,()))
def azv:fZ:=⟨168,tzD,[.int .u8],[.bool],fun x y=>RD x.1 x.2.1 x.2.2.1 y.1⟩
theorem ass:dQ prog 129 azv:=qB [] aN (sF QZ (sF zx (sF asD aN)))
def zM (f:List lL) (g:Bool) (d e:Int):Option (taO×(Unit)):=cond (bY e e) (cond (bY d d) (cond (eu (bU f [(e,(d,()))]) 16) (cond (bY e e) (cond (bY d d) (cond ((bY e e)&&((bY d d)&&true)) (a6 (((bU f [(e,(d,()))]),(g,(d,()))),())) a7) a7) a7) a7) a7) a7
def aJE:fZ:=⟨168,tzD,[dA],[],fun x y=>zM x.1 x.2.1 x.2.2.1 y.1⟩
theorem EC:dQ prog 177 aJE:=qB [] aN
def We (e:List lL) (f:Bool) (g i:Int):Option (taO×vJ):=cond (bY i 92) (bJ (zM e f g 13) fun d=>a6 ((d.1.1,(d.1.2.1,(d.1.2.2.1,()))),(true,())))<|cond (bY i 36) (bJ (zM e f g 12) fun d=>a6 ((d.1.1,(d.1.2.1,(d.1.2.2.1,()))),(true,())))<|cond (bY i 96) (bJ (zM e f g 6) fun d=>a6 ((d.1.1,(d.1.2.1,(d.1.2.2.1,()))),(true,())))<|some ((e,(f,(g,()))),(false,()))
def aJW:fZ:=⟨168,tzD,[.int .u8],[.bool],fun x y=>We x.1 x.2.1 x.2.2.1 y.1⟩
theorem Rh:dQ prog 226 aJW:=qB [] aN (sF EC aN)
noncomputable def afN:Code:=(f125.body).getD .skip
noncomputable def A7:Code:=cB (cB (cB (cB (cB (cB (cB (cA (cA (cB (afN))))))))))
noncomputable def A8:Code:=cB (cB (afN))
noncomputable def Ba:Code:=cB (cA (cB (cA (cB (cB (afN))))))
noncomputable def Bc:Code:=cB (cB (cB (cA (cB (cA (cB (cB (afN))))))))
def Bo:fJ:=⟨[0,18,900011],[],[0],[],[2],[]⟩
def Bq:fJ:=⟨[0,900012],[],[2],[],[2],[]⟩
def Bv:fJ:=⟨[33,34,900020],[],[],[],[2],[]⟩
def Bz:fJ:=⟨[42,900026],[],[],[],[2],[]⟩
def ar {a b c d e g h R:Type} (f:a->b->c->d->e->g->h->R) (v:((a×b×c×Unit)×((d×e×g×h×Unit)×Unit×Unit)×Unit)):R:=f v.1.1 v.1.2.1 v.1.2.2.1 v.2.1.1.1 v.2.1.1.2.1 v.2.1.1.2.2.1 v.2.1.1.2.2.2.1
def aE {a R:Type} (f:((a×Unit)×Unit)->R):a->R:=fun a=>f ((a,()),())
def aL {a b R:Type} (f:((a×b×Unit)×Unit)->R):a->b->R:=fun a b=>f ((a,b,()),())
def aM {a b c d R:Type} (f:((a×b×c×d×Unit)×Unit)->R):a->b->c->d->R:=fun a b c d=>f ((a,b,c,d,()),())
def aR {a b c d R:Type} (f:a->b->c->d->R) (v:((a×b×c×d×Unit)×Unit)):R:=f v.1.1 v.1.2.1 v.1.2.2.1 v.1.2.2.2.1
def ba {a b c R:Type} (f:a->b->c->R) (v:((a×b×c×Unit)×Unit)):R:=f v.1.1 v.1.2.1 v.1.2.2.1
def bb {a b c d e g h i j k l R:Type} (f:a->b->c->d->e->g->h->i->j->k->l->R) (v:((a×b×c×d×Unit)×((e×g×h×i×j×Unit)×k×l×Unit))):R:=f v.1.1 v.1.2.1 v.1.2.2.1 v.1.2.2.2.1 v.2.1.1 v.2.1.2.1 v.2.1.2.2.1 v.2.1.2.2.2.1 v.2.1.2.2.2.2.1 v.2.2.1 v.2.2.2.1
def bc {a b c d e R:Type} (f:a->b->c->d->e->R) (v:((a×b×c×d×Unit)×(e×Unit))):R:=f v.1.1 v.1.2.1 v.1.2.2.1 v.1.2.2.2.1 v.2.1
def be {a b c d e g h i j k l m R:Type} (f:a->b->c->d->e->g->h->i->j->k->l->m->R) (v:((a×b×c×Unit)×((d×e×g×Unit)×(h×i×Unit)×(j×k×l×m×Unit)×Unit))):R:=f v.1.1 v.1.2.1 v.1.2.2.1 v.2.1.1 v.2.1.2.1 v.2.1.2.2.1 v.2.2.1.1 v.2.2.1.2.1 v.2.2.2.1.1 v.2.2.2.1.2.1 v.2.2.2.1.2.2.1 v.2.2.2.1.2.2.2.1
def bh {a b c d e g h i j k l m n o p R:Type} (f:a->b->c->d->e->g->h->i->j->k->l->m->n->o->p->R) (v:((a×b×c×Unit)×((d×e×g×Unit)×(h×i×Unit)×(j×k×l×m×Unit)×(n×o×p×Unit)×Unit))):R:=f v.1.1 v.1.2.1 v.1.2.2.1 v.2.1.1 v.2.1.2.1 v.2.1.2.2.1 v.2.2.1.1 v.2.2.1.2.1 v.2.2.2.1.1 v.2.2.2.1.2.1 v.2.2.2.1.2.2.1 v.2.2.2.1.2.2.2.1 v.2.2.2.2.1.1 v.2.2.2.2.1.2.1 v.2.2.2.2.1.2.2.1
def bj {a b c d e g R:Type} (f:(Unit×((a×Unit)×Unit×Unit×Unit)×((b×c×Unit)×d×Unit×(e×Unit)×g×Unit×Unit))->R):a->b->c->d->e->g->R:=fun a b c d e g=>f ((),((a,()),(),(),()),((b,c,()),d,(),(e,()),g,(),()))
def bk {a b c d e g h i j k l m n o p q r s t u R:Type} (f:a->b->c->d->e->g->h->i->j->k->l->m->n->o->p->q->r->s->t->u->R) (v:((a×b×c×Unit)×((d×e×g×h×Unit)×(i×Unit)×Unit×Unit×Unit)×(j×(k×l×m×n×o×Unit)×p×Unit×Unit×(q×r×Unit)×s×Unit×(t×Unit)×u×Unit×Unit))):R:=f v.1.1 v.1.2.1 v.1.2.2.1 v.2.1.1.1 v.2.1.1.2.1 v.2.1.1.2.2.1 v.2.1.1.2.2.2.1 v.2.1.2.1.1 v.2.2.1 v.2.2.2.1.1 v.2.2.2.1.2.1 v.2.2.2.1.2.2.1 v.2.2.2.1.2.2.2.1 v.2.2.2.1.2.2.2.2.1 v.2.2.2.2.1 v.2.2.2.2.2.2.2.1.1 v.2.2.2.2.2.2.2.1.2.1 v.2.2.2.2.2.2.2.2.1 v.2.2.2.2.2.2.2.2.2.2.1.1 v.2.2.2.2.2.2.2.2.2.2.2.1
def bl {a b c d e g h i j k l m n o p R:Type} (f:a->b->c->d->e->g->h->i->j->k->l->m->n->o->p->R) (v:((a×Unit)×(Unit×Unit×Unit×Unit)×((b×c×d×e×Unit)×(g×h×i×Unit)×(j×Unit)×Unit×k×(l×m×n×Unit)×Unit×(o×p×Unit)×Unit))):R:=f v.1.1 v.2.2.1.1 v.2.2.1.2.1 v.2.2.1.2.2.1 v.2.2.1.2.2.2.1 v.2.2.2.1.1 v.2.2.2.1.2.1 v.2.2.2.1.2.2.1 v.2.2.2.2.1.1 v.2.2.2.2.2.2.1 v.2.2.2.2.2.2.2.1.1 v.2.2.2.2.2.2.2.1.2.1 v.2.2.2.2.2.2.2.1.2.2.1 v.2.2.2.2.2.2.2.2.2.1.1 v.2.2.2.2.2.2.2.2.2.1.2.1
def bm {a b c d e g R:Type} (f:((a×Unit)×(Unit×Unit)×((b×c×d×e×Unit)×g×Unit))->R):a->b->c->d->e->g->R:=fun a b c d e g=>f ((a,()),((),()),((b,c,d,e,()),g,()))
def bo {a b c d e g R:Type} (f:a->b->c->d->e->g->R) (v:((a×Unit)×(Unit×Unit)×((b×c×d×e×Unit)×g×Unit))):R:=f v.1.1 v.2.2.1.1 v.2.2.1.2.1 v.2.2.1.2.2.1 v.2.2.1.2.2.2.1 v.2.2.2.1
def bp {a b c d e R:Type} (f:(Unit×(Unit×Unit)×((a×b×c×d×Unit)×e×Unit))->R):a->b->c->d->e->R:=fun a b c d e=>f ((),((),()),((a,b,c,d,()),e,()))
def bq {a b c d e R:Type} (f:a->b->c->d->e->R) (v:(Unit×(Unit×Unit)×((a×b×c×d×Unit)×e×Unit))):R:=f v.2.2.1.1 v.2.2.1.2.1 v.2.2.1.2.2.1 v.2.2.1.2.2.2.1 v.2.2.2.1
def bs {a b c d e g h i j k l R:Type} (f:(Unit×((a×b×Unit)×(c×d×Unit)×(e×g×Unit)×Unit×Unit)×(Unit×Unit×h×(i×j×k×l×Unit)×Unit))->R):a->b->c->d->e->g->h->i->j->k->l->R:=fun a b c d e g h i j k l=>f ((),((a,b,()),(c,d,()),(e,g,()),(),()),((),(),h,(i,j,k,l,()),()))
def bv {a b c d e g R:Type} (f:(Unit×((a×b×Unit)×(c×d×Unit)×(e×g×Unit)×Unit×Unit)×Unit)->R):a->b->c->d->e->g->R:=fun a b c d e g=>f ((),((a,b,()),(c,d,()),(e,g,()),(),()),())
def bw {a b c d e g h i j k l R:Type} (f:a->b->c->d->e->g->h->i->j->k->l->R) (v:(Unit×((a×b×Unit)×(c×d×Unit)×(e×g×Unit)×Unit×Unit)×(Unit×Unit×h×(i×j×k×l×Unit)×Unit))):R:=f v.2.1.1.1 v.2.1.1.2.1 v.2.1.2.1.1 v.2.1.2.1.2.1 v.2.1.2.2.1.1 v.2.1.2.2.1.2.1 v.2.2.2.2.1 v.2.2.2.2.2.1.1 v.2.2.2.2.2.1.2.1 v.2.2.2.2.2.1.2.2.1 v.2.2.2.2.2.1.2.2.2.1
def bx {a b c d e g h R:Type} (f:((a×Unit)×(Unit×Unit)×((b×c×d×e×g×Unit)×h×Unit))->R):a->b->c->d->e->g->h->R:=fun a b c d e g h=>f ((a,()),((),()),((b,c,d,e,g,()),h,()))
def bA {a b c d e g h R:Type} (f:a->b->c->d->e->g->h->R) (v:((a×Unit)×(Unit×Unit)×((b×c×d×e×g×Unit)×h×Unit))):R:=f v.1.1 v.2.2.1.1 v.2.2.1.2.1 v.2.2.1.2.2.1 v.2.2.1.2.2.2.1 v.2.2.1.2.2.2.2.1 v.2.2.2.1
def bB {a b c d e g h i j k l m n o p q r s R:Type} (f:a->b->c->d->e->g->h->i->j->k->l->m->n->o->p->q->r->s->R) (v:((a×b×c×Unit)×((d×e×Unit)×Unit×Unit×Unit×Unit)×(g×(h×i×j×k×l×Unit)×m×Unit×Unit×(n×o×Unit)×p×Unit×Unit×q×Unit×(r×Unit)×(s×Unit)×Unit))):R:=f v.1.1 v.1.2.1 v.1.2.2.1 v.2.1.1.1 v.2.1.1.2.1 v.2.2.1 v.2.2.2.1.1 v.2.2.2.1.2.1 v.2.2.2.1.2.2.1 v.2.2.2.1.2.2.2.1 v.2.2.2.1.2.2.2.2.1 v.2.2.2.2.1 v.2.2.2.2.2.2.2.1.1 v.2.2.2.2.2.2.2.1.2.1 v.2.2.2.2.2.2.2.2.1 v.2.2.2.2.2.2.2.2.2.2.2.1 v.2.2.2.2.2.2.2.2.2.2.2.2.2.1.1 v.2.2.2.2.2.2.2.2.2.2.2.2.2.2.1.1
def bE {a b c d e g h i j k l m n o p q r s t u w x y z A B C D E F G H I J R:Type} (f:a->b->c->d->e->g->h->i->j->k->l->m->n->o->p->q->r->s->t->u->w->x->y->z->A->B->C->D->E->F->G->H->I->J->R) (v:((a×b×c×d×Unit)×((e×g×Unit)×Unit×Unit)×(h×(i×j×k×l×m×n×o×p×q×Unit)×(r×s×t×u×w×x×y×z×A×Unit)×(B×C×D×E×F×G×H×I×J×Unit)×Unit))):R:=f v.1.1 v.1.2.1 v.1.2.2.1 v.1.2.2.2.1 v.2.1.1.1 v.2.1.1.2.1 v.2.2.1 v.2.2.2.1.1 v.2.2.2.1.2.1 v.2.2.2.1.2.2.1 v.2.2.2.1.2.2.2.1 v.2.2.2.1.2.2.2.2.1 v.2.2.2.1.2.2.2.2.2.1 v.2.2.2.1.2.2.2.2.2.2.1 v.2.2.2.1.2.2.2.2.2.2.2.1 v.2.2.2.1.2.2.2.2.2.2.2.2.1 v.2.2.2.2.1.1 v.2.2.2.2.1.2.1 v.2.2.2.2.1.2.2.1 v.2.2.2.2.1.2.2.2.1 v.2.2.2.2.1.2.2.2.2.1 v.2.2.2.2.1.2.2.2.2.2.1 v.2.2.2.2.1.2.2.2.2.2.2.1 v.2.2.2.2.1.2.2.2.2.2.2.2.1 v.2.2.2.2.1.2.2.2.2.2.2.2.2.1 v.2.2.2.2.2.1.1 v.2.2.2.2.2.1.2.1 v.2.2.2.2.2.1.2.2.1 v.2.2.2.2.2.1.2.2.2.1 v.2.2.2.2.2.1.2.2.2.2.1 v.2.2.2.2.2.1.2.2.2.2.2.1 v.2.2.2.2.2.1.2.2.2.2.2.2.1 v.2.2.2.2.2.1.2.2.2.2.2.2.2.1 v.2.2.2.2.2.1.2.2.2.2.2.2.2.2.1
def bL {a b c d e g h i j k l m n o p q r s R:Type} (f:a->b->c->d->e->g->h->i->j->k->l->m->n->o->p->q->r->s->R) (v:(Unit×((a×b×c×d×e×g×h×i×j×Unit)×(k×l×m×n×o×p×q×r×s×Unit)×Unit))):R:=f v.2.1.1 v.2.1.2.1 v.2.1.2.2.1 v.2.1.2.2.2.1 v.2.1.2.2.2.2.1 v.2.1.2.2.2.2.2.1 v.2.1.2.2.2.2.2.2.1 v.2.1.2.2.2.2.2.2.2.1 v.2.1.2.2.2.2.2.2.2.2.1 v.2.2.1.1 v.2.2.1.2.1 v.2.2.1.2.2.1 v.2.2.1.2.2.2.1 v.2.2.1.2.2.2.2.1 v.2.2.1.2.2.2.2.2.1 v.2.2.1.2.2.2.2.2.2.1 v.2.2.1.2.2.2.2.2.2.2.1 v.2.2.1.2.2.2.2.2.2.2.2.1
def cz:FK:=.ptr 0 0
def cS:FK:=.fn 278 [(1000001,0),(2000003,0)]
def bX:FK:=.v dA
def cX:FK:=.ptr 1000001 0
def b8:List FK:=[cz]
def bN:List (List FK):=[us [cz,.u,cS,.u,.u,.u,bX,bX,.u,.u,.u,.u,.u,.u,.u,.u,.u,.u,.u,.u,.u,.u,.u,.u,.u,.u,.u,.u,.u,.u,.u,.u,.u,.u,.u,.u,.u,cS] 16,us [cz,bX,cS,.u,.u,.u,.u,.u,.u,.u,.u,.u,.u,cz,bX,cS] 8,[.u,cX,bX,.ptr 2000003 0,.u,.u,.u,.u,.u,.u,.u,.u,.u,.u,.u,.u,.u,.u,.u,.u,.u,.u,.u,.u,.u,.u,.u,.u,cz,bX,cS,.u],b8]
def b9:FK:=.v .str
def cF:HK:=.arr 1 o8
def bO:List HK:=[.box 0 82 [.v ru,b9,.slc 1,bX,bX,bX],cF]
def bR:HK:=.box 0 117 [.v ru,bX,.slc 1,bX,bX]
def dz:FK:=.ptr 2000001 0
def fj:FK:=.ptr 3000002 0
def eE:FK:=.ptr 3000003 0
def cx:FK:=.fn 139 [(3000003,0),(3000002,0)]
def db:FK:=.ptr 2000011 0
def bS:List FK:=[.u,dz,fj,eE,cx,bX,.ptr 3000006 0,.u,.u,.u,.u,.u,.u,.u,.u,.u,.u,.u,.u,.u,.u,.u,.u,.u,.u,.u,.u,.u,.u,.u,.u,.u,.u,.u,.u,.u,.u,.u,.u,.u,.u,.u,.u,.u,.u,.u,.u,.u,.u,.u,.u,.u,.u,.u,.u,.u,.u,.u,.u,.u,.u,.u,.u,.u,.u,.u,.u,.u,.u,.u,.u,.u,.u,.u,.u,.u,.u,.u,.u,.u,.u,.u,.u,.u,.u,.u,.u,.u,.u,.u,.u,.u,.u,.u,.u,.u,.u,.u,.u,.u,.u,cx,.kb true,.kb true,db,.v Kq,.yld 1700009,.u,.u,.u,.u,.u]
def cK:FK:=.ptr 1000002 0
def ck:FK:=.ptr 1000003 0
def cH:FK:=.ptr 1000004 0
def ca:List FK:=us [.u,.u,cK,ck,cH] 11
def ce:HK:=.box 2000011 179 [b9,.v MS,.mpv 2000009]
def cf:FK:=.v .bool
def cg:HK:=.box 1000003 51 [.slf 1000003,.slc 1500003]
def ci:List FK:=[.u,dz,fj,eE,cx,bX,.ptr 3000006 0,.u,.u,.u,.u,.u,.u,.u,.u,.u,.u,.u,.u,.u,.u,.u,.u,.u,.u,.u,.u,.u,.u,.u,.u,.u,.u,.u,.u,.u,.u,.u,.u,.u,.u,.u,.u,.u,.u,.u,.u,.u,.u,.u,.u,.u,.u,.u,.u,.u,.u,.u,.u,.u,.u,.u,.u,.u,.u,.u,.u,.u,.u,.u,.u,.u,.u,.u,.u,.u,.u,.u,.u,.u,.u,.u,.u,.u,.u,.u,.u,.u,.u,.u,.u,.u,.u,.u,.u,.u,.u,.u,.u,.u,.u,cx,cf,cf,db,.v Kq,.yld 1700008,.u,.u,.u,.u,.u]
def fb:FK:=.fn 238 [(1000001,0)]
def cj:List (List FK):=[us [cz,.u,fb,.u,.u,.u,bX,bX,.u,.u,.u,.u,.u,.u,.u,.u,.u,.u,.u,.u,.u,.u,.u,.u,.u,.u,.u,.u,.u,.u,.u,.u,.u,.u,.u,.u,.u,fb] 16,[.u,cX,.u,.u,.u,.u,.u,cz,fb,.u],b8]
def cm:HK:=.box 2000001 141 [db]
def dt:List FK:=[bX,bX,bX,bX,cf]
def fp:HK:=.box 3000006 138 dt
def dk:HK:=.arr 3500003 (.int .u8)
def eN:HK:=.box 3000003 49 [.nils]
def de:List FK:=[.yld 1700009]
def fq:HK:=.box 3000002 180 de
def cq:HK:=.mp 2000009 .i64 .i64
def cV:HK:=.arr 1500004 (.int .u8)
def ct:HK:=.box 1000004 51 [.slf 1000004,.slc 1500004]
def cY:HK:=.box 1000003 4 [cf]
def dj:HK:=.box 1000002 9 [b9]
def co:List HK:=[.arr 4800009 (.int .u8),fp,dk,eN,fq,ce,cq,cm,.lp 1700009 56 (ca) [9] 4 0 a7,cV,ct,cY,dj]
def cr:HK:=.arr 1500003 (.int .u8)
def dq:HK:=.arr 1000012 (.pair .str tyL)
def cw:List HK:=[.box 1000008 138 dt,.arr 1800005 Kq,dq]
def cy:HK:=.box 1000001 115 b8
def cC:FK:=.ptr 1000005 0
def dc:List FK:=[.yld 1700008]
def cJ:List FK:=us [.u,.u,b9,ck] 9
def cD:List HK:=[.arr 4800009 (.int .u8),fp,dk,eN,.box 3000002 180 dc,ce,cq,cm,.lp 1700008 201 (cJ) [8] 4 0 a7,cr,cg]
def cE:List FK:=[bX,bX,bX,bX,b9,cf,b9,bX,bX]
def cG:List HK:=[dk,.box 3000003 49 [.slc 3500003],fq,ce,cq,cm,.lp 1700009 56 (ca) [9] 4 0 a7,cV,ct,cY,dj]
def cI:List FK:=[bX,.v (.list II),cf]
def eI:HK:=.box 1000009 174 [.slc 1500009,.slc 1502009]
def cL:List HK:=[.arr 1502009 dA,.arr 1500009 Kq,eI]
def eK:FK:=.v (.list MR)
def cM:List FK:=[b9,bX,bX,eK,bX,bX,bX,cf,cf]
def dx:FK:=.v (.list Ko)
def fe:HK:=.box 2000001 92 [dx]
def cN:List HK:=[.lp 1700014 200 (us [.u,.u,b9,.u,.u,cC] 15) [14] 5 0 a7,fe,.box 1000005 49 [.slc 1500005],.arr 1500005 (.int .u8)]
def cP:List HK:=[.box 0 174 [.slc 1,.slc 2],.arr 1 Kq,.arr 2 dA]
def cQ:List HK:=[dk,.box 3000003 49 [.slc 3500003],.box 3000002 180 dc,ce,cq,cm,.lp 1700008 201 (cJ) [8] 4 0 a7,cr,cg]
def d5:FK:=.ptr 1000006 0
def cR:List (List FK):=[us [cz,.u,bX,.u,cH,.u,d5,.u,.u,.u,.u,.u,.u,.u,cz,bX] 91,b8]
def cT:List HK:=[.lp 1700007 50 (us [.u,.u,cK,ck] 6) [7] 3 0 a7,fe,cY,.box 1000002 97 [bX,bX]]
def cU:HK:=.box 2000004 168 [.slc 2000002,cf,bX]
def cW:List FK:=[.u,.u,.u,.u,bX]
def c7:List FK:=us [.u,.u,.nils,ck,cH,cC] 13
def ei:HK:=.box 1000005 73 cI
def c8:List HK:=[.box 1000011 73 cI,.box 1000007 73 [bX,.nils,cf],.box 1000006 78 [bX,bX,bX,cf],ei]
def c9:FK:=.v (.int .u8)
def da:List HK:=[ce,cq,cm,.lp 1700008 201 (cJ) [8] 4 0 a7,cr,cg]
def dg:List FK:=us [b9,bX,.u,.u,.u,cC,d5,.ptr 1000007 0,.u,.u,.u,.ptr 1000011 0,.u,.u,bX] 171
def dr:HK:=.box 1000003 73 [bX,.nils,cf]
def du:List (List FK):=[us [.u,.u,b9,.u,.u,cC] 15,[.yld 1700014],[]]
def dv:List HK:=[.box 1000011 73 cI,.box 1000007 73 [bX,.nils,cf],.box 1000006 78 [bX,bX,bX,cf]]
def dy:List (List FK):=[b8]
def d6:List HK:=[.box 1000005 157 [b9,cf]]
def d7:List FK:=us [cz,.u,.u,.u,.u,bX] 102
def d8:List FK:=[b9,bX,.u,.u,.u,.u,.u,.u,.u,b9,bX,.u]
def d9:List FK:=[b9,bX,.u,.u,.u,b9,bX,.u,.u,.u,.u,.u]
def eJ:FK:=.v (.list dA)
def eb:List HK:=[.box 1000003 193 [b9,eJ,cf],.box 1000002 193 [b9,.nils,cf]]
def ec:FK:=.slc 1800004
def ef:List HK:=[bR,cF]
def eg:List FK:=[.u,.u,.u,.u,.u,.u,bX,bX]
def eh:HK:=.arr 2000002 Ko
def fy:HK:=.box 1000006 29 cE
def ej:List HK:=[.arr 2800005 MR,fy,.box 1000004 29 cE,.box 0 90 cM]
def ek:List HK:=[.arr 1200482 o8,.box 1000024 82 [.v ru,b9,.slc 1200482,bX,bX,bX]]
def em:List (List FK):=[us [.u,.u,cK,ck] 6,[.yld 1700007],[]]
def en:List FK:=us [.u,.u,.u,db,.u,.u,.u,.u,.u,.u,.u,.u,.u,.u,.u,.v MS,bX,bX] 14
def eo:FK:=.slc 1000012
def er:List FK:=[.u,.u,bX]
def ev:List FK:=us [.u,.u,.u,.u,.u,.u,.u,bX] 25
def ey:List FK:=us [] 13
def ez:List FK:=us [.u,.u,.v MS] 119
def eC:List (List FK):=[us [b9,.u,cK,ck,cH,.u,b9] 9,[]]
def eD:FK:=.slc 1800005
def eM:FK:=.v (.list o8)
def eO:List FK:=[b9,bX,.u,.u,.u,b9,bX,.u]
def eR:List HK:=[eh,.box 0 168 [.slc 2000002,cf,bX],.arr 1 Ko]
def eS:List HK:=[.box 2000003 1 [.mfn 273 [(0,0)]],cy,cF,bR]
def eT:List HK:=[.box 2000003 1 [.mfn 274 [(0,0)]],cy,cF,bR]
def eV:List HK:=[.box 2000003 1 [.mfn 275 [(0,0)]],cy,cF,bR]
def eW:List HK:=[.box 2000003 1 [.mfn 276 [(0,0)]],cy,cF,bR]
def eZ:List HK:=[.box 2000003 1 [.mfn 277 [(0,0)]],cy,cF,bR]
def fa:List HK:=[.box 2000003 1 [.mfn 272 [(0,0)]],cy,cF,bR]
def fc:List FK:=[cz,.u,.u,bX]
def ff:FK:=.ptr 1000009 0
def fg:FK:=.ptr 2000004 0
def fh:FK:=.ptr 1000008 0
def fk:List FK:=us [b9,.u,.u,.u,.u,cC,.u,.u,.u,bX,bX] 63
def fm:HK:=.box 1000004 138 dt
def fu:List FK:=[.u,.u,b9]
def fw:List FK:=us [cX] 12
def fx:List FK:=[cz,.u,bX]
def fz:List HK:=[.box 0 168 [.slc 1,cf,bX],.arr 1 Ko]
def Ht:SP:=⟨us [c9,.u,.u,.u,.u,.u,.u,.u,.u,.u,.u,.u,.u,.u,.u,.u,.u,.u,cf] 29,[]⟩
def uk:SP:=⟨us [c9] 47,[]⟩
def um:SP:=⟨us er 45,[]⟩
def FV {d:Type} (e f:Int->Option d) (g:Int) (i:Bool):Option d:=cond i (f 5)<|e g
def mi (d:Int) (e:Bool):Option (uk.den⊕um.den):=FV (fun f=>a6 (.inl ((f,()),()))) (fun g=>a6 (.inr ((g,()),()))) d e
noncomputable def Oq:dD:=gu Bo Ht uk um (.exit 999999) (fun v=>mi v.1.1 v.1.2.1) 6
def Hy:SP:=⟨[.u,.u,.u,.u,.u,.u,.u,.u,.u,.u,.u,.u,.u,.u,.u,.u,.u,.u,.u,.u,.u,.u,.u,.u,.u,.u,.u,.u,.u,.u,.u,.u,.u,.u,.u,.u,.u,.u,.u,.u,.u,.u,cf,.u,.u,.u,.u,.u],[]⟩
def yF:SP:=⟨us [] 48,[]⟩
def yK:SP:=⟨us er 45,[]⟩
def FZ {d:Type} (e:Option d) (f:Int->Option d) (g:Bool):Option d:=cond g (f 4) e
def mr (d:Bool):Option (yF.den⊕yK.den):=FZ (a6 (.inl ((),()))) (fun e=>a6 (.inr ((e,()),()))) d
noncomputable def Ov:dD:=gu Bz Hy yF yK (.exit 999999) (fun v=>mr v.1.1) 12
def Hw:SP:=⟨us [.u,.u,.u,.u,.u,.u,.u,.u,.u,.u,.u,.u,.u,.u,.u,.u,.u,.u,.u,.u,.u,.u,.u,.u,.u,.u,.u,.u,.u,.u,.u,.u,.u,c9,cf] 13,[]⟩
def yE:SP:=⟨us [] 48,[]⟩
def yJ:SP:=⟨us er 45,[]⟩
def FY {l:Type} (i:Option l) (g:Int->Option l) (d:Int) (m:Bool):Option l:=cond m (g 3)<|cond (bY d 92) (bJ (mr (bY d 92)) fun e=>dR e (fun j=>i) (fun f=>g f.1.1))<|cond (bY d 39) (bJ (mr (bY d 39)) fun e=>dR e (fun j=>i) (fun f=>g f.1.1))<|cond (bY d 34) (bJ (mr (bY d 34)) fun e=>dR e (fun j=>i) (fun f=>g f.1.1))<|cond (bY d 96) (bJ (mr (bY d 96)) fun e=>dR e (fun j=>i) (fun f=>g f.1.1))<|bJ (mr (bY d 36)) fun e=>dR e (fun j=>i) (fun f=>g f.1.1)
def jX (d:Int) (e:Bool):Option (yE.den⊕yJ.den):=FY (a6 (.inl ((),()))) (fun f=>a6 (.inr ((f,()),()))) d e
noncomputable def Ou:dD:=gu Bv Hw yE yJ (.exit 999999) (fun v=>jX v.1.1 v.1.2.1) 18
def Hu:SP:=⟨us [c9] 47,[]⟩
def yD:SP:=⟨[],[]⟩
def yI:SP:=⟨us er 45,[]⟩
def FX {j:Type} (l:Option j) (e:Int->Option j) (d:Int):Option j:=cond (bY d 124) (bJ (jX d (bY d 124)) fun f=>dR f (fun i=>e 0) (fun g=>e g.1.1))<|cond (bY d 38) (bJ (jX d (bY d 38)) fun f=>dR f (fun i=>e 0) (fun g=>e g.1.1))<|cond (bY d 59) (bJ (jX d (bY d 59)) fun f=>dR f (fun i=>e 0) (fun g=>e g.1.1))<|cond (bY d 60) (bJ (jX d (bY d 60)) fun f=>dR f (fun i=>e 0) (fun g=>e g.1.1))<|cond (bY d 62) (bJ (jX d (bY d 62)) fun f=>dR f (fun i=>e 0) (fun g=>e g.1.1))<|cond (bY d 40) (bJ (jX d (bY d 40)) fun f=>dR f (fun i=>e 0) (fun g=>e g.1.1))<|bJ (jX d (bY d 41)) fun f=>dR f (fun i=>e 0) (fun g=>e g.1.1)
def yh (d:Int):Option (yD.den⊕yI.den):=FX (a6 (.inl ((),()))) (fun e=>a6 (.inr ((e,()),()))) d
noncomputable def Ot:dD:=gu Bq Hu yD yI (.exit 0) (fun v=>yh v.1.1) 24
def NG (d:uk.den⊕um.den):Option AQ:=dR d (fun e=>bJ (yh e.1.1) fun f=>dR f (fun j=>a7) (fun g=>a6 (g.1.1,()))) (fun i=>a6 (i.1.1,()))
def TP (d:Int):Option AQ:=cond (leI 65 d) (cond (leI d 90) (bJ (mi d (leI d 90)) fun e=>NG e)<|bJ (mi d (bY d 95)) fun e=>NG e)<|bJ (mi d (bY d 95)) fun e=>NG e
def amn (d:Int):Option AQ:=cond (bY d 10) (a6 (2,()))<|cond (leI 48 d) (cond (leI d 57) (a6 (6,()))<|cond (leI 97 d) (cond (leI d 122) (bJ (mi d (leI d 122)) fun e=>NG e)<|TP d)<|TP d)<|cond (leI 97 d) (cond (leI d 122) (bJ (mi d (leI d 122)) fun e=>NG e)<|TP d)<|TP d
def Ku (d:Int):Option AQ:=cond (bY d 32) (cond (bY d 32) (a6 (1,()))<|amn d)<|cond (bY d 9) (a6 (1,()))<|amn d
def alB:Sum:=⟨[.int .u8],U7,fun x=>Ku x.1⟩
noncomputable def sH:Env:=jm prog tt 125 [] [(800011,Bo),(800012,Bq),(800020,Bv),(800026,Bz)] [(800011,Oq),(800026,Ov),(800020,Ou),(800012,Ot)]
theorem Yg {R:Type} (d:Nat) (K:Ex->St->Option R) (e:Int) (f:Bool):
  iter (a6 Bo) (zH (xx sH (d+6) 125 A7)) 1 (lg Ht ((e,f,()),())) K=
   FV (fun g=>K (.exit 999999) (lg uk ((g,()),()))) (fun i=>K .ret (lg um ((i,()),()))) e f:=by kernel_rfl
theorem acl {R:Type} (d:Nat) (K:Ex->St->Option R) (e:Int) (f:Bool):
  iter (a6 Bo) (zH (xx sH (d+6) 125 A7)) 1 (lg Ht ((e,f,()),())) K=bJ (mi e f) fun o=>dR o (fun a=>K (.exit 999999) (lg uk a)) fun b=>K .ret (lg um b):=by
  rw[Yg];simp only[mi,FV,dm,dn,bI,di,dw]
  try simp only[dR]
theorem acI:tH sH 125 A7 Oq:=GL (by kernel_rfl) fun R d K v o h=>⟨1,(acl d K (v.1.1) (v.1.2.1)).trans (congrArg (fun o=>bJ o _) h)⟩
theorem Yj {R:Type} (d:Nat) (K:Ex->St->Option R) (e:Bool):
  iter (a6 Bz) (zH (xx sH (d+12) 125 Bc)) 1 (lg Hy ((e,()),())) K=
   FZ (K (.exit 999999) (lg yF ((),()))) (fun f=>K .ret (lg yK ((f,()),()))) e:=by kernel_rfl
theorem aco {R:Type} (d:Nat) (K:Ex->St->Option R) (e:Bool):
  iter (a6 Bz) (zH (xx sH (d+12) 125 Bc)) 1 (lg Hy ((e,()),())) K=bJ (mr e) fun o=>dR o (fun a=>K (.exit 999999) (lg yF a)) fun b=>K .ret (lg yK b):=by
  rw[Yj];simp only[mr,FZ,dm,dn,bI,di,dw]
  try simp only[dR]
theorem acL:tH sH 125 Bc Ov:=GL (by kernel_rfl) fun R d K v o h=>⟨1,(aco d K (v.1.1)).trans (congrArg (fun o=>bJ o _) h)⟩
theorem Yi {R:Type} (d:Nat) (K:Ex->St->Option R) (e:Int) (f:Bool):
  iter (a6 Bv) (zH (xx sH (d+18) 125 Ba)) 1 (lg Hw ((e,f,()),())) K=
   FY (K (.exit 999999) (lg yE ((),()))) (fun g=>K .ret (lg yJ ((g,()),()))) e f:=by kernel_rfl
theorem acn {R:Type} (d:Nat) (K:Ex->St->Option R) (e:Int) (f:Bool):
  iter (a6 Bv) (zH (xx sH (d+18) 125 Ba)) 1 (lg Hw ((e,f,()),())) K=bJ (jX e f) fun o=>dR o (fun a=>K (.exit 999999) (lg yE a)) fun b=>K .ret (lg yJ b):=by
  rw[Yi];simp only[jX,FY,dm,dn,bI,di,dw]
  try simp only[dR]
theorem acK:tH sH 125 Ba Ou:=GL (by kernel_rfl) fun R d K v o h=>⟨1,(acn d K (v.1.1) (v.1.2.1)).trans (congrArg (fun o=>bJ o _) h)⟩
theorem Yh {R:Type} (d:Nat) (K:Ex->St->Option R) (e:Int):
  iter (a6 Bq) (zH (xx sH (d+24) 125 A8)) 1 (lg Hu ((e,()),())) K=
   FX (K (.exit 0) (lg yD ((),()))) (fun f=>K .ret (lg yI ((f,()),()))) e:=by kernel_rfl
theorem acm {R:Type} (d:Nat) (K:Ex->St->Option R) (e:Int):
  iter (a6 Bq) (zH (xx sH (d+24) 125 A8)) 1 (lg Hu ((e,()),())) K=bJ (yh e) fun o=>dR o (fun a=>K (.exit 0) (lg yD a)) fun b=>K .ret (lg yI b):=by
  rw[Yh];simp only[yh,FX,dm,dn,bI,di,dw]
  try simp only[dR]
theorem acJ:tH sH 125 A8 Ot:=GL (by kernel_rfl) fun R d K v o h=>⟨1,(acm d K (v.1.1)).trans (congrArg (fun o=>bJ o _) h)⟩
theorem aHh:jF afN=[]:=by kernel_rfl
theorem aGC:D7 sH 125 afN=[A7,A8,Ba,Bc]:=by kernel_rfl
theorem aHw:dO sH 125 afN:=wY afN (fun x _ d=>absurd (show false=true from d) (by decide)) (by rw[aHh];exact aN) (yf (by rw[aGC];exact(aD (fC (by kernel_rfl) (acI)) (aD (fC (by kernel_rfl) (acJ)) (aD (fC (by kernel_rfl) (acK)) (aD (fC (by kernel_rfl) (acL)) aN))))))
theorem aqm:fK sH:=eA f125 aN (aHw)
theorem vF:dU prog 125 alB:=sA aqm
def Kw (e:Int):Option vJ:=bJ (Ku e) fun d=>cond (bY d.1 1) (cond (bY d.1 1) (a6 (true,()))<|some (false,()))<|cond (bY d.1 2) (cond (bY d.1 2) (a6 (true,()))<|some (false,()))<|cond (bY d.1 3) (a6 (true,()))<|some (false,())
def aJX:Sum:=⟨[.int .u8],YI,fun x=>Kw x.1⟩
theorem aa0:dU prog 227 aJX:=qA f227 [] (sE vF aN)
def NH (d:Int) (e:List lL) (f:Int):Option (taO×(Unit)):=bJ (Kw d) fun g=>a6 ((e,(g.1,(f,()))),())
def ZR (f:List lL) (i:Bool) (g l e:Int):Option (taO×(Unit)):=cond (bY e 92) (bJ (zM f i g 13) fun d=>a6 ((d.1.1,(d.1.2.1,(d.1.2.2.1,()))),()))<|cond (bY e 35) (cond i (bJ (zM f i g 14) fun d=>a6 ((d.1.1,(d.1.2.1,(d.1.2.2.1,()))),()))<|NH e f g)<|cond (bY e 40) (cond (!(bY l 0)) (bJ (zM f i g 2) fun d=>bJ (Kw e) fun j=>a6 ((d.1.1,(j.1,(d.1.2.2.1,()))),()))<|NH e f g)<|cond (bY e 41) (cond (!(bY l 0)) (bJ (zL f i g) fun d=>a6 ((d.1.1,((!(bY l 1)),(d.1.2.2.1,()))),()))<|some ((f,((!(bY l 1)),(g,()))),()))<|cond (bY e 39) (bJ (zM f i g 4) fun d=>bJ (Kw e) fun j=>a6 ((d.1.1,(j.1,(d.1.2.2.1,()))),()))<|cond (bY e 34) (bJ (zM f i g 5) fun d=>bJ (Kw e) fun j=>a6 ((d.1.1,(j.1,(d.1.2.2.1,()))),()))<|cond (bY e 36) (cond (bY e 36) (bJ (We f i g e) fun d=>bJ (Kw e) fun j=>a6 ((d.1.1,(j.1,(d.1.2.2.1,()))),()))<|NH e f g)<|cond (bY e 96) (bJ (We f i g e) fun d=>bJ (Kw e) fun j=>a6 ((d.1.1,(j.1,(d.1.2.2.1,()))),()))<|NH e f g
def aJD:fZ:=⟨168,tzD,[dA,.int .u8],[],fun x y=>ZR x.1 x.2.1 x.2.2.1 y.1 y.2.1⟩
theorem asE:dQ prog 176 aJD:=qB [] (sE aa0 aN) (sF zx (sF EC (sF Rh aN)))
def amw (g:List lL) (i:Bool) (j l f:Int):Option (taO×(Unit)):=bJ (We g i j f) fun d=>cond d.2.1 (a6 ((d.1.1,(d.1.2.1,(d.1.2.2.1,()))),()))<|cond (bY f 40) (bJ (zM d.1.1 d.1.2.1 d.1.2.2.1 10) fun e=>a6 ((e.1.1,(e.1.2.1,(e.1.2.2.1,()))),()))<|cond (bY f 41) (cond (bY l 10) (bJ (zL d.1.1 d.1.2.1 d.1.2.2.1) fun e=>a6 ((e.1.1,(e.1.2.1,(e.1.2.2.1,()))),()))<|cond (bY f 41) (bJ (xP d.1.1 d.1.2.1 d.1.2.2.1 11) fun e=>a6 ((e.1.1,(e.1.2.1,(e.1.2.2.1,()))),()))<|some ((d.1.1,(d.1.2.1,(d.1.2.2.1,()))),()))<|cond (bY f 41) (bJ (xP d.1.1 d.1.2.1 d.1.2.2.1 11) fun e=>a6 ((e.1.1,(e.1.2.1,(e.1.2.2.1,()))),()))<|some ((d.1.1,(d.1.2.1,(d.1.2.2.1,()))),())
def aJF:fZ:=⟨168,tzD,[dA,.int .u8],[],fun x y=>amw x.1 x.2.1 x.2.2.1 y.1 y.2.1⟩
theorem asF:dQ prog 178 aJF:=qB [] aN (sF QZ (sF zx (sF EC (sF Rh aN))))
def abZ (f g:Int) (d:(taO×vJ)):Option (taO×(Unit)):=cond (bY f 39) (cond (bY g 7) (bJ (zM d.1.1 d.1.2.1 d.1.2.2.1 4) fun e=>a6 ((e.1.1,(e.1.2.1,(e.1.2.2.1,()))),()))<|some ((d.1.1,(d.1.2.1,(d.1.2.2.1,()))),()))<|some ((d.1.1,(d.1.2.1,(d.1.2.2.1,()))),())
def ab1 (f:Int) (d:(taO×vJ)) (g:Int):Option (taO×(Unit)):=cond (bY f 34) (bJ (zM d.1.1 d.1.2.1 d.1.2.2.1 5) fun e=>a6 ((e.1.1,(e.1.2.1,(e.1.2.2.1,()))),()))<|cond (bY f 125) (cond (!(bY g 5)) (bJ (zL d.1.1 d.1.2.1 d.1.2.2.1) fun e=>a6 ((e.1.1,(e.1.2.1,(e.1.2.2.1,()))),()))<|abZ f g d)<|abZ f g d
def amx (i:List lL) (j:Bool) (l f e:Int):Option (taO×(Unit)):=bJ (We i j l e) fun d=>cond d.2.1 (a6 ((d.1.1,(d.1.2.1,(d.1.2.2.1,()))),()))<|cond (bY e 34) (cond (bY f 5) (bJ (zL d.1.1 d.1.2.1 d.1.2.2.1) fun g=>a6 ((g.1.1,(g.1.2.1,(g.1.2.2.1,()))),()))<|ab1 e d f)<|ab1 e d f
def aJG:fZ:=⟨168,tzD,[dA,.int .u8],[],fun x y=>amx x.1 x.2.1 x.2.2.1 y.1 y.2.1⟩
theorem asG:dQ prog 179 aJG:=qB [] aN (sF zx (sF EC (sF Rh aN)))
def EP (i:Int) (e:List lL) (f:Bool) (g j:Int):Option (taO×(Unit)):=cond (bY i 13) (bJ (zL e f g) fun d=>cond d.1.2.1 (a6 ((d.1.1,((bY j 10),(d.1.2.2.1,()))),()))<|some ((d.1.1,(false,(d.1.2.2.1,()))),()))<|cond (bY i 4) (cond (bY j 39) (bJ (zL e f g) fun d=>a6 ((d.1.1,(d.1.2.1,(d.1.2.2.1,()))),()))<|some ((e,(f,(g,()))),()))<|cond (bY i 14) (cond (bY j 10) (bJ (zL e f g) fun d=>a6 ((d.1.1,(true,(d.1.2.2.1,()))),()))<|some ((e,(f,(g,()))),()))<|cond (bY i 6) (cond (bY j 96) (bJ (zL e f g) fun d=>a6 ((d.1.1,(d.1.2.1,(d.1.2.2.1,()))),()))<|cond (bY j 92) (bJ (zM e f g 13) fun d=>a6 ((d.1.1,(d.1.2.1,(d.1.2.2.1,()))),()))<|some ((e,(f,(g,()))),()))<|cond (bY i 9) (cond (bY i 9) (bJ (amw e f g i j) fun d=>a6 ((d.1.1,(d.1.2.1,(d.1.2.2.1,()))),()))<|bJ (amx e f g i j) fun d=>a6 ((d.1.1,(d.1.2.1,(d.1.2.2.1,()))),()))<|cond (bY i 10) (bJ (amw e f g i j) fun d=>a6 ((d.1.1,(d.1.2.1,(d.1.2.2.1,()))),()))<|bJ (amx e f g i j) fun d=>a6 ((d.1.1,(d.1.2.1,(d.1.2.2.1,()))),())
def RF (f:List lL) (g:Bool) (i d j:Int):Option (taO×(Unit)):=cond (bY d 0) (cond (bY d 0) (bJ (ZR f g i d j) fun e=>a6 ((e.1.1,(e.1.2.1,(e.1.2.2.1,()))),()))<|EP d f g i j)<|cond (bY d 1) (cond (bY d 1) (bJ (ZR f g i d j) fun e=>a6 ((e.1.1,(e.1.2.1,(e.1.2.2.1,()))),()))<|EP d f g i j)<|cond (bY d 2) (bJ (ZR f g i d j) fun e=>a6 ((e.1.1,(e.1.2.1,(e.1.2.2.1,()))),()))<|EP d f g i j
def azA:fZ:=⟨168,tzD,[dA,.int .u8],[],fun x y=>RF x.1 x.2.1 x.2.2.1 y.1 y.2.1⟩
theorem ast:dQ prog 132 azA:=qB [] aN (sF zx (sF asE (sF EC (sF asF (sF asG aN)))))
noncomputable def b84:Code:=(f84.body).getD .skip
noncomputable def al3:Code:=cA (cA (cA (cB (cB (cA (b84))))))
def axa:fJ:=⟨[0,1,100002],[],[0],[],[],[]⟩
def zV:fJ:=⟨[0,1],[],[],[],[],[]⟩
def aoq:SQ:=⟨us [cz,c9] 63,dy,eR⟩
def akK:SQ:=⟨us b8 64,dy,eR⟩
def ala:SQ:=⟨us [] 65,dy,[]⟩
def alv {l:Type} (o:Int->(List lL)->Bool->Int->(List lL)->Option l) (m:(List lL)->Bool->Int->(List lL)->Option l) (p:Option l) (f:Int) (e:List lL) (i:Bool) (j:Int) (g:List lL):Option l:=cond (gy e (eP .i64 (bK e) 1)) (cond (pK (dI (eP .i64 (bK e) 1)) e) (cond (bY (dN e (0,(0,())) (dI (eP .i64 (bK e) 1))).1 12) (bJ (RD e i j f) fun d=>cond d.2.1 (m d.1.1 d.1.2.1 d.1.2.2.1 g)<|o f d.1.1 d.1.2.1 d.1.2.2.1 g)<|cond (bY (dN e (0,(0,())) (dI (eP .i64 (bK e) 1))).1 3) (cond (bY f 40) (bJ (xP e i j 9) fun d=>m d.1.1 false d.1.2.2.1 g)<|bJ (xP e i j 1) fun d=>o f d.1.1 d.1.2.1 d.1.2.2.1 g)<|cond (bY (dN e (0,(0,())) (dI (eP .i64 (bK e) 1))).1 11) (cond (bY f 41) (bJ (zL e i j) fun d=>m d.1.1 d.1.2.1 d.1.2.2.1 g)<|bJ (xP e i j 9) fun d=>o f d.1.1 d.1.2.1 d.1.2.2.1 g)<|bJ (RF e i j (dN e (0,(0,())) (dI (eP .i64 (bK e) 1))).1 f) fun d=>m d.1.1 d.1.2.1 d.1.2.2.1 g) a7) a7
def aj9:Nat->Int->(List lL)->Bool->Int->(List lL)->Option (akK.den⊕ala.den)
 |0,_,_,_,_,_=>a7
 |n+1,d,e,f,g,i=>alv (aj9 n) (fun j l m o=>a6 (.inl ((),((),()),(j,(l,m,()),o,())))) (a6 (.inr ((),((),()),()))) d e f g i
def aIn (n:Nat) (v:aoq.den):=aj9 n v.1.1 v.2.2.1 v.2.2.2.1.1 v.2.2.2.1.2.1 v.2.2.2.2.1
noncomputable def akg:dD:=fP axa aoq akK ala (.exit 0) (aIn bT) 6
def Ue:SQ:=⟨us [cz,c9] 63,dy,fz⟩
def Xy:SQ:=⟨us b8 64,dy,fz⟩
def XG:SQ:=⟨us [] 65,dy,[]⟩
def Iw {j:Type} (m:Int->Bool->Int->(List lL)->Option j) (l:Bool->Int->(List lL)->Option j) (o:Option j) (f:Int) (g:Bool) (i:Int) (e:List lL):Option j:=cond (gy e (eP .i64 (bK e) 1)) (cond (pK (dI (eP .i64 (bK e) 1)) e) (cond (bY (dN e (0,(0,())) (dI (eP .i64 (bK e) 1))).1 12) (bJ (RD e g i f) fun d=>cond d.2.1 (l d.1.2.1 d.1.2.2.1 d.1.1)<|m f d.1.2.1 d.1.2.2.1 d.1.1)<|cond (bY (dN e (0,(0,())) (dI (eP .i64 (bK e) 1))).1 3) (cond (bY f 40) (bJ (xP e g i 9) fun d=>l false d.1.2.2.1 d.1.1)<|bJ (xP e g i 1) fun d=>m f d.1.2.1 d.1.2.2.1 d.1.1)<|cond (bY (dN e (0,(0,())) (dI (eP .i64 (bK e) 1))).1 11) (cond (bY f 41) (bJ (zL e g i) fun d=>l d.1.2.1 d.1.2.2.1 d.1.1)<|bJ (xP e g i 9) fun d=>m f d.1.2.1 d.1.2.2.1 d.1.1)<|bJ (RF e g i (dN e (0,(0,())) (dI (eP .i64 (bK e) 1))).1 f) fun d=>l d.1.2.1 d.1.2.2.1 d.1.1) a7) a7
def Ec:Nat->Int->Bool->Int->(List lL)->Option (Xy.den⊕XG.den)
 |0,_,_,_,_=>a7
 |n+1,d,e,f,g=>Iw (Ec n) (fun i j l=>a6 (.inl ((),((),()),((i,j,()),l,())))) (a6 (.inr ((),((),()),()))) d e f g
def axx (n:Nat) (v:Ue.den):=Ec n v.1.1 v.2.2.1.1 v.2.2.1.2.1 v.2.2.2.1
noncomputable def Xa:dD:=fP axa Ue Xy XG (.exit 0) (axx bT) 12
def arf (e:List lL) (i:Bool) (j g:Int):Option (taO×(Unit)):=cond (bY (bK e) 0) (bJ (aj9 bT g [(0,(0,()))] true 0 e) fun f=>dR f (fun d=>a6 ((d.2.2.1,(d.2.2.2.1.1,((cO .i64 d.2.2.2.1.2.1 1),()))),())) (fun l=>a7))<|bJ (Ec bT g i j e) fun f=>dR f (fun d=>a6 ((d.2.2.2.1,(d.2.2.1.1,((cO .i64 d.2.2.1.2.1 1),()))),())) (fun l=>a7)
def apO:fZ:=⟨168,tzD,[.int .u8],[],fun x y=>arf x.1 x.2.1 x.2.2.1 y.1⟩
noncomputable def af9:Env:=gY prog tt [] [(84,2,axa),(84,600001,zV)] [(84,2,kZ akg Xa)] [] [(129,azv),(130,azy),(131,azz),(132,azA)]
def ayZ {d:Type} (a:aoq.den->Option d) (b:akK.den->Option d) (c:ala.den->Option d) (v:aoq.den):Option d:=alv (fun e f g i j=>a ((e,()),((),()),(f,(g,i,()),j,()))) (fun l m o p=>b ((),((),()),(l,(m,o,()),p,()))) (c ((),((),()),())) v.1.1 v.2.2.1 v.2.2.2.1.1 v.2.2.2.1.2.1 v.2.2.2.2.1
theorem aIY:dX af9 84 al3 akg:=mF (ayZ) (h2:=by intros;simp only[ayZ,alv,dm,dn,bI,di,dw])
def aib {d:Type} (a:Ue.den->Option d) (b:Xy.den->Option d) (c:XG.den->Option d) (v:Ue.den):Option d:=Iw (fun e f g i=>a ((e,()),((),()),((f,g,()),i,()))) (fun j l m=>b ((),((),()),((j,l,()),m,()))) (c ((),((),()),())) v.1.1 v.2.2.1.1 v.2.2.1.2.1 v.2.2.2.1
theorem ayd:dX af9 84 al3 Xa:=mF (aib) (h2:=by intros;simp only[aib,Iw,dm,dn,bI,di,dw])
theorem aMG:dO af9 84 b84:=pI [al3] (aD (fun L h=>by rw[show(af9).lp 84 (dK al3)=a6 (kZ akg Xa) by kernel_rfl]at h;cases h;exact uP aIY ayd) aN)
theorem avu:fK af9:=eB aN [84] (aD ⟨f84,b84,by kernel_rfl,by kernel_rfl,aMG⟩ aN) (hx:=(aD ass (aD QZ (aD zx (aD ast aN)))))
theorem Yu:dQ prog 84 apO:=sB avu
def ZT (d:Int):Option AQ:=cond (bY d 3) (a6 (1,()))<|cond (bY d 11) (a6 (9,()))<|some (d,())
def azJ:Sum:=⟨[dA],U7,fun x=>ZT x.1⟩
theorem asI:dU prog 182 azJ:=qA f182 [] aN
noncomputable def aBa:Code:=(f136.body).getD .skip
noncomputable def atQ:Code:=cA (cA (cB (cA (cB (aBa)))))
noncomputable def atS:Code:=cA (cA (cB (cB (cB (aBa)))))
def awK:fJ:=⟨[0,1,2,6,100002],[],[0,1],[],[],[]⟩
def awL:fJ:=⟨[0,77,78,79,100009],[],[],[],[],[]⟩
def acZ:SQ:=⟨us [cz,dx,bX,.u,.u,.u,bX] 141,dy,cP⟩
def adC:SQ:=⟨us [cz,dx] 146,dy,cP⟩
def aec:SQ:=⟨us [] 148,dy,[]⟩
def jK (d:iG) (e:Int):=dN d 0 (dI (eP .i64 e 1))
def zl (d:List iM) (e:iG) (f g:Int):=iR d (dI (jK e f)) ((dN d (0,(0,(0,(0,(false,()))))) (dI (jK e f))).1,((dN d (0,(0,(0,(0,(false,()))))) (dI (jK e f))).2.1,((cO .i64 g 1),((dN d (0,(0,(0,(0,(false,()))))) (dI (jK e f))).2.2.2.1,((dN d (0,(0,(0,(0,(false,()))))) (dI (jK e f))).2.2.2.2.1,())))))
def zn (f:List iM) (d:iG) (e g:Int):=dN (zl f d e g) (0,(0,(0,(0,(false,()))))) (dI (jK d e))
def JG {i:Type} (f:List iM) (e:iG) (d g:Int) (j:(List lL)->Int->Int->(List iM)->iG->Option i) (l:List lL):Option i:=cond (gy f (jK e d)) (cond (pK (dI (jK e d)) f) (cond (gy (zl f e d g) (jK e d)) (cond (pK (dI (jK e d)) (zl f e d g)) (cond (eY (bK e) 0 (eP .i64 d 1)) (j l g (eP .i64 d 1) (iR (zl f e d g) (dI (jK e d)) ((zn f e d g).1,((zn f e d g).2.1,((zn f e d g).2.2.1,((zn f e d g).2.2.2.1,(false,())))))) (takeN e (dI (eP .i64 d 1)))) a7) a7) a7) a7) a7
def UE {i:Type} (j:(List lL)->Int->Int->(List iM)->iG->Option i) (l:(List lL)->(List iM)->iG->Option i) (o:Option i) (f:List lL) (m d:Int) (g:List iM) (e:iG):Option i:=cond (iF 0 d) (cond (gy e (eP .i64 d 1)) (cond (pK (dI (eP .i64 d 1)) e) (cond (leI d (bK f)) (cond (gy f (eP .i64 d 1)) (cond (gy g (jK e d)) (cond (pK (dI (jK e d)) g) (cond (bY (ed f (0,(0,())) (eP .i64 d 1)).2.1 (dN g (0,(0,(0,(0,(false,()))))) (dI (jK e d))).2.1) (l f g e)<|JG g e d m j f) a7) a7) a7)<|JG g e d m j f) a7) a7)<|l f g e
def Oa:Nat->(List lL)->Int->Int->(List iM)->iG->Option (adC.den⊕aec.den)
 |0,_,_,_,_,_=>a7
 |n+1,d,e,f,g,i=>UE (Oa n) (fun j l m=>a6 (.inl ((j,()),((),()),((),l,m,())))) (a6 (.inr ((),((),()),()))) d e f g i
def aCz (n:Nat) (v:acZ.den):=Oa n v.1.1 v.1.2.1 v.1.2.2.1 v.2.2.2.1 v.2.2.2.2.1
noncomputable def anq:dD:=fP awK acZ adC aec (.exit 0) (aCz bT) 6
def ac0:SQ:=⟨us [cz,.u,.u,.u,.u,.u,.u,.u,.u,.u,.u,.u,.u,.u,.u,.u,.u,.u,.u,.u,.u,.u,.u,.u,.u,.u,.u,.u,.u,.u,.u,.u,.u,.u,.u,.u,.u,.u,.u,.u,.u,.u,.u,.u,.u,.u,.u,.u,.u,.u,.u,.u,.u,.u,.u,.u,.u,.u,.u,.u,.u,.u,.u,.u,.u,.u,.u,.u,.u,.u,.u,.u,.u,.u,.u,.u,.u,dx,bX,bX] 68,dy,cP⟩
def adD:SQ:=⟨us [] 148,dy,cP⟩
def aed:SQ:=⟨us [] 148,dy,[]⟩
def lK (d:List iM) (e:iG) (f:Int):=dN d (0,(0,(0,(0,(false,()))))) (dI (dN e 0 (dI f)))
def nO (d:List lL) (e:Int):=bY (ed d (0,(0,())) e).2.1 (ed d (0,(0,())) e).2.1
def nP (d:List lL) (e:Int):=bY (ed d (0,(0,())) e).1 (ed d (0,(0,())) e).1
def F6 {j:Type} (m:(List lL)->Int->Int->(List iM)->iG->Option j) (o:(List iM)->iG->Option j) (p:Option j) (g:List lL) (l d:Int) (f:List iM) (e:iG):Option j:=cond (iF d l) (cond (gy g d) (cond (iF d (bK e)) (cond (gy e d) (cond (pK (dI d) e) (bJ (ZT (ed g (0,(0,())) d).1) fun i=>cond (gy f (dN e 0 (dI d))) (cond (pK (dI (dN e 0 (dI d))) f) (cond (gy (iR f (dI (dN e 0 (dI d))) (i.1,((lK f e d).2.1,((lK f e d).2.2.1,((lK f e d).2.2.2.1,((lK f e d).2.2.2.2.1,())))))) (dN e 0 (dI d))) (cond ((eqN (dI (dN e 0 (dI d))) (dI (dN e 0 (dI d))))&&true) (m g l (cO .i64 d 1) (iR f (dI (dN e 0 (dI d))) (i.1,((lK f e d).2.1,((lK f e d).2.2.1,((lK f e d).2.2.2.1,((lK f e d).2.2.2.2.1,())))))) e) a7) a7) a7) a7) a7) a7)<|cond (iF 0 d) (cond (gy e (eP .i64 d 1)) (cond (pK (dI (eP .i64 d 1)) e) (cond (eu (bU e [(bK f)]) 8) (cond (bY (bK f) (bK f)) (bJ (ZT (ed g (0,(0,())) d).1) fun i=>cond (nP g d) (cond (nO g d) (cond (bY (dN e 0 (dI (eP .i64 d 1))) (dN e 0 (dI (eP .i64 d 1)))) (cond (((nP g d)&&true)&&((bY i.1 i.1)&&true)) (cond (eu (bU f [(i.1,((ed g (0,(0,())) d).2.1,(0,((dN e 0 (dI (eP .i64 d 1))),(true,())))))]) 40) (cond (nP g d) (cond (nO g d) (cond (bY (dN e 0 (dI (eP .i64 d 1))) (dN e 0 (dI (eP .i64 d 1)))) (cond ((bY i.1 i.1)&&((nO g d)&&((bY 0 0)&&((bY (dN e 0 (dI (eP .i64 d 1))) (dN e 0 (dI (eP .i64 d 1))))&&((jM true true)&&true))))) (m g l (cO .i64 d 1) (bU f [(i.1,((ed g (0,(0,())) d).2.1,(0,((dN e 0 (dI (eP .i64 d 1))),(true,())))))]) (bU e [(bK f)])) a7) a7) a7) a7) a7) a7) a7) a7) a7) a7) a7) a7) a7)<|cond (eu (bU e [(bK f)]) 8) (cond (bY (bK f) (bK f)) (bJ (ZT (ed g (0,(0,())) d).1) fun i=>cond (nP g d) (cond (nO g d) (cond (bY (-1) (-1)) (cond (((nP g d)&&true)&&((bY i.1 i.1)&&true)) (cond (eu (bU f [(i.1,((ed g (0,(0,())) d).2.1,(0,((-1),(true,())))))]) 40) (cond (nP g d) (cond (nO g d) (cond (bY (-1) (-1)) (cond ((bY i.1 i.1)&&((nO g d)&&((bY 0 0)&&((bY (-1) (-1))&&((jM true true)&&true))))) (m g l (cO .i64 d 1) (bU f [(i.1,((ed g (0,(0,())) d).2.1,(0,((-1),(true,())))))]) (bU e [(bK f)])) a7) a7) a7) a7) a7) a7) a7) a7) a7) a7) a7) a7)<|o f e
def vS:Nat->(List lL)->Int->Int->(List iM)->iG->Option (adD.den⊕aed.den)
 |0,_,_,_,_,_=>a7
 |n+1,d,e,f,g,i=>F6 (vS n) (fun j l=>a6 (.inl ((),((),()),((),j,l,())))) (a6 (.inr ((),((),()),()))) d e f g i
def aCA (n:Nat) (v:ac0.den):=vS n v.1.1 v.1.2.1 v.1.2.2.1 v.2.2.2.1 v.2.2.2.2.1
noncomputable def anr:dD:=fP awL ac0 adD aed (.exit 2) (aCA bT) 12
def agr (i:List iM) (f:iG) (d:List lL) (j:Int):Option (((List iM)×iG×Unit)×(Unit)):=cond (eY (bK d) 1 (bK d)) (bJ (Oa bT (sub d 1 (bK d)) j (bK f) i f) fun l=>dR l (fun e=>bJ (vS bT e.1.1 (bK e.1.1) 0 e.2.2.2.1 e.2.2.2.2.1) fun m=>dR m (fun g=>a6 ((g.2.2.2.1,(g.2.2.2.2.1,())),())) (fun o=>a7)) (fun p=>a7)) a7
def azB:fZ:=⟨174,[(.list Kq,true),(.list dA,true)],[.list Ko,dA],[],fun x y=>agr x.1 x.2.1 y.1 y.2.1⟩
noncomputable def abL:Env:=gY prog tt [(182,azJ)] [(136,2,awK),(136,9,awL)] [(136,2,anq),(136,9,anr)] []
def aoU {d:Type} (a:acZ.den->Option d) (b:adC.den->Option d) (c:aec.den->Option d) (v:acZ.den):Option d:=UE (fun e f g i j=>a ((e,f,g,()),((),()),((),i,j,()))) (fun l m o=>b ((l,()),((),()),((),m,o,()))) (c ((),((),()),())) v.1.1 v.1.2.1 v.1.2.2.1 v.2.2.2.1 v.2.2.2.2.1
theorem aDj:dX abL 136 atQ anq:=mF (aoU) (h2:=by intros;simp only[aoU,UE,dm,dn,bI,di,dw,jK,zl,zn,JG])
def aoV {d:Type} (a:ac0.den->Option d) (b:adD.den->Option d) (c:aed.den->Option d) (v:ac0.den):Option d:=F6 (fun e f g i j=>a ((e,f,g,()),((),()),((),i,j,()))) (fun l m=>b ((),((),()),((),l,m,()))) (c ((),((),()),())) v.1.1 v.1.2.1 v.1.2.2.1 v.2.2.2.1 v.2.2.2.2.1
theorem aDk:dX abL 136 atS anr:=mF (aoV) (h2:=by intros;simp only[aoV,F6,dm,dn,bI,di,dw,lK,nO,nP])
theorem aHy:dO abL 136 aBa:=pI [atQ,atS] (aD (fM (aDj)) (aD (fM (aDk)) aN))
theorem aqr:fK abL:=eB (aD asI aN) [136] (aD ⟨f136,aBa,by kernel_rfl,by kernel_rfl,aHy⟩ aN)
theorem asu:dQ prog 136 azB:=sB aqr
def agu (d:Int):Option vJ:=bJ (Ku d) fun e=>a6 ((bY e.1 6),())
def alE:Sum:=⟨[.int .u8],YI,fun x=>agu x.1⟩
theorem aaR:dU prog 170 alE:=qA f170 [] (sE vF aN)
noncomputable def Vk:Code:=(Tryz.f169.body).getD .skip
noncomputable def Vy:Code:=cA (cA (cA (cB (cB (cB (cA (cB (Vk))))))))
def zU:fJ:=⟨[0,1,2,7,180000004],[],[7],[],[6],[]⟩
def RU:fJ:=⟨[0,1,2,7],[],[],[],[],[]⟩
def Fj:SQ:=⟨us [b9,bX,.fn 170 [],.u,.u,.u,.u,bX] 25,[eO,[]],[]⟩
def H5:SQ:=⟨ev,[eO,[]],[]⟩
def Ib:SQ:=⟨us [] 33,[eO,[]],[]⟩
def BQ {e:Type} (p:bV->Int->Int->bV->Int->bV->Int->Option e) (o:Int->bV->Int->bV->Int->Option e) (s:bV->Int->bV->Int->Option e) (f:bV) (g d:Int) (i:bV) (j:Int) (l:bV) (m:Int):Option e:=cond (iF (cO .i64 g d) (bK f)) (cond (gy f (cO .i64 g d)) (bJ (agu (cu f (cO .i64 g d))) fun q=>cond (!q.1) (o d i j l m)<|p f g (cO .i64 d 1) i j l m) a7)<|o d i j l m
def sV:Nat->bV->Int->Int->bV->Int->bV->Int->Option (H5.den⊕Ib.den)
 |0,_,_,_,_,_,_,_=>a7
 |n+1,d,e,f,g,i,j,l=>BQ (sV n) (fun m o p q s=>a6 (.inl ((m,()),((o,p,q,s,()),(),()),()))) (fun u v x y=>a6 (.inr ((),((u,v,x,y,()),(),()),()))) d e f g i j l
def ahe (n:Nat) (v:Fj.den):=ar (sV n) v
noncomputable def Su:dD:=fP zU Fj H5 Ib (.exit 0) (ahe bT) 6
def DY (e:bV) (d:Int):Option AQ:=cond (iF d 0) (a6 (0,()))<|cond (leI (bK e) d) (a6 (0,()))<|bJ (sV bT e d 0 e d e d) fun f=>dR f (fun g=>a6 (g.1.1,())) (fun i=>a7)
def aJs:Sum:=⟨[.str,dA],U7,fun x=>DY x.1 x.2.1⟩
noncomputable def ai1:Env:=gY prog tt [(170,alE)] [(169,4,zU),(127,600001,zV),(169,600006,RU)] [(169,4,Su)] []
def S9 {d:Type} (a:Fj.den->Option d) (b:H5.den->Option d) (c:Ib.den->Option d) (v:Fj.den):Option d:=ar (BQ (fun e f g i j l m=>a ((e,f,g,()),((i,j,l,m,()),(),()),())) (fun o p q s u=>b ((o,()),((p,q,s,u,()),(),()),())) (fun x y z A=>c ((),((x,y,z,A,()),(),()),()))) v
theorem ahy:dX ai1 169 Vy Su:=mF (S9) (h2:=by intros;simp only[S9,ar,BQ,dm,dn,bI,di,dw])
theorem ajW:dO ai1 169 Vk:=pI [Vy] (aD (fM (ahy)) aN)
theorem aqo:fK ai1:=eB (aD aaR aN) [169] (aD ⟨Tryz.f169,Vk,by kernel_rfl,by kernel_rfl,ajW⟩ aN)
theorem QY:dU prog 127 aJs:=sA aqo
def agv (d:Int):Option vJ:=bJ (Ku d) fun e=>a6 ((bY e.1 5),())
def azI:Sum:=⟨[.int .u8],YI,fun x=>agv x.1⟩
theorem asH:dU prog 180 azI:=qA f180 [] (sE vF aN)
noncomputable def Vl:Code:=(Tryz.f169.body).getD .skip
noncomputable def EH:Code:=cA (cA (cA (cB (cB (cB (cA (cB (Vl))))))))
def Fp:SQ:=⟨us [b9,bX,.fn 181 [],.u,.u,.u,.u,bX] 25,[d8,[]],[]⟩
def H6:SQ:=⟨ev,[d8,[]],[]⟩
def Ic:SQ:=⟨us [] 33,[d8,[]],[]⟩
def BR {g:Type} (o:bV->Int->Int->bV->Int->bV->Int->Option g) (p:Int->bV->Int->bV->Int->Option g) (u:bV->Int->bV->Int->Option g) (e:bV) (f d:Int) (i:bV) (j:Int) (l:bV) (m:Int):Option g:=cond (iF (cO .i64 f d) (bK e)) (cond (gy e (cO .i64 f d)) (bJ (agv (cu e (cO .i64 f d))) fun q=>cond q.1 (o e f (cO .i64 d 1) i j l m)<|bJ (agu (cu e (cO .i64 f d))) fun s=>cond (!s.1) (p d i j l m)<|o e f (cO .i64 d 1) i j l m) a7)<|p d i j l m
def qh:Nat->bV->Int->Int->bV->Int->bV->Int->Option (H6.den⊕Ic.den)
 |0,_,_,_,_,_,_,_=>a7
 |n+1,d,e,f,g,i,j,l=>BR (qh n) (fun m o p q s=>a6 (.inl ((m,()),((o,p,q,s,()),(),()),()))) (fun u v x y=>a6 (.inr ((),((u,v,x,y,()),(),()),()))) d e f g i j l
def ahf (n:Nat) (v:Fp.den):=ar (qh n) v
noncomputable def He:dD:=fP zU Fp H6 Ic (.exit 0) (ahf bT) 6
def yw:SQ:=⟨us [b9,bX,.fn 180 [],.u,.u,.u,.u,bX] 25,[d9,[]],[]⟩
def CU:SQ:=⟨ev,[d9,[]],[]⟩
def C9:SQ:=⟨us [] 33,[d9,[]],[]⟩
def wo {e:Type} (p:bV->Int->Int->bV->Int->bV->Int->Option e) (o:Int->bV->Int->bV->Int->Option e) (s:bV->Int->bV->Int->Option e) (f:bV) (g d:Int) (i:bV) (j:Int) (l:bV) (m:Int):Option e:=cond (iF (cO .i64 g d) (bK f)) (cond (gy f (cO .i64 g d)) (bJ (agv (cu f (cO .i64 g d))) fun q=>cond (!q.1) (o d i j l m)<|p f g (cO .i64 d 1) i j l m) a7)<|o d i j l m
def oM:Nat->bV->Int->Int->bV->Int->bV->Int->Option (CU.den⊕C9.den)
 |0,_,_,_,_,_,_,_=>a7
 |n+1,d,e,f,g,i,j,l=>wo (oM n) (fun m o p q s=>a6 (.inl ((m,()),((o,p,q,s,()),(),()),()))) (fun u v x y=>a6 (.inr ((),((u,v,x,y,()),(),()),()))) d e f g i j l
def YW (n:Nat) (v:yw.den):=ar (oM n) v
noncomputable def CB:dD:=fP zU yw CU C9 (.exit 0) (YW bT) 12
def abX (d:Int) (e:bV):Option AQ:=cond (bY 0 0) (a6 (0,()))<|cond (iF d 0) (a6 (0,()))<|cond (leI (bK e) d) (a6 (0,()))<|bJ (qh bT e d 0 e d e d) fun f=>dR f (fun g=>a6 (g.1.1,())) (fun i=>a7)
def V4 (f:bV) (e:Int):Option AQ:=cond (iF e 0) (abX e f)<|cond (leI (bK f) e) (abX e f)<|bJ (oM bT f e 0 f e f e) fun g=>dR g (fun d=>cond (bY d.1.1 0) (a6 (0,()))<|cond (iF d.2.1.1.2.1 0) (a6 (0,()))<|cond (leI (bK d.2.1.1.1) d.2.1.1.2.1) (a6 (0,()))<|bJ (qh bT d.2.1.1.1 d.2.1.1.2.1 0 d.2.1.1.1 d.2.1.1.2.1 d.2.1.1.1 d.2.1.1.2.1) fun i=>dR i (fun j=>a6 (j.1.1,())) (fun l=>a7)) (fun m=>a7)
def aJt:Sum:=⟨[.str,dA],U7,fun x=>V4 x.1 x.2.1⟩
noncomputable def VN:Env:=gY prog tt [(180,azI),(170,alE)] [(169,4,zU),(135,600001,zV),(135,600003,zV),(169,600006,RU)] [(169,4,kZ He CB)] []
def Tc {d:Type} (a:Fp.den->Option d) (b:H6.den->Option d) (c:Ic.den->Option d) (v:Fp.den):Option d:=ar (BR (fun e f g i j l m=>a ((e,f,g,()),((i,j,l,m,()),(),()),())) (fun o p q s u=>b ((o,()),((p,q,s,u,()),(),()),())) (fun x y z A=>c ((),((x,y,z,A,()),(),()),()))) v
theorem ahz:dX VN 169 EH He:=mF (Tc) (h2:=by intros;simp only[Tc,ar,BR,dm,dn,bI,di,dw])
def KI {d:Type} (a:yw.den->Option d) (b:CU.den->Option d) (c:C9.den->Option d) (v:yw.den):Option d:=ar (wo (fun e f g i j l m=>a ((e,f,g,()),((i,j,l,m,()),(),()),())) (fun o p q s u=>b ((o,()),((p,q,s,u,()),(),()),())) (fun x y z A=>c ((),((x,y,z,A,()),(),()),()))) v
theorem Y5:dX VN 169 EH CB:=mF (KI) (h2:=by intros;simp only[KI,ar,wo,dm,dn,bI,di,dw])
theorem ajX:dO VN 169 Vl:=pI [EH] (aD (fun L h=>by rw[show(VN).lp 169 (dK EH)=a6 (kZ He CB) by kernel_rfl]at h;cases h;exact uP ahz Y5) aN)
theorem aqp:fK VN:=eB (aD asH (aD aaR aN)) [169] (aD ⟨Tryz.f169,Vl,by kernel_rfl,by kernel_rfl,ajX⟩ aN)
theorem Q3:dU prog 135 aJt:=sA aqp
def ZP (e:bV) (d:Int):Option AQ:=bJ (V4 e d) fun g=>cond (iF 0 g.1) (a6 (g.1,()))<|cond (iF d 0) (a6 (0,()))<|cond (leI (bK e) d) (a6 (0,()))<|cond (gy e d) (cond (bY (cu e d) 64) (cond (bY (cu e d) 64) (a6 (1,()))<|bJ (DY e d) fun f=>a6 ((LQ f.1 1),()))<|cond (bY (cu e d) 42) (cond (bY (cu e d) 42) (a6 (1,()))<|bJ (DY e d) fun f=>a6 ((LQ f.1 1),()))<|cond (bY (cu e d) 35) (cond (bY (cu e d) 35) (a6 (1,()))<|bJ (DY e d) fun f=>a6 ((LQ f.1 1),()))<|cond (bY (cu e d) 63) (cond (bY (cu e d) 63) (a6 (1,()))<|bJ (DY e d) fun f=>a6 ((LQ f.1 1),()))<|cond (bY (cu e d) 45) (cond (bY (cu e d) 45) (a6 (1,()))<|bJ (DY e d) fun f=>a6 ((LQ f.1 1),()))<|cond (bY (cu e d) 36) (cond (bY (cu e d) 36) (a6 (1,()))<|bJ (DY e d) fun f=>a6 ((LQ f.1 1),()))<|cond (bY (cu e d) 33) (a6 (1,()))<|bJ (DY e d) fun f=>a6 ((LQ f.1 1),())) a7
def azC:Sum:=⟨[.str,dA],U7,fun x=>ZP x.1 x.2.1⟩
theorem asv:dU prog 137 azC:=qA f137 [] (sE Q3 (sE QY aN))
noncomputable def b90:Code:=(f90.body).getD .skip
noncomputable def aEE:Code:=cA (cA (cB (cA (cB (cB (cB (b90)))))))
noncomputable def aut:Code:=cA (cA (cB (cA (cB (cB (cB (cB (b90))))))))
def aE7:fJ:=⟨[0,3,4,12,13,100004],[(100000900,.pair (.list .unit) Kq),(100000901,.pair (.list .unit) dA)],[0,3],[],[2],[(2,Kq)]⟩
def axb:fJ:=⟨[0,3,31,32,100010],[],[3],[],[2],[(2,Kq)]⟩
def axe:fJ:=⟨[0,3],[],[],[],[],[]⟩
def aHe:fJ:=⟨[0,3,4,5,12,13],[],[],[],[],[]⟩
def aos:SP:=⟨us [b9,.u,.u,ff,fg,.u,.u,.u,.u,.u,.u,.u,bX,bX] 65,[cU,eh,.arr 1502009 dA,.arr 1500009 Kq,eI]⟩
def akM:SP:=⟨us [b9,.u,.u,ff] 75,cL⟩
def alc:SP:=⟨us [.u,.u,.v MS] 76,[]⟩
def afh {g:Type} (o:bV->Int->Int->Bool->Int->(List lL)->iG->(List iM)->Option g) (q:bV->iG->(List iM)->Option g) (x:(List iM)->Option g) (f:bV) (j e:Int) (s:Bool) (u:Int) (v:List lL) (l:iG) (m:List iM):Option g:=cond (iF e j) (cond (gy f e) (bJ (arf v s u (cu f e)) fun d=>cond (bY (bK d.1.1) 0) (bJ (agr m l [(0,(0,()))] e) fun i=>o f j (cO .i64 e 1) d.1.2.1 d.1.2.2.1 d.1.1 i.1.2.1 i.1.1)<|bJ (qx d.1.1) fun i=>bJ (agr m l i.1 e) fun p=>o f j (cO .i64 e 1) d.1.2.1 d.1.2.2.1 d.1.1 p.1.2.1 p.1.1) a7)<|q f l m
def WS:Nat->bV->Int->Int->Bool->Int->(List lL)->iG->(List iM)->Option (akM.den⊕alc.den)
 |0,_,_,_,_,_,_,_,_=>a7
 |n+1,d,e,f,g,i,j,l,m=>afh (WS n) (fun o p q=>a6 (.inl ((o,()),(p,q,(),())))) (fun s=>a6 (.inr ((s,()),()))) d e f g i j l m
def aIp (n:Nat) (v:aos.den):=WS n v.1.1 v.1.2.1 v.1.2.2.1 v.2.1.1 v.2.1.2.1 v.2.2.1 v.2.2.2.1 v.2.2.2.2.1
noncomputable def axU:dD:=gu aE7 aos akM alc (.exit 0) (aIp bT) 6
def adw:SP:=⟨us [b9,.u,.u,ff,.u,.u,.u,.u,.u,.u,.u,.u,.u,.u,.u,.u,.u,.u,.u,.u,.u,.u,.u,.u,.u,.u,.u,.u,.u,.u,.u,bX,bX] 46,cL⟩
def ad6:SP:=⟨us [.u,.u,.u,ff] 75,cL⟩
def aeG:SP:=⟨us [.u,.u,.v MS] 76,[]⟩
def fU (d:List iM) (e:Int):=dN d (0,(0,(0,(0,(false,()))))) (dI e)
def kT (d:List iM) (e:Int) (f:bV):=iR d (dI e) ((fU d e).1,((fU d e).2.1,((bK f),((fU d e).2.2.2.1,((fU d e).2.2.2.2.1,())))))
def gG (e:List iM) (d:Int) (f:bV):=dN (kT e d f) (0,(0,(0,(0,(false,()))))) (dI d)
def U4 {l:Type} (m:bV->Int->Int->iG->(List iM)->Option l) (o:iG->(List iM)->Option l) (p:(List iM)->Option l) (f:bV) (i d:Int) (j:iG) (e:List iM):Option l:=cond (iF d i) (cond (gy e d) (cond (pK (dI d) e) (cond ((fU e d).2.2.2.2.1) (cond (pK (dI d) e) (cond (pK (dI d) (kT e d f)) (cond (bY (gG e d f).1 12) (cond (pK (dI d) (kT e d f)) (cond (pK (dI d) (kT e d f)) (bJ (ZP f (cO .i64 (gG e d f).2.1 1)) fun g=>cond (pK (dI d) (kT e d f)) (cond ((eqN (dI d) (dI d))&&true) (cond ((eqN (dI d) (dI d))&&true) (cond (pK (dI d) (iR (kT e d f) (dI d) ((gG e d f).1,((gG e d f).2.1,((cO .i64 (cO .i64 (gG e d f).2.1 1) g.1),((gG e d f).2.2.2.1,((gG e d f).2.2.2.2.1,()))))))) (cond ((eqN (dI d) (dI d))&&true) (m f i (cO .i64 d 1) j (iR (iR (kT e d f) (dI d) ((gG e d f).1,((gG e d f).2.1,((cO .i64 (cO .i64 (gG e d f).2.1 1) g.1),((gG e d f).2.2.2.1,((gG e d f).2.2.2.2.1,())))))) (dI d) ((dN (iR (kT e d f) (dI d) ((gG e d f).1,((gG e d f).2.1,((cO .i64 (cO .i64 (gG e d f).2.1 1) g.1),((gG e d f).2.2.2.1,((gG e d f).2.2.2.2.1,())))))) (0,(0,(0,(0,(false,()))))) (dI d)).1,((dN (iR (kT e d f) (dI d) ((gG e d f).1,((gG e d f).2.1,((cO .i64 (cO .i64 (gG e d f).2.1 1) g.1),((gG e d f).2.2.2.1,((gG e d f).2.2.2.2.1,())))))) (0,(0,(0,(0,(false,()))))) (dI d)).2.1,((dN (iR (kT e d f) (dI d) ((gG e d f).1,((gG e d f).2.1,((cO .i64 (cO .i64 (gG e d f).2.1 1) g.1),((gG e d f).2.2.2.1,((gG e d f).2.2.2.2.1,())))))) (0,(0,(0,(0,(false,()))))) (dI d)).2.2.1,((dN (iR (kT e d f) (dI d) ((gG e d f).1,((gG e d f).2.1,((cO .i64 (cO .i64 (gG e d f).2.1 1) g.1),((gG e d f).2.2.2.1,((gG e d f).2.2.2.2.1,())))))) (0,(0,(0,(0,(false,()))))) (dI d)).2.2.2.1,(false,()))))))) a7) a7) a7) a7) a7) a7) a7)<|m f i (cO .i64 d 1) j (kT e d f)) a7) a7)<|cond (pK (dI d) e) (cond (bY (fU e d).1 12) (cond (pK (dI d) e) (cond (pK (dI d) e) (bJ (ZP f (cO .i64 (fU e d).2.1 1)) fun g=>cond (pK (dI d) e) (cond ((eqN (dI d) (dI d))&&true) (cond ((eqN (dI d) (dI d))&&true) (cond (pK (dI d) (iR e (dI d) ((fU e d).1,((fU e d).2.1,((cO .i64 (cO .i64 (fU e d).2.1 1) g.1),((fU e d).2.2.2.1,((fU e d).2.2.2.2.1,()))))))) (cond ((eqN (dI d) (dI d))&&true) (m f i (cO .i64 d 1) j (iR (iR e (dI d) ((fU e d).1,((fU e d).2.1,((cO .i64 (cO .i64 (fU e d).2.1 1) g.1),((fU e d).2.2.2.1,((fU e d).2.2.2.2.1,())))))) (dI d) ((dN (iR e (dI d) ((fU e d).1,((fU e d).2.1,((cO .i64 (cO .i64 (fU e d).2.1 1) g.1),((fU e d).2.2.2.1,((fU e d).2.2.2.2.1,())))))) (0,(0,(0,(0,(false,()))))) (dI d)).1,((dN (iR e (dI d) ((fU e d).1,((fU e d).2.1,((cO .i64 (cO .i64 (fU e d).2.1 1) g.1),((fU e d).2.2.2.1,((fU e d).2.2.2.2.1,())))))) (0,(0,(0,(0,(false,()))))) (dI d)).2.1,((dN (iR e (dI d) ((fU e d).1,((fU e d).2.1,((cO .i64 (cO .i64 (fU e d).2.1 1) g.1),((fU e d).2.2.2.1,((fU e d).2.2.2.2.1,())))))) (0,(0,(0,(0,(false,()))))) (dI d)).2.2.1,((dN (iR e (dI d) ((fU e d).1,((fU e d).2.1,((cO .i64 (cO .i64 (fU e d).2.1 1) g.1),((fU e d).2.2.2.1,((fU e d).2.2.2.2.1,())))))) (0,(0,(0,(0,(false,()))))) (dI d)).2.2.2.1,(false,()))))))) a7) a7) a7) a7) a7) a7) a7)<|m f i (cO .i64 d 1) j e) a7) a7) a7)<|o j e
def Jp:Nat->bV->Int->Int->iG->(List iM)->Option (ad6.den⊕aeG.den)
 |0,_,_,_,_,_=>a7
 |n+1,d,e,f,g,i=>U4 (Jp n) (fun j l=>a6 (.inl ((),(j,l,(),())))) (fun m=>a6 (.inr ((m,()),()))) d e f g i
def aC3 (n:Nat) (v:adw.den):=Jp n v.1.1 v.1.2.1 v.1.2.2.1 v.2.1 v.2.2.1
noncomputable def anW:dD:=gu axb adw ad6 aeG (.exit 2) (aC3 bT) 12
def arh (e:bV):Option ((List iM)×Unit):=bJ (WS bT e (bK e) 0 true 0 [(0,(0,()))] [] []) fun f=>dR f (fun d=>bJ (Jp bT d.1.1 (bK d.2.2.1) 0 d.2.1 d.2.2.1) fun g=>dR g (fun i=>a6 (i.2.2.1,())) (fun j=>a6 (j.1.1,()))) (fun l=>a6 (l.1.1,()))
def aAx:Sum:=⟨[.str],[(.list Kq,false)],fun x=>arh x.1⟩
noncomputable def amg:Env:=gY prog tt [(133,BZ),(137,azC)] [(90,4,aE7),(90,10,axb),(90,600002,axe),(90,600007,aHe)] [(90,4,axU),(90,10,anW)] [] [(84,apO),(136,azB)]
def ay1 {d:Type} (a:aos.den->Option d) (b:akM.den->Option d) (c:alc.den->Option d) (v:aos.den):Option d:=afh (fun e f g i j l m o=>a ((e,f,g,()),((i,j,()),l,m,o,(),()))) (fun p q s=>b ((p,()),(q,s,(),()))) (aE c) v.1.1 v.1.2.1 v.1.2.2.1 v.2.1.1 v.2.1.2.1 v.2.2.1 v.2.2.2.1 v.2.2.2.2.1
theorem aI0:dX amg 90 aEE axU:=yu (ay1) (h2:=by intros;simp only[ay1,aE,afh,dm,dn,bI,di,dw])
def apo {d:Type} (a:adw.den->Option d) (b:ad6.den->Option d) (c:aeG.den->Option d) (v:adw.den):Option d:=U4 (fun e f g i j=>a ((e,f,g,()),(i,j,(),()))) (fun l m=>b ((),(l,m,(),()))) (aE c) v.1.1 v.1.2.1 v.1.2.2.1 v.2.1 v.2.2.1
theorem aDN:dX amg 90 aut anW:=yu (apo) (h2:=by intros;simp only[apo,aE,U4,dm,dn,bI,di,dw,fU,kT,gG])
theorem aMI:dO amg 90 b90:=pI [aEE,aut] (aD (fM (aI0)) (aD (fM (aDN)) aN))
theorem avx:fK amg:=eB (aD Au (aD asv aN)) [90] (aD ⟨f90,b90,by kernel_rfl,by kernel_rfl,aMI⟩ aN) (hx:=(aD Yu (aD asu aN)))
theorem Yv:dU prog 90 aAx:=sA avx
def awl (d:List lL) (e:Bool) (f:Int):Option (taO×vJ):=cond e (a6 ((d,(e,(f,()))),(true,())))<|some ((d,(e,(f,()))),((bY (bK d) 0),()))
def aFO:fZ:=⟨168,tzD,[],[.bool],fun x y=>awl x.1 x.2.1 x.2.2.1⟩
theorem aAv:dQ prog 86 aFO:=qB [] aN
noncomputable def b48:Code:=(f48.body).getD .skip
noncomputable def aEs:Code:=cA (cA (cB (cA (cB (cB (b48))))))
def aEZ:fJ:=⟨[0,4,8,9,100003],[],[4],[],[2,3],[(2,Ko)]⟩
def EX:fJ:=⟨[0],[],[],[],[],[]⟩
def ajR:fJ:=⟨[4],[],[],[],[],[]⟩
def aof:SP:=⟨us [b9,.u,.u,.u,fg,.u,.u,.u,bX,bX] 12,[cU,eh]⟩
def akz:SP:=⟨us [.u,.u,.u,.u,fg] 17,[cU,eh]⟩
def akZ:SP:=⟨us [.u,.u,dx,cf] 18,[]⟩
def ae9 {d:Type} (o:bV->Int->Int->Bool->Int->(List lL)->Option d) (p:Bool->Int->(List lL)->Option d) (q:(List lL)->Bool->Option d) (f:bV) (i e:Int) (j:Bool) (l:Int) (m:List lL):Option d:=cond (iF e i) (cond (gy f e) (bJ (arf m j l (cu f e)) fun g=>o f i (cO .i64 e 1) g.1.2.1 g.1.2.2.1 g.1.1) a7)<|p j l m
def WN:Nat->bV->Int->Int->Bool->Int->(List lL)->Option (akz.den⊕akZ.den)
 |0,_,_,_,_,_,_=>a7
 |n+1,d,e,f,g,i,j=>ae9 (WN n) (fun l m o=>a6 (.inl ((),((l,m,()),o,())))) (fun p q=>a6 (.inr ((p,q,()),()))) d e f g i j
def aIc (n:Nat) (v:aof.den):=WN n v.1.1 v.1.2.1 v.1.2.2.1 v.2.1.1 v.2.1.2.1 v.2.2.1
noncomputable def axI:dD:=gu aEZ aof akz akZ (.exit 0) (aIc bT) 6
def awf (f:bV):Option ((List lL)×Bool×Unit):=bJ (WN bT f (bK f) 0 true 0 [(0,(0,()))]) fun i=>dR i (fun d=>cond (bY (bK d.2.2.1) 0) (bJ (awl d.2.2.1 d.2.1.1 d.2.1.2.1) fun e=>a6 ([(0,(0,()))],(e.2.1,())))<|bJ (qx d.2.2.1) fun e=>bJ (awl d.2.2.1 d.2.1.1 d.2.1.2.1) fun j=>a6 (e.1,(j.2.1,()))) (fun g=>a6 (g.1.1,(g.1.2.1,())))
def aAc:Sum:=⟨[.str],[(.list Ko,false),(.bool,false)],fun x=>awf x.1⟩
noncomputable def au6:Env:=gY prog tt [(133,BZ)] [(48,3,aEZ),(48,600001,EX),(48,600007,ajR)] [(48,3,axI)] [] [(84,apO),(86,aFO)]
def ayO {d:Type} (a:aof.den->Option d) (b:akz.den->Option d) (c:akZ.den->Option d) (v:aof.den):Option d:=ae9 (fun e f g i j l=>a ((e,f,g,()),((i,j,()),l,()))) (fun m o p=>b ((),((m,o,()),p,()))) (aL c) v.1.1 v.1.2.1 v.1.2.2.1 v.2.1.1 v.2.1.2.1 v.2.2.1
theorem aIN:dX au6 48 aEs axI:=yu (ayO) (h2:=by intros;simp only[ayO,aL,ae9,dm,dn,bI,di,dw])
theorem aMs:dO au6 48 b48:=pI [aEs] (aD (fM (aIN)) aN)
theorem au7:fK au6:=eB (aD Au aN) [48] (aD ⟨f48,b48,by kernel_rfl,by kernel_rfl,aMs⟩ aN) (hx:=(aD Yu (aD aAv aN)))
theorem ail:dU prog 48 aAc:=sA au7
def amG (d:List lL) (e:Bool) (f g:Int):Option (taO×vJ):=bJ (Kw g) fun i=>cond (!i.1) (a6 ((d,(e,(f,()))),(false,())))<|cond (bY (bK d) 1) (a6 ((d,(e,(f,()))),(true,())))<|cond (bY (bK d) 2) (cond (gy d 1) (cond (pK (dI 1) d) (cond (bY (dN d (0,(0,())) (dI 1)).1 12) (a6 ((d,(e,(f,()))),((!(bY g 40)),())))<|some ((d,(e,(f,()))),(false,()))) a7) a7)<|some ((d,(e,(f,()))),(false,()))
def azQ:fZ:=⟨168,tzD,[.int .u8],[.bool],fun x y=>amG x.1 x.2.1 x.2.2.1 y.1⟩
theorem asY:dQ prog 233 azQ:=qB [] (sE aa0 aN)
noncomputable def aGt:Code:=(f199.body).getD .skip
noncomputable def at6:Code:=cA (cA (cA (cB (cB (cB (aGt))))))
def awR:fJ:=⟨[0,1,5,100004],[],[1],[],[4],[]⟩
def ac8:SP:=⟨us [b9,bX,.u,.u,.u,fg] 27,[cU,eh]⟩
def adK:SP:=⟨us [.u,bX] 31,[]⟩
def aek:SP:=⟨us cW 28,[]⟩
def UL {g:Type} (j:bV->Int->Bool->Int->(List lL)->Option g) (l m:Int->Option g) (e:bV) (d:Int) (o:Bool) (p:Int) (q:List lL):Option g:=cond (iF d (bK e)) (cond (gy e d) (bJ (amG q o p (cu e d)) fun f=>cond f.2.1 (m d)<|cond (gy e d) (bJ (arf f.1.1 f.1.2.1 f.1.2.2.1 (cu e d)) fun i=>j e (cO .i64 d 1) i.1.2.1 i.1.2.2.1 i.1.1) a7) a7)<|l d
def Oh:Nat->bV->Int->Bool->Int->(List lL)->Option (adK.den⊕aek.den)
 |0,_,_,_,_,_=>a7
 |n+1,d,e,f,g,i=>UL (Oh n) (fun j=>a6 (.inl ((j,()),()))) (fun l=>a6 (.inr ((l,()),()))) d e f g i
def aCI (n:Nat) (v:ac8.den):=Oh n v.1.1 v.1.2.1 v.2.1.1 v.2.1.2.1 v.2.2.1
noncomputable def anB:dD:=gu awR ac8 adK aek (.exit 0) (aCI bT) 6
def agB (e:bV) (d:Int):Option AQ:=cond (iF d 0) (a6 ((-1),()))<|cond (iF (bK e) d) (a6 ((-1),()))<|bJ (Oh bT e d true 0 [(0,(0,()))]) fun f=>dR f (fun g=>a6 (g.1.1,())) (fun i=>a6 (i.1.1,()))
def aJL:Sum:=⟨[.str,dA],U7,fun x=>agB x.1 x.2.1⟩
noncomputable def ai9:Env:=gY prog tt [] [(199,4,awR),(199,600003,zV)] [(199,4,anB)] [] [(84,apO),(233,azQ)]
def ao3 {d:Type} (a:ac8.den->Option d) (b:adK.den->Option d) (c:aek.den->Option d) (v:ac8.den):Option d:=UL (fun e f g i j=>a ((e,f,()),((g,i,()),j,()))) (aE b) (aE c) v.1.1 v.1.2.1 v.2.1.1 v.2.1.2.1 v.2.2.1
theorem aDs:dX ai9 199 at6 anB:=yu (ao3) (h2:=by intros;simp only[ao3,aE,UL,dm,dn,bI,di,dw])
theorem aHH:dO ai9 199 aGt:=pI [at6] (aD (fM (aDs)) aN)
theorem aqA:fK ai9:=eB aN [199] (aD ⟨f199,aGt,by kernel_rfl,by kernel_rfl,aHH⟩ aN) (hx:=(aD Yu (aD asY aN)))
theorem asN:dU prog 199 aJL:=sA aqA
def NJ (d:Int):Option taV:=cond (bY d 9) (a6 ([41,41],()))<|cond (bY d 13) (cond (bY d 13) (a6 ([10],()))<|some ([],()))<|cond (bY d 14) (a6 ([10],()))<|some ([],())
def amI (d:Int):Option taV:=cond (bY d 1) (cond (bY d 1) (a6 ([41],()))<|NJ d)<|cond (bY d 3) (cond (bY d 3) (a6 ([41],()))<|NJ d)<|cond (bY d 2) (cond (bY d 2) (a6 ([41],()))<|NJ d)<|cond (bY d 10) (cond (bY d 10) (a6 ([41],()))<|NJ d)<|cond (bY d 11) (a6 ([41],()))<|NJ d
def amH (d:Int):Option taV:=cond (bY d 4) (a6 ([39],()))<|cond (bY d 5) (a6 ([34],()))<|cond (bY d 6) (a6 ([96],()))<|cond (bY d 7) (cond (bY d 7) (a6 ([125],()))<|amI d)<|cond (bY d 8) (a6 ([125],()))<|amI d
def azR:Sum:=⟨[dA],tzG,fun x=>amH x.1⟩
theorem asZ:dU prog 235 azR:=qA f235 [] aN
noncomputable def abj:Code:=(f200.body).getD .skip
noncomputable def Vm:Code:=(Tryz.f260.body).getD .skip
noncomputable def Vz:Code:=cA (cA (cB (Vm)))
def WB:fJ:=⟨[0,1,3,102000001],[],[],[],[],[]⟩
def aCn:fJ:=⟨[2,5],[],[],[],[],[]⟩
def aCf:fJ:=⟨[2,3,5],[],[],[],[],[]⟩
def RV:fJ:=⟨[0,1,3],[],[],[],[],[]⟩
def Fq:SQ:=⟨us [.yld 1700014,dz,.u,bX] 15,du,cN⟩
def H7:SQ:=⟨us [] 19,du,cN⟩
def Ie:SQ:=⟨us [] 19,du,[]⟩
def xA {f:Type} (m:Int->bV->bV->(List lL)->iG->Option f) (o:bV->bV->(List lL)->iG->Option f) (p:bV->Option f) (d:Int) (i j:bV) (e:List lL) (g:iG):Option f:=cond (leI 0 d) (cond (gy e d) (bJ (amH (ed e (0,(0,())) d).1) fun l=>cond (eu (bU g (cZ l.1)) 1) (cond (bY (ed e (0,(0,())) d).1 (ed e (0,(0,())) d).1) (m (eP .i64 d 1) i j e (bU g (cZ l.1))) a7) a7) a7)<|o i j e g
def sW:Nat->Int->bV->bV->(List lL)->iG->Option (H7.den⊕Ie.den)
 |0,_,_,_,_,_=>a7
 |n+1,d,e,f,g,i=>xA (sW n) (fun j l m o=>a6 (.inl ((),((j,()),(),(),()),((l,()),(m,()),(),o,())))) (fun p=>a6 (.inr ((),((p,()),(),(),()),()))) d e f g i
def ahg (n:Nat) (v:Fq.den):=sW n v.1.1 v.2.1.1.1 v.2.2.1.1 v.2.2.2.1.1 v.2.2.2.2.2.1
noncomputable def Sv:dD:=fP WB Fq H7 Ie (.exit 0) (ahg bT) 6
def amC (e:bV):Option taV:=bJ (awf e) fun d=>bJ (sW bT (eP .i64 (bK d.1) 1) [] [] d.1 []) fun f=>dR f (fun g=>a6 ((ofBytes g.2.2.2.2.2.1),())) (fun i=>a7)
def aJM:Sum:=⟨[.str],tzG,fun x=>amC x.1⟩
noncomputable def abM:Env:=gY prog tt [(48,aAc),(235,azR)] [(260,1,WB),(200,500005,aCn),(200,600003,aCf),(260,600003,RV)] [(260,1,Sv)] [200]
def Td {d:Type} (a:Fq.den->Option d) (b:H7.den->Option d) (c:Ie.den->Option d) (v:Fq.den):Option d:=xA (fun e f g i j=>a ((e,()),((f,()),(),(),()),((g,()),(i,()),(),j,()))) (fun l m o p=>b ((),((l,()),(),(),()),((m,()),(o,()),(),p,()))) (fun q=>c ((),((q,()),(),(),()),())) v.1.1 v.2.1.1.1 v.2.2.1.1 v.2.2.2.1.1 v.2.2.2.2.2.1
theorem ahA:dX abM 260 Vz Sv:=mF (Td) (h2:=by intros;simp only[Td,xA,dm,dn,bI,di,dw])
theorem aHk:jF abj=[]:=by kernel_rfl
theorem aJc:kC abj=[(cA (cA (cB (cA (cB (cB (cB (abj))))))),cB (cA (cB (cA (cB (cB (cB (abj))))))))]:=by kernel_rfl
theorem aHI:dO abM 200 abj:=sU abj (by rw[aJc];exact(aD (fun _=>(show ut 200 5=a6 (cA (cA (cB (cA (cB (cB (cB (abj))))))),cB (cA (cB (cA (cB (cB (cB (abj)))))))) by kernel_rfl)) aN)) (by rw[aHk];exact aN)
theorem ajY:dO abM 260 Vm:=pI [Vz] (aD (fM (ahA)) aN)
theorem aqB:fK abM:=eB (aD ail (aD asZ aN)) [200,260] (aD ⟨f200,abj,by kernel_rfl,by kernel_rfl,aHI⟩ (aD ⟨Tryz.f260,Vm,by kernel_rfl,by kernel_rfl,ajY⟩ aN))
theorem asO:dU prog 200 aJM:=sA aqB
def aEO (d:Int):Option taV:=cond (bY d 10) (a6 ([62,124],()))<|cond (bY d 11) (a6 ([60],()))<|cond (bY d 12) (a6 ([62],()))<|cond (bY d 13) (a6 ([38],()))<|cond (bY d 14) (a6 ([59],()))<|cond (bY d 15) (a6 ([124],()))<|cond (bY d 16) (a6 ([40],()))<|cond (bY d 17) (a6 ([41],()))<|some ([],())
def aJu:Sum:=⟨[dA],tzG,fun x=>aEO x.1⟩
theorem asw:dU prog 146 aJu:=qA f146 [] aN
def aB0 (d:Int):Option taV:=cond (bY d 1) (a6 ([38,38],()))<|cond (bY d 2) (a6 ([124,124],()))<|cond (bY d 3) (a6 ([59,59],()))<|cond (bY d 4) (a6 ([60,60],()))<|cond (bY d 5) (a6 ([60,60,45],()))<|cond (bY d 6) (a6 ([62,62],()))<|cond (bY d 7) (a6 ([60,38],()))<|cond (bY d 8) (a6 ([62,38],()))<|cond (bY d 9) (a6 ([60,62],()))<|bJ (aEO d) fun e=>a6 (e.1,())
def aFU:Sum:=⟨[dA],tzG,fun x=>aB0 x.1⟩
theorem aAB:dU prog 98 aFU:=qA f98 [] (sE asw aN)
noncomputable def b59:Code:=(f59.body).getD .skip
noncomputable def aEv:Code:=cA (cA (cB (cA (cB (cB (b59))))))
def am5:fJ:=⟨[0,3,100004],[],[],[],[2],[]⟩
def aoi:SP:=⟨us [b9,.u,.u,bX] 11,[]⟩
def akC:SP:=⟨us [] 15,[]⟩
def ak2:SP:=⟨us er 12,[]⟩
def Yc {d:Type} (g:bV->Int->Option d) (i:Option d) (j:Int->Option d) (f:bV) (e:Int):Option d:=cond (leI e 17) (bJ (aB0 e) fun l=>cond (gp l.1 f) (j e)<|g f (cO .i64 e 1)) i
def LP:Nat->bV->Int->Option (akC.den⊕ak2.den)
 |0,_,_=>a7
 |n+1,d,e=>Yc (LP n) (a6 (.inl ((),()))) (fun f=>a6 (.inr ((f,()),()))) d e
def aIf (n:Nat) (v:aoi.den):=LP n v.1.1 v.1.2.1
noncomputable def axL:dD:=gu am5 aoi akC ak2 (.exit 0) (aIf bT) 6
def ab8 (d:bV):Option AQ:=cond (gp d []) (a6 (0,()))<|bJ (LP bT d 1) fun e=>dR e (fun g=>a6 (0,())) (fun f=>a6 (f.1.1,()))
def aAk:Sum:=⟨[.str],U7,fun x=>ab8 x.1⟩
noncomputable def avd:Env:=jm prog tt 59 [(98,aFU)] [(4,am5)] [(4,axL)]
def ayR {d:Type} (a:aoi.den->Option d) (b:akC.den->Option d) (c:ak2.den->Option d) (v:aoi.den):Option d:=Yc (aL a) (b ((),())) (aE c) v.1.1 v.1.2.1
theorem aIQ:dX avd 59 aEv axL:=yu (ayR) (h2:=by intros;simp only[ayR,aL,aE,Yc,dm,dn,bI,di,dw])
theorem aMx:dO avd 59 b59:=pI [aEv] (aD (fM (aIQ)) aN)
theorem ave:fK avd:=eA f59 (aD aAB aN) (aMx)
theorem Px:dU prog 59 aAk:=sA ave
noncomputable def aLj:Code:=(f194.body).getD .skip
noncomputable def atY:Code:=cA (cA (cA (cB (cB (cB (cA (cB (aLj))))))))
def awQ:fJ:=⟨[0,1,4,5,100004],[],[4,5],[],[4,5],[]⟩
def ac6:SP:=⟨us [b9,bX,.u,.u,bX,bX] 35,[]⟩
def adI:SP:=⟨us [.u,.u,.u,.u,bX,bX] 35,[]⟩
def aei:SP:=⟨us [.u,.u,.u,.u,bX,bX] 35,[]⟩
def UJ {f:Type} (l:bV->Int->Int->Int->Option f) (j o:Int->Int->Option f) (g:bV) (e m d:Int):Option f:=cond (iF 0 d) (cond (eY (bK g) e (cO .i64 e d)) (bJ (ab8 (sub g e (cO .i64 e d))) fun i=>cond (!(bY i.1 0)) (j i.1 d)<|l g e i.1 (eP .i64 d 1)) a7)<|j m d
def Oe:Nat->bV->Int->Int->Int->Option (adI.den⊕aei.den)
 |0,_,_,_,_=>a7
 |n+1,d,e,f,g=>UJ (Oe n) (fun i j=>a6 (.inl ((i,j,()),()))) (fun l m=>a6 (.inr ((l,m,()),()))) d e f g
def aCG (n:Nat) (v:ac6.den):=aR (Oe n) v
noncomputable def anz:dD:=gu awQ ac6 adI aei (.exit 0) (aCG bT) 6
def amB (e:bV) (d:Int):Option lL:=cond (iF d 0) (a6 (0,(0,())))<|cond (leI (bK e) d) (a6 (0,(0,())))<|cond (gy e d) (bJ (Ku (cu e d)) fun i=>cond (!(bY i.1 3)) (a6 (0,(0,())))<|bJ (Oe bT e d 0 (LQ 3 (eP .i64 (bK e) d))) fun j=>dR j (fun f=>a6 (f.1.1,(f.1.2.1,()))) (fun g=>a6 (g.1.1,(g.1.2.1,())))) a7
def aJI:Sum:=⟨[.str,dA],tzJ,fun x=>amB x.1 x.2.1⟩
noncomputable def ai7:Env:=jm prog tt 194 [(59,aAk),(125,alB)] [(4,awQ)] [(4,anz)]
def ao1 {d:Type} (a:ac6.den->Option d) (b:adI.den->Option d) (c:aei.den->Option d) (v:ac6.den):Option d:=aR (UJ (aM a) (aL b) (aL c)) v
theorem aDq:dX ai7 194 atY anz:=yu (ao1) (h2:=by intros;simp only[ao1,aM,aL,aR,UJ,dm,dn,bI,di,dw])
theorem aHF:dO ai7 194 aLj:=pI [atY] (aD (fM (aDq)) aN)
theorem aqy:fK ai7:=eA f194 (aD Px (aD vF aN)) (aHF)
theorem asK:dU prog 194 aJI:=sA aqy
def awe (e d:bV):Option vJ:=cond (leI (bK d) (bK e)) (cond (eY (bK e) 0 (bK d)) (a6 ((gp (sub e 0 (bK d)) d),())) a7)<|some (false,())
def aJ8:Sum:=⟨[.str,.str],YI,fun x=>awe x.1 x.2.1⟩
theorem as7:dU prog 259 aJ8:=qA f259 [] aN
def amF (d e:bV):Option vJ:=bJ (awe d e) fun f=>a6 (f.1,())
def aJY:Sum:=⟨[.str,.str],YI,fun x=>amF x.1 x.2.1⟩
theorem asX:dU prog 232 aJY:=qA f232 [] (sE as7 aN)
def agx (d:bV) (e:Int):Option vJ:=cond (eY (bK d) e (bK d)) (bJ (amF (sub d e (bK d)) [92,10]) fun f=>a6 (f.1,())) a7
def azK:Sum:=⟨[.str,dA],YI,fun x=>agx x.1 x.2.1⟩
theorem aaT:dU prog 195 azK:=qA Tryz.f195 [] (sE asX aN)
noncomputable def aLk:Code:=(f196.body).getD .skip
noncomputable def atZ:Code:=cA (cA (cA (cB (aLk))))
def acu:fJ:=⟨[0,1,100001],[],[1],[],[4],[]⟩
def ac7:SP:=⟨us [b9,bX] 23,[]⟩
def adJ:SP:=⟨us [.u,bX] 23,[]⟩
def aej:SP:=⟨us cW 20,[]⟩
def UK {f:Type} (g:bV->Int->Option f) (i j:Int->Option f) (e:bV) (d:Int):Option f:=cond (iF d (bK e)) (cond (gy e d) (bJ (Ku (cu e d)) fun l=>cond (bY l.1 1) (g e (cO .i64 d 1))<|bJ (agx e d) fun m=>cond m.1 (g e (cO .i64 d 2))<|j d) a7)<|i d
def Og:Nat->bV->Int->Option (adJ.den⊕aej.den)
 |0,_,_=>a7
 |n+1,d,e=>UK (Og n) (fun f=>a6 (.inl ((f,()),()))) (fun g=>a6 (.inr ((g,()),()))) d e
def aCH (n:Nat) (v:ac7.den):=Og n v.1.1 v.1.2.1
noncomputable def anA:dD:=gu acu ac7 adJ aej (.exit 0) (aCH bT) 6
def agy (d:bV) (e:Int):Option AQ:=bJ (Og bT d e) fun f=>dR f (fun g=>a6 (g.1.1,())) (fun i=>a6 (i.1.1,()))
def aJJ:Sum:=⟨[.str,dA],U7,fun x=>agy x.1 x.2.1⟩
noncomputable def ai8:Env:=jm prog tt 196 [(125,alB),(195,azK)] [(1,acu)] [(1,anA)]
def ao2 {d:Type} (a:ac7.den->Option d) (b:adJ.den->Option d) (c:aej.den->Option d) (v:ac7.den):Option d:=UK (aL a) (aE b) (aE c) v.1.1 v.1.2.1
theorem aDr:dX ai8 196 atZ anA:=yu (ao2) (h2:=by intros;simp only[ao2,aL,aE,UK,dm,dn,bI,di,dw])
theorem aHG:dO ai8 196 aLk:=pI [atZ] (aD (fM (aDr)) aN)
theorem aqz:fK ai8:=eA f196 (aD vF (aD aaT aN)) (aHG)
theorem asL:dU prog 196 aJJ:=sA aqz
def amJ (d:bV) (e:Int):Option AQ:=a6 ((ibW d e),())
def aJZ:Sum:=⟨[.str,.int .u8],U7,fun x=>amJ x.1 x.2.1⟩
theorem as1:dU prog 236 aJZ:=qA f236 [] (sE (air func261 (by kernel_rfl) (by kernel_rfl) (by kernel_rfl) (by kernel_rfl)) aN)
def agC (d:bV) (e:Int):Option AQ:=bJ (amJ d e) fun f=>a6 (f.1,())
def aJO:Sum:=⟨[.str,.int .u8],U7,fun x=>agC x.1 x.2.1⟩
theorem aaV:dU prog 202 aJO:=qA f202 [] (sE as1 aN)
def agz (d:bV) (e:Int):Option (Int×Bool×Unit):=cond (eY (bK d) e (bK d)) (bJ (agC (sub d e (bK d)) 10) fun f=>cond (leI 0 f.1) (a6 ((cO .i64 e f.1),(true,())))<|some ((bK d),(false,()))) a7
def azL:Sum:=⟨[.str,dA],[(.int .i64,false),(.bool,false)],fun x=>agz x.1 x.2.1⟩
theorem aaU:dU prog 197 azL:=qA Tryz.f197 [] (sE aaV aN)
def agA (f:bV) (d:Int):Option AQ:=bJ (DY f d) fun e=>cond (iF d (cO .i64 d e.1)) (cond (iF (cO .i64 d e.1) (bK f)) (cond (gy f (cO .i64 d e.1)) (cond (bY (cu f (cO .i64 d e.1)) 60) (a6 ((cO .i64 d e.1),()))<|cond (gy f (cO .i64 d e.1)) (cond (bY (cu f (cO .i64 d e.1)) 62) (a6 ((cO .i64 d e.1),()))<|some (d,())) a7) a7)<|some (d,()))<|some (d,())
def aJK:Sum:=⟨[.str,dA],U7,fun x=>agA x.1 x.2.1⟩
theorem asM:dU prog 198 aJK:=qA f198 [] (sE QY aN)
def abY (e:bV) (d:Int) (i:lL):Option (sQ×Unit):=cond (gy e d) (cond (bY (cu e d) 10) (a6 ((2,(d,((cO .i64 d 1),(false,())))),()))<|cond (gy e d) (cond (bY (cu e d) 35) (bJ (agz e d) fun g=>a6 ((3,(d,(g.1,(false,())))),()))<|cond (iF 0 i.2.1) (a6 ((4,(d,((cO .i64 d i.2.1),(false,())))),()))<|bJ (agA e d) fun g=>cond (iF d g.1) (bJ (agA e d) fun f=>a6 ((5,(d,(f.1,(false,())))),()))<|bJ (agB e d) fun f=>cond (eY (bK e) d f.1) (bJ (amC (sub e d f.1)) fun j=>a6 ((6,(d,(f.1,((!(gp j.1 [])),())))),())) a7) a7) a7
def amq (e:bV) (d:Int):Option (sQ×Unit):=bJ (amB e d) fun g=>cond (gy e d) (bJ (Ku (cu e d)) fun i=>cond (bY i.1 1) (cond (bY i.1 1) (bJ (agy e d) fun f=>a6 ((1,(d,(f.1,(false,())))),()))<|abY e d g)<|bJ (agx e d) fun f=>cond f.1 (bJ (agy e d) fun j=>a6 ((1,(d,(j.1,(false,())))),()))<|abY e d g) a7
def aJx:Sum:=⟨[.str,dA],[(.pair dA (.pair dA (.pair dA tyF)),false)],fun x=>amq x.1 x.2.1⟩
theorem asz:dU prog 150 aJx:=qA f150 [] (sE vF (sE asK (sE aaT (sE asL (sE aaU (sE asM (sE asN (sE asO aN))))))))
noncomputable def aLr:Code:=(f255.body).getD .skip
noncomputable def auk:Code:=cA (cA (cA (cB (aLr))))
def aw2:fJ:=⟨[0,1,100001],[],[0],[],[4],[]⟩
def adm:SP:=⟨us [b9,c9] 15,[]⟩
def adW:SP:=⟨us [b9] 16,[]⟩
def aew:SP:=⟨us [.u,.u,.u,.u,b9] 12,[]⟩
def UW {e:Type} (i:bV->Int->Option e) (f j:bV->Option e) (d:bV) (g:Int):Option e:=cond (iF 0 (bK d)) (cond (gy d 0) (cond (bY (cu d 0) g) (cond (eY (bK d) 1 (bK d)) (i (sub d 1 (bK d)) g) a7)<|f d) a7)<|f d
def Oi:Nat->bV->Int->Option (adW.den⊕aew.den)
 |0,_,_=>a7
 |n+1,d,e=>UW (Oi n) (fun f=>a6 (.inl ((f,()),()))) (fun g=>a6 (.inr ((g,()),()))) d e
def aCU (n:Nat) (v:adm.den):=Oi n v.1.1 v.1.2.1
noncomputable def anN:dD:=gu aw2 adm adW aew (.exit 0) (aCU bT) 6
def amN (d:bV) (e:Int):Option taV:=bJ (Oi bT d e) fun f=>dR f (fun g=>a6 (g.1.1,())) (fun i=>a6 (i.1.1,()))
def azY:Sum:=⟨[.str,.int .u8],tzG,fun x=>amN x.1 x.2.1⟩
noncomputable def aji:Env:=jm prog tt 255 [] [(1,aw2)] [(1,anN)]
def apf {d:Type} (a:adm.den->Option d) (b:adW.den->Option d) (c:aew.den->Option d) (v:adm.den):Option d:=UW (aL a) (aE b) (aE c) v.1.1 v.1.2.1
theorem aDE:dX aji 255 auk anN:=yu (apf) (h2:=by intros;simp only[apf,aL,aE,UW,dm,dn,bI,di,dw])
theorem aHU:dO aji 255 aLr:=pI [auk] (aD (fM (aDE)) aN)
theorem aqR:fK aji:=eA f255 aN (aHU)
theorem as6:dU prog 255 azY:=sA aqR
noncomputable def aGs:Code:=(f192.body).getD .skip
noncomputable def atX:Code:=cA (cA (cA (cB (cA (cB (aGs))))))
def awP:fJ:=⟨[0,1,5,100001],[],[1],[],[6,7],[]⟩
def aCe:fJ:=⟨[0,5,8,9,10],[],[],[],[],[]⟩
def ac5:SP:=⟨us [b9,bX,.u,.u,.u,cC] 33,d6⟩
def Ui:SP:=⟨us [.u,bX] 37,[]⟩
def Um:SP:=⟨us [.u,.u,.u,.u,.u,.u,bX,cf] 31,[]⟩
def Ep {g:Type} (d:(Int×Bool×Unit)) (e:bV) (i:Int) (f:bV) (j:Int->Bool->Option g) (l:bV->Int->bV->Bool->Option g) (m:Bool):Option g:=cond d.2.1 (cond (gp (sub e i d.1) f) (j (cO .i64 d.1 1) true)<|l e (cO .i64 d.1 1) f m)<|cond (gp (sub e i d.1) f) (j d.1 true)<|l e d.1 f m
def UI {m:Type} (j:bV->Int->bV->Bool->Option m) (p:Int->Option m) (l:Int->Bool->Option m) (e:bV) (f:Int) (g:bV) (i:Bool):Option m:=cond (iF f (bK e)) (bJ (agz e f) fun d=>cond (eY (bK e) f d.1) (cond i (cond (gp (sub e f d.1) []) (Ep d e f g l j i)<|cond (gp [9] []) (Ep d e f g l j i)<|cond (bY (bK [9]) 1) (cond (gy [9] 0) (cond (iF (cu [9] 0) 128) (cond (gy [9] 0) (bJ (amN (sub e f d.1) (cu [9] 0)) fun o=>cond d.2.1 (cond (gp o.1 g) (l (cO .i64 d.1 1) true)<|j e (cO .i64 d.1 1) g i)<|cond (gp o.1 g) (l d.1 true)<|j e d.1 g i) a7) a7) a7) a7)<|Ep d e f g l j i) a7)<|p f
def E8:Nat->bV->Int->bV->Bool->Option (Ui.den⊕Um.den)
 |0,_,_,_,_=>a7
 |n+1,d,e,f,g=>UI (E8 n) (fun i=>a6 (.inl ((i,()),()))) (fun j l=>a6 (.inr ((j,l,()),()))) d e f g
def aCF (n:Nat) (v:ac5.den):=E8 n v.1.1 v.1.2.1 v.2.1.1 v.2.1.2.1
noncomputable def anx:dD:=gu awP ac5 Ui Um (.exit 0) (aCF bT) 6
def amA (f:bV) (g:Int) (d:bV×vJ):Option (Int×Bool×Unit):=bJ (E8 bT f g d.1 d.2.1) fun i=>dR i (fun j=>a6 (j.1.1,(false,()))) (fun e=>a6 (e.1.1,(e.1.2.1,())))
def aJH:Sum:=⟨[.str,dA,II],[(.int .i64,false),(.bool,false)],fun x=>amA x.1 x.2.1 x.2.2.1⟩
noncomputable def ai6:Env:=gY prog tt [(197,azL),(255,azY)] [(192,1,awP),(192,600005,aCe)] [(192,1,anx)] []
def ao0 {d:Type} (a:ac5.den->Option d) (b:Ui.den->Option d) (c:Um.den->Option d) (v:ac5.den):Option d:=UI (fun e f g i=>a ((e,f,()),((g,i,()),()))) (aE b) (aL c) v.1.1 v.1.2.1 v.2.1.1 v.2.1.2.1
theorem aDp:dX ai6 192 atX anx:=yu (ao0) (h2:=by intros;simp only[ao0,aE,aL,UI,dm,dn,bI,di,dw,Ep])
theorem aHE:dO ai6 192 aGs:=pI [atX] (aD (fM (aDp)) aN)
theorem aqx:fK ai6:=eB (aD aaU (aD as6 aN)) [192] (aD ⟨f192,aGs,by kernel_rfl,by kernel_rfl,aHE⟩ aN)
theorem asJ:dU prog 192 aJH:=sA aqx
def V7:Option taW:=a6 (([84],([0],(true,()))),())
def afr:Sum:=⟨[],tzH,fun x=>V7⟩
theorem Q5:dU prog 158 afr:=qA f158 [] aN
def Bj (d:KT) (e:Bool):Option taW:=a6 ((d.1,(d.2.1,(e,()))),())
def aJR:Sum:=⟨[.pair .str tyL,.bool],tzH,fun x=>Bj x.1 x.2.1⟩
theorem Q9:dU prog 206 aJR:=qA f206 [] aN
def GX (d:KT) (e:bV):Option taW:=cond (eY (bK d.1) 0 (eP .i64 (bK d.1) 1)) (cond (iQ (sub d.1 0 (eP .i64 (bK d.1) 1)) e) (a6 (((bU (sub d.1 0 (eP .i64 (bK d.1) 1)) e),(d.2.1,(d.2.2.1,()))),())) a7) a7
def aJS:Sum:=⟨[.pair .str tyL,.str],tzH,fun x=>GX x.1 x.2.1⟩
theorem aaX:dU prog 207 aJS:=qA f207 [] aN
def NI (d:KT):Option taW:=cond (eY (bK d.1) 0 (eP .i64 (bK d.1) 1)) (cond (eY (bK d.2.1) 0 (eP .i64 (bK d.1) 1)) (a6 (((sub d.1 0 (eP .i64 (bK d.1) 1)),((sub d.2.1 0 (eP .i64 (bK d.1) 1)),(d.2.2.1,()))),())) a7) a7
def aJT:Sum:=⟨[.pair .str tyL],tzH,fun x=>NI x.1⟩
theorem Rf:dU prog 208 aJT:=qA f208 [] aN
noncomputable def b73:Code:=(f73.body).getD .skip
noncomputable def aEA:Code:=cA (cA (cB (cA (cB (b73)))))
def am6:fJ:=⟨[0,1,5,100002],[],[],[],[4],[]⟩
def aon:SP:=⟨us [c9,b9,.u,.u,.u,bX] 11,[]⟩
def akH:SP:=⟨us [] 17,[]⟩
def ak7:SP:=⟨us [.u,.u,.u,.u,cf] 12,[]⟩
def Yd {d:Type} (i:Int->bV->Int->Option d) (j:Option d) (l:Bool->Option d) (g:Int) (e:bV) (f:Int):Option d:=cond (iF f (bK e)) (cond (gy e f) (cond (bY (cu e f) g) (l true)<|i g e (cO .i64 f 1)) a7) j
def Fg:Nat->Int->bV->Int->Option (akH.den⊕ak7.den)
 |0,_,_,_=>a7
 |n+1,d,e,f=>Yd (Fg n) (a6 (.inl ((),()))) (fun g=>a6 (.inr ((g,()),()))) d e f
def aIk (n:Nat) (v:aon.den):=ba (Fg n) v
noncomputable def axQ:dD:=gu am6 aon akH ak7 (.exit 0) (aIk bT) 6
def Qa (d:Int) (e:bV):Option vJ:=bJ (Fg bT d e 0) fun f=>dR f (fun i=>a6 (false,())) (fun g=>a6 (g.1.1,()))
def aFJ:Sum:=⟨[.int .u8,.str],YI,fun x=>Qa x.1 x.2.1⟩
noncomputable def avo:Env:=jm prog tt 73 [] [(2,am6)] [(2,axQ)]
def ayW {d:Type} (a:aon.den->Option d) (b:akH.den->Option d) (c:ak7.den->Option d) (v:aon.den):Option d:=ba (Yd (fun e f g=>a ((e,f,g,()),())) (b ((),())) (aE c)) v
theorem aIV:dX avo 73 aEA axQ:=yu (ayW) (h2:=by intros;simp only[ayW,aE,ba,Yd,dm,dn,bI,di,dw])
theorem aMD:dO avo 73 b73:=pI [aEA] (aD (fM (aIV)) aN)
theorem avp:fK avo:=eA f73 aN (aMD)
theorem Py:dU prog 73 aFJ:=sA avp
def NF (d:Int):Option AQ:=cond (bY d 32) (a6 (1,()))<|cond (bY d 9) (a6 (1,()))<|cond (bY d 10) (a6 (2,()))<|bJ (Qa d [124,38,59,60,62,40,41]) fun e=>cond e.1 (a6 (3,()))<|bJ (Qa d [92,39,34,96,36]) fun f=>cond f.1 (a6 (4,()))<|bJ (Qa d [65,66,67,68,69,70,71,72,73,74,75,76,77,78,79,80,81,82,83,84,85,86,87,88,89,90,97,98,99,100,101,102,103,104,105,106,107,108,109,110,111,112,113,114,115,116,117,118,119,120,121,122,95]) fun g=>cond g.1 (a6 (5,()))<|bJ (Qa d [48,49,50,51,52,53,54,55,56,57]) fun i=>cond i.1 (a6 (6,()))<|some (0,())
def alz:Sum:=⟨[.int .u8],U7,fun x=>NF x.1⟩
theorem JR:dU prog 113 alz:=qA f113 [] (sE Py aN)
def agt (e:Int):Option vJ:=bJ (NF e) fun d=>cond (bY d.1 1) (a6 (true,()))<|cond (bY d.1 2) (a6 (true,()))<|some ((bY d.1 3),())
def azG:Sum:=⟨[.int .u8],YI,fun x=>agt x.1⟩
theorem aaQ:dU prog 159 azG:=qA f159 [] (sE JR aN)
def lV (d:KT) (e:bV):=gp (bU d.1 e) (bU d.1 e)
def oh (d:KT):=pO dA d.2.1 d.2.1
def zN (d:KT) (e:bV) (f:Int):Option taW:=cond (iQ d.1 e) (cond (gp d.1 d.1) (cond (gp e e) (cond (iQ d.1 e) (cond (lV d e) (cond (oh d) (cond (bY f f) (cond (jM d.2.2.1 d.2.2.1) (cond (eu (bU [] d.2.1) 8) (cond (gp d.1 d.1) (cond (gp e e) (cond (iQ d.1 e) (cond (lV d e) (cond (bY f f) (cond (jM d.2.2.1 d.2.2.1) (cond (gp d.1 d.1) (cond (gp e e) (cond (iQ d.1 e) (cond (lV d e) (cond (oh d) (cond (jM d.2.2.1 d.2.2.1) (cond (eu (bU (bU [] d.2.1) [f]) 8) (cond (gp d.1 d.1) (cond (gp e e) (cond (iQ d.1 e) (cond (lV d e) (cond (oh d) (cond (bY f f) (cond (jM d.2.2.1 d.2.2.1) (bJ (cond (gp d.1 d.1) (cond (gp e e) (cond (iQ d.1 e) (cond (lV d e) (cond (oh d) (cond (jM d.2.2.1 d.2.2.1) (cond (eu (bU [] d.2.1) 8) (cond (gp d.1 d.1) (cond (gp e e) (cond (iQ d.1 e) (cond (lV d e) (cond (bY f f) (cond (jM d.2.2.1 d.2.2.1) (cond (eu (bU (bU [] d.2.1) [f]) 8) (cond (gp d.1 d.1) (cond (gp e e) (cond (iQ d.1 e) (cond (lV d e) (cond (oh d) (cond (bY f f) (cond (jM d.2.2.1 d.2.2.1) (cond (((((gp d.1 d.1)&&((oh d)&&((jM d.2.2.1 d.2.2.1)&&true)))&&((gp e e)&&((bY f f)&&((gp d.1 d.1)&&((gp e e)&&((lV d e)&&((oh d)&&((bY f f)&&((jM d.2.2.1 d.2.2.1)&&(((lV d e)&&((jM d.2.2.1 d.2.2.1)&&true))&&true))))))))))&&(((pO dA [f] [f])&&((pO dA (bU (bU [] d.2.1) [f]) (bU (bU [] d.2.1) [f]))&&(((lV d e)&&((jM d.2.2.1 d.2.2.1)&&true))&&(((gp d.1 d.1)&&((oh d)&&((jM d.2.2.1 d.2.2.1)&&true)))&&true))))&&true))&&true) (a6 ()) (a7)) (a7)) (a7)) (a7)) (a7)) (a7)) (a7)) (a7)) (a7)) (a7)) (a7)) (a7)) (a7)) (a7)) (a7)) (a7)) (a7)) (a7)) (a7)) (a7)) (a7)) (a7)) fun g=>bJ (cond (gp d.1 d.1) (cond (gp e e) (cond (iQ d.1 e) (cond (lV d e) (cond (oh d) (cond (jM d.2.2.1 d.2.2.1) (cond (gp d.1 d.1) (cond (gp e e) (cond (iQ d.1 e) (cond (lV d e) (cond (oh d) (cond (bY f f) (cond (jM d.2.2.1 d.2.2.1) (cond (eu (bU [] d.2.1) 8) (cond (gp d.1 d.1) (cond (gp e e) (cond (iQ d.1 e) (cond (lV d e) (cond (bY f f) (cond (jM d.2.2.1 d.2.2.1) (cond (eu (bU (bU [] d.2.1) [f]) 8) (cond (gp d.1 d.1) (cond (gp e e) (cond (iQ d.1 e) (cond (lV d e) (cond (oh d) (cond (bY f f) (cond (jM d.2.2.1 d.2.2.1) (cond (((((gp d.1 d.1)&&((oh d)&&((jM d.2.2.1 d.2.2.1)&&true)))&&((gp e e)&&((bY f f)&&((gp d.1 d.1)&&((gp e e)&&((lV d e)&&((oh d)&&((bY f f)&&((jM d.2.2.1 d.2.2.1)&&(((lV d e)&&((jM d.2.2.1 d.2.2.1)&&true))&&true))))))))))&&(((pO dA [f] [f])&&((pO dA (bU (bU [] d.2.1) [f]) (bU (bU [] d.2.1) [f]))&&(((lV d e)&&((jM d.2.2.1 d.2.2.1)&&true))&&(((gp d.1 d.1)&&((oh d)&&((jM d.2.2.1 d.2.2.1)&&true)))&&true))))&&true))&&true) (a6 ()) (a7)) (a7)) (a7)) (a7)) (a7)) (a7)) (a7)) (a7)) (a7)) (a7)) (a7)) (a7)) (a7)) (a7)) (a7)) (a7)) (a7)) (a7)) (a7)) (a7)) (a7)) (a7)) (a7)) (a7)) (a7)) (a7)) (a7)) (a7)) (a7)) fun i=>a6 (((bU d.1 e),((bU (bU [] d.2.1) [f]),(d.2.2.1,()))),())) a7) a7) a7) a7) a7) a7) a7) a7) a7) a7) a7) a7) a7) a7) a7) a7) a7) a7) a7) a7) a7) a7) a7) a7) a7) a7) a7) a7) a7
def aJ2:Sum:=⟨[.pair .str tyL,.str,dA],tzH,fun x=>zN x.1 x.2.1 x.2.2.1⟩
theorem aa1:dU prog 241 aJ2:=qA Tryz.f241 [] aN
def ZX (d:Int):Option taV:=cond (bY d 92) (a6 ([88],()))<|cond (bY d 36) (a6 ([76],()))<|cond (bY d 96) (a6 ([66],()))<|some ([],())
def aJ3:Sum:=⟨[.int .u8],tzG,fun x=>ZX x.1⟩
theorem aa2:dU prog 242 aJ3:=qA f242 [] aN
def ab5 (e:Int) (d:KT) (f:Int):Option taW:=bJ (ZX e) fun g=>bJ (zN (d.1,(d.2.1,(d.2.2.1,()))) g.1 f) fun j=>cond (bY e e) (bJ (Bj j.1 false) fun i=>cond ((gp d.1 d.1)&&((pO dA d.2.1 d.2.1)&&((jM d.2.2.1 d.2.2.1)&&true))) (cond (bY e e) (cond (bY f f) (cond (((bY e e)&&true)&&((gp g.1 g.1)&&true)) (a6 ((i.1.1,(i.1.2.1,(i.1.2.2.1,()))),())) a7) a7) a7) a7) a7
def ab6 (g i:Int) (d:KT) (j:Int):Option taW:=cond (bY g 40) (cond (bY i 84) (bJ (Bj (d.1,(d.2.1,(d.2.2.1,()))) true) fun e=>a6 ((e.1.1,(e.1.2.1,(e.1.2.2.1,()))),()))<|bJ (zN (d.1,(d.2.1,(d.2.2.1,()))) [80] j) fun e=>bJ (Bj e.1 true) fun f=>a6 ((f.1.1,(f.1.2.1,(f.1.2.2.1,()))),()))<|cond (bY g 41) (cond (bY i 84) (bJ (Bj (d.1,(d.2.1,(d.2.2.1,()))) true) fun e=>a6 ((e.1.1,(e.1.2.1,(e.1.2.2.1,()))),()))<|bJ (NI (d.1,(d.2.1,(d.2.2.1,())))) fun e=>bJ (Bj e.1 (bY i 80)) fun f=>a6 ((f.1.1,(f.1.2.1,(f.1.2.2.1,()))),()))<|bJ (agt g) fun e=>bJ (Bj (d.1,(d.2.1,(d.2.2.1,()))) e.1) fun f=>cond (bY g g) (a6 ((f.1.1,(f.1.2.1,(f.1.2.2.1,()))),())) a7
def amK (d:KT) (j f g:Int):Option taW:=cond (bY f 92) (bJ (zN (d.1,(d.2.1,(d.2.2.1,()))) [88] g) fun e=>a6 ((e.1.1,(e.1.2.1,(e.1.2.2.1,()))),()))<|cond (bY f 39) (bJ (zN (d.1,(d.2.1,(d.2.2.1,()))) [83] g) fun e=>bJ (Bj e.1 false) fun i=>a6 ((i.1.1,(i.1.2.1,(i.1.2.2.1,()))),()))<|cond (bY f 34) (bJ (zN (d.1,(d.2.1,(d.2.2.1,()))) [68] g) fun e=>bJ (Bj e.1 false) fun i=>a6 ((i.1.1,(i.1.2.1,(i.1.2.2.1,()))),()))<|cond (bY f 96) (ab5 f d g)<|cond (bY f 36) (ab5 f d g)<|cond (bY f 35) (cond d.2.2.1 (bJ (zN (d.1,(d.2.1,(d.2.2.1,()))) [35] g) fun e=>a6 ((e.1.1,(e.1.2.1,(e.1.2.2.1,()))),()))<|ab6 f j d g)<|ab6 f j d g
def aJ1:Sum:=⟨[.pair .str tyL,.int .u8,.int .u8,dA],tzH,fun x=>amK x.1 x.2.1 x.2.2.1 x.2.2.2.1⟩
theorem as2:dU prog 240 aJ1:=qA Tryz.f240 [] (sE aaQ (sE Q9 (sE Rf (sE aa1 (sE aa2 aN)))))
def EQ (d:KT) (f g i:Int):Option taW:=bJ (amK (d.1,(d.2.1,(d.2.2.1,()))) f g i) fun e=>a6 ((e.1.1,(e.1.2.1,(e.1.2.2.1,()))),())
def xY (d:KT):Option taW:=bJ (NI (d.1,(d.2.1,(d.2.2.1,())))) fun e=>a6 ((e.1.1,(e.1.2.1,(e.1.2.2.1,()))),())
def IX (f:Int) (d:KT):Option taW:=cond (bY f 41) (bJ (GX (d.1,(d.2.1,(d.2.2.1,()))) [69]) fun e=>a6 ((e.1.1,(e.1.2.1,(e.1.2.2.1,()))),()))<|some ((d.1,(d.2.1,(d.2.2.1,()))),())
def IY (e:Int) (d:KT) (g i:Int):Option taW:=cond (bY e 40) (bJ (zN (d.1,(d.2.1,(d.2.2.1,()))) [82] g) fun f=>a6 ((f.1.1,(f.1.2.1,(f.1.2.2.1,()))),()))<|cond (bY e 41) (cond (bY i 82) (xY d)<|IX e d)<|IX e d
def Kv (d:KT) (g e j:Int):Option taW:=cond (bY g 84) (EQ d g e j)<|cond (bY g 67) (EQ d g e j)<|cond (bY g 80) (EQ d g e j)<|cond (bY g 88) (bJ (NI (d.1,(d.2.1,(d.2.2.1,())))) fun i=>cond (!(bY e 10)) (bJ (Bj (i.1.1,(i.1.2.1,(i.1.2.2.1,()))) false) fun f=>a6 ((f.1.1,(f.1.2.1,(f.1.2.2.1,()))),()))<|some ((i.1.1,(i.1.2.1,(i.1.2.2.1,()))),()))<|cond (bY g 83) (cond (bY e 39) (xY d)<|some ((d.1,(d.2.1,(d.2.2.1,()))),()))<|cond (bY g 35) (cond (bY e 10) (bJ (NI (d.1,(d.2.1,(d.2.2.1,())))) fun i=>bJ (Bj i.1 true) fun f=>a6 ((f.1.1,(f.1.2.1,(f.1.2.2.1,()))),()))<|some ((d.1,(d.2.1,(d.2.2.1,()))),()))<|cond (bY g 66) (cond (bY e 96) (xY d)<|cond (bY e 92) (bJ (zN (d.1,(d.2.1,(d.2.2.1,()))) [88] j) fun i=>a6 ((i.1.1,(i.1.2.1,(i.1.2.2.1,()))),()))<|some ((d.1,(d.2.1,(d.2.2.1,()))),()))<|bJ (ZX e) fun i=>cond (!(gp i.1 [])) (bJ (ZX e) fun f=>bJ (zN (d.1,(d.2.1,(d.2.2.1,()))) f.1 j) fun l=>cond (bY e e) (a6 ((l.1.1,(l.1.2.1,(l.1.2.2.1,()))),())) a7)<|cond (bY g 65) (IY e d j g)<|cond (bY g 82) (IY e d j g)<|cond (bY g 68) (cond (bY e 34) (xY d)<|some ((d.1,(d.2.1,(d.2.2.1,()))),()))<|cond (bY e 34) (bJ (zN (d.1,(d.2.1,(d.2.2.1,()))) [68] j) fun f=>a6 ((f.1.1,(f.1.2.1,(f.1.2.2.1,()))),()))<|cond (bY e 125) (xY d)<|cond (bY e 39) (cond (bY g 86) (bJ (zN (d.1,(d.2.1,(d.2.2.1,()))) [83] j) fun f=>a6 ((f.1.1,(f.1.2.1,(f.1.2.2.1,()))),()))<|some ((d.1,(d.2.1,(d.2.2.1,()))),()))<|some ((d.1,(d.2.1,(d.2.2.1,()))),())
def aJU:Sum:=⟨[.pair .str tyL,.int .u8,.int .u8,dA],tzH,fun x=>Kv x.1 x.2.1 x.2.2.1 x.2.2.2.1⟩
theorem asQ:dU prog 209 aJU:=qA f209 [] (sE Q9 (sE aaX (sE Rf (sE as2 (sE aa1 (sE aa2 aN))))))
def V8 (d:KT) (g i:Int):Option taW:=cond (gy d.1 (eP .i64 (bK d.1) 1)) (cond (bY (cu d.1 (eP .i64 (bK d.1) 1)) 76) (cond (bY g 40) (bJ (GX (d.1,(d.2.1,(d.2.2.1,()))) [79]) fun e=>bJ (Bj e.1 true) fun f=>a6 ((f.1.1,(f.1.2.1,(f.1.2.2.1,()))),()))<|cond (bY g 123) (cond (gy d.1 (eP .i64 (bK d.1) 2)) (cond (bY (cu d.1 (eP .i64 (bK d.1) 2)) 68) (bJ (GX (d.1,(d.2.1,(d.2.2.1,()))) [73]) fun e=>a6 ((e.1.1,(e.1.2.1,(e.1.2.2.1,()))),()))<|cond (gy d.1 (eP .i64 (bK d.1) 2)) (cond (bY (cu d.1 (eP .i64 (bK d.1) 2)) 73) (bJ (GX (d.1,(d.2.1,(d.2.2.1,()))) [73]) fun e=>a6 ((e.1.1,(e.1.2.1,(e.1.2.2.1,()))),()))<|bJ (GX (d.1,(d.2.1,(d.2.2.1,()))) [86]) fun e=>a6 ((e.1.1,(e.1.2.1,(e.1.2.2.1,()))),())) a7) a7)<|bJ (NI (d.1,(d.2.1,(d.2.2.1,())))) fun e=>cond (bY g 36) (a6 ((e.1.1,(e.1.2.1,(e.1.2.2.1,()))),()))<|cond (gy e.1.1 (eP .i64 (bK e.1.1) 1)) (bJ (Kv (e.1.1,(e.1.2.1,(e.1.2.2.1,()))) (cu e.1.1 (eP .i64 (bK e.1.1) 1)) g i) fun f=>a6 ((f.1.1,(f.1.2.1,(f.1.2.2.1,()))),())) a7)<|cond (bY (cu d.1 (eP .i64 (bK d.1) 1)) 79) (cond (bY g 40) (bJ (GX (d.1,(d.2.1,(d.2.2.1,()))) [65]) fun e=>bJ (Bj e.1 false) fun f=>a6 ((f.1.1,(f.1.2.1,(f.1.2.2.1,()))),()))<|bJ (GX (d.1,(d.2.1,(d.2.2.1,()))) [67]) fun e=>bJ (Kv (e.1.1,(e.1.2.1,(e.1.2.2.1,()))) 67 g i) fun f=>a6 ((f.1.1,(f.1.2.1,(f.1.2.2.1,()))),()))<|cond (bY (cu d.1 (eP .i64 (bK d.1) 1)) 69) (cond (bY g 41) (bJ (NI (d.1,(d.2.1,(d.2.2.1,())))) fun e=>a6 ((e.1.1,(e.1.2.1,(e.1.2.2.1,()))),()))<|bJ (GX (d.1,(d.2.1,(d.2.2.1,()))) [65]) fun e=>bJ (Kv (e.1.1,(e.1.2.1,(e.1.2.2.1,()))) 65 g i) fun f=>a6 ((f.1.1,(f.1.2.1,(f.1.2.2.1,()))),()))<|bJ (Kv (d.1,(d.2.1,(d.2.2.1,()))) (cu d.1 (eP .i64 (bK d.1) 1)) g i) fun e=>a6 ((e.1.1,(e.1.2.1,(e.1.2.2.1,()))),())) a7
def afs:Sum:=⟨[.pair .str tyL,.int .u8,dA],tzH,fun x=>V8 x.1 x.2.1 x.2.2.1⟩
theorem Q7:dU prog 160 afs:=qA f160 [] (sE Q9 (sE aaX (sE Rf (sE asQ aN))))
noncomputable def aLp:Code:=(f243.body).getD .skip
noncomputable def aug:Code:=cA (cA (cB (cA (cB (aLp)))))
def awY:fJ:=⟨[1,2,5,100002],[],[],[],[4],[]⟩
def adh:SP:=⟨us [.u,bX,cK,.u,.u,bX] 15,[.box 1000002 193 [b9,eJ,cf]]⟩
def adS:SP:=⟨us [] 21,[]⟩
def aes:SP:=⟨us cW 16,[]⟩
def UU {e:Type} (i:Int->Int->bV->iG->Bool->Option e) (j:Option e) (l:Int->Option e) (g d:Int) (m:bV) (f:iG) (o:Bool):Option e:=cond (iF d (bK f)) (cond (gy f d) (cond (bY (ed f 0 d) g) (l d)<|i g (cO .i64 d 1) m f o) a7) j
def Jk:Nat->Int->Int->bV->iG->Bool->Option (adS.den⊕aes.den)
 |0,_,_,_,_,_=>a7
 |n+1,d,e,f,g,i=>UU (Jk n) (a6 (.inl ((),()))) (fun j=>a6 (.inr ((j,()),()))) d e f g i
def aCQ (n:Nat) (v:adh.den):=Jk n v.1.1 v.1.2.1 v.2.1.1 v.2.1.2.1 v.2.1.2.2.1
noncomputable def anJ:dD:=gu awY adh adS aes (.exit 0) (aCQ bT) 6
def agG (d:KT) (e:Int):Option AQ:=bJ (Jk bT e 1 d.1 d.2.1 d.2.2.1) fun f=>dR f (fun i=>a6 (0,())) (fun g=>a6 (g.1.1,()))
def azT:Sum:=⟨[.pair .str tyL,dA],U7,fun x=>agG x.1 x.2.1⟩
noncomputable def ajf:Env:=jm prog tt 243 [] [(2,awY)] [(2,anJ)]
def apb {d:Type} (a:adh.den->Option d) (b:adS.den->Option d) (c:aes.den->Option d) (v:adh.den):Option d:=UU (fun e f g i j=>a ((e,f,()),((g,i,j,()),()))) (b ((),())) (aE c) v.1.1 v.1.2.1 v.2.1.1 v.2.1.2.1 v.2.1.2.2.1
theorem aDA:dX ajf 243 aug anJ:=yu (apb) (h2:=by intros;simp only[apb,aE,UU,dm,dn,bI,di,dw])
theorem aHQ:dO ajf 243 aLp:=pI [aug] (aD (fM (aDA)) aN)
theorem aqL:fK ajf:=eA f243 aN (aHQ)
theorem as3:dU prog 243 azT:=sA aqL
noncomputable def aLq:Code:=(f244.body).getD .skip
noncomputable def auh:Code:=cA (cA (cB (cA (cB (cB (cB (aLq)))))))
def awZ:fJ:=⟨[0,3,100006],[],[],[],[2],[]⟩
def adi:SP:=⟨us [c9,.u,.u,bX] 13,[]⟩
def adT:SP:=⟨us [] 17,[]⟩
def aet:SP:=⟨us er 14,[]⟩
def ae3 {e:Type} (g:Int->Int->Option e) (i:Option e) (j:Int->Option e) (f d:Int):Option e:=cond (iF d 15) (cond (gy [84,67,80,79,83,68,66,86,73,65,82,69,76,88,35] d) (cond (bY (cu [84,67,80,79,83,68,66,86,73,65,82,69,76,88,35] d) f) (j d)<|g f (cO .i64 d 1)) a7) i
def acA:Nat->Int->Int->Option (adT.den⊕aet.den)
 |0,_,_=>a7
 |n+1,d,e=>ae3 (acA n) (a6 (.inl ((),()))) (fun f=>a6 (.inr ((f,()),()))) d e
def aCR (n:Nat) (v:adi.den):=acA n v.1.1 v.1.2.1
noncomputable def anK:dD:=gu awZ adi adT aet (.exit 0) (aCR bT) 6
def amL (d:Int):Option AQ:=cond (bY d 79) (a6 (1,()))<|cond (bY d 69) (a6 (9,()))<|bJ (acA bT d 0) fun e=>dR e (fun g=>a6 (0,())) (fun f=>a6 (f.1.1,()))
def azU:Sum:=⟨[.int .u8],U7,fun x=>amL x.1⟩
noncomputable def ajg:Env:=jm prog tt 244 [] [(6,awZ)] [(6,anK)]
def apc {d:Type} (a:adi.den->Option d) (b:adT.den->Option d) (c:aet.den->Option d) (v:adi.den):Option d:=ae3 (aL a) (b ((),())) (aE c) v.1.1 v.1.2.1
theorem aDB:dX ajg 244 auh anK:=yu (apc) (h2:=by intros;simp only[apc,aL,aE,ae3,dm,dn,bI,di,dw])
theorem aHR:dO ajg 244 aLq:=pI [auh] (aD (fM (aDB)) aN)
theorem aqM:fK ajg:=eA f244 aN (aHR)
theorem as4:dU prog 244 azU:=sA aqM
noncomputable def aLn:Code:=(f215.body).getD .skip
noncomputable def aue:Code:=cA (cA (cB (cA (cB (cB (aLn))))))
def adf:SP:=⟨us [b9,.u,.u,bX] 27,[]⟩
def adQ:SP:=⟨us [] 31,[]⟩
def aeq:SP:=⟨us [.u,.u,cf] 28,[]⟩
def UR {f:Type} (g:bV->Int->Option f) (i:Option f) (j:Bool->Option f) (d:bV) (e:Int):Option f:=cond (iF e (bK d)) (cond (gy d e) (bJ (NF (cu d e)) fun l=>cond (!(bY l.1 5)) (cond (gy d e) (bJ (NF (cu d e)) fun m=>cond (!(bY m.1 6)) (j false)<|g d (cO .i64 e 1)) a7)<|g d (cO .i64 e 1)) a7) i
def Jj:Nat->bV->Int->Option (adQ.den⊕aeq.den)
 |0,_,_=>a7
 |n+1,d,e=>UR (Jj n) (a6 (.inl ((),()))) (fun f=>a6 (.inr ((f,()),()))) d e
def aCO (n:Nat) (v:adf.den):=Jj n v.1.1 v.1.2.1
noncomputable def anH:dD:=gu am5 adf adQ aeq (.exit 0) (aCO bT) 6
def V9 (d:bV):Option vJ:=cond (bY (bK d) 0) (a6 (false,()))<|cond (gy d 0) (bJ (NF (cu d 0)) fun e=>cond (!(bY e.1 5)) (a6 (false,()))<|bJ (Jj bT d 1) fun f=>dR f (fun i=>a6 (true,())) (fun g=>a6 (g.1.1,()))) a7
def Yq:Sum:=⟨[.str],YI,fun x=>V9 x.1⟩
noncomputable def ajd:Env:=jm prog tt 215 [(113,alz)] [(4,am5)] [(4,anH)]
def ao9 {d:Type} (a:adf.den->Option d) (b:adQ.den->Option d) (c:aeq.den->Option d) (v:adf.den):Option d:=UR (aL a) (b ((),())) (aE c) v.1.1 v.1.2.1
theorem aDy:dX ajd 215 aue anH:=yu (ao9) (h2:=by intros;simp only[ao9,aL,aE,UR,dm,dn,bI,di,dw])
theorem aHO:dO ajd 215 aLn:=pI [aue] (aD (fM (aDy)) aN)
theorem aqI:fK ajd:=eA f215 (aD JR aN) (aHO)
theorem JS:dU prog 215 Yq:=sA aqI
noncomputable def aLs:Code:=(f268.body).getD .skip
noncomputable def aum:Code:=cA (cA (cB (cA (cB (cB (aLs))))))
def acv:fJ:=⟨[0,1,5,6,100003],[],[5],[],[4],[]⟩
def ado:SP:=⟨us [b9,bX,.u,.u,.u,bX,bX] 17,[]⟩
def adY:SP:=⟨us [.u,.u,.u,.u,.u,bX] 18,[]⟩
def aey:SP:=⟨us cW 19,[]⟩
def UX {g:Type} (i:bV->Int->Int->Int->Option g) (l o:Int->Option g) (f:bV) (d j e:Int):Option g:=cond (leI e (eP .i64 (bK f) d)) (cond (eY (bK f) d (cO .i64 d e)) (bJ (V9 (sub f d (cO .i64 d e))) fun m=>cond m.1 (i f d e (cO .i64 e 1))<|i f d j (cO .i64 e 1)) a7)<|l j
def Jm:Nat->bV->Int->Int->Int->Option (adY.den⊕aey.den)
 |0,_,_,_,_=>a7
 |n+1,d,e,f,g=>UX (Jm n) (fun i=>a6 (.inl ((i,()),()))) (fun j=>a6 (.inr ((j,()),()))) d e f g
def aCW (n:Nat) (v:ado.den):=aR (Jm n) v
noncomputable def anP:dD:=gu acv ado adY aey (.exit 0) (aCW bT) 6
def amP (d:bV) (e:Int):Option AQ:=bJ (Jm bT d e 0 1) fun f=>dR f (fun g=>a6 (g.1.1,())) (fun i=>a6 (i.1.1,()))
def aKb:Sum:=⟨[.str,dA],U7,fun x=>amP x.1 x.2.1⟩
noncomputable def ajk:Env:=jm prog tt 268 [(215,Yq)] [(3,acv)] [(3,anP)]
def aph {d:Type} (a:ado.den->Option d) (b:adY.den->Option d) (c:aey.den->Option d) (v:ado.den):Option d:=aR (UX (aM a) (aE b) (aE c)) v
theorem aDG:dX ajk 268 aum anP:=yu (aph) (h2:=by intros;simp only[aph,aM,aE,aR,UX,dm,dn,bI,di,dw])
theorem aHW:dO ajk 268 aLs:=pI [aum] (aD (fM (aDG)) aN)
theorem aqV:fK ajk:=eA f268 (aD JS aN) (aHW)
theorem ata:dU prog 268 aKb:=sA aqV
def amM (d:bV) (e:Int):Option AQ:=bJ (amP d e) fun f=>cond (bY f.1 0) (cond (iF e (bK d)) (cond (gy d e) (bJ (NF (cu d e)) fun g=>cond (bY g.1 6) (a6 (1,()))<|cond (gy d e) (bJ (Qa (cu d e) [64,42,35,63,45,36,33]) fun i=>cond i.1 (a6 (1,()))<|some (f.1,())) a7) a7)<|some (f.1,()))<|some (f.1,())
def azV:Sum:=⟨[.str,dA],U7,fun x=>amM x.1 x.2.1⟩
theorem as5:dU prog 245 azV:=qA f245 [] (sE JR (sE Py (sE ata aN)))
noncomputable def aty:Code:=(f210.body).getD .skip
noncomputable def at7:Code:=cA (cA (cB (cA (cB (cB (aty))))))
noncomputable def alY:Code:=cA (cA (cB (cA (cB (cB (cB (cA (cA (cB (cA (cA (cB (cA (cB (cB (cB (cB (aty))))))))))))))))))
noncomputable def alZ:Code:=cA (cA (cB (cA (cB (cB (cB (cB (cA (cA (cB (cA (cA (cB (cA (cB (cB (cB (cB (aty)))))))))))))))))))
noncomputable def aua:Code:=cA (cA (cB (cA (cB (cB (cB (cB (aty))))))))
def awS:fJ:=⟨[0,3,4,100003],[],[0,3],[],[2],[(2,Kq)]⟩
def amZ:fJ:=⟨[0,3,5,6,7,8,9,100014],[],[0,3,5,6,7,8],[],[2],[(2,Kq)]⟩
def am0:fJ:=⟨[0,3,5,6,7,8,10,100019],[],[0,3,5,6,8],[],[2],[(2,Kq)]⟩
def awT:fJ:=⟨[0,3,5,6,100008],[(5,Kq)],[5],[],[2],[(2,Kq)]⟩
def ac9:SP:=⟨us [b9,.u,.u,eo,bX] 117,[dq]⟩
def adL:SP:=⟨us [b9,.u,.u,eo] 118,[dq]⟩
def ael:SP:=⟨ez,[]⟩
def UM {g:Type} (j:bV->Int->(List KT)->Option g) (l:bV->(List KT)->Option g) (m:(List iM)->Option g) (f:bV) (d:Int) (e:List KT):Option g:=cond (iF d (bK f)) (cond (gy e d) (cond (gy f d) (cond (pK (dI d) e) (bJ (V8 ((dN e ([],([],(false,()))) (dI d)).1,((dN e ([],([],(false,()))) (dI d)).2.1,((dN e ([],([],(false,()))) (dI d)).2.2.1,()))) (cu f d) d) fun i=>cond (eu (bU e [i.1]) 48) (j f (cO .i64 d 1) (bU e [i.1])) a7) a7) a7) a7)<|l f e
def Jh:Nat->bV->Int->(List KT)->Option (adL.den⊕ael.den)
 |0,_,_,_=>a7
 |n+1,d,e,f=>UM (Jh n) (fun g i=>a6 (.inl ((g,()),(i,())))) (fun j=>a6 (.inr ((j,()),()))) d e f
def aCJ (n:Nat) (v:ac9.den):=Jh n v.1.1 v.1.2.1 v.2.1
noncomputable def anC:dD:=gu awS ac9 adL ael (.exit 0) (aCJ bT) 6
def TZ:SP:=⟨us [b9,.u,.u,eo,.u,eD,bX,bX,fh,bX] 112,cw⟩
def Xu:SP:=⟨us [b9,.u,.u,eo,.u,eD,bX,bX,fh] 113,cw⟩
def XC:SP:=⟨ez,[]⟩
def O6 {j:Type} (s:bV->Int->Int->Int->Int->Int->Int->Int->Bool->(List iM)->(List KT)->Option j) (v:bV->Int->Int->Int->Int->Int->Int->Bool->(List iM)->(List KT)->Option j) (x:(List iM)->Option j) (l:bV) (d i e m o p u:Int) (q:Bool) (f:List iM) (g:List KT):Option j:=cond (iF e (bK f)) (cond (iF 1 i) (cond (gy f e) (cond (pK (dI e) f) (cond (gy g (cO .i64 d 1)) (cond (pK (dI (cO .i64 d 1)) g) (cond (gy (dN g ([],([],(false,()))) (dI (cO .i64 d 1))).2.1 (eP .i64 i 1)) (cond (bY (dN f (0,(0,(0,(0,(false,()))))) (dI e)).2.1 (ed (dN g ([],([],(false,()))) (dI (cO .i64 d 1))).2.1 0 (eP .i64 i 1))) (s l d i (cO .i64 e 1) m o p e q f g)<|s l d i (cO .i64 e 1) m o p u q f g) a7) a7) a7) a7) a7)<|s l d i (cO .i64 e 1) m o p u q f g)<|v l d i m o p u q f g
def Ea:Nat->bV->Int->Int->Int->Int->Int->Int->Int->Bool->(List iM)->(List KT)->Option (Xu.den⊕XC.den)
 |0,_,_,_,_,_,_,_,_,_,_,_=>a7
 |n+1,d,e,f,g,i,j,l,m,o,p,q=>O6 (Ea n) (fun s u v x y z A B D E=>a6 (.inl ((s,u,v,()),((x,y,z,A,B,()),D,E,())))) (fun G=>a6 (.inr ((G,()),()))) d e f g i j l m o p q
def axs (n:Nat) (v:TZ.den):=bb (Ea n) v
noncomputable def ahm:dD:=gu amZ TZ Xu XC (.exit 4) (axs bT) 12
def Ua:SP:=⟨us [b9,.u,.u,eo,.u,eD,bX,bX,fh,.u,bX] 111,cw⟩
def Xv:SP:=⟨us [b9,.u,.u,eo,.u,eD,bX,.u,fh] 113,cw⟩
def XD:SP:=⟨ez,[]⟩
def Es {f:Type} (v:bV->Int->Int->Int->Int->Int->Int->Int->Bool->(List iM)->(List KT)->Option f) (p:bV->Int->Int->Int->Int->Int->Bool->(List iM)->(List KT)->Option f) (z:(List iM)->Option f) (g:bV) (i j d q l s m:Int) (u:Bool) (o:List iM) (e:List KT):Option f:=cond (leI d (bK g)) (cond (gy e d) (cond (pK (dI d) e) (bJ (agG ((dN e ([],([],(false,()))) (dI d)).1,((dN e ([],([],(false,()))) (dI d)).2.1,((dN e ([],([],(false,()))) (dI d)).2.2.1,()))) i) fun x=>cond (bY x.1 0) (p g i q l d m false o e)<|cond (gy e d) (cond (pK (dI d) e) (cond (gy (dN e ([],([],(false,()))) (dI d)).1 j) (bJ (amL (cu (dN e ([],([],(false,()))) (dI d)).1 j)) fun y=>v g i j (cO .i64 d 1) y.1 l s m u o e) a7) a7) a7) a7) a7)<|p g i q l s m u o e
def zZ:Nat->bV->Int->Int->Int->Int->Int->Int->Int->Bool->(List iM)->(List KT)->Option (Xv.den⊕XD.den)
 |0,_,_,_,_,_,_,_,_,_,_,_=>a7
 |n+1,d,e,f,g,i,j,l,m,o,p,q=>Es (zZ n) (fun s u v x y z A B D=>a6 (.inl ((s,u,()),((v,x,y,z,A,()),B,D,())))) (fun E=>a6 (.inr ((E,()),()))) d e f g i j l m o p q
def axt (n:Nat) (v:Ua.den):=bb (zZ n) v
noncomputable def ahn:dD:=gu am0 Ua Xv XD (.exit 6) (axt bT) 18
def ada:SP:=⟨us [b9,.u,.u,eo,.u,eD,bX] 115,[.arr 1800005 Kq,dq]⟩
def adM:SP:=⟨us [.u,.u,.u,.u,.u,eD] 116,[.arr 1800005 Kq]⟩
def aem:SP:=⟨ez,[]⟩
def UN {j:Type} (l:bV->Int->(List iM)->(List KT)->Option j) (s o:(List iM)->Option j) (i:bV) (f:Int) (m:List iM) (g:List KT):Option j:=cond (iF f (bK i)) (cond (gy g (cO .i64 f 1)) (cond (pK (dI (cO .i64 f 1)) g) (bJ (agG ((dN g ([],([],(false,()))) (dI (cO .i64 f 1))).1,((dN g ([],([],(false,()))) (dI (cO .i64 f 1))).2.1,((dN g ([],([],(false,()))) (dI (cO .i64 f 1))).2.2.1,()))) f) fun p=>cond (bY p.1 0) (l i (cO .i64 f 1) m g)<|bJ (Ea bT i f p.1 0 0 f (bK i) (-1) true m g) fun u=>dR u (fun e=>bJ (zZ bT e.1.1 e.1.2.1 e.1.2.2.1 (cO .i64 e.1.2.1 1) e.2.1.1 e.2.1.2.1 e.2.1.2.2.1 e.2.1.2.2.2.1 e.2.1.2.2.2.2.1 e.2.2.1 e.2.2.2.1) fun v=>dR v (fun d=>cond (bY d.2.1.1 12) (bJ (amM d.1.1 (cO .i64 d.1.2.1 1)) fun q=>cond (eu (bU d.2.2.1 [(d.2.1.1,(d.2.1.2.1,((cO .i64 (cO .i64 d.1.2.1 1) q.1),(d.2.1.2.2.2.1,(false,())))))]) 40) (l d.1.1 (cO .i64 d.1.2.1 1) (bU d.2.2.1 [(d.2.1.1,(d.2.1.2.1,((cO .i64 (cO .i64 d.1.2.1 1) q.1),(d.2.1.2.2.2.1,(false,())))))]) d.2.2.2.1) a7)<|cond (eu (bU d.2.2.1 [(d.2.1.1,(d.2.1.2.1,(d.2.1.2.2.1,(d.2.1.2.2.2.1,(d.2.1.2.2.2.2.1,())))))]) 40) (l d.1.1 (cO .i64 d.1.2.1 1) (bU d.2.2.1 [(d.2.1.1,(d.2.1.2.1,(d.2.1.2.2.1,(d.2.1.2.2.2.1,(d.2.1.2.2.2.2.1,())))))]) d.2.2.2.1) a7) (fun b4=>o b4.1.1)) (fun x=>o x.1.1)) a7) a7)<|s m
def E9:Nat->bV->Int->(List iM)->(List KT)->Option (adM.den⊕aem.den)
 |0,_,_,_,_=>a7
 |n+1,d,e,f,g=>UN (E9 n) (fun i=>a6 (.inl ((),(i,())))) (fun j=>a6 (.inr ((j,()),()))) d e f g
def aCK (n:Nat) (v:ada.den):=E9 n v.1.1 v.1.2.1 v.2.1 v.2.2.1
noncomputable def anD:dD:=gu awT ada adM aem (.exit 2) (aCK bT) 24
def amE (e:bV):Option ((List iM)×Unit):=bJ V7 fun f=>bJ (Jh bT e 0 [f.1]) fun g=>dR g (fun d=>bJ (E9 bT d.1.1 0 [] d.2.1) fun i=>dR i (fun j=>a6 (j.2.1,())) (fun b4=>a6 (b4.1.1,()))) (fun l=>a6 (l.1.1,()))
def azM:Sum:=⟨[.str],[(.list Kq,false)],fun x=>amE x.1⟩
noncomputable def PW:Env:=jm prog tt 210 [(158,afr),(160,afs),(243,azT),(244,azU),(245,azV)] [(3,awS),(14,amZ),(19,am0),(8,awT)] [(3,anC),(14,ahm),(19,ahn),(8,anD)]
def ao4 {d:Type} (a:ac9.den->Option d) (b:adL.den->Option d) (c:ael.den->Option d) (v:ac9.den):Option d:=UM (fun e f g=>a ((e,f,()),(g,()))) (fun i j=>b ((i,()),(j,()))) (aE c) v.1.1 v.1.2.1 v.2.1
theorem aDt:dX PW 210 at7 anC:=yu (ao4) (h2:=by intros;simp only[ao4,aE,UM,dm,dn,bI,di,dw])
def ah6 {d:Type} (a:TZ.den->Option d) (b:Xu.den->Option d) (c:XC.den->Option d) (v:TZ.den):Option d:=bb (O6 (fun e f g i j l m o p q s=>a ((e,f,g,i,()),((j,l,m,o,p,()),q,s,()))) (fun u x y z A B D E G I=>b ((u,x,y,()),((z,A,B,D,E,()),G,I,()))) (aE c)) v
theorem ax8:dX PW 210 alY ahm:=yu (ah6) (h2:=by intros;simp only[ah6,aE,bb,O6,dm,dn,bI,di,dw])
def ah7 {d:Type} (a:Ua.den->Option d) (b:Xv.den->Option d) (c:XD.den->Option d) (v:Ua.den):Option d:=bb (Es (fun e f g i j l m o p q s=>a ((e,f,g,i,()),((j,l,m,o,p,()),q,s,()))) (fun u x y z A B D E G=>b ((u,x,()),((y,z,A,B,D,()),E,G,()))) (aE c)) v
theorem ax9:dX PW 210 alZ ahn:=yu (ah7) (h2:=by intros;simp only[ah7,aE,bb,Es,dm,dn,bI,di,dw])
def ao5 {d:Type} (a:ada.den->Option d) (b:adM.den->Option d) (c:aem.den->Option d) (v:ada.den):Option d:=UN (fun e f g i=>a ((e,f,()),(g,i,()))) (fun j=>b ((),(j,()))) (aE c) v.1.1 v.1.2.1 v.2.1 v.2.2.1
theorem aDu:dX PW 210 aua anD:=yu (ao5) (h2:=by intros;simp only[ao5,aE,UN,dm,dn,bI,di,dw])
theorem aHK:dO PW 210 aty:=pI [at7,alY,alZ,aua] (aD (fM (aDt)) (aD (fM (ax8)) (aD (fM (ax9)) (aD (fM (aDu)) aN))))
theorem aqE:fK PW:=eA f210 (aD Q5 (aD Q7 (aD as3 (aD as4 (aD as5 aN))))) (aHK)
theorem asT:dU prog 210 azM:=sA aqE
noncomputable def aLi:Code:=(f162.body).getD .skip
noncomputable def atW:Code:=cA (cA (cB (cA (cB (cB (aLi))))))
def awO:fJ:=⟨[0,2,3,4,100003],[],[2,3],[],[2],[]⟩
def ac4:SP:=⟨us [b9,.u,cK,ck,bX] 14,eb⟩
def adH:SP:=⟨us [.u,.u,cK,ck] 15,eb⟩
def aeh:SP:=⟨us [] 19,[]⟩
def UH {e:Type} (p:bV->Int->bV->iG->Bool->bV->Bool->Option e) (q:bV->iG->Bool->bV->Bool->Option e) (s:Option e) (f:bV) (d:Int) (i:bV) (j:iG) (l:Bool) (m:bV) (o:Bool):Option e:=cond (iF d (bK f)) (cond (gy f d) (bJ (V8 (i,(j,(l,()))) (cu f d) d) fun g=>p f (cO .i64 d 1) g.1.1 g.1.2.1 g.1.2.2.1 m o) a7)<|q i j l m o
def Oc:Nat->bV->Int->bV->iG->Bool->bV->Bool->Option (adH.den⊕aeh.den)
 |0,_,_,_,_,_,_,_=>a7
 |n+1,d,e,f,g,i,j,l=>UH (Oc n) (fun m o p q s=>a6 (.inl ((),((m,o,p,()),(q,s,()),())))) (a6 (.inr ((),()))) d e f g i j l
def aCE (n:Nat) (v:ac4.den):=Oc n v.1.1 v.1.2.1 v.2.1.1 v.2.1.2.1 v.2.1.2.2.1 v.2.2.1.1 v.2.2.1.2.1
noncomputable def anw:dD:=gu awO ac4 adH aeh (.exit 0) (aCE bT) 6
def amu (f:bV):Option taW:=bJ V7 fun d=>bJ (Oc bT f 0 d.1.1 d.1.2.1 d.1.2.2.1 [] false) fun g=>dR g (fun e=>a6 ((e.2.1.1,(e.2.1.2.1,(e.2.1.2.2.1,()))),())) (fun i=>a7)
def aJA:Sum:=⟨[.str],tzH,fun x=>amu x.1⟩
noncomputable def ai5:Env:=jm prog tt 162 [(158,afr),(160,afs)] [(3,awO)] [(3,anw)]
def aoZ {d:Type} (a:ac4.den->Option d) (b:adH.den->Option d) (c:aeh.den->Option d) (v:ac4.den):Option d:=UH (fun e f g i j l m=>a ((e,f,()),((g,i,j,()),(l,m,()),()))) (fun o p q s u=>b ((),((o,p,q,()),(s,u,()),()))) (c ((),())) v.1.1 v.1.2.1 v.2.1.1 v.2.1.2.1 v.2.1.2.2.1 v.2.2.1.1 v.2.2.1.2.1
theorem aDo:dX ai5 162 atW anw:=yu (aoZ) (h2:=by intros;simp only[aoZ,UH,dm,dn,bI,di,dw])
theorem aHC:dO ai5 162 aLi:=pI [atW] (aD (fM (aDo)) aN)
theorem aqv:fK ai5:=eA f162 (aD Q5 (aD Q7 aN)) (aHC)
theorem asC:dU prog 162 aJA:=sA aqv
noncomputable def aLf:Code:=(f114.body).getD .skip
noncomputable def atN:Code:=cA (cA (cB (cA (cB (cB (aLf))))))
def awH:fJ:=⟨[0,5,6,100003],[],[0],[],[4],[]⟩
def acW:SP:=⟨us [b9,.u,.u,.u,.u,cC,bX] 37,[.box 1000005 193 [b9,eJ,cf]]⟩
def Uh:SP:=⟨us [b9] 43,[]⟩
def Ul:SP:=⟨us cW 39,[]⟩
def En {g:Type} (e:bV) (d:Int) (i:bV) (j:iG) (l:Bool) (m:bV->Int->bV->iG->Bool->Option g):Option g:=cond (gy e d) (bJ (V8 (i,(j,(l,()))) (cu e d) d) fun f=>m e (cO .i64 d 1) f.1.1 f.1.2.1 f.1.2.2.1) a7
def UB {g:Type} (i:bV->Int->bV->iG->Bool->Option g) (o:bV->Option g) (m:Int->Option g) (e:bV) (d:Int) (f:bV) (j:iG) (l:Bool):Option g:=cond (iF d (bK e)) (cond (gy e d) (bJ (agt (cu e d)) fun p=>cond p.1 (cond (gp f [84]) (m d)<|cond (gp f [84,76]) (cond (gy e d) (cond (!(bY (cu e d) 40)) (m d)<|En e d f j l i) a7)<|En e d f j l i)<|En e d f j l i) a7)<|o e
def Jf:Nat->bV->Int->bV->iG->Bool->Option (Uh.den⊕Ul.den)
 |0,_,_,_,_,_=>a7
 |n+1,d,e,f,g,i=>UB (Jf n) (fun j=>a6 (.inl ((j,()),()))) (fun l=>a6 (.inr ((l,()),()))) d e f g i
def aCw (n:Nat) (v:acW.den):=Jf n v.1.1 v.1.2.1 v.2.1.1 v.2.1.2.1 v.2.1.2.2.1
noncomputable def ann:dD:=gu awH acW Uh Ul (.exit 0) (aCw bT) 6
def ZN (e:bV) (f:Int):Option AQ:=bJ V7 fun d=>bJ (Jf bT e f d.1.1 d.1.2.1 d.1.2.2.1) fun g=>dR g (fun i=>a6 ((bK i.1.1),())) (fun j=>a6 (j.1.1,()))
def azr:Sum:=⟨[.str,dA],U7,fun x=>ZN x.1 x.2.1⟩
noncomputable def aiY:Env:=jm prog tt 114 [(158,afr),(160,afs),(159,azG)] [(3,awH)] [(3,ann)]
def aoR {d:Type} (a:acW.den->Option d) (b:Uh.den->Option d) (c:Ul.den->Option d) (v:acW.den):Option d:=UB (fun e f g i j=>a ((e,f,()),((g,i,j,()),()))) (aE b) (aE c) v.1.1 v.1.2.1 v.2.1.1 v.2.1.2.1 v.2.1.2.2.1
theorem aDg:dX aiY 114 atN ann:=yu (aoR) (h2:=by intros;simp only[aoR,aE,UB,dm,dn,bI,di,dw,En])
theorem aHt:dO aiY 114 aLf:=pI [atN] (aD (fM (aDg)) aN)
theorem aqj:fK aiY:=eA f114 (aD Q5 (aD Q7 (aD aaQ aN))) (aHt)
theorem asn:dU prog 114 azr:=sA aqj
end
section
open List renaming length_drop → aU, length_take → aZ
open Go.RowKit
theorem dB {a b:Int} (d: -9223372036854775808<=a+b:=by omega) (h2:a+b<=9223372036854775807:=by omega):cO .i64 a b=a+b:=by
 unfold cO;rw[IntKind.wrap_i64];omega
theorem ig {a b:Int} (d: -9223372036854775808<=a-b:=by omega) (h2:a-b<=9223372036854775807:=by omega):eP .i64 a b=a-b:=by
 unfold eP;rw[IntKind.wrap_i64];omega
theorem aCq {a b:Int}:leI a b=true↔a<=b:=by simp[leI]
theorem aC4 {a b:Int}:iF a b=true↔a<b:=by simp[iF]
theorem aBv {a b:Int}:bY a b=true↔a=b:=by simp[bY]
theorem aCa {d:Type} {l:List d} {i:Int}:gy l i=true↔0<=i/\i<l.length:=by simp[gy]
theorem aC5 {d:Type} {l:List d} {i:Nat}:pK i l=true↔i<l.length:=by simp[pK,TC]
theorem arW {n lo hi:Int}:eY n lo hi=true↔0<=lo/\lo<=hi/\hi<=n:=by simp[eY]
theorem bW {d:Type} {b:Bool} {x y:d} (h:b=true):(bif b then x else y)=x:=by rw[h];rfl
theorem dG {d:Type} {b:Bool} {x y:d} (h:b=false):(bif b then x else y)=y:=by rw[h];rfl
theorem oK {a b:Int} (h:a<=b:=by omega):leI a b=true:=aCq.2 h
theorem Sm {a b:Int} (h:b<a:=by omega):leI a b=false:=by simp[leI];omega
theorem fG {a b:Int} (h:a<b:=by omega):iF a b=true:=aC4.2 h
theorem lD {a b:Int} (h:b<=a:=by omega):iF a b=false:=by simp[iF];omega
theorem BC {a b:Int} (h: ¬a<=b:=by omega):leI a b=false:=Sm
theorem gU {a b:Int} (h: ¬a<b:=by omega):iF a b=false:=lD
theorem eG {a b:Int} (h:a=b:=by omega):bY a b=true:=aBv.2 h
theorem dM {a b:Int} (h:a≠b:=by omega):bY a b=false:=by simp[bY];exact h
theorem eF {d:Type} {l:List d} {i:Int} (h:0<=i:=by omega) (h2:i<l.length:=by omega):gy l i=true:=aCa.2 ⟨h,h2⟩
theorem qU {d:Type} {l:List d} {i:Nat} (h:i<l.length):pK i l=true:=aC5.2 h
theorem fQ {n lo hi:Int} (h:0<=lo:=by omega) (d:lo<=hi:=by omega) (h2:hi<=n:=by omega):eY n lo hi=true:=arW.2 ⟨h,d,h2⟩
theorem bM {d:Type} {l:List d}:bK l=(l.length:Int):=rfl
theorem dJ {n:Nat} (h:n<1000000000000000000000000:=by omega):n<bT:=by unfold bT;omega
theorem aGB (s:bV) (i:Int): ∃n:Fin 256,cu s i=((n.val:Nat):Int):=⟨⟨(s.getD i.toNat 0).toNat,UInt8.toNat_lt _⟩,rfl⟩
theorem aGA {s:List UInt8} {a b j:Int} (d:0<=a) (e:0<=j) (h:a+j<b):cu (sub s a b) j=cu s (a+j):=by
 unfold cu sub;congr 2;simp only[List.getD,List.getElem?_drop,List.getElem?_take];rw[am (by omega)];congr 2;omega
theorem U5 {d:Type} {s:List d} {a b:Int} (e:0<=a) (f:a<=b) (h:b<=s.length):(((sub s a b).length:Nat):Int)=b-a:=by
 unfold sub;simp only[aU,aZ];omega
theorem aro {e:Type} {l m:List e} {d:e} {i:Int} (f:0<=i) (h:i<l.length):ed (l++m) d i=ed l d i:=by
 unfold ed;simp only[List.getD];rw[List.getElem?_append_left (by omega)]
theorem qF {e:Type} {l:List e} {d x:e} {i:Int} (h:i=l.length):ed (l++[x]) d i=x:=by
 unfold ed;subst h;simp[List.getD]
end
section
open Option renaming some → a6, none → a7
open List renaming length_append → ai, length_singleton → aV
open Go.RowKit
abbrev fE:=List lW
def lo (s:fE):List lL:=(s.map fun f=>(f.1,f.2,())).reverse
def letter (m:Int):UInt8:=([84,67,80,79,83,68,66,86,73,65,82,69,76,88,35]:bV).getD m.toNat 0
def so (s:fE):bV:=(s.map fun f=>letter f.1).reverse
def po (s:fE):List Int:=(s.map (·.2)).reverse
theorem vO (f:lW) (s:fE):lo (f::s)=lo s++[(f.1,f.2,())]:=by simp[lo]
theorem qN (f:lW) (s:fE):so (f::s)=so s++[letter f.1]:=by simp[so]
theorem vZ (f:lW) (s:fE):po (f::s)=po s++[f.2]:=by simp[po]
theorem oV (s:fE):(lo s).length=s.length:=by simp[lo]
theorem FU (s:fE):(so s).length=s.length:=by simp[so]
theorem XI (s:fE):(po s).length=s.length:=by simp[po]
def uD (b:Int):Bool:=decide (b=32)||decide (b=9)||decide (b=10)||decide (b=124)||decide (b=38)||decide (b=59)||decide (b=60)||decide (b=62)||decide (b=40)||decide (b=41)
def isByte (b:Int):Prop:=0<=b/\b<256
theorem Vx {b:Int} (h:isByte b): ∃n:Fin 256,b=((n.val:Nat):Int):=⟨⟨b.toNat,by have:=h.2;have:=h.1;omega⟩,by have:=h.1;simp;omega⟩
theorem nM (s:bV) (i:Int):isByte (cu s i):=by
 grind [cu,isByte,UInt8.toNat_lt]
theorem aLz: ∀n:Fin 256,Kw ((n.val:Nat):Int)=a6 (uD ((n.val:Nat):Int),()):=by decide+kernel
theorem aLA: ∀n:Fin 256,agt ((n.val:Nat):Int)=a6 (uD ((n.val:Nat):Int),()):=by decide+kernel
theorem auL {b:Int} (h:isByte b):Kw b=a6 (uD b,()):=by
 obtain⟨n,rfl⟩:=Vx h;exact aLz n
theorem auM {b:Int} (h:isByte b):agt b=a6 (uD b,()):=by
 obtain⟨n,rfl⟩:=Vx h;exact aLA n
theorem aai {d:Type} {l:List d} (x:d) (h:l.length<1000000):dI (eP .i64 (bK (l++[x])) 1)=l.length:=by
 grind [bM,ig,dI]
theorem aaK {d:Type} {l:List d} (x:d) (h:l.length<1000000):sub (l++[x]) 0 (eP .i64 (bK (l++[x])) 1)=l:=by
 have e:(((l++[x]).length:Nat):Int)=l.length+1:=by simp
 rw[bM,e,ig];simp_all [sub]
theorem zt {d:Type} {l:List d} (x:d) (h:l.length<1000000):eP .i64 (bK (l++[x])) 1=l.length:=by
 grind [bM,ig]
theorem aow {s:fE} (hb:s.length<1000000) (fr:Bool) (at_ m:Int):zM (lo s) fr at_ m=a6 ((lo ((m,at_)::s),(fr,(at_,()))),()):=by
 have h:eu (bU (lo s) [(m,(at_,()))]) 16=true:=by
  simp only[eu,bU,ai,oV,aV,decide_eq_true_eq,mJ];omega
 unfold zM;rw[h];simp[bY,bU,vO]
theorem Un {f g:Int×Int} {r:fE} (hb:(f::g::r).length<1000000) (fr:Bool) (at_:Int):zL (lo (f::g::r)) fr at_=a6 ((lo (g::r),(fr,(at_,()))),()):=by
 have d:(lo (g::r)).length=r.length+1:=by rw[oV];rfl
 have e:r.length+2<1000000:=by simpa using hb
 unfold zL;rw[vO f,zt _ (by omega),bW (fG (by grind [bM])),bW (fQ (by omega) (by omega) (by rw[bM];simp;omega))];simp[takeN,dI]
theorem uX {f:Int×Int} {r:fE} (hb:(f::r).length<1000000) (fr:Bool) (at_ m:Int):xP (lo (f::r)) fr at_ m=a6 ((lo ((m,f.2)::r),(fr,(at_,()))),()):=by
 have d:(lo r).length=r.length:=oV r;have e:r.length+1<1000000:=by simpa using hb
 unfold xP;rw[vO f,zt _ (by omega),bW (eF (by omega) (by simp;omega)),bW (qU (by simp[dI]))];simp[dI,dN,iR,vO]
theorem ahP {f g:Int×Int} {r:fE} (hb:(f::g::r).length<1000000) (fr:Bool) (at_:Int):amv (lo (f::g::r)) fr at_=a6 ((lo (f::g::r),(fr,(at_,()))),(g.1,())):=by
 have d:(lo r).length=r.length:=oV r;have i:r.length+2<1000000:=by simpa using hb
 have e:Fh (eP .i64 (bK (lo (f::g::r))) 2) 0=r.length:=by
  grind [bM,ig,oV,Fh]
 unfold amv;rw[e,vO f,vO g,bW (eF (by omega) (by simp[d];omega)),bW (qU (by simp[dI,d]))];simp_all [dI,dN]
theorem JB {f:Int×Int} {r:fE} (hb:(f::r).length<1000000) (fr:Bool) (c:UInt8):GX (so (f::r),(po (f::r),(fr,()))) [c]=a6 ((so r++[c],(po (f::r),(fr,()))),()):=by
 have d:(so r).length=r.length:=FU r;have e:r.length+1<1000000:=by simpa using hb
 unfold GX;simp only;rw[qN,aaK _ (by omega),zt _ (by omega),bW (fQ (by omega) (by omega) (by rw[bM];simp;omega)),bW (by simp[iQ,mJ,d];omega)];rfl
theorem aeO {f:Int×Int} {r:fE} (hb:(f::r).length<1000000) (fr:Bool):NI (so (f::r),(po (f::r),(fr,())))=a6 ((so r,(po r,(fr,()))),()):=by
 have d:(so r).length=r.length:=FU r;have e:(po r).length=r.length:=XI r;have g:r.length+1<1000000:=by simpa using hb
 unfold NI;simp only;rw[qN,vZ,aaK _ (by omega),zt _ (by omega),bW (fQ (by omega) (by omega) (by rw[bM];simp;omega)),bW (fQ (by omega) (by omega) (by rw[bM];simp;omega))];simp[sub,d,e]
theorem GN {d:Type} {f:d->d->Bool} (h: ∀x,f x x=true): ∀l:List d,zJ f l l=true
 |[]=>rfl
 |x::l=>by simp[zJ,h,GN h l]
theorem VP: ∀(t:Ty) (x:t.den),eqD t x x=true
 |.unit,_=>rfl
 |.bool,x=>by simp[eqD]
 |.int _,x=>by simp[eqD,bY]
 |.str,x=>by simp[eqD,gp]
 |.list t,x=>GN (VP t) x
 |.pair a b,x=>by simp[eqD,VP]
theorem iD (t:Ty) (x:List t.den):pO t x x=true:=GN (VP t) x
theorem eU (x:Int):bY x x=true:=by simp[bY]
theorem lN (x:bV):gp x x=true:=by simp[gp]
theorem iL (x:Bool):jM x x=true:=by simp[jM]
theorem aDZ {s:fE} (hb:s.length<1000000) (fr:Bool) (c:UInt8) (at_:Int):zN (so s,(po s,(fr,()))) [c] at_=a6 ((so s++[c],(po s++[at_],(fr,()))),()):=by
 have e:(so s).length=s.length:=FU s;have d:(po s).length=s.length:=XI s;have f:iQ (so s) [c]=true:=by simp[iQ,mJ,e];omega
 have g:eu (bU [] (po s)) 8=true:=by simp[eu,bU,mJ,d];omega
 have i:eu (bU (bU [] (po s)) [at_]) 8=true:=by simp[eu,bU,mJ,d];omega
 (unfold zN;delta oh lV)
 simp_all [eU,lN,iL,iD,bI,bU]
theorem Uu (a:bV) (b:List Int) (fr d:Bool):Bj (a,(b,(fr,()))) d=a6 ((a,(b,(d,()))),()):=rfl
end
section
open Go.RowKit
def uf (s:fE) (b at_:Int):Option fE:=if b=92 then some ((13,at_)::s)else if b=36 then some ((12,at_)::s)else if b=96 then some ((6,at_)::s)else none
def xn (m:Int) (s:fE) (fr:Bool) (b at_:Int):fE×Bool:=if b=92 then((13,at_)::s,fr)else if b=35/\fr=true then((14,at_)::s,fr)else if b=40 then(if m=0 then s else(2,at_)::s,true)else if b=41 then(if m=0 then s else s.tail, !decide (m=1))else if b=39 then((4,at_)::s,false)else if b=34 then((5,at_)::s,false)else if b=36 then((12,at_)::s,false)else if b=96 then((6,at_)::s,false)else(s,uD b)
def iJ (m:Int) (s:fE) (fr:Bool) (b at_:Int):fE×Bool:=
 if m=0\/m=1\/m=2 then xn m s fr b at_
 else if m=13 then(s.tail,fr&&decide (b=10))
 else if m=4 then(if b=39 then s.tail else s,fr)
 else if m=14 then(if b=10 then(s.tail,true)else(s,fr))
 else if m=6 then(if b=96 then s.tail else if b=92 then(13,at_)::s else s,fr)
 else match uf s b at_ with
  |some d=>(d,fr)
  |none=>
   if m=9\/m=10 then(if b=40 then(10,at_)::s else if b=41 then(if m=10 then s.tail else(11,(s.headD (0,0)).2)::s.tail)else s,fr)
   else(if b=34 then(if m=5 then s.tail else(5,at_)::s)else if b=125/\m≠5 then s.tail else if b=39/\m=7 then(4,at_)::s else s,fr)
def eQ (s:fE) (fr:Bool) (b at_:Int):fE×Bool:=
 match s with
 |[]=>([],fr)
 |f::r=>
  if f.1=12 then
   (if b=40 then((3,f.2)::r,true)
   else if b=123 then((if(r.headD (0,0)).1=5\/(r.headD (0,0)).1=8 then 8 else 7,f.2)::r,fr)
   else if b=36 then(r,fr)
   else iJ (r.headD (0,0)).1 r fr b at_)
  else if f.1=3 then(if b=40 then((9,f.2)::r,false)else iJ 1 ((1,f.2)::r) fr b at_)
  else if f.1=11 then(if b=41 then(r,fr)else iJ 9 ((9,f.2)::r) fr b at_)
  else iJ f.1 (f::r) fr b at_
theorem pW (b:Int):b=10\/b=34\/b=35\/b=36\/b=39\/b=40\/b=41\/b=92\/b=96\/b=123\/b=125\/
  (b≠10/\b≠34/\b≠35/\b≠36/\b≠39/\b≠40/\b≠41/\b≠92/\b≠96/\b≠123/\b≠125):=by omega
theorem iO (a b:Int):bY a b=decide (a=b):=by
 rfl
def pst (x:fE×Bool) (at_:Int):(List lL×Bool×Int×Unit):=(lo x.1,(x.2,(at_,())))
def KG (x:fE×Bool):bV×(List Int×vJ):=(so x.1,(po x.1,(x.2,())))
theorem alj {m:Int} {f:Int×Int} {r:fE} (d:m=0\/((m=1\/m=2)/\ ∃g i,r=g::i)) (hb:(f::r).length<1000000) (fr:Bool) {b:Int} (j:isByte b) (at_:Int):
  ZR (lo (f::r)) fr at_ m b=some (pst (xn m (f::r) fr b at_) at_,()):=by
 have e:=auL j;rcases d with rfl|⟨rfl|rfl,g,r,rfl⟩<;>rcases pW b with rfl|rfl|rfl|rfl|rfl|rfl|rfl|rfl|rfl|rfl|rfl|⟨l,o,p,q,s,u,v,x,y,z,A⟩<;>cases fr<;>
  simp_all [ZR,We,xn,pst,iO,aow,Un,uD,bI,NH]
theorem aDQ {m:Int} {f:Int×Int} {r:fE} (d:m=0\/((m=1\/m=2\/m=4\/m=5\/m=6\/m=7\/m=8\/m=9\/m=10\/m=13\/m=14)/\ ∃g i,r=g::i)) (hb:(f::r).length<1000000) (fr:Bool) {b:Int} (e:isByte b) (at_:Int):
  RF (lo (f::r)) fr at_ m b=some (pst (iJ m (f::r) fr b at_) at_,()):=by
 rcases d with rfl|⟨rfl|rfl|d,g,r,rfl⟩
 .simp[RF,iJ,iO,alj (.inl rfl) hb fr e at_,pst,bI,EP]
 .simp[RF,iJ,iO,alj (.inr ⟨.inl rfl,g,r,rfl⟩) hb fr e at_,pst,bI,EP]
 .simp[RF,iJ,iO,alj (.inr ⟨.inr rfl,g,r,rfl⟩) hb fr e at_,pst,bI,EP]
 .rcases d with rfl|rfl|rfl|rfl|rfl|rfl|rfl|rfl|rfl<;>rcases pW b with rfl|rfl|rfl|rfl|rfl|rfl|rfl|rfl|rfl|rfl|rfl|⟨j,l,o,p,q,s,u,v,x,y,z⟩<;>cases fr<;>
  simp_all [RF,amw,amx,We,iJ,uf,pst,iO,aow,Un,uX,bI,EP,abZ,ab1]
def WL (m:Int):Prop:=m=0\/m=1\/m=2\/m=5\/m=6\/m=7\/m=8\/m=9\/m=10
def iV:fE->Prop
 |[]=>False
 |[f]=>f.1=0
 |f::g::r=>1<=f.1/\f.1<=14/\WL g.1/\iV (g::r)
theorem agL: ∃k,bT=k+2:=by
 simp_all [bT]
theorem ahx {l:List lL} {x:Int×Int×Unit} (h:l.length<1000000):dN (l++[x]) (0,(0,())) (dI (eP .i64 (bK (l++[x])) 1))=x:=by
 rw[aai x h];simp[dN]
theorem ace {d:Type} {l:List d} {x:d} (h:l.length<1000000):gy (l++[x]) (eP .i64 (bK (l++[x])) 1)=true:=by
 grind [zt,eF]
theorem anY {d:Type} {l:List d} {x:d} (h:l.length<1000000):pK (dI (eP .i64 (bK (l++[x])) 1)) (l++[x])=true:=by
 simp_all [aai,qU]
theorem BN {f:Int×Int} {r:fE} (n:Nat) (e:f.1=0\/((f.1=1\/f.1=2\/f.1=4\/f.1=5\/f.1=6\/f.1=7\/f.1=8\/f.1=9\/f.1=10\/f.1=13\/f.1=14)/\ ∃g i,r=g::i)) (hb:(f::r).length<1000000) (fr:Bool) {b:Int} (j:isByte b) (at_:Int):
  Ec (n+1) b fr at_ (lo (f::r))=some (.inl ((),((),()),(((iJ f.1 (f::r) fr b at_).2,at_,()),lo (iJ f.1 (f::r) fr b at_).1,()))):=by
 have d:(lo r).length<1000000:=by grind [oV]
 have l:f.1≠12:=by omega
 have m:f.1≠3:=by omega
 have o:f.1≠11:=by omega
 have p:=aDQ e hb fr j at_;rw[Ec,Iw];rw[show lo (f::r)=lo r++[(f.1,f.2,())] from vO f r,ace d,anY d,ahx d];simp only[aa,iO,l,m,o,decide_false,ac];rw[<-vO,p,bI];rfl
theorem arH {f:Int×Int} {r:fE} (d:iV (f::r)) (hl:WL f.1):f.1=0\/((f.1=1\/f.1=2\/f.1=4\/f.1=5\/f.1=6\/f.1=7\/f.1=8\/f.1=9\/f.1=10\/f.1=13\/f.1=14)/\ ∃g e,r=g::e):=by
 cases r with
 |nil=>exact .inl d
 |cons g r=>
  unfold WL at hl
  grind
theorem aju {s:fE} (d:iV s) (hb:s.length<1000000) (fr:Bool) {b:Int} (m:isByte b) {at_:Int} (u:0<=at_) (o:at_<1000000000):arf (lo s) fr at_ b=some (pst (eQ s fr b at_) (at_+1),()):=by
 obtain⟨k,hk⟩:=agL;cases s with
 |nil=>cases d
 |cons f r=>
 have j:(lo r).length<1000000:=by grind [oV]
 have p:bY (bK (lo (f::r))) 0=false:=dM (by rw[bM,oV];simp;omega);have i:cO .i64 at_ 1=at_+1:=dB;unfold arf;rw[p,ac,hk];by_cases hp:f.1=12\/f.1=3\/f.1=11
 .cases r with
  |nil=>have:f.1=0:=d;omega
  |cons g r=>
  have v:=arH d.2.2.2 d.2.2.1;have x:(g::r).length<1000000:=by grind
  rw[show k+2=(k+1)+1 from rfl,Ec,Iw,show lo (f::g::r)=lo (g::r)++[(f.1,f.2,())] from vO f _,ace j,anY j,ahx j,<-vO];rcases hp with e|e|e
  .have hd:RD (lo (f::g::r)) fr at_ b=some ((if b=40 then(lo ((3,f.2)::g::r),(true,(at_,())))else if b=123 then(lo ((if g.1=5\/g.1=8 then 8 else 7,f.2)::g::r),(fr,(at_,())))else(lo (g::r),(fr,(at_,())))),(decide (b=40\/b=123\/b=36),())):=by
    by_cases e1:b=40
    .subst e1;simp[RD,iO,uX hb,bI]
    .by_cases e2:b=123
     .subst e2;by_cases e5:g.1=5
      .simp[RD,iO,uX hb,ahP hb,bI,e5]
      .by_cases e8:g.1=8<;>simp[RD,iO,uX hb,ahP hb,bI,e5,e8]
     .by_cases e3:b=36<;>simp[RD,iO,Un hb,bI,e1,e2,e3]
   simp only[aa,iO,e,decide_true];rw[hd,bI];by_cases e1:b=40\/b=123\/b=36
   .simp only[e1,decide_true,aa,bI,dR,i];rcases e1 with rfl|rfl|rfl<;>simp[eQ,e,pst,i]
   .have l:b≠40/\b≠123/\b≠36:=by omega
    simp only[l.1,l.2.1,l.2.2,or_self,decide_false,ac,if_false];simp_all [BN,bI,dR,eQ,pst]
  .simp only[aa,iO,e,decide_true,show decide ((3:Int)=12)=false from rfl,ac];by_cases e1:b=40
   .simp_all [uX,bI,dR,eQ,pst]
   .simp only[e1,decide_false,ac,uX hb,bI];rw[BN k (f:=(1,f.2)) (.inr ⟨.inl rfl,g,r,rfl⟩) (by simpa using hb) fr m at_,bI];simp[dR,eQ,e,e1,pst,i]
  .simp only[aa,iO,e,decide_true,show decide ((11:Int)=12)=false from rfl,show decide ((11:Int)=3)=false from rfl,ac];by_cases e1:b=41
   .simp_all [Un,bI,dR,eQ,pst]
   .simp only[e1,decide_false,ac,uX hb,bI];rw[BN k (f:=(9,f.2)) (.inr ⟨by simp,g,r,rfl⟩) (by simpa using hb) fr m at_,bI];simp[dR,eQ,e,e1,pst,i]
 .have y:f.1=0\/((f.1=1\/f.1=2\/f.1=4\/f.1=5\/f.1=6\/f.1=7\/f.1=8\/f.1=9\/f.1=10\/f.1=13\/f.1=14)/\ ∃g q,r=g::q):=by
   cases r with
   |nil=>exact .inl d
   |cons g r=>have o:=d.1;have z:=d.2.1;grind
  simp_all [BN,bI,dR,eQ,pst]
end
section
open Go.RowKit
theorem apr (f:lW) (r:fE) (h:r.length<1000000):cu (so (f::r)) (eP .i64 (bK (so (f::r))) 1)=((letter f.1).toNat:Int):=by
 rw[qN,zt _ (by rw[FU];exact h)];simp[cu,List.getD]
theorem aFk (f:lW) (r:fE) (h:r.length<1000000):gy (so (f::r)) (eP .i64 (bK (so (f::r))) 1)=true:=by
 rw[qN];exact ace (by rw[FU];exact h)
theorem azk (f g:lW) (r:fE) (h:r.length<900000):gy (so (f::g::r)) (eP .i64 (bK (so (f::g::r))) 2)=true/\cu (so (f::g::r)) (eP .i64 (bK (so (f::g::r))) 2)=((letter g.1).toNat:Int):=by
 have d:(((so (f::g::r)).length:Nat):Int)=r.length+2:=by rw[FU];simp;omega
 rw[bM,d,ig,show((r.length:Int)+2-2)=r.length by omega];refine⟨eF (by omega) (by rw[d];omega), ?_⟩;rw[qN,qN];simp[cu,List.getD,FU]
theorem lets:letter 0=84/\letter 1=67/\letter 2=80/\letter 3=79/\letter 4=83/\letter 5=68/\letter 6=66/\letter 7=86/\letter 8=73/\letter 9=65/\letter 10=82/\letter 11=69/\letter 12=76/\letter 13=88/\letter 14=35:=by decide
theorem Em {s:fE} (hb:s.length<1000000) (fr:Bool) (m:Int) (c:UInt8) (d:c=letter m) (at_:Int):zN (so s,(po s,(fr,()))) [c] at_=some ((so ((m,at_)::s),(po ((m,at_)::s),(fr,()))),()):=by
 subst d;rw[aDZ hb,qN,vZ]
theorem alk {m:Int} {f:Int×Int} {r:fE} (d:m=0\/m=1\/m=2) (hb:(f::r).length<1000000) (fr:Bool) {b:Int} (g:isByte b) (at_:Int):
  amK (so (f::r),(po (f::r),(fr,()))) ((letter m).toNat:Int) b at_=some (KG (xn m (f::r) fr b at_),()):=by
 have e:=auM g;have i:=Em hb fr 13 88 rfl at_;have j:=Em hb fr 4 83 rfl at_;have l:=Em hb fr 5 68 rfl at_;have o:=Em hb fr 12 76 rfl at_;have p:=Em hb fr 6 66 rfl at_;have q:=Em hb fr 14 35 rfl at_;have s:=Em hb fr 2 80 rfl at_;have u:=aeO hb fr;have v:=lets;rcases d with rfl|rfl|rfl<;>rcases pW b with rfl|rfl|rfl|rfl|rfl|rfl|rfl|rfl|rfl|rfl|rfl|⟨x,y,z,A,B,D,E,G,I,J,K⟩<;>cases fr<;>
  simp_all [amK,ZX,xn,KG,iO,Uu,uD,bI,lN,iD,iL,ab5,ab6]
theorem Ur {m:Int} {f:Int×Int} {r:fE} (hf:f.1=m) (e:m=0\/m=1\/m=2\/m=4\/m=5\/m=6\/m=7\/m=8\/m=9\/m=10\/m=13\/m=14) (hb:(f::r).length<1000000) (fr:Bool) {b:Int} (g:isByte b) (at_:Int):
  Kv (so (f::r),(po (f::r),(fr,()))) ((letter m).toNat:Int) b at_=some (KG (iJ m (f::r) fr b at_),()):=by
 have i:=lets;have j:=Em hb fr 13 88 rfl at_;have l:=Em hb fr 12 76 rfl at_;have o:=Em hb fr 6 66 rfl at_;have p:=Em hb fr 10 82 rfl at_;have q:=Em hb fr 5 68 rfl at_;have s:=Em hb fr 4 83 rfl at_;have u:=aeO hb fr;have tt:=JB hb fr 69;have v:so r++[69]=so ((11,f.2)::r):=by rw[qN];rfl
 have x:po (f::r)=po ((11,f.2)::r):=by simp[vZ]
 rcases e with rfl|rfl|rfl|e
 .have d:=alk (.inl rfl) hb fr g at_;simp[Kv,iJ,iO,bI,KG,EQ,xY,IX,IY]at d ⊢;rw[d];simp[bI,i]
 .have d:=alk (.inr (.inl rfl)) hb fr g at_;simp[Kv,iJ,iO,bI,KG,EQ,xY,IX,IY]at d ⊢;rw[d];simp[bI,i]
 .have d:=alk (.inr (.inr rfl)) hb fr g at_;simp[Kv,iJ,iO,bI,KG,EQ,xY,IX,IY]at d ⊢;rw[d];simp[bI,i]
 .rcases e with rfl|rfl|rfl|rfl|rfl|rfl|rfl|rfl|rfl<;>rcases pW b with rfl|rfl|rfl|rfl|rfl|rfl|rfl|rfl|rfl|rfl|rfl|⟨y,z,A,B,D,E,G,I,J,K,L⟩<;>cases fr<;>
  simp_all [Kv,ZX,iJ,uf,KG,iO,Uu,bI,lN,iD,iL,gp,EQ,xY,IX,IY]
end
section
open Go.RowKit
theorem I5 {f:Int×Int} {r:fE} (h:iV (f::r)):0<=f.1/\f.1<=14:=by
 cases r with
 |nil=>have:f.1=0:=h;omega
 |cons g r=>have:=h.1;have:=h.2.1;omega
theorem letter_eq {m:Int} (d:0<=m) (e:m<=14):decide (((letter m).toNat:Int)=76)=decide (m=12)/\decide (((letter m).toNat:Int)=79)=decide (m=3)/\decide (((letter m).toNat:Int)=69)=decide (m=11)/\
  decide (((letter m).toNat:Int)=68)=decide (m=5)/\decide (((letter m).toNat:Int)=73)=decide (m=8):=by
 have:m=0\/m=1\/m=2\/m=3\/m=4\/m=5\/m=6\/m=7\/m=8\/m=9\/m=10\/m=11\/m=12\/m=13\/m=14:=by omega
 rcases this with rfl|rfl|rfl|rfl|rfl|rfl|rfl|rfl|rfl|rfl|rfl|rfl|rfl|rfl|rfl<;>decide
theorem ajv {s:fE} (j:iV s) (hb:s.length<900000) (fr:Bool) {b:Int} (l:isByte b) (at_:Int):V8 (so s,(po s,(fr,()))) b at_=some (KG (eQ s fr b at_),()):=by
 cases s with
 |nil=>cases j
 |cons f r=>
 have d:(f::r).length<1000000:=by omega
 have m:r.length<1000000:=by simp at hb;omega
 obtain⟨p,g1⟩:=I5 j;obtain⟨q,u,v,-,-⟩:=letter_eq p g1;unfold V8;simp only;rw[aFk f r m,apr f r m];simp only[aa,iO,q,u,v];by_cases e:f.1=12
 .cases r with
  |nil=>have:f.1=0:=j;omega
  |cons g r=>
  have G:=j.2.2.1;have x:(g::r).length<1000000:=by omega
  obtain⟨y,z⟩:=I5 j.2.2.2;obtain⟨-,-,-,A,B⟩:=letter_eq y z;obtain⟨D,E⟩:=azk f g r (by simp at hb;omega);simp only[e,decide_true,aa];by_cases e1:b=40
  .subst e1;simp only[decide_true,aa,JB d,bI,Uu];simp[eQ,e,KG,qN,vZ,lets]
  .by_cases e2:b=123
   .subst e2;simp only[e1,decide_true,decide_false,aa,ac,D,E,A,B,JB d,bI]
    grind [eQ,KG,qN,vZ,lets]
   .simp only[e1,e2,decide_false,ac,aeO d,bI];by_cases e3:b=36
    .simp_all [eQ,KG]
    .simp only[e3,decide_false,ac];rw[aFk g r (by simp at m;omega),apr g r (by simp at m;omega)];have o:g.1=0\/g.1=1\/g.1=2\/g.1=4\/g.1=5\/g.1=6\/g.1=7\/g.1=8\/g.1=9\/g.1=10\/g.1=13\/g.1=14:=by grind [WL]
     rw[aa,Ur rfl o x fr l at_,bI];simp_all [eQ]
 .simp only[e,decide_false,ac];by_cases e3:f.1=3
  .simp only[e3,decide_true,aa];by_cases e1:b=40
   .subst e1;simp only[decide_true,aa,JB d,bI,Uu];simp[eQ,e3,KG,qN,vZ,lets]
   .simp only[e1,decide_false,ac,JB d,bI];have i:=Ur (f:=(1,f.2)) (r:=r) rfl (.inr (.inl rfl)) (by simpa using d) fr l at_;rw[qN,vZ]at i;simp only[lets]at i;rw[show((67:Int))=(((67:UInt8).toNat:Nat):Int) from rfl,vZ f r,i,bI]
    grind [eQ]
  .simp only[e3,decide_false,ac];by_cases e11:f.1=11
   .simp only[e11,decide_true,aa];by_cases e1:b=41
    .simp_all [aeO,bI,eQ,KG]
    .simp only[e1,decide_false,ac,JB d,bI];have i:=Ur (f:=(9,f.2)) (r:=r) rfl (by simp) (by simpa using d) fr l at_;rw[qN,vZ]at i;simp only[lets]at i;rw[show((65:Int))=(((65:UInt8).toNat:Nat):Int) from rfl,vZ f r,i,bI]
     grind [eQ]
   .simp only[e11,decide_false,ac];have o:f.1=0\/f.1=1\/f.1=2\/f.1=4\/f.1=5\/f.1=6\/f.1=7\/f.1=8\/f.1=9\/f.1=10\/f.1=13\/f.1=14:=by omega
    rw[Ur rfl o d fr l at_,bI];simp_all [eQ]
theorem arp {s:fE} (d:iV s) (hl: ∃f r,s=f::r/\WL f.1) {m at_:Int} (e:1<=m) (h2:m<=14):iV ((m,at_)::s):=by
 obtain⟨f,r,rfl,g⟩:=hl;exact⟨e,h2,g,d⟩
theorem G6 {f:Int×Int} {r:fE} (d:iV (f::r)) (e:r≠[]) {m at_:Int} (i:1<=m) (h2:m<=14):iV ((m,at_)::r):=by
 cases r with
 |nil=>exact absurd rfl e
 |cons g r=>exact⟨i,h2,d.2.2.1,d.2.2.2⟩
theorem I7 {f:Int×Int} {r:fE} (d:iV (f::r)) (e:r≠[]):iV r:=by
 cases r with
 |nil=>exact absurd rfl e
 |cons g r=>exact d.2.2.2
theorem qG {f:Int×Int} {r:fE} (d:iV (f::r)) (h:f.1≠0):r≠[]:=by
 rintro rfl;exact h d
theorem ES {m:Int} {f:Int×Int} {r:fE} (hf:f.1=m) (d:iV (f::r)) (p:m≠12/\m≠3/\m≠11) (fr:Bool) (b at_:Int):
  iV (iJ m (f::r) fr b at_).1/\(iJ m (f::r) fr b at_).1.length<=(f::r).length+1:=by
 obtain⟨q,g1⟩:=I5 d;have j:f.1≠0->r≠[]:=qG d;have l:m=0\/m=1\/m=2\/m=4\/m=5\/m=6\/m=7\/m=8\/m=9\/m=10\/m=13\/m=14:=by omega
 have push: ∀k,WL f.1->1<=k->k<=14->iV ((k,at_)::f::r):=fun k o g i=>arp d ⟨f,r,rfl,o⟩ g i;have s:m=0\/m=1\/m=2\/m=5\/m=6\/m=7\/m=8\/m=9\/m=10->WL f.1:=fun h=>by simp_all [WL]
 have u:m≠0->iV r:=fun h=>I7 d (j (by rw[hf];exact h));have st: ∀k,m≠0->1<=k->k<=14->iV ((k,f.2)::r):=fun k h g i=>G6 d (j (by rw[hf];exact h)) g i;rcases l with e|e|e|e|e|e|e|e|e|e|e|e<;>subst e<;>rcases pW b with rfl|rfl|rfl|rfl|rfl|rfl|rfl|rfl|rfl|rfl|rfl|⟨g,i,v,x,y,z,A,B,D,E,G⟩<;>cases fr<;>
  simp_all [iJ,xn,uf]<;>first|omega|(refine⟨?_,by omega⟩;assumption)
end
section
open List renaming drop_eq_getElem_cons → aF, drop_of_length_le → aI, drop_zero → aY, eq_nil_of_length_eq_zero → bF
open Go.RowKit
theorem good_step {s:fE} (d:iV s) (fr:Bool) (b at_:Int):iV (eQ s fr b at_).1/\(eQ s fr b at_).1.length<=s.length+1:=by
 cases s with
 |nil=>cases d
 |cons f r=>
 simp only[eQ];split
 .rename_i e
  have i:r≠[]:=qG d (by omega);have p: ∀k,1<=k->k<=14->iV ((k,f.2)::r):=fun k j l=>G6 d i j l;have m:=I7 d i;split
  .simp_all
  .split
   .grind
   .split
    .grind
    .cases r with
     |nil=>exact absurd rfl i
     |cons g r=>
      have o:=d.2.2.1;have h:=ES rfl m (by unfold WL at o;omega) fr b at_
      grind
 .split
  .rename_i e
   have i:r≠[]:=qG d (by omega);split
   .grind [G6]
   .have h:=ES (f:=(1,f.2)) rfl (G6 d i (by omega) (by omega)) (by omega) fr b at_
    assumption
  .split
   .rename_i e
    have i:r≠[]:=qG d (by omega);split
    .grind [I7]
    .have h:=ES (f:=(9,f.2)) rfl (G6 d i (by omega) (by omega)) (by omega) fr b at_
     assumption
   .exact ES rfl d (by omega) fr b at_
def md (s:fE):List Int:=s.map (·.1)
theorem Oz (m:Int) {s d:fE} (h:md s=md d) (fr:Bool) (b a e:Int):md (iJ m s fr b a).1=md (iJ m d fr b e).1/\(iJ m s fr b a).2=(iJ m d fr b e).2:=by
 have f:md s.tail=md d.tail:=by
  have:=congrArg List.tail h;simpa [md] using this
 have g:m=0\/m=1\/m=2\/m=4\/m=5\/m=6\/m=7\/m=9\/m=10\/m=13\/m=14\/(m≠0/\m≠1/\m≠2/\m≠4/\m≠5/\m≠6/\m≠7/\m≠9/\m≠10/\m≠13/\m≠14):=by omega
 have i: ∀k (p q:Int),md ((k,p)::s)=md ((k,q)::d):=fun k p q=>by simp_all [md]
 have hd: ∀k (p q:Int),md ((k,p)::s.tail)=md ((k,q)::d.tail):=fun k p q=>by simp_all [md]
 rcases g with rfl|rfl|rfl|rfl|rfl|rfl|rfl|rfl|rfl|rfl|rfl|⟨j,l,o,u,v,x,y,z,A,B,D⟩<;>rcases pW b with rfl|rfl|rfl|rfl|rfl|rfl|rfl|rfl|rfl|rfl|rfl|⟨E,G,I,J,K,L,M,N,O,S,U⟩<;>cases fr<;>
  simp_all [iJ,xn,uf]<;>first|exact h|exact f|exact i _ _ _|exact hd _ _ _
theorem aC6 {s d:fE} (h:md s=md d) (fr:Bool) (b a i:Int):md (eQ s fr b a).1=md (eQ d fr b i).1/\(eQ s fr b a).2=(eQ d fr b i).2:=by
 cases s with
 |nil=>cases d with
  |nil=>exact⟨rfl,rfl⟩
  |cons _ _=>simp[md]at h
 |cons f r=>cases d with
  |nil=>simp[md]at h
  |cons f' e=>
   have j:f.1=f'.1:=by simp_all [md]
   have g:md r=md e:=by simp_all [md]
   have l:(r.headD (0,0)).1=(e.headD (0,0)).1:=by
    cases r<;>cases e<;>simp[md]at g ⊢;exact g.1
   have m: ∀k (p q:Int),md ((k,p)::r)=md ((k,q)::e):=fun k p q=>by simp_all [md]
   simp only[eQ,<-j,<-l];split
   .split
    .grind
    .split
     .grind
     .split
      .exact⟨g,rfl⟩
      grind [Oz]
   .split
    .split
     .grind
     grind [Oz]
    .split
     .split
      .exact⟨g,rfl⟩
      grind [Oz]
     grind [Oz]
def eX (b:UInt8):Int:=(b.toNat:Int)
def gB:bV->Int->fE×Bool->fE×Bool
 |[],_,x=>x
 |b::l,a,x=>gB l (a+1) (eQ x.1 x.2 (eX b) a)
def dZ:fE×Bool:=([(0,0)],true)
theorem kV:iV dZ.1:=rfl
theorem drop_at {s:List UInt8} {i:Int} (d:0<=i) (h:i<s.length): ∃b,s.drop i.toNat=b::s.drop (i+1).toNat/\cu s i=eX b:=by
 have e:i.toNat<s.length:=by omega
 refine⟨s[i.toNat], ?_, ?_⟩
 .grind [aF]
 simp_all [cu,eX]
theorem Nl {s:List UInt8} {i:Int} (h:s.length<=i:=by omega):s.drop i.toNat=[]:=aI (by omega)
theorem aFf (s:bV) (j:s.length<=100000): ∀(N:Nat) (i:Int) (x:fE×Bool),(s.length:Int)-i<N->0<=i->i<=s.length->iV x.1->(x.1.length:Int)<=i+1->
  WN N s (bK s) i x.2 i (lo x.1)=some (.inl ((),(((gB (s.drop i.toNat) i x).2,(s.length:Int),()),lo (gB (s.drop i.toNat) i x).1,())))
 |0,i,x,h,_,_,_,_=>by omega
 |N+1,i,x,h,d,m,f,o=>by
  rw[WN,ae9];by_cases e:i<s.length
  .obtain⟨b,hd,l⟩:=drop_at d e;rw[bW (fG (b:=bK s) e),bW (eF d e),aju f (by omega) x.2 (nM s i) d (by omega),bI,hd,gB,<-l];simp only[pst];rw[dB];have g:=good_step f x.2 (cu s i) i;exact aFf s j N (i+1) (eQ x.1 x.2 (cu s i) i) (by omega) (by omega) (by omega) g.1 (by have:=g.2;omega)
  .have p:i=s.length:=by omega
   simp_all [lD,bM,gB]
theorem aFg (s:bV) (m:s.length<=100000) (d:bV) (f:Bool): ∀(N:Nat) (i:Int) (x:fE×Bool),(s.length:Int)-i<N->0<=i->i<=s.length->iV x.1->(x.1.length:Int)<=i+1->
  Oc N s i (so x.1) (po x.1) x.2 d f=some (.inl ((),((so (gB (s.drop i.toNat) i x).1,po (gB (s.drop i.toNat) i x).1,(gB (s.drop i.toNat) i x).2,()),(d,f,()),())))
 |0,i,x,h,_,_,_,_=>by omega
 |N+1,i,x,h,g,p,j,q=>by
  rw[Oc,UH];by_cases e:i<s.length
  .obtain⟨b,hd,o⟩:=drop_at g e;rw[bW (fG (b:=bK s) e),bW (eF g e),ajv j (by omega) x.2 (nM s i) i,bI,hd,gB,<-o];simp only[KG];rw[dB];have l:=good_step j x.2 (cu s i) i;exact aFg s m d f N (i+1) (eQ x.1 x.2 (cu s i) i) (by omega) (by omega) (by omega) l.1 (by have:=l.2;omega)
  simp_all [lD,bM,Nl,gB]
theorem D5: ∀(l:bV) (a:Int) (x:fE×Bool),iV x.1->iV (gB l a x).1/\(gB l a x).1.length<=x.1.length+l.length
 |[],a,x,h=>⟨h,by simp[gB]⟩
 |b::l,a,x,h=>by
  have d:=good_step h x.2 (eX b) a;have e:=D5 l (a+1) (eQ x.1 x.2 (eX b) a) d.1
  grind [gB]
theorem Rw {n:Nat} (h:n<=1000000000:=by omega):n<bT:=by unfold bT;omega
theorem aEh (s:bV) (f:s.length<=100000):awf s=some (lo (gB s 0 dZ).1,((gB s 0 dZ).2,())):=by
 have h:=aFf s f bT 0 dZ (by have:=Rw (n:=s.length) (by omega);omega) (by omega) (by omega) kV (by simp[dZ]);have d:=D5 s 0 dZ kV;unfold awf;rw[show([(0,(0,()))]:List lL)=lo dZ.1 from rfl,show(true:Bool)=dZ.2 from rfl,h,bI];simp only[dR,Int.toNat_zero,aY];have g:(lo (gB s 0 dZ).1).length≠0:=by
  rw[oV];intro e;rw[bF e]at d;exact d.1
 rw[dG (dM (by rw[bM];omega))];have i:qx (lo (gB s 0 dZ).1)=some (lo (gB s 0 dZ).1,()):=by
  unfold qx uG;have:eu (lo (gB s 0 dZ).1) 16=true:=by
   have:=d.2;have j:dZ.1.length=1:=rfl;simp only[eu,oV,decide_eq_true_eq,mJ];omega
  rw[this];rfl
 rw[i,bI];cases hf:(gB s 0 dZ).2 with
 |true=>simp[awl,bI]
 |false=>simp[awl,bI,iO,bM,g]
theorem aLa (s:bV) (d:s.length<=100000):amu s=some (KG (gB s 0 dZ),()):=by
 have h:=aFg s d [] false bT 0 dZ (by have:=Rw (n:=s.length) (by omega);omega) (by omega) (by omega) kV (by simp[dZ]);unfold amu;rw[show V7=some ((so dZ.1,(po dZ.1,(dZ.2,()))),()) from rfl,bI];simp_all [bI,dR,KG]<;>rfl
end
section
open Option renaming some → a6, none → a7
open Bool renaming false_eq_true → ag, not_true → ax, and_true → ay, not_false → aA
open List renaming length_cons → aG
open Nat renaming le_refl → ae
open Go.RowKit
def pz (s:fE) (b:Int):Bool:=uD b&&(match s with
 |[_]=>true
 |[f,_]=>decide (f.1=12)&& !decide (b=40)
 |_=>false)
def jL:bV->Int->fE×Bool->Nat
 |[],_,_=>0
 |b::l,a,x=>if pz x.1 (eX b)then 0 else jL l (a+1) (eQ x.1 x.2 (eX b) a)+1
theorem al8: ∀(l:bV) (a:Int) (x:fE×Bool),jL l a x<=l.length
 |[],_,_=>ae _
 |b::l,a,x=>by
  simp only[jL,aG];split
  .omega
  .have:=al8 l (a+1) (eQ x.1 x.2 (eX b) a);omega
theorem auK {s d:fE} (h:md s=md d) (b:Int):pz s b=pz d b:=by
 match s,d with
 |[],[]=>rfl
 |[_],[_]=>rfl
 |[f,_],[e,_]=>simp_all [md,pz]
 |_::_::_::_,_::_::_::_=>rfl
 |[],_::_=>simp[md]at h
 |_::_,[]=>simp[md]at h
 |[_],_::_::_=>simp[md]at h
 |_::_::_,[_]=>simp[md]at h
 |[_,_],_::_::_::_=>simp[md]at h
 |_::_::_::_,[_,_]=>simp[md]at h
theorem abI: ∀(l:bV) (a d:Int) (x e:fE×Bool),md x.1=md e.1->x.2=e.2->jL l a x=jL l d e
 |[],_,_,_,_,_,_=>rfl
 |b::l,a,d,x,e,f,i=>by
  have g:=aC6 f x.2 (eX b) a d;simp only[jL,auK f,<-i];rw[abI l (a+1) (d+1) _ _ g.1 g.2]
theorem aBr {s:fE} (d:iV s) (hb:s.length<1000000) (fr:Bool) (at_:Int) {b:Int} (e:isByte b):amG (lo s) fr at_ b=a6 ((lo s,(fr,(at_,()))),(pz s b,())):=by
 unfold amG;rw[auL e,bI];cases he:uD b with
 |false=>simp[pz,he]
 |true=>
  match s with
  |[]=>cases d
  |[f]=>simp[pz,he,iO,bM,lo]
  |[f,g]=>
   have i:gy (lo [f,g]) 1=true:=eF (by omega) (by simp[lo]);have j:pK (dI 1) (lo [f,g])=true:=qU (by simp[lo,dI]);have l:dN (lo [f,g]) (0,(0,())) (dI 1)=(f.1,f.2,()):=by rfl
   have m:(lo [f,g]).length=2:=by simp[lo]
   simp only[iO,bM,i,j,l,m,aa]
   grind [pz]
  |f::g::h::r=>
   grind [oV,iO,bM,pz]
theorem auH (s:bV) (j:s.length<=100000): ∀(N:Nat) (i a:Int) (x:fE×Bool),(s.length:Int)-i<N->0<=i->i<=s.length->0<=a->a<=i->iV x.1->(x.1.length:Int)<=a+1->
  ∃o,Oh N s i x.2 a (lo x.1)=a6 o/\dR o (fun l=>a6 (l.1.1,())) (fun m=>a6 (m.1.1,()))=a6 (i+jL (s.drop i.toNat) a x,())
 |0,i,a,x,h,_,_,_,_,_,_=>by omega
 |N+1,i,a,x,h,d,q,u,v,f,y=>by
  rw[Oh,UL];by_cases e:i<s.length
  .obtain⟨b,hd,p⟩:=drop_at d e;rw[bW (fG (b:=bK s) e),bW (eF d e),aBr f (by omega) x.2 a (nM s i),bI,hd,jL,<-p];cases hw:pz x.1 (cu s i)with
   |true=>exact⟨_,rfl,by simp[dR]⟩
   |false=>
    simp only[ac,ag,if_false];rw[bW (eF d e),aju f (by omega) x.2 (nM s i) (by omega) (by omega),bI];simp only[pst];rw[dB];have g:=good_step f x.2 (cu s i) a;obtain⟨o,z,A⟩:=auH s j N (i+1) (a+1) (eQ x.1 x.2 (cu s i) a) (by omega) (by omega) (by omega) (by omega) (by omega) g.1 (by have:=g.2;omega)
    grind
  .rw[dG (lD (b:=bK s) (by rw[bM];omega)),Nl];exact⟨_,rfl,by simp[dR,jL]⟩
theorem aK1 (s:bV) (e:s.length<=100000) {i:Int} (d:0<=i) (hi:i<=s.length):agB s i=a6 (i+jL (s.drop i.toNat) i dZ,()):=by
 obtain⟨o,f,g⟩:=auH s e bT i 0 dZ (by have:=Rw (n:=s.length) (by omega);omega) d hi (by omega) d kV (by simp[dZ]);unfold agB;rw[dG (lD d),dG (lD (a:=bK s) hi),show([(0,(0,()))]:List lL)=lo dZ.1 from rfl,show(true:Bool)=dZ.2 from rfl,f,bI,g,abI _ i 0 dZ dZ rfl rfl]
theorem azl {s:fE} (d:iV s):gp (so s) [84]=(match s with|[_]=>true|_=>false):=by
 match s with
 |[]=>cases d
 |[f]=>have h:f.1=0:=d;simp[so,gp,h,lets]
 |f::g::r=>
  grind [FU,gp]
theorem aps {s:fE} (d:iV s):gp (so s) [84,76]=(match s with|[f,_]=>decide (f.1=12)|_=>false):=by
 match s with
 |[]=>cases d
 |[f]=>
  simp_all [so,gp]
 |[f,g]=>
  have h:g.1=0:=d.2.2.2;obtain⟨j,g1⟩:=I5 d;have i:f.1=0\/f.1=1\/f.1=2\/f.1=3\/f.1=4\/f.1=5\/f.1=6\/f.1=7\/f.1=8\/f.1=9\/f.1=10\/f.1=11\/f.1=12\/f.1=13\/f.1=14:=by omega
  rcases i with e|e|e|e|e|e|e|e|e|e|e|e|e|e|e<;>simp[so,gp,h,e,lets]
 |f::g::h::r=>
  grind [FU,gp]
theorem auI (s:bV) (u:s.length<=100000): ∀(N:Nat) (i:Int) (x:fE×Bool),(s.length:Int)-i<N->0<=i->i<=s.length->iV x.1->(x.1.length:Int)<=i+1->
  ∃o,Jf N s i (so x.1) (po x.1) x.2=a6 o/\dR o (fun d=>a6 ((bK d.1.1),())) (fun j=>a6 (j.1.1,()))=a6 (i+jL (s.drop i.toNat) i x,())
 |0,i,x,h,_,_,_,_=>by omega
 |N+1,i,x,h,m,B,l,D=>by
  (rewrite [Jf,UB];delta En)
  by_cases e:i<s.length
  .obtain⟨b,hd,v⟩:=drop_at m e;have p:=good_step l x.2 (cu s i) i;obtain⟨o,y,z⟩:=auI s u N (i+1) (eQ x.1 x.2 (cu s i) i) (by omega) (by omega) (by omega) p.1 (by have:=p.2;omega);rw[bW (fG (b:=bK s) e),bW (eF m e),auM (nM s i),bI,hd,jL,<-v,azl l,aps l,eF m e,ajv l (by omega) x.2 (nM s i) i,bI];simp only[KG,aa];rw[dB];have q: ∃o,Jf N s (i+1) (so (eQ x.1 x.2 (cu s i) i).1) (po (eQ x.1 x.2 (cu s i) i).1) (eQ x.1 x.2 (cu s i) i).2=a6 o/\dR o (fun d=>a6 ((bK d.1.1),())) (fun j=>a6 (j.1.1,()))=a6 (i+((jL (s.drop (i+1).toNat) (i+1) (eQ x.1 x.2 (cu s i) i)+1:Nat):Int),()):=
    ⟨o,y,z.trans (by grind)⟩
   have A: ∃o,(a6 (Sum.inr ((i,()),())):Option (Uh.den⊕Ul.den))=a6 o/\dR o (fun d=>a6 ((bK d.1.1),())) (fun j=>a6 (j.1.1,()))=a6 (i+((0:Nat):Int),()):=⟨_,rfl,by simp[dR]⟩;cases he:uD (cu s i)with
   |false=>simp_all [pz]
   |true=>
    generalize E:x.1=st at*
    match st with
    |[]=>cases l
    |[f]=>simp_all [pz]
    |[f,g]=>
     by_cases e12:f.1=12
     .by_cases e40:cu s i=40
      .simp only[pz,he,aa,ac,iO,e12,e40,decide_true,ax,Bool.and_false,ag,if_false]at q ⊢;exact q
      .simp only[pz,he,aa,ac,iO,e12,e40,decide_true,decide_false,aA,ay,if_true];exact A
     simp_all [pz]
    |f::g::h::r=>simp_all [pz]
  .rw[dG (lD (b:=bK s) (by rw[bM];omega)),Nl];exact⟨_,rfl,by simp[dR,jL,bM];omega⟩
theorem aK2 (s:bV) (d:s.length<=100000) {i:Int} (e:0<=i) (hi:i<=s.length):ZN s i=a6 (i+jL (s.drop i.toNat) i dZ,()):=by
 obtain⟨o,f,g⟩:=auI s d bT i dZ (by have:=Rw (n:=s.length) (by omega);omega) e hi kV (by simp[dZ];omega);unfold ZN;rw[show V7=a6 ((so dZ.1,(po dZ.1,(dZ.2,()))),()) from rfl,bI];simp_all [bI]
end
section
open Option renaming some → a6, none → a7
open Bool renaming and_eq_true → af, not_true → ax
open List renaming drop_eq_getElem_cons → aF, length_cons → aG, drop_of_length_le → aI, length_drop → aU, takeWhile_cons → bi
open Go.RowKit
def isL (c:UInt8):Bool:=(97<=c&&c<=122)||(65<=c&&c<=90)||c==95
def isD (c:UInt8):Bool:=48<=c&&c<=57
def NS (c:UInt8):Bool:=isL c||isD c
def isP (c:UInt8):Bool:=c==64||c==42||c==35||c==63||c==45||c==36||c==33
def aBk:Bool:=(List.range 256).all fun b=>match agv (b:Int),agu (b:Int),NF (b:Int)with
 |some (x,_),a6 (y,_),a6 (k,_)=>(x==isL (UInt8.ofNat b))&&((y==isD (UInt8.ofNat b))&&((decide (k=5)==isL (UInt8.ofNat b))&&(decide (k=6)==isD (UInt8.ofNat b))))
 |_,_,_=>false
theorem auw:aBk=true:=by kernel_rfl
theorem wO (c:UInt8):agv (c.toNat:Int)=a6 (isL c,())/\agu (c.toNat:Int)=a6 (isD c,())/\ ∃k,NF (c.toNat:Int)=a6 (k,())/\bY k 5=isL c/\bY k 6=isD c:=by
 have h:=List.all_eq_true.1 auw c.toNat (List.mem_range.2 (by have:=c.toNat_lt;omega));have d:UInt8.ofNat c.toNat=c:=by simp
 rw[d]at h;split at h
 .rename_i x u y v k w e f g
  simp only[af,beq_iff_eq]at h
  grind [bY]
 .cases h
def aMP:Bool:=(List.range 256).all fun b=>match Qa (b:Int) [64,42,35,63,45,36,33]with
 |some (x,_)=>(x==isP (UInt8.ofNat b))&&(isP (UInt8.ofNat b)==(bY (b:Int) 64||(bY (b:Int) 42||(bY (b:Int) 35||(bY (b:Int) 63||(bY (b:Int) 45||(bY (b:Int) 36||bY (b:Int) 33)))))))
 |_=>false
theorem aI4:aMP=true:=by kernel_rfl
theorem ayi (c:UInt8):Qa (c.toNat:Int) [64,42,35,63,45,36,33]=a6 (isP c,())/\isP c=(bY (c.toNat:Int) 64||(bY (c.toNat:Int) 42||(bY (c.toNat:Int) 35||(bY (c.toNat:Int) 63||(bY (c.toNat:Int) 45||(bY (c.toNat:Int) 36||bY (c.toNat:Int) 33)))))):=by
 have h:=List.all_eq_true.1 aI4 c.toNat (List.mem_range.2 (by have:=c.toNat_lt;omega));have d:UInt8.ofNat c.toNat=c:=by simp
 grind
theorem byte_at {s:List UInt8} {i:Nat} (h:i<s.length):cu s (i:Int)=(s[i].toNat:Int):=by
 simp_all [cu]
def runN (s:bV):Nat:=(s.takeWhile NS).length
def Iq (s:bV):Nat:=(s.takeWhile isL).length
def jT (s:bV):Nat:=(s.takeWhile isD).length
theorem Gt (p:UInt8->Bool) (s:bV):(s.takeWhile p).length<=s.length:=by
 induction s with
 |nil=>simp
 |cons c v d=>grind [bi]
theorem IE (p:UInt8->Bool): ∀(s:bV) (i:Nat) (h:i<s.length),i<(s.takeWhile p).length->p s[i]=true
 |[],i,h,_=>by simp at h
 |c::v,i,h,d=>by
  rw[bi]at d;split at d
  .rename_i e
   match i with
   |0=>exact e
   |i+1=>exact IE p v i (by simpa using h) (by simpa using d)
  .simp at d
theorem Dw (p:UInt8->Bool): ∀(s:bV) (h:(s.takeWhile p).length<s.length),p s[(s.takeWhile p).length]=false
 |[],h=>by simp at h
 |c::v,h=>by
  by_cases hc:p c=true
  .have e:List.takeWhile p (c::v)=c::v.takeWhile p:=by simp_all
   have d:(v.takeWhile p).length<v.length:=by simp_all
   have:=Dw p v d;simp_all
  simp_all
theorem aNN (p:UInt8->Bool) (s:bV) (n:Nat) (d:n<=s.length) (e: ∀i (h:i<s.length),i<n->p s[i]=true) (h2: ∀h:n<s.length,p s[n]=false):(s.takeWhile p).length=n:=by
 have a:=Gt p s;by_cases c:(s.takeWhile p).length<n
 .grind [Dw]
 grind [IE]
def nl (s:bV):Nat:=if Iq s=0 then 0 else runN s
theorem ayD {s:List UInt8} (h:Iq s≠0):runN s≠0:=by
 unfold Iq at h;unfold runN
 match s with
 |[]=>simp at h
 |c::v=>
  simp_all [bi,NS]
theorem aFb (s:bV):nl s<=s.length:=by
 unfold nl;split
 .omega
 .exact Gt _ _
theorem abh {s:List UInt8} (d:s.length<4000000) {a k:Nat} (h:a+k<s.length): ∃hk:k<(s.drop a).length,cu s (cO .i64 (a:Int) (k:Int))=(((s.drop a)[k]).toNat:Int):=by
 have hk:k<(s.drop a).length:=by grind
 refine⟨hk, ?_⟩;rw[dB,show(a:Int)+(k:Int)=((a+k:Nat):Int) by omega,byte_at h,List.getElem_drop]
theorem aFm {s:List UInt8} (e:s.length<4000000) {at_:Nat} (g:at_<=s.length) (a:bV) (b:Int) (c:bV) (d:Int): ∀(N k:Nat),s.length-k<N->k<=Iq (s.drop at_)->
  oM N s (at_:Int) (k:Int) a b c d=a6 (.inl ((((Iq (s.drop at_):Nat):Int),()),((a,b,c,d,()),(),()),()))
 |0,k,h,hk=>by
  omega
 |N+1,k,h,hk=>by
  have o:=Gt isL (s.drop at_);have p:=aU (i:=at_) (l:=s);rw[oM,wo];have q:k<=((s.drop at_).takeWhile isL).length:=hk;have f:cO .i64 (at_:Int) (k:Int)=(at_:Int)+k:=dB;by_cases h1:at_+k<s.length
  .obtain⟨j,m⟩:=abh e h1;rw[m,f,bW (fG (by rw[bM];omega)),bW (eF),(wO _).1,bI];by_cases h2:k<Iq (s.drop at_)
   .rw[IE isL _ k j h2];simp only[ax,ac];rw[dB,show(k:Int)+1=((k+1:Nat):Int) by omega];exact aFm e g a b c d N (k+1) (by omega) (by omega)
   .obtain rfl:k=Iq (s.drop at_):=by omega
    grind [Dw,Iq]
  .obtain rfl:k=Iq (s.drop at_):=by grind [Iq]
   rw[f,dG (gU (by rw[bM];omega))]
theorem aFn {s:List UInt8} (e:s.length<4000000) {at_:Nat} (j:at_<=s.length) (a:bV) (b:Int) (c:bV) (d:Int): ∀(N k:Nat),s.length-k<N->k<=runN (s.drop at_)->
  qh N s (at_:Int) (k:Int) a b c d=a6 (.inl ((((runN (s.drop at_):Nat):Int),()),((a,b,c,d,()),(),()),()))
 |0,k,h,hk=>by
  omega
 |N+1,k,h,hk=>by
  have q:=Gt NS (s.drop at_);have u:=aU (i:=at_) (l:=s);rw[qh,BR];have v:k<=((s.drop at_).takeWhile NS).length:=hk;have f:cO .i64 (at_:Int) (k:Int)=(at_:Int)+k:=dB;by_cases h1:at_+k<s.length
  .obtain⟨g,m⟩:=abh e h1;have o:cO .i64 (k:Int) 1=((k+1:Nat):Int):=by grind [dB]
   rw[m,f,bW (fG (by rw[bM];omega)),bW (eF),(wO _).1,bI,(wO _).2.1];by_cases h2:k<runN (s.drop at_)
   .have p:=aFn e j a b c d N (k+1) (by omega) (by omega);have x:=IE NS _ k g h2;rw[o];cases hL:isL (s.drop at_)[k]with
    |true=>exact p
    |false=>
     simp_all [NS,bI]
   .obtain rfl:k=runN (s.drop at_):=by omega
    have:=Dw NS _ g;have y:NS (s.drop at_)[runN (s.drop at_)]=false:=this;simp_all [NS,bI]
  .obtain rfl:k=runN (s.drop at_):=by grind [runN]
   rw[f,dG (gU (by rw[bM];omega))]
theorem aFl {s:List UInt8} (e:s.length<4000000) {at_:Nat} (g:at_<=s.length) (a:bV) (b:Int) (c:bV) (d:Int): ∀(N k:Nat),s.length-k<N->k<=jT (s.drop at_)->
  sV N s (at_:Int) (k:Int) a b c d=a6 (.inl ((((jT (s.drop at_):Nat):Int),()),((a,b,c,d,()),(),()),()))
 |0,k,h,hk=>by
  omega
 |N+1,k,h,hk=>by
  have o:=Gt isD (s.drop at_);have p:=aU (i:=at_) (l:=s);rw[sV,BQ];have q:k<=((s.drop at_).takeWhile isD).length:=hk;have f:cO .i64 (at_:Int) (k:Int)=(at_:Int)+k:=dB;by_cases h1:at_+k<s.length
  .obtain⟨j,m⟩:=abh e h1;rw[m,f,bW (fG (by rw[bM];omega)),bW (eF),(wO _).2.1,bI];by_cases h2:k<jT (s.drop at_)
   .rw[IE isD _ k j h2];simp only[ax,ac];rw[dB,show(k:Int)+1=((k+1:Nat):Int) by omega];exact aFl e g a b c d N (k+1) (by omega) (by omega)
   .obtain rfl:k=jT (s.drop at_):=by omega
    grind [Dw,jT]
  .obtain rfl:k=jT (s.drop at_):=by grind [jT]
   rw[f,dG (gU (by rw[bM];omega))]
theorem Vb {s:List UInt8} (d:s.length<4000000) {a:Nat} (e:a<=s.length):DY s a=a6 (((jT (s.drop a):Nat):Int),()):=by
 rw[DY,dG (gU)];by_cases h0:a=s.length
 .subst h0;rw[bW (oK (by rw[bM];omega)),List.drop_length];rfl
 rw[dG (BC (by rw[bM];omega)),show sV bT s a 0 s a s a=_ from aFl d e s a s a bT 0 (dJ) (by omega),bI];rfl
theorem atn {s:List UInt8} (d:s.length<4000000) {a:Nat} (e:a<=s.length):V4 s a=a6 (((nl (s.drop a):Nat):Int),()):=by
 (rewrite [V4];delta abX;rw[dG (gU)])
 by_cases h0:a=s.length
 .subst h0;rw[bW (oK (by rw[bM];omega)),List.drop_length];rfl
 rw[dG (BC (by rw[bM];omega)),show oM bT s a 0 s a s a=_ from aFm d e s a s a bT 0 (dJ) (by omega),bI];unfold dR;simp only;unfold nl;by_cases h1:Iq (s.drop a)=0
 .rw[am h1,h1];rfl
 .rw[aq h1,dG (dM),dG (gU),dG (BC (by rw[bM];omega)),show qh bT s a 0 _ _ _ _=_ from aFn d e _ _ _ _ bT 0 (dJ) (by omega)];rfl
theorem RS {s:List UInt8} (e:s.length<4000000): ∀(N k:Nat),s.length-k<N->k<=runN s->
  Jj N s (k:Int)=a6 (if runN s=s.length then .inl ((),())else .inr ((false,()),()))
 |0,k,h,hk=>by omega
 |N+1,k,h,hk=>by
  have m:=Gt NS s;have o:k<=(s.takeWhile NS).length:=hk;rw[Jj,UR];by_cases h1:k<s.length
  .obtain⟨c,f,g,p⟩:=(wO s[k]).2.2;have i:gy s (k:Int)=true:=eF;rw[bW (fG (by rw[bM];omega)),i,byte_at h1,f,bI,g];by_cases h2:k<runN s
   .have j:=RS e N (k+1) (by omega) (by omega);have q:=IE NS s k h1 h2;have l:cO .i64 (k:Int) 1=((k+1:Nat):Int):=by grind [dB]
    rw[l];cases hL:isL s[k]with
    |true=>exact j
    |false=>
     simp_all [NS,bI]
   .obtain rfl:k=runN s:=by omega
    have:=Dw NS s h1;have d:NS s[runN s]=false:=this;simp only[NS,Bool.or_eq_false_iff]at d;rw[d.1,aq (by omega)];simp_all [bI]
  .obtain rfl:k=runN s:=by grind [runN]
   rw[dG (gU (by rw[bM];omega)),am (by omega)]
theorem ajI {s:List UInt8} (d:s≠[]):Iq s=0↔isL (s.headD 0)=false:=by
 match s,d with
 |c::v,_=>
  simp_all [Iq,bi]
theorem zT {s:List UInt8} (e:s.length<4000000):V9 s=a6 (decide (nl s≠0/\nl s=s.length),()):=by
 rw[V9];by_cases h0:s=[]
 .subst h0;rfl
 have f:0<s.length:=List.length_pos_iff.2 h0;obtain⟨_,_,c,g,j,o⟩:=wO s[0];have l:cu s 0=(s[0].toNat:Int):=byte_at (i:=0) f;have p:s.headD 0=s[0]:=by
  match s,h0 with
  |c::v,_=>rfl
 rw[dG (dM (by rw[bM];omega)),bW (eF),l,g,bI];simp only;rw[j];unfold nl;cases hL:isL s[0]with
 |false=>
  simp_all [ajI]
 |true=>
  have d:Iq s≠0:=fun h=>by simp_all [ajI]
  have m:=ayD d;simp only[ax,ac];rw[aq d,show Jj bT s 1=_ from RS e bT 1 (dJ) (by omega)];by_cases h3:runN s=s.length
  .rw[am h3,decide_eq_true ⟨m,h3⟩];rfl
  .rw[aq h3,decide_eq_false (fun h=>h3 h.2)];rfl
theorem afC (p:UInt8->Bool): ∀(s:bV) (k:Nat),((s.take k).takeWhile p).length=min k (s.takeWhile p).length
 |[],k=>by simp
 |c::v,0=>by simp
 |c::v,k+1=>by
  rw[List.take_succ_cons,bi,bi];split
  .rw[aG,aG,afC p v k];omega
  .simp
theorem aC9 (t:bV) {k:Nat} (d:1<=k) (hk:k<=t.length):(nl (t.take k)≠0/\nl (t.take k)=(t.take k).length)↔k<=nl t:=by
 have e:(t.take k).length=k:=by simp_all
 have a:=afC isL t k;have b:=afC NS t k;unfold nl Iq runN
 grind
theorem Xf {s:List UInt8} (d:s.length<4000000) {a:Nat} (f:a<=s.length): ∀(N k:Nat),s.length-a+1-k<N->1<=k->k<=s.length-a+1->
  Jm N s a ((min (k-1) (nl (s.drop a)):Nat):Int) (k:Int)=a6 (.inl ((((nl (s.drop a):Nat):Int),()),()))
 |0,k,h,_,_=>by omega
 |N+1,k,h,g,l=>by
  have i:=aFb (s.drop a);rw[aU]at i;rw[Jm,UX,bM,ig];by_cases e:k<=s.length-a
  .have j:sub s (a:Int) (cO .i64 (a:Int) (k:Int))=(s.drop a).take k:=by
    grind [dB,sub,List.drop_take]
   have m:=Xf d f N (k+1) (by omega) (by omega) (by omega);rw[bW (oK),bW (fQ (by omega) (by grind [dB]) (by grind [dB])),j,
    zT (by grind),bI,dB,show(k:Int)+1=((k+1:Nat):Int) by omega]
   have o:=aC9 (s.drop a) g (by simp_all)
   grind
  .rw[dG (BC),show min (k-1) (nl (s.drop a))=nl (s.drop a) by omega]
theorem aGe {s:List UInt8} (d:s.length<4000000) {a:Nat} (e:a<=s.length):amP s a=a6 (((nl (s.drop a):Nat):Int),()):=by
 rw[amP];have h:=Xf d e bT 1 (dJ) (by omega) (by omega);rw[show min (1-1) (nl (s.drop a))=0 by omega]at h;rw[show Jm bT s a 0 1=_ from h,bI];rfl
def prl (s:bV):Nat:=if nl s≠0 then nl s else match s with
 |c::_=>if isP c||isD c then 1 else 0
 |[]=>0
theorem ali (s:bV):prl s<=s.length:=by
 unfold prl
 grind [aFb]
theorem DJ {s:List UInt8} {a:Nat} (h:a<s.length):s.drop a=s[a]::s.drop (a+1):=aF h
theorem aA4 {s:List UInt8} (d:s.length<4000000) {a:Nat} (f:a<=s.length):amM s a=a6 (((prl (s.drop a):Nat):Int),()):=by
 rw[amM,aGe d f,bI];unfold prl;by_cases e:nl (s.drop a)=0
 .rw[bW (eG),aq (by omega)];by_cases h:a<s.length
  .obtain⟨k,hk,j,g⟩:=(wO s[a]).2.2;have i:gy s (a:Int)=true:=eF;rw[bW (fG (by rw[bM];omega)),i,byte_at h,hk,bI,g,(ayi _).1,bI,e,DJ h]
   grind
  simp_all [gU,bM,aI]
 simp_all [dM]
theorem aA3 {s:List UInt8} (d:s.length<4000000) {a:Nat} (f:a<=s.length):ZP s a=a6 (((prl (s.drop a):Nat):Int),()):=by
 rw[ZP,atn d f,bI];unfold prl;by_cases e:nl (s.drop a)=0
 .rw[dG (gU),aq (by omega),dG (gU)];by_cases h:a<s.length
  .rw[dG (BC (by rw[bM];omega)),bW (eF),byte_at h,Vb d f,bI];have hd:LQ ((jT (s.drop a):Nat):Int) 1=if isD s[a]then 1 else 0:=by
    grind [jT,DJ,bi,LQ]
   have g:=(ayi s[a]).2;rw[hd,DJ h]
   grind
  simp_all [oK,bM,aI]
 .rw[bW (fG),am e]
end
section
open Bool renaming and_true → ay
open List renaming length_append → ai, length_cons → aG
open Nat renaming le_refl → ae
open Go.RowKit
abbrev jY:=Int×Int×Int×Int×Bool×Unit
abbrev xM:=Int×Int×Unit
def dP:jY:=(0,(0,(0,(0,(false,())))))
def dF:xM:=(0,(0,()))
def counts (m:Int):Int:=if m=3 then 1 else if m=11 then 9 else m
theorem afZ (m:Int):ZT m=some (counts m,()):=by
 unfold ZT counts;simp only[iO];by_cases h1:m=3
 .simp[h1]
 .by_cases h2:m=11<;>simp[h1,h2]
theorem Jt {e:Type} {l:List e} {d x:e} {i:Nat} (h:i<l.length):dN (iR l i x) d i=x:=by
 simp_all [dN,iR]
theorem aie {d:Type} {l:List d} {i:Nat} {x y:d}:iR (iR l i x) i y=iR l i y:=by
 simp_all [iR]
theorem amT {d:Type} {l:List d} {i:Nat} {x:d} {k:Int}:gy (iR l i x) k=gy l k:=by
 simp_all [gy,iR]
theorem anX {d:Type} {l:List d} {i k:Nat} {x:d}:pK k (iR l i x)=pK k l:=by
 simp_all [pK,iR]
theorem yP {d:Type} {l:List d} {i:Nat} {x:d}:(iR l i x).length=l.length:=by
 simp_all [iR]
theorem aga (n:Nat):eqN n n=true:=by simp[eqN]
def Tn (L:List jY) (j:Nat) (a:Int):List jY:=iR L j ((dN L dP j).1,(dN L dP j).2.1,a,(dN L dP j).2.2.2.1,false,())
def aah (L:List jY) (j:Nat) (m:Int):List jY:=iR L j (m,(dN L dP j).2)
theorem JD (L:List jY) (j:Nat) (a:Int):(Tn L j a).length=L.length:=yP
theorem Jq (L:List jY) (j:Nat) (m:Int):(aah L j m).length=L.length:=yP
def qV (F:List xM) (a:Int):Nat->List jY->List Int->List jY×List Int
 |0,L,H=>(L,H)
 |n+1,L,H=>
  if n+1<=F.length/\(F.getD n dF).2.1=(dN L dP (H.getD n 0).toNat).2.1 then(L,H)
  else qV F a n (Tn L (H.getD n 0).toNat (a+1)) (H.take n)
def Ed (F:List xM) (H:List Int):Nat->Nat->List jY->List jY
 |0,_,L=>L
 |k+1,i,L=>Ed F H k (i+1) (aah L (H.getD i 0).toNat (counts (F.getD i dF).1))
theorem aid (F:List xM) {a:Int} (d:0<=a) (f:a<1000000) (hF:F.length<1000000): ∀(N n:Nat) (L:List jY) (H:List Int),n<N->n=H.length->n<1000000->L.length<1000000->
  (∀j∈H,0<=j/\j<L.length)->
  Oa N F a (n:Int) L H=some (.inl ((F,()),((),()),((),(qV F a n L H).1,(qV F a n L H).2,())))
 |0,n,L,H,h,_,_,_,_=>by omega
 |N+1,0,L,H,h,_,_,_,_=>by
  rfl
 |N+1,n+1,L,H,h,D,E,g,i=>by
  have G:n<H.length:=by omega
  have l:eP .i64 ((n+1:Nat):Int) 1=(n:Int):=by grind [ig]
  have m:H.getD n 0∈H:=by simp_all
  obtain⟨o,p⟩:=i _ m;have q:dN H 0 (dI (n:Int))=H.getD n 0:=rfl;have s:ed F (0,(0,())) (n:Int)=F.getD n dF:=rfl;have u:gy L (H.getD n 0)=true:=eF o p;have v:pK (dI (H.getD n 0)) L=true:=qU (by simp only[dI];omega);have y:eY (bK H) 0 (n:Int)=true:=fQ (by omega) (by omega) (by rw[bM];omega);have z:sub H 0 (n:Int)=H.take n:=by simp[sub]
  have A:cO .i64 a 1=a+1:=dB;have B:dI (H.getD n 0)<L.length:=by simp only[dI];omega
  have jB: ∀x,dN (iR L (dI (H.getD n 0)) x) (0,(0,(0,(0,(false,()))))) (dI (H.getD n 0))=x:=fun x=>Jt B;have go:=aid F d f hF N n (Tn L (H.getD n 0).toNat (a+1)) (H.take n) (by omega) (by grind) (by omega) (by rw[JD];exact g)
   (fun j I=>by grind [JD])
  (rewrite [Oa,UE];delta JG zn zl jK;rw[qV])
  simp only[l,q,s,u,v,y,z,A,amT,anX,jB,aie,aa];rw[bW (fG),bW (eF),bW (qU (by assumption))];by_cases e:n+1<=F.length
  .rw[bW (oK (by rw[bM];omega)),bW (eF)];by_cases e2:(F.getD n dF).2.1=(dN L dP (H.getD n 0).toNat).2.1
   .rw[am ⟨e,e2⟩];exact bW (eG e2)
   .rw[aq (fun h=>e2 h.2)];exact(dG (dM e2)).trans go
  .rw[dG (BC (by rw[bM];omega)),aq (fun h=>e h.1)];exact go
theorem aic (F:List xM) (H:List Int) (hF:F.length<1000000) (e:H.length<1000000): ∀(k i N:Nat) (L:List jY),i+k=H.length->H.length<=F.length->L.length<1000000->(∀j∈H,0<=j/\j<L.length)->
  vS (N+k) F (bK F) (i:Int) L H=vS N F (bK F) (H.length:Int) (Ed F H k i L) H
 |0,i,N,L,h,_,_,_=>by simp_all [Ed]
 |k+1,i,N,L,h,f,g,l=>by
  have v:i<H.length:=by omega
  have m:H.getD i 0∈H:=by simp_all
  obtain⟨o,p⟩:=l _ m;have q:dN H 0 (dI (i:Int))=H.getD i 0:=rfl;have s:ed F (0,(0,())) (i:Int)=F.getD i dF:=rfl;have d:gy L (H.getD i 0)=true:=eF o p;have u:pK (dI (H.getD i 0)) L=true:=qU (by simp only[dI];omega);have go:=aic F H hF e k (i+1) N (aah L (H.getD i 0).toNat (counts (F.getD i dF).1)) (by omega) f (by rw[Jq];exact g) (fun j x=>by grind [Jq])
  (rewrite [show N+(k+1)=(N+k)+1 by omega,vS,F6];delta nP nO lK;rw[Ed,<-go])
  rw[bW (fG (by rw[bM];omega)),bW (eF),bW (fG (by rw[bM];omega)),bW (eF),bW (qU (by assumption)),afZ,bI,q,d,u];simp only[amT,d,aa,aga,ay,s];rw[dB,show(i:Int)+1=((i+1:Nat):Int) by omega];rfl
theorem Qp (F:List xM) (H:List Int): ∀(k i:Nat) (L:List jY),(Ed F H k i L).length=L.length
 |0,_,_=>rfl
 |k+1,i,L=>by rw[Ed,Qp F H k,Jq]
theorem QQ (F:List xM) (a:Int): ∀(n:Nat) (L:List jY) (H:List Int),(qV F a n L H).1.length=L.length/\(qV F a n L H).2.length<=H.length/\(∀j∈(qV F a n L H).2,j∈H)
 |0,_,H=>⟨rfl,ae _,fun _ h=>h⟩
 |n+1,L,H=>by
  rw[qV];split
  .simp
  .have h:=QQ F a n (Tn L (H.getD n 0).toNat (a+1)) (H.take n)
   grind [JD]
def aeU (L:List jY) (H:List Int) (F:List xM) (a:Int):List jY×List Int:=
 let r:=qV F a H.length L H
 let d:=Ed F r.2 r.2.length 0 r.1
 if F.length=r.2.length then(d,r.2)
 else(d++[(counts (F.getD r.2.length dF).1,((F.getD r.2.length dF).2.1,(0,((if r.2.length=0 then-1 else r.2.getD (r.2.length-1) 0),(true,())))))],r.2++[(d.length:Int)])
theorem aM3 {L:List jY} {H:List Int} {F:List xM} {t:xM} {a:Int} (m:0<=a) (o:a<1000000) (hF:F.length<1000000) (p:L.length<1000000) (q:H.length<1000000) (s: ∀j∈H,0<=j/\j<L.length)
  (u:(qV F a H.length L H).2.length<=F.length) (h2:F.length<=(qV F a H.length L H).2.length+1):
  agr L H (t::F) a=some (((aeU L H F a).1,((aeU L H F a).2,())),()):=by
 have I:=QQ F a H.length L H;have v:sub (t::F) 1 (bK (t::F))=F:=by simp[sub,bK]
 have y:=aid F m o hF bT H.length L H (dJ) rfl q p s;unfold agr;rw[bW (fQ (by omega) (by rw[bM];simp;omega) (by rw[bM];omega)),v,bM (l:=H),y,bI];simp only[dR];unfold aeU;generalize J:qV F a H.length L H=r at*;have z: ∀j∈r.2,0<=j/\j<r.1.length:=fun j M=>by simp_all
 have N:=Qp F r.2 r.2.length 0 r.1;obtain⟨K,A⟩: ∃K,bT=(K+2)+r.2.length:=⟨bT-2-r.2.length,by have:=dJ (n:=r.2.length+2) (by omega);omega⟩;have g:=aic F r.2 hF (by omega) r.2.length 0 (K+2) r.1 (by omega) u (by omega) z;rw[<-A]at g;rw[show(0:Int)=((0:Nat):Int) from rfl,g];by_cases e:F.length=r.2.length
 ·(rewrite [vS,F6];delta nP nO lK;rw[dG (gU (by rw[bM];omega)),am e,bI])
 .rw[aq e];have O:r.2.length<F.length:=by omega
  generalize S:Ed F r.2 r.2.length 0 r.1=L2 at*;have B:ed F (0,(0,())) (r.2.length:Int)=F.getD r.2.length dF:=rfl;have D: ∀x:jY,eu (bU L2 [x]) 40=true:=fun x=>by simp only[eu,bU,ai,aG,List.length_nil,decide_eq_true_eq,mJ];omega
  have E: ∀x:Int,eu (bU r.2 [x]) 8=true:=fun x=>by simp only[eu,bU,ai,aG,List.length_nil,decide_eq_true_eq,mJ];omega
  have i: ∀f d,(d.length:Int)=r.2.length+1->vS (K+1) F (bK F) (cO .i64 (r.2.length:Int) 1) f d=some (.inl ((),((),()),((),f,d,()))):=fun f d U=>by
   (rewrite [vS,F6];delta nP nO lK;rw[dG (gU (by grind [bM,dB]))])
  (rewrite [vS,F6];delta nP nO lK;rw[bW (fG (by rw[bM];omega)),bW (eF),dG (gU (by rw[bM];omega))])
  simp only[B,afZ,bI,eU,D,E,ay,aa,iL];by_cases e0:r.2.length=0
  .rw[dG (gU),am e0,i _ _ (by simp[bU]),bI];rfl
  .have G:eP .i64 (r.2.length:Int) 1=((r.2.length-1:Nat):Int):=by grind [ig]
   rw[bW (fG),G,bW (eF),bW (qU (by simp only[dI];omega)),aq e0,i _ _ (by simp[bU]),bI];rfl
end
section
open Go.RowKit
def jS (s:fE):List xM:=(s.dropLast.map fun f=>(f.1,f.2,())).reverse
def Gp (s:fE):List Int:=(s.dropLast.map (·.2)).reverse
theorem vY (s:fE):(jS s).map (·.2.1)=Gp s:=by
 simp only[jS,Gp,List.map_reverse,List.map_map];rfl
theorem aHo {s:fE} (d:iV s): ∃t:xM,lo s=t::jS s:=by
 have e:s≠[]:=by rintro rfl;exact d
 grind [List.dropLast_concat_getLast,lo,jS]
theorem ahQ (f:lW) {r:fE} (h:r≠[]):Gp (f::r)=Gp r++[f.2]:=by
 cases r with
 |nil=>exact absurd rfl h
 |cons g r=>simp[Gp]
theorem aDR (pre:fE) (f:lW) (r:fE): ∃l,Gp (pre++f::r)=Gp (f::r)++l:=by
 induction pre with
 |nil=>simp
 |cons g pre d=>
  obtain⟨l,h⟩:=d;simp_all [ahQ]
def Shape (s y:fE) (at_:Int):Prop:= ∃e f r d,s=e++f::r/\(y=(d,f.2)::r\/ ∃g,y=(g,at_)::(d,f.2)::r)
theorem BO {m:Int} {f:Int×Int} {r:fE} (j:m=0\/r≠[]) (fr:Bool) (b at_:Int):Shape (f::r) (iJ m (f::r) fr b at_).1 at_:=by
 have d:Shape (f::r) (f::r) at_:=⟨[],f,r,f.1,rfl,.inl rfl⟩;have push: ∀k,Shape (f::r) ((k,at_)::f::r) at_:=fun k=>⟨[],f,r,f.1,rfl,.inr ⟨k,rfl⟩⟩;have e: ∀k,Shape (f::r) ((k,f.2)::r) at_:=fun k=>⟨[],f,r,k,rfl,.inl rfl⟩;have i:m≠0->Shape (f::r) r at_:=fun h=>by
  cases r with
  |nil=>simp_all
  |cons g r=>exact⟨[f],g,r,g.1,rfl,.inl rfl⟩
 unfold iJ xn uf;rcases pW b with rfl|rfl|rfl|rfl|rfl|rfl|rfl|rfl|rfl|rfl|rfl|⟨l,o,p,q,s,u,v,x,y,z,A⟩<;>cases fr<;>simp_all<;>
  (repeat' split)<;>first|assumption|exact push _|exact e _|(exact i (by omega))|(simp_all;done)|exact d|skip
theorem ar8 {pre s y:fE} {at_:Int} (h:Shape s y at_):Shape (pre++s) y at_:=by
 obtain⟨p,f,r,d,g,e⟩:=h;exact⟨pre++p,f,r,d,by simp_all,e⟩
theorem X4 {a:Int} {f:Int×Int} {r y:fE} {at_:Int} (h:Shape ((a,f.2)::r) y at_):Shape (f::r) y at_:=by
 obtain⟨p,g,m,e,i,j⟩:=h;cases p with
 |nil=>
  obtain⟨l,d⟩:=List.cons.inj i;subst l d;exact⟨[],f,r,e,rfl,j⟩
 |cons q p=>
  obtain⟨l,d⟩:=List.cons.inj i;exact⟨f::p,g,m,e,by rw[d];rfl,j⟩
theorem alx {s:fE} (d:iV s) (fr:Bool) (b at_:Int):Shape s (eQ s fr b at_).1 at_:=by
 cases s with
 |nil=>cases d
 |cons f r=>
 have l: ∀k,Shape (f::r) ((k,f.2)::r) at_:=fun k=>⟨[],f,r,k,rfl,.inl rfl⟩;have m: ∀g j,r=g::j->Shape (f::r) r at_:=fun g j h=>by rw[h];exact⟨[f],g,j,g.1,rfl,.inl rfl⟩
 simp only[eQ];split
 .rename_i e
  have i:r≠[]:=qG d (by omega);cases r with
  |nil=>exact absurd rfl i
  |cons g r=>
  split
  .exact l 3
  .split
   .split<;>exact l _
   .split
    .exact m g r rfl
    .have o:=I7 d i;refine ar8 (pre:=[f]) (BO ?_ fr b at_)
     grind [qG]
 .split
  .grind [qG,X4,BO]
  .split
   .rename_i e
    have i:r≠[]:=qG d (by omega);split
    .cases r with
     |nil=>exact absurd rfl i
     |cons g r=>exact m g r rfl
    grind [X4,BO]
   grind [BO,qG]
theorem OO {s:fE} (e:iV s) (fr:Bool) (b at_:Int): ∃c,c<=(Gp s).length/\(Gp (eQ s fr b at_).1=(Gp s).take c\/Gp (eQ s fr b at_).1=(Gp s).take c++[at_]):=by
 obtain⟨i,f,r,j,m,o⟩:=alx e fr b at_;obtain⟨l,d⟩:=aDR i f r;rw[<-m]at d;have p:Gp ((j,f.2)::r)=Gp (f::r):=by
  cases r with
  |nil=>rfl
  |cons g r=>rfl
 refine⟨(Gp (f::r)).length,by rw[d];simp, ?_⟩;rw[d,List.take_left']
 .rcases o with h|⟨q,h⟩
  .simp_all
  .rw[h,ahQ _ (by simp),p];exact .inr rfl
 .rfl
end
section
open Int renaming toNat_natCast → aS
open List renaming length_append → ai, length_map → aO, length_take → aZ
open Nat renaming le_refl → ae, lt_or_ge → aJ
open Go.RowKit
def aPv (p:jY):Int:=p.1
def aPu (p:jY):Int:=p.2.1
def pTo (p:jY):Int:=p.2.2.1
def pUp (p:jY):Int:=p.2.2.2.1
def aPw (p:jY):Bool:=p.2.2.2.2.1
theorem an2 {e:Type} {l:List e} {d:e} {i:Nat} (h:l.length<=i):dN l d i=d:=by
 simp_all [dN]
theorem rZ {e:Type} {l:List e} {d:e} {i:Nat} (h:i<l.length):dN l d i=l[i]:=by
 simp_all [dN]
theorem getD_take {e:Type} {l:List e} {d:e} {i n:Nat} (h:i<n):(l.take n).getD i d=l.getD i d:=by
 simp_all
theorem LV {e:Type} {l:List e} {d x:e} {i j:Nat} (h:i≠j):dN (iR l i x) d j=dN l d j:=by
 simp_all [dN,iR]
def xy (a:Int) (p:jY):jY:=(p.1,p.2.1,a,p.2.2.2.1,false,())
theorem JE (L:List jY) (j:Nat) (a:Int) (k:Nat) (d:j<L.length):dN (Tn L j a) dP k=if j=k then xy a (dN L dP k)else dN L dP k:=by
 unfold Tn;by_cases h:j=k
 .subst h;rw[am rfl,Jt d];rfl
 .rw[aq h,LV h]
theorem Qq (L:List jY) (j:Nat) (m:Int) (k:Nat) (d:j<L.length):dN (aah L j m) dP k=if j=k then(m,(dN L dP k).2)else dN L dP k:=by
 unfold aah;by_cases h:j=k
 .subst h;rw[am rfl,Jt d]
 .rw[aq h,LV h]
theorem X5 (F:List xM) (a:Int) (H:List Int) (c:Nat) (o: ∀n,n<H.length->0<=H.getD n 0): ∀(n:Nat) (L:List jY),c<=n->n<=H.length->
  (∀m,m<n->(H.getD m 0).toNat<L.length)->
  (∀m,m<c->m<F.length/\(F.getD m dF).2.1=(dN L dP (H.getD m 0).toNat).2.1)->
  (∀m,c<=m->m<n-> ¬(m+1<=F.length/\(F.getD m dF).2.1=(dN L dP (H.getD m 0).toNat).2.1))->
  (qV F a n L (H.take n)).2=H.take c/\
  (∀j,(∃m,c<=m/\m<n/\(H.getD m 0).toNat=j)->dN (qV F a n L (H.take n)).1 dP j=xy (a+1) (dN L dP j))/\
  (∀j,(∀m,c<=m->m<n->(H.getD m 0).toNat≠j)->dN (qV F a n L (H.take n)).1 dP j=dN L dP j)
 |0,L,p,q,g,s,i=>by
  have:c=0:=by omega
  subst this;exact⟨rfl,fun j ⟨m,_,h,_⟩=>by omega,fun j _=>rfl⟩
 |n+1,L,p,q,g,s,i=>by
  rw[qV,getD_take (by omega)];by_cases e:c=n+1
  .grind
  .have u:=i n (by omega) (by omega);have f:=g n (by omega);have A: ∀k,(dN (Tn L (H.getD n 0).toNat (a+1)) dP k).2.1=(dN L dP k).2.1:=fun k=>by
    rw[JE _ _ _ _ f];split<;>rfl
   rw[aq u,List.take_take,show min n (n+1)=n by omega];obtain⟨v,x,y⟩:=X5 F a H c o n (Tn L (H.getD n 0).toNat (a+1)) (by omega) (by omega) (fun m l=>by grind [JD])
    (fun m l=>by grind) (fun m l z=>by grind)
   refine⟨v,fun j d=> ?_,fun j d=> ?_⟩
   .by_cases hq: ∃m,c<=m/\m<n/\(H.getD m 0).toNat=j
    .rw[x j hq,JE _ _ _ _ f];split<;>rfl
    .obtain⟨m,B,z,D⟩:=d;have:m=n:=by
      grind
     simp_all [JE]
   .rw[y j (fun k hk E=>d k hk (by omega)),JE _ _ _ _ f,aq (d n (by omega) (by omega))]
theorem Xe (F:List xM) (H:List Int) (f: ∀m n,m<H.length->n<H.length->(H.getD m 0).toNat=(H.getD n 0).toNat->m=n): ∀(k i:Nat) (L:List jY),i+k<=H.length->
  (∀m,m<H.length->(H.getD m 0).toNat<L.length)->
  (∀m,i<=m->m<i+k->dN (Ed F H k i L) dP (H.getD m 0).toNat=(counts (F.getD m dF).1,(dN L dP (H.getD m 0).toNat).2))/\
  (∀j,(∀m,i<=m->m<i+k->(H.getD m 0).toNat≠j)->dN (Ed F H k i L) dP j=dN L dP j)
 |0,i,L,h,g=>⟨fun m p q=>by omega,fun j _=>rfl⟩
 |k+1,i,L,h,g=>by
  have d:=g i (by omega);obtain⟨s,l⟩:=Xe F H f k (i+1) (aah L (H.getD i 0).toNat (counts (F.getD i dF).1)) (by omega) (fun m u=>by grind [Jq]);rw[Ed];refine⟨fun m p q=> ?_,fun j o=> ?_⟩
  .by_cases e:m=i
   .subst e;rw[l _ (fun k hk x y=>by grind),Qq _ _ _ _ d,am rfl]
   .rw[s m (by omega) (by omega),Qq _ _ _ _ d,aq (fun v=>e (f i m (by omega) (by omega) v).symm)]
  .rw[l j (fun m u z=>o m (by omega) (by omega)),Qq _ _ _ _ d,aq (o i (by omega) (by omega))]
def qc (F:List xM) (v:Int):Option Int:=(F.find? fun f=>f.2.1==v).map (·.1)
theorem VY {F:List xM} (hd: ∀m n,m<F.length->n<F.length->(F.getD m dF).2.1=(F.getD n dF).2.1->m=n) {m:Nat} (d:m<F.length):qc F (F.getD m dF).2.1=some (F.getD m dF).1:=by
 have e: ∃f,F.find? (fun f=>f.2.1==(F.getD m dF).2.1)=some f:=by
  cases h:F.find? (fun f=>f.2.1==(F.getD m dF).2.1)with
  |some f=>exact⟨f,rfl⟩
  |none=>
   grind
 grind [List.getElem_of_mem,qc]
theorem LG {F:List xM} {v:Int} (h: ∀m,m<F.length->(F.getD m dF).2.1≠v):qc F v=none:=by
 grind [qc,List.getElem_of_mem]
def jU (F:List xM) (a:Int) (p:jY):jY:=
 if p.2.2.2.2.1=true then(match qc F p.2.1 with
  |some m=>(counts m,p.2)
  |none=>xy (a+1) p)else p
def xK (F:List xM) (a:Int):Bool:=match F.getLast? with
 |some f=>decide (f.2.1=a)
 |none=>false
def awy (L:List Int) (v:Int):Int:=((L.findIdx fun p=>p==v:Nat):Int)
def oW (F:List xM) (a:Int) (fr:List Int):jY:=(counts (F.getLastD dF).1,a,0,(if F.length=1 then-1 else awy fr (F.getD (F.length-2) dF).2.1),true,())
def xQ (F:List xM) (a:Int) (L:List jY):List jY:=L.map (jU F a)++if xK F a=true then [oW F a (L.map (·.2.1))]else []
structure Inv (L:List jY) (H:List Int) (F:List xM) (k:Int):Prop where
 len:H.length=F.length
 nn: ∀n,n<H.length->0<=H.getD n 0/\(H.getD n 0).toNat<L.length
 frm: ∀n,n<H.length->(dN L dP (H.getD n 0).toNat).2.1=(F.getD n dF).2.1/\(dN L dP (H.getD n 0).toNat).2.2.2.2.1=true
 opn: ∀j,(dN L dP j).2.2.2.2.1=true-> ∃n,n<H.length/\(H.getD n 0).toNat=j
 lt: ∀j,j<L.length->(dN L dP j).2.1<k
 inj: ∀i j,i<L.length->j<L.length->(dN L dP i).2.1=(dN L dP j).2.1->i=j
 fd: ∀m n,m<F.length->n<F.length->(F.getD m dF).2.1=(F.getD n dF).2.1->m=n
theorem Inv.hd {L:List jY} {H:List Int} {F:List xM} {k:Int} (h:Inv L H F k): ∀m n,m<H.length->n<H.length->(H.getD m 0).toNat=(H.getD n 0).toNat->m=n:=fun m n d f e=>by
 have g:=(h.frm m d).1;have i:=(h.frm n f).1;rw[e,i]at g;exact(h.fd n m (by rw[<-h.len];exact f) (by rw[<-h.len];exact d) g).symm
theorem uM {F:List xM} {n:Nat} (h:n<F.length:=by omega):(F.getD n dF).2.1=(F.map (·.2.1)).getD n 0:=by
 simp_all
theorem aBA {f:Type} {d:f} {l e:List f} (h:l.length=e.length) (h2: ∀j,j<l.length->dN l d j=dN e d j):l=e:=by
 grind [List.ext_getElem,rZ]
theorem agS {L:List jY} (d: ∀i j,i<L.length->j<L.length->(dN L dP i).2.1=(dN L dP j).2.1->i=j) {j:Nat} (e:j<L.length):awy (L.map (·.2.1)) (dN L dP j).2.1=(j:Int):=by
 have f: ∀i,i<L.length->(L.map (·.2.1))[i]? =some (dN L dP i).2.1:=fun i g=>by
  simp_all [rZ]
 unfold awy
 grind
theorem ay8 {L:List jY} {H:List Int} {F g:List xM} {k:Int} (h:Inv L H F k) {c:Nat} (hc:c<=F.length)
  (hF:g.map (·.2.1)=(F.map (·.2.1)).take c\/g.map (·.2.1)=(F.map (·.2.1)).take c++[k]):
  (qV g k H.length L H).2.length<=g.length/\g.length<=(qV g k H.length L H).2.length+1/\
  (aeU L H g k).1=xQ g k L/\Inv (aeU L H g k).1 (aeU L H g k).2 g (k+1):=by
 have aW:g.length=c\/g.length=c+1:=by
  have q:g.length=(g.map (·.2.1)).length:=(aO ..).symm;rcases hF with e|e<;>rw[q,e]<;>simp<;>omega
 have aG:c<=H.length:=by rw[h.len];exact hc
 have v: ∀m,m<c->m<g.length/\(g.getD m dF).2.1=(F.getD m dF).2.1:=fun m s=>by
  refine⟨by omega, ?_⟩;rw[uM,uM (F:=F) (by omega)];rcases hF with e|e
  .rw[e,getD_take s]
  .rw[e,List.getD_eq_getElem?_getD,List.getElem?_append_left (by simp;omega),<-List.getD_eq_getElem?_getD,getD_take s]
 have G:c<g.length->(g.getD c dF).2.1=k:=fun s=>by
  rcases hF with e|e
  .have:g.length=(g.map (·.2.1)).length:=(aO ..).symm;rw[e]at this;simp at this;omega
  .rw[uM s,e,List.getD_eq_getElem?_getD,List.getElem?_append_right (by simp;omega)];simp[Nat.min_eq_left hc]
 have I: ∀m,m<F.length->(F.getD m dF).2.1<k:=fun m s=>by
  rw[<-(h.frm m (by rw[h.len];exact s)).1];exact h.lt _ (h.nn m (by rw[h.len];exact s)).2
 obtain⟨Z,s2,s3⟩:=X5 g k H c (fun n o=>(h.nn n o).1) H.length L aG (ae _) (fun m s=>(h.nn m s).2)
  (fun m s=>⟨(v m s).1,(v m s).2.trans (h.frm m (by omega)).1.symm⟩)
  (fun m aX O ⟨B,y⟩=>by
   have s:m=c:=by omega
   subst s;rw[G (by omega),(h.frm m O).1]at y;have:=I m (by rw[<-h.len];exact O);omega)
 rw[List.take_length]at Z s2 s3;have af:=(QQ g k H.length L H).1;have z:(H.take c).length=c:=by rw[aZ];omega
 have A: ∀m,m<c->(H.take c).getD m 0=H.getD m 0:=fun m s=>getD_take s;obtain⟨m1,m2⟩:=Xe g (H.take c) (fun m n s o e=>by
   rw[z]at s o;rw[A m s,A n o]at e;exact h.hd m n (by omega) (by omega) e) c 0 (qV g k H.length L H).1 (by omega) (fun m s=>by
   rw[z]at s;rw[A m s,af];exact(h.nn m (by omega)).2)
 have ao:=Qp g (H.take c) c 0 (qV g k H.length L H).1;have aH: ∀j,j<L.length->dN (Ed g (H.take c) c 0 (qV g k H.length L H).1) dP j=jU g k (dN L dP j):=fun j u=>by
  unfold jU;have W: ∀m n,m<g.length->n<g.length->(g.getD m dF).2.1=(g.getD n dF).2.1->m=n:=fun m n s o e=>by
   rcases aJ m c with q|q<;>rcases aJ n c with x|x
   .rw[(v m q).2,(v n x).2]at e;exact h.fd m n (by omega) (by omega) e
   .have:n=c:=by omega
    subst this;rw[(v m q).2,G o]at e;have:=I m (by omega);omega
   .have:m=c:=by omega
    subst this;rw[(v n x).2,G s]at e;have:=I n (by omega);omega
   .omega
  by_cases D:(dN L dP j).2.2.2.2.1=true
  .rw[am D];obtain⟨n,o,J⟩:=h.opn j D;have ag:=(h.frm n o).1;rw[J]at ag;rcases aJ n c with K|K
   .have e:=m1 n (by omega) (by omega);rw[A n K,J]at e;rw[e,s3 j (fun m s O S=>by have:=h.hd m n O o (S.trans J.symm);omega),ag,<-(v n K).2,VY W (v n K).1]
   .rw[m2 j (fun m _ s S=>by rw[A m (by omega)]at S;have:=h.hd m n (by omega) o (S.trans J.symm);omega),s2 j ⟨n,K,o,J⟩,LG];intro m s e;rw[ag]at e;rcases aJ m c with q|q
    .rw[(v m q).2]at e;have:=h.fd m n (by omega) (by rw[<-h.len];exact o) e;omega
    .have:m=c:=by omega
     subst this;rw[G s]at e;have:=I n (by rw[<-h.len];exact o);omega
  .rw[aq D];have au: ∀m,m<H.length->(H.getD m 0).toNat≠j:=fun m s e=>D (by rw[<-e];exact(h.frm m s).2);rw[m2 j (fun m _ s S=>au m (by omega) (by rw[<-A m (by omega)];exact S)),s3 j (fun m _ s=>au m s)]
 have aI:Ed g (H.take c) c 0 (qV g k H.length L H).1=L.map (jU g k):=aBA (d:=dP) (by rw[ao,af,aO]) fun j u=>by
  rw[ao,af]at u;rw[aH j u,rZ (l:=L.map _) (by rw[aO];exact u),List.getElem_map,rZ u]
 have E: ∀p,(jU g k p).2.1=p.2.1:=fun p=>by
  unfold jU;split
  .split<;>rfl
  .rfl
 have av:(aeU L H g k)=if g.length=c then(L.map (jU g k),H.take c)else
   (L.map (jU g k)++[(counts (g.getD c dF).1,((g.getD c dF).2.1,(0,((if c=0 then-1 else(H.take c).getD (c-1) 0),(true,())))))],H.take c++[(L.length:Int)]):=by
  unfold aeU;simp only[Z,z,aI,aO]
 have aK: ∀p,(jU g k p).2.2.2.2.1=true->p.2.2.2.2.1=true/\ ∃m,qc g p.2.1=some m:=fun p U=>by
  unfold jU at U;split at U
  .rename_i D
   split at U
   .rename_i m s;exact⟨D,m,s⟩
   .cases U
  .rename_i D;exact absurd U D
 have W: ∀m n,m<g.length->n<g.length->(g.getD m dF).2.1=(g.getD n dF).2.1->m=n:=fun m n s o e=>by
  rcases aJ m c with q|q<;>rcases aJ n c with x|x
  .rw[(v m q).2,(v n x).2]at e;exact h.fd m n (by omega) (by omega) e
  .have:n=c:=by omega
   subst this;rw[(v m q).2,G o]at e;have:=I m (by omega);omega
  .have:m=c:=by omega
   subst this;rw[(v n x).2,G s]at e;have:=I n (by omega);omega
  .omega
 have V: ∀j,j<L.length->dN (L.map (jU g k)) dP j=jU g k (dN L dP j):=fun j u=>by
  rw[rZ (l:=L.map _) (by rw[aO];exact u),List.getElem_map,rZ u]
 have aw:xQ g k L=L.map (jU g k)++if xK g k=true then [oW g k (L.map (·.2.1))]else []:=rfl
 have ax: ∀n,n<c->(jU g k (dN L dP (H.getD n 0).toNat)).2.1=(g.getD n dF).2.1/\(jU g k (dN L dP (H.getD n 0).toNat)).2.2.2.2.1=true:=fun n o=>by
  have M:=h.frm n (by omega);refine⟨by rw[E,M.1,(v n o).2], ?_⟩;unfold jU;rw[am M.2,M.1,<-(v n o).2,VY W (v n o).1];exact M.2
 have ay: ∀j,j<L.length->(jU g k (dN L dP j)).2.2.2.2.1=true-> ∃n,n<c/\(H.getD n 0).toNat=j:=fun j u D=>by
  obtain⟨q,m,s⟩:=aK _ D;obtain⟨n,o,J⟩:=h.opn j q;have M:=(h.frm n o).1;rw[J]at M;rcases aJ n c with K|K
  .exact⟨n,K,J⟩
  .rw[M,LG]at s
   .cases s
   .intro m O e;rcases aJ m c with q|q
    .rw[(v m q).2]at e;have:=h.fd m n (by omega) (by rw[<-h.len];exact o) e;omega
    .have:m=c:=by omega
     subst this;rw[G O]at e;have:=I n (by rw[<-h.len];exact o);omega
 have az: ∀{l:List jY} {j:Nat},(dN l dP j).2.2.2.2.1=true->j<l.length:=fun {l j} u=>by
  rcases aJ j l.length with q|q
  .exact q
  .rw[an2 q]at u;cases u
 refine⟨by rw[Z,z];omega,by rw[Z,z];omega, ?_⟩;by_cases e:g.length=c
 .have ah:xK g k=false:=by
   unfold xK;cases B:g.getLast? with
   |none=>rfl
   |some f=>
    have aP:g≠[]:=by rintro rfl;cases B
    have U:0<g.length:=List.length_pos_iff.2 aP;have:g.getD (c-1) dF=f:=by
     rw[List.getLast?_eq_getElem?,e]at B;rw[List.getD_eq_getElem?_getD,B];rfl
    have x:=(v (c-1) (by omega)).2;rw[this]at x;have:=I (c-1) (by omega);exact decide_eq_false (by omega)
  rw[av,am e,aw,ah];refine⟨by simp, ?_⟩;exact {
   len:=by rw[z,e]
   nn:=fun n o=>by rw[z]at o;rw[A n o,aO];exact h.nn n (by omega)
   frm:=fun n o=>by
    rw[z]at o;rw[A n o,V _ (h.nn n (by omega)).2];exact ax n o
   opn:=fun j u=>by
    have B:=az u;rw[aO]at B;rw[V j B]at u;obtain⟨n,o,y⟩:=ay j B u;exact⟨n,by rw[z];exact o,by rw[A n o];exact y⟩
   lt:=fun j u=>by
    rw[aO]at u;rw[V j u,E];have:=h.lt j u;omega
   inj:=fun i j X u y=>by
    rw[aO]at X u;rw[V i X,V j u,E,E]at y;exact h.inj i j X u y
   fd:=W}
 .have aA:g.length=c+1:=by omega
  have aB:g.getLast?=some (g.getD c dF):=by
   rw[List.getLast?_eq_getElem?,aA,List.getD_eq_getElem?_getD,show c+1-1=c by omega,List.getElem?_eq_getElem (by omega)];rfl
  have aQ:g.getLastD dF=g.getD c dF:=by rw[List.getLastD_eq_getLast?,aB];rfl
  have aj:=G (by omega);have ah:xK g k=true:=by unfold xK;rw[aB];exact decide_eq_true aj
  have aU:(if c=0 then-1 else(H.take c).getD (c-1) 0)=(if g.length=1 then-1 else awy (L.map (·.2.1)) (g.getD (g.length-2) dF).2.1):=by
   by_cases c0:c=0
   .rw[am c0,am (by omega)]
   .have o:=h.nn (c-1) (by omega);rw[aq c0,aq (by omega),A _ (by omega),show g.length-2=c-1 by omega,(v (c-1) (by omega)).2,<-(h.frm (c-1) (by omega)).1,agS h.inj o.2];omega
  have aV:(counts (g.getD c dF).1,((g.getD c dF).2.1,((0:Int),((if c=0 then-1 else(H.take c).getD (c-1) 0),(true,())))))=oW g k (L.map (·.2.1)):=by
   unfold oW;rw[aU,aQ,aj]
  rw[av,aq e,aw,ah,aV];refine⟨by simp, ?_⟩;have ab:(L.map (jU g k)++[oW g k (L.map (·.2.1))]).length=L.length+1:=by simp
  have N: ∀j,j<L.length->dN (L.map (jU g k)++[oW g k (L.map (·.2.1))]) dP j=jU g k (dN L dP j):=fun j u=>by
   rw[<-V j u];unfold dN;rw[List.getD_eq_getElem?_getD,List.getD_eq_getElem?_getD,List.getElem?_append_left (by rw[aO];exact u)]
  have ad:dN (L.map (jU g k)++[oW g k (L.map (·.2.1))]) dP L.length=oW g k (L.map (·.2.1)):=by
   unfold dN;rw[List.getD_eq_getElem?_getD,List.getElem?_append_right (by simp)];simp
  have ak: ∀n,n<c->(H.take c++[(L.length:Int)]).getD n 0=H.getD n 0:=fun n o=>by
   rw[<-A n o,List.getD_eq_getElem?_getD,List.getD_eq_getElem?_getD,List.getElem?_append_left (by rw[z];exact o)]
  have al:(H.take c++[(L.length:Int)]).getD c 0=L.length:=by
   rw[List.getD_eq_getElem?_getD,List.getElem?_append_right (by rw[z];omega)];simp[z]
  have Y:(H.take c++[(L.length:Int)]).length=c+1:=by rw[ai,z];rfl
  have aF: ∀n,n<c+1->n<c\/n=c:=fun n o=>by omega
  have an:(oW g k (L.map (·.2.1))).2.1=k:=rfl;exact {
   len:=by rw[Y,aA]
   nn:=fun n o=>by
    rw[Y]at o;rw[ab];rcases aF n o with q|rfl
    .rw[ak n q];have:=h.nn n (by omega);omega
    .rw[al];omega
   frm:=fun n o=>by
    rw[Y]at o;rcases aF n o with q|rfl
    .rw[ak n q,N _ (h.nn n (by omega)).2];exact ax n q
    .rw[al,aS,ad];exact⟨aj.symm,rfl⟩
   opn:=fun j u=>by
    have B:=az u;rw[ab]at B;rcases aJ j L.length with q|q
    .rw[N j q]at u;obtain⟨n,o,y⟩:=ay j q u;exact⟨n,by rw[Y];omega,by rw[ak n o];exact y⟩
    .exact⟨c,by rw[Y];omega,by rw[al];omega⟩
   lt:=fun j u=>by
    rw[ab]at u;rcases aJ j L.length with q|q
    .rw[N j q,E];have:=h.lt j q;omega
    .rw[show j=L.length by omega,ad,an];omega
   inj:=fun i j X u y=>by
    rw[ab]at X u;rcases aJ i L.length with q|q<;>rcases aJ j L.length with x|x
    .rw[N i q,N j x,E,E]at y;exact h.inj i j q x y
    .rw[N i q,E,show j=L.length by omega,ad,an]at y;have:=h.lt i q;omega
    .rw[N j x,E,show i=L.length by omega,ad,an]at y;have:=h.lt j x;omega
    .omega
   fd:=W}
end
section
open Bool renaming and_true → ay
open List renaming drop_eq_getElem_cons → aF, length_map → aO, drop_zero → aY, eq_nil_of_length_eq_zero → bF
open Go.RowKit
def lm:bV->Int->fE×Bool->List jY->List jY
 |[],_,_,L=>L
 |b::l,a,x,L=>lm l (a+1) (eQ x.1 x.2 (eX b) a) (xQ (jS (eQ x.1 x.2 (eX b) a).1) a L)
def qE (s:bV) (p:jY):jY:=if p.1=12 then(p.1,p.2.1,p.2.1+1+((prl (s.drop (p.2.1+1).toNat):Nat):Int),p.2.2.2.1,false,())else if p.2.2.2.2.1=true then(p.1,p.2.1,(s.length:Int),p.2.2.2.1,true,())else p
def bP (s:bV):List jY:=(lm s 0 dZ []).map (qE s)
theorem arq (F:List xM) (a:Int) (L:List jY):(xQ F a L).length<=L.length+1:=by
 grind [xQ]
theorem NM (s:fE):(jS s).length<=s.length:=by simp[jS]
theorem aBl {l:List xM} (h:l.length<1000000):qx l=some (l,()):=by
 grind [qx,uG,eu,mJ]
theorem aAQ (s:bV) (u:s.length<=100000): ∀(N:Nat) (i:Int) (x:fE×Bool) (L:List jY) (H:List Int),(s.length:Int)-i<N->0<=i->i<=s.length->iV x.1->(x.1.length:Int)<=i+1->Inv L H (jS x.1) i->(L.length:Int)<=i->
  ∃g o,WS N s (bK s) i x.2 i (lo x.1) H L=some (.inl ((s,()),(g,lm (s.drop i.toNat) i x L,(),())))/\Inv (lm (s.drop i.toNat) i x L) g o s.length/\(lm (s.drop i.toNat) i x L).length<=s.length
 |0,i,x,L,H,h,_,_,_,_,_,_=>by omega
 |N+1,i,x,L,H,h,f,B,l,D,m,E=>by
  rw[WS,afh];by_cases e:i<s.length
  .obtain⟨b,hd,G⟩:=drop_at f e;have d:=good_step l x.2 (cu s i) i;have I:(lo (eQ x.1 x.2 (cu s i) i).1).length≠0:=by
    rw[oV];intro e;rw[bF e]at d;exact d.1
   obtain⟨c,p,q⟩:=OO l x.2 (cu s i) i;rw[<-vY,<-vY]at q;rw[<-vY,aO]at p;obtain⟨v,y,J,K⟩:=ay8 m p q;obtain⟨t,M⟩:=aHo d.1;have O:=NM (eQ x.1 x.2 (cu s i) i).1;have S:=NM x.1;have U:=m.len;have V:=aM3 (t:=t) (L:=L) (H:=H) (F:=jS (eQ x.1 x.2 (cu s i) i).1) (a:=i) f (by omega) (by have:=d.2;omega) (by omega) (by omega)
    (fun j z=>by
     obtain⟨n,A,W⟩:=List.getElem_of_mem z;have:=m.nn n A
     grind) v y
   have X:=arq (jS (eQ x.1 x.2 (cu s i) i).1) i L;obtain⟨g,o,Y,Z,r3⟩:=aAQ s u N (i+1) (eQ x.1 x.2 (cu s i) i) (xQ (jS (eQ x.1 x.2 (cu s i) i).1) i L) (aeU L H (jS (eQ x.1 x.2 (cu s i) i).1) i).2 (by omega) (by omega) (by omega) d.1 (by have:=d.2;omega) (by simp_all) (by omega);rw[bW (fG (b:=bK s) e),bW (eF f e),aju l (by omega) x.2 (nM s i) f (by omega),bI];simp only[pst];rw[dG (dM (by rw[bM];omega)),aBl (by grind),bI]
   grind [bI,dB,lm]
  .have ab:i=s.length:=by omega
   rw[dG (lD (b:=bK s) (by rw[bM];omega)),Nl,lm]
   grind
theorem aEM (s:bV) (o:s.length<=100000) (H:List Int): ∀(N i:Nat) (L:List jY),L.length-i<N->i<=L.length->L.length<1000000->(∀j,j<L.length->0<=(dN L dP j).2.1/\(dN L dP j).2.1<s.length)->
  Jp N s (bK L) (i:Int) H L=some (.inl ((),(H,L.take i++(L.drop i).map (qE s),(),())))
 |0,i,L,h,_,_,_=>by omega
 |N+1,i,L,h,B,p,q=>by
  (rewrite [Jp,U4];delta gG kT fU)
  by_cases e:i<L.length
  .have D:pK (dI (i:Int)) L=true:=qU (by assumption);have u:gy L (i:Int)=true:=eF;have v:dI (i:Int)=i:=by simp[dI]
   have jB: ∀x,dN (iR L i x) (0,(0,(0,(0,(false,()))))) i=x:=fun x=>Jt e;have y:pK i L=true:=by assumption
   have E:=q i e;have g:ZP s (cO .i64 (dN L (0,(0,(0,(0,(false,()))))) i).2.1 1)=some (((prl (s.drop ((dN L dP i).2.1+1).toNat):Nat):Int),()):=by
    grind [dB,dP,aA3]
   have l:cO .i64 (cO .i64 (dN L (0,(0,(0,(0,(false,()))))) i).2.1 1) ((prl (s.drop ((dN L dP i).2.1+1).toNat):Nat):Int)=(dN L dP i).2.1+1+((prl (s.drop ((dN L dP i).2.1+1).toNat):Nat):Int):=by
    grind [ali,dP,dB]
   have z:cO .i64 (i:Int) 1=((i+1:Nat):Int):=by grind [dB]
   have go: ∀x,x=qE s (dN L dP i)->Jp N s (bK L) ((i+1:Nat):Int) H (iR L i x)=some (.inl ((),(H,L.take i++(L.drop i).map (qE s),(),()))):=fun x G=>by
    have I:(qE s (dN L dP i)).2.1=(dN L dP i).2.1:=by
     grind [qE]
    have m:=aEM s o H N (i+1) (iR L i x) (by rw[yP];omega) (by rw[yP];omega) (by rw[yP];exact p) (fun j J=>by
     grind [iR,Jt,LV])
    have A:bK (iR L i x)=bK L:=by rw[bM,bM,yP]
    rw[A]at m;rw[m];congr 4;have K:(iR L i x).take (i+1)=L.take i++[x]:=by
     simp_all [iR,List.take_add_one,List.take_set_of_le]
    grind [iR,List.drop_set_of_lt,aF,rZ]
   rw[bW (fG (by rw[bM];omega))];simp only[v,u,y,anX,jB,aie,aa,aga,ay,z];by_cases ho:(dN L dP i).2.2.2.2.1=true
   .have f:(dN L (0,(0,(0,(0,(false,()))))) i).2.2.2.2.1=true:=ho;rw[f,aa];by_cases hm:(dN L dP i).1=12
    .have d:(dN L (0,(0,(0,(0,(false,()))))) i).1=12:=hm;rw[d,bW (eG rfl),g,bI];simp only[l];refine go _ ?_;unfold qE;rw[am hm,hm];rfl
    .have d: ¬(dN L (0,(0,(0,(0,(false,()))))) i).1=12:=hm;rw[dG (dM d)];refine go _ ?_;unfold qE;rw[aq hm,am ho];rfl
   .have f:(dN L (0,(0,(0,(0,(false,()))))) i).2.2.2.2.1=false:=Bool.eq_false_iff.2 ho;rw[f,ac];by_cases hm:(dN L dP i).1=12
    .have d:(dN L (0,(0,(0,(0,(false,()))))) i).1=12:=hm;rw[d,bW (eG rfl),g,bI];simp only[l];refine go _ ?_;unfold qE;rw[am hm,hm];rfl
    .have d: ¬(dN L (0,(0,(0,(0,(false,()))))) i).1=12:=hm;rw[dG (dM d)];simp_all [iR,rZ,qE]
  .have M:i=L.length:=by omega
   simp_all [gU,bM]
theorem ars:Inv [] [] (jS dZ.1) 0:={
 len:=rfl
 nn:=fun n e=>by cases e
 frm:=fun n e=>by cases e
 opn:=fun j d=>by rw[an2 (by simp)]at d;cases d
 lt:=fun j d=>by cases d
 inj:=fun i j f=>by cases f
 fd:=fun m n g=>by cases g}
theorem aap: ∀(l:bV) (a:Int) (x:fE×Bool) (L:List jY),0<=a->(∀p∈L,0<=p.2.1)-> ∀p∈lm l a x L,0<=p.2.1
 |[],a,x,L,f,h,p,d=>h p d
 |b::l,a,x,L,f,h,p,d=>by
  rw[lm]at d;refine aap l (a+1) _ _ (by omega) (fun p d=> ?_) p d;unfold xQ at d;rcases List.mem_append.1 d with e|e
  .obtain⟨q,g,rfl⟩:=List.mem_map.1 e;have:(jU (jS (eQ x.1 x.2 (eX b) a).1) a q).2.1=q.2.1:=by
    unfold jU;split
    .split<;>rfl
    .rfl
   grind
  .split at e
   .rw[List.mem_singleton.1 e];exact f
   .cases e
theorem aGf (s:bV) (d:s.length<=100000):arh s=some (bP s,()):=by
 obtain⟨f,o,g,e,i⟩:=aAQ s d bT 0 dZ [] [] (by have:=Rw (n:=s.length) (by omega);omega) (by omega) (by omega) kV (by simp[dZ]) ars (by simp);unfold arh;rw[show([(0,(0,()))]:List lL)=lo dZ.1 from rfl,show(true:Bool)=dZ.2 from rfl,g,bI];simp only[dR,Int.toNat_zero,aY]at e i ⊢;have q:=aap s 0 dZ [] (by omega) (fun p l=>by cases l);have u:=aEM s d f bT 0 (lm s 0 dZ []) (Rw) (by omega) (by omega) (fun j m=>by
  refine⟨?_,e.lt j m⟩
  grind [rZ])
 grind [bI,bP]
end
section
open Option renaming some → a6, none → a7
open List renaming append_assoc → ah, map_cons → au, nil_append → aB, drop_eq_getElem_cons → aF, cons_append → aH, drop_of_length_le → aI, map_nil → aX, length_take → aZ, mem_of_mem_take → bn
open Go.RowKit
def oU:bV->Int->fE×Bool->jY->jY
 |[],_,_,p=>p
 |b::l,a,x,p=>oU l (a+1) (eQ x.1 x.2 (eX b) a) (jU (jS (eQ x.1 x.2 (eX b) a).1) a p)
def pg:bV->Int->fE×Bool->List Int->List jY
 |[],_,_,_=>[]
 |b::l,a,x,d=>
  if xK (jS (eQ x.1 x.2 (eX b) a).1) a=true then oU l (a+1) (eQ x.1 x.2 (eX b) a) (oW (jS (eQ x.1 x.2 (eX b) a).1) a d)::pg l (a+1) (eQ x.1 x.2 (eX b) a) (d++[a])
  else pg l (a+1) (eQ x.1 x.2 (eX b) a) d
theorem aa9 (F:List xM) (a:Int) (p:jY):(jU F a p).2.1=p.2.1:=by
 unfold jU;split
 .split<;>rfl
 .rfl
theorem uJ: ∀(l:bV) (a:Int) (x:fE×Bool) (p:jY),(oU l a x p).2.1=p.2.1
 |[],_,_,_=>rfl
 |b::l,a,x,p=>by rw[oU,uJ l,aa9]
theorem P6 (s:bV) (p:jY):(qE s p).2.1=p.2.1:=by
 grind [qE]
theorem zf: ∀(l:bV) (a:Int) (x:fE×Bool) (p:jY),p.2.2.2.2.1=false->oU l a x p=p
 |[],_,_,_,_=>rfl
 |b::l,a,x,p,h=>by
  rw[oU];have:jU (jS (eQ x.1 x.2 (eX b) a).1) a p=p:=by grind [jU]
  rw[this];exact zf l _ _ p h
theorem XA: ∀(l:bV) (a:Int) (x:fE×Bool) (L:List jY),lm l a x L=L.map (oU l a x)++pg l a x (L.map (·.2.1))
 |[],a,x,L=>by
  have:(oU [] a x)=id:=rfl;rw[lm,pg,this];simp
 |b::l,a,x,L=>by
  rw[lm,XA l,pg];have d:L.map (oU (b::l) a x)=(L.map (jU (jS (eQ x.1 x.2 (eX b) a).1) a)).map (oU l (a+1) (eQ x.1 x.2 (eX b) a)):=by
   rw[List.map_map];rfl
  have e:(L.map (jU (jS (eQ x.1 x.2 (eX b) a).1) a)).map (·.2.1)=L.map (·.2.1):=by
   simp_all [aa9]
  unfold xQ;rw[d];split
  .rw[List.map_append,List.map_append,e];simp only[au,aX,ah,aH,aB];rfl
  grind
theorem xh (s:bV):bP s=(pg s 0 dZ []).map (qE s):=by
 unfold bP;rw[XA];rfl
structure PL (x:fE) (i:Int):Prop where
 up:(Gp x).Pairwise (· < ·)
 lt: ∀v∈Gp x,v<i
theorem ayo:PL dZ.1 0:=⟨List.Pairwise.nil,fun v d=>by cases d⟩
theorem aDP {s:fE} {i:Int} (g:iV s) (h:PL s i) (fr:Bool) (b:Int):PL (eQ s fr b i).1 (i+1):=by
 obtain⟨c,m,e|e⟩:=OO g fr b i
 .refine⟨by rw[e];exact h.up.sublist (List.take_sublist ..),fun v d=> ?_⟩;rw[e]at d;have:=h.lt v (bn d);omega
 .refine⟨?_,fun v d=> ?_⟩
  .rw[e,List.pairwise_append];refine⟨h.up.sublist (List.take_sublist ..),List.pairwise_singleton ..,fun a j b l=> ?_⟩;rw[List.mem_singleton.1 l];exact h.lt a (bn j)
  .rw[e]at d;rcases List.mem_append.1 d with f|f
   .have:=h.lt v (bn f);omega
   grind
theorem afD {l:List Int} (h:l.Pairwise (· < ·)) {m n:Nat} {v:Int} (d:l[m]? =a6 v) (e:l[n]? =a6 v):m=n:=by
 grind [List.pairwise_iff_getElem]
theorem aBC {l:List Int} (h:l.Pairwise (· < ·)) {n:Nat} {v:Int} (d:l[n]? =a6 v):l.findIdx? (· ==v)=a6 n:=by
 obtain⟨e,f⟩:=List.getElem?_eq_some_iff.1 d;cases hf:l.findIdx? (· ==v)with
 |none=>
  simp_all
 |some m=>
  obtain⟨g,i,_⟩:=List.findIdx?_eq_some_iff_getElem.1 hf;have:l[m]? =a6 v:=by simp_all
  rw[afD h this d]
theorem stay {s:fE} {i v:Int} {n:Nat} (l:iV s) (h:PL s i) (f:(Gp s)[n]? =a6 v) (fr:Bool) (b:Int):(Gp (eQ s fr b i).1)[n]? =a6 v\/v∉Gp (eQ s fr b i).1:=by
 have p:=h.lt v (List.mem_of_getElem? f);obtain⟨c,q,e|e⟩:=OO l fr b i<;>rw[e]
 .by_cases hnc:n<c
  .grind
  .right;intro g;obtain⟨m,d⟩:=List.getElem?_of_mem g;rw[List.getElem?_take]at d;split at d
   .rename_i o
    have:=afD h.up d f;omega
   .cases d
 .have u:((Gp s).take c).length=c:=by simp_all
  by_cases hnc:n<c
  .grind
  .right;intro g;rcases List.mem_append.1 g with j|j
   .obtain⟨m,d⟩:=List.getElem?_of_mem j;rw[List.getElem?_take]at d;split at d
    .rename_i o
     have:=afD h.up d f;omega
    .cases d
   simp_all
def atM (s:fE) (v:Int):Int:=match(Gp s).findIdx? (· ==v)with
 |some n=>((n+1:Nat):Int)
 |none=>0
theorem ayq {s:fE} (d:iV s): ∃t,po s=t::Gp s:=by
 have e:s≠[]:=by rintro rfl;exact d
 grind [List.dropLast_concat_getLast,po,Gp]
theorem aJl {s:fE} (e:iV s): ∃t,so s=t::(jS s).map fun f=>letter f.1:=by
 have d:s≠[]:=by rintro rfl;exact e
 refine⟨letter (s.getLast d).1, ?_⟩
 conv=>lhs;rw[<-List.dropLast_concat_getLast d]
 simp[so,jS,List.map_reverse];rfl
theorem alV (v:Int) (S:bV) (P:List Int) (fr:Bool) (d:P.length<1000000): ∀(N j:Nat),P.length-j<N->
  Jk N v (j:Int) S P fr=a6 (match(P.drop j).findIdx? (· ==v)with|some n=>.inr ((((j+n:Nat):Int),()),())|none=>.inl ((),()))
 |0,j,h=>by omega
 |N+1,j,h=>by
  rw[Jk,UU];by_cases e:j<P.length
  .have f:ed P 0 (j:Int)=P[j]:=by simp_all [ed]
   rw[bW (fG (by rw[bM];omega)),bW (eF),f,aF e,List.findIdx?_cons,iO];by_cases e2:P[j]=v
   .simp[e2]
   .rw[dB,show(j:Int)+1=((j+1:Nat):Int) by omega,alV v S P fr d N (j+1) (by omega)]
    grind
  simp_all [gU,bM,aI]
theorem aGm {s:fE} (d:iV s) (hl:s.length<900000) (fr:Bool) (v:Int):agG (so s,(po s,(fr,()))) v=a6 (atM s v,()):=by
 unfold agG;obtain⟨t,e⟩:=ayq d;have h:=alV v (so s) (po s) fr (by rw[XI];omega) bT 1 (dJ (by rw[XI];omega));rw[show Jk bT v 1 (so s) (po s) fr=_ from h,bI,e]
 grind [atM,dR]
theorem axZ: ∀n:Fin 15,amL ((letter ((n.val:Nat):Int)).toNat:Int)=a6 (counts ((n.val:Nat):Int),()):=by decide+kernel
theorem aIv {m:Int} (d:0<=m) (e:m<=14):amL ((letter m).toNat:Int)=a6 (counts m,()):=by
 have:=axZ ⟨m.toNat,by omega⟩
 grind
theorem LH: ∀{s:fE},iV s-> ∀f∈s,0<=f.1/\f.1<=14
 |[],h=>by cases h
 |[f],h=>by
  intro g d;rw[List.mem_singleton.1 d];have:f.1=0:=h;omega
 |f::g::r,h=>by
  intro q e;rcases List.mem_cons.1 e with rfl|i
  .have:=h.1;have:=h.2.1;omega
  .exact LH h.2.2.2 q i
theorem arj {s:fE} (e:iV s) {n:Nat} (i:n<(jS s).length):0<=((jS s).getD n dF).1/\((jS s).getD n dF).1<=14:=by
 have d:(jS s).getD n dF∈jS s:=by simp_all
 generalize (jS s).getD n dF=q at d;unfold jS at d;rw[List.mem_reverse,List.mem_map]at d;obtain⟨f,g,rfl⟩:=d;exact LH e f (List.dropLast_subset s g)
theorem aM8 {s:fE} (d:iV s) {n:Nat} (e:n<(jS s).length):cu (so s) ((n+1:Nat):Int)=((letter ((jS s).getD n dF).1).toNat:Int)/\gy (so s) ((n+1:Nat):Int)=true:=by
 grind [aJl,eF,cu]
theorem RJ (s:fE):(jS s).length=(Gp s).length:=by grind [vY]
theorem awp {s:fE} {n:Nat} {v:Int} (h:(Gp s)[n]? =a6 v):((jS s).getD n dF).2.1=v/\n<(jS s).length:=by
 grind [vY]
theorem aG3 {s:fE} {i:Int} (h:PL s i): ∀m n,m<(jS s).length->n<(jS s).length->((jS s).getD m dF).2.1=((jS s).getD n dF).2.1->m=n:=fun m n d f e=>by
 rw[uM d,uM f,vY]at e;rw[RJ]at d f;rw[List.getD_eq_getElem?_getD,List.getD_eq_getElem?_getD,List.getElem?_eq_getElem d,List.getElem?_eq_getElem f]at e;exact afD h.up (List.getElem?_eq_getElem d) (by simp_all)
theorem av9 {s:fE} {i v:Int} {n:Nat} (h:PL s i) (d:(Gp s)[n]? =a6 v):qc (jS s) v=a6 ((jS s).getD n dF).1:=by
 grind [awp,VY,aG3]
theorem av8 {s:fE} {v:Int} (h:v∉Gp s):qc (jS s) v=a7:=by
 grind [LG,vY]
theorem atv {s:fE} {i v:Int} {n:Nat} (h:PL s i) (d:(Gp s)[n]? =a6 v):atM s v=((n+1:Nat):Int):=by
 unfold atM;rw[aBC h.up d]
theorem atw {s:fE} {v:Int} (h:v∉Gp s):atM s v=0:=by
 grind [atM]
def iE (s:bV) (k:Nat):fE×Bool:=gB (s.take k) 0 dZ
theorem Aj: ∀(l m:bV) (a:Int) (x:fE×Bool),gB (l++m) a x=gB m (a+l.length) (gB l a x)
 |[],m,a,x=>by simp[gB]
 |b::l,m,a,x=>by
  rw[aH,gB,gB,Aj l m]
  grind
theorem JM {s:List UInt8} {k:Nat} (h:k<s.length):iE s (k+1)=eQ (iE s k).1 (iE s k).2 (cu s k) k:=by
 unfold iE;rw[List.take_add_one,List.getElem?_eq_getElem h,Option.toList_some,Aj,gB,gB,byte_at h,aZ,Nat.min_eq_left (by omega)];simp[eX]
theorem zq (s:bV) (k:Nat):iV (iE s k).1/\(iE s k).1.length<=k+1:=by
 have h:=D5 (s.take k) 0 dZ kV;refine⟨h.1, ?_⟩;have d:=h.2;have:dZ.1.length=1:=rfl
 grind [iE]
theorem Pj (s:bV): ∀k,k<=s.length->PL (iE s k).1 k
 |0,_=>ayo
 |k+1,h=>by
  rw[JM (by omega)];have:=aDP (zq s k).1 (Pj s k (by omega)) (iE s k).2 (cu s k);simpa using this
end
section
open Option renaming some → a6, none → a7
open Bool renaming false_eq_true → ag
open List renaming append_assoc → ah, length_append → ai, map_cons → au, nil_append → aB, drop_eq_getElem_cons → aF, length_cons → aG, drop_of_length_le → aI, length_map → aO, getElem_mem → aP, length_drop → aU, map_nil → aX, drop_zero → aY, length_take → aZ, mem_of_mem_take → bn, mem_append_right → bC, mem_append_left → bD
open Nat renaming le_refl → ae, lt_or_ge → aJ
open Go.RowKit
abbrev RSt:=List UInt8×(List Int×vJ)
def dS:RSt:=([],([],(false,())))
def wL (s:bV) (n:Nat):List RSt:=(List.range n).map fun k=>KG (iE s k)
theorem tK (s:bV) (n:Nat):(wL s n).length=n:=by simp[wL]
theorem MZ (s:bV) {n k:Nat} (h:k<n):dN (wL s n) dS k=KG (iE s k):=by
 simp_all [rZ,wL]
theorem afI (s:bV) (d:s.length<=100000): ∀(N k:Nat),s.length-k<N->k<=s.length->
  Jh N s (k:Int) (wL s (k+1))=a6 (.inl ((s,()),(wL s (s.length+1),())))
 |0,k,h,_=>by omega
 |N+1,k,h,hk=>by
  rw[Jh,UM];by_cases e:k<s.length
  .have j:=zq s k;have f:dN (wL s (k+1)) ([],([],(false,()))) (dI (k:Int))=KG (iE s k):=by
    rw[show dI (k:Int)=k from rfl];exact MZ s (by omega)
   have g:V8 (so (iE s k).1,(po (iE s k).1,((iE s k).2,()))) (cu s (k:Int)) (k:Int)=a6 (KG (iE s (k+1)),()):=by
    grind [JM,ajv,nM]
   have i:bU (wL s (k+1)) [KG (iE s (k+1))]=wL s (k+2):=by
    simp_all [bU,wL,List.range_succ]
   rw[bW (fG (by rw[bM];omega)),bW (eF (by omega) (by rw[tK];omega)),bW (eF),bW (qU (by simp_all [tK,dI])),f];simp only[KG];rw[g,bI];simp only;rw[i,bW (by grind [eu,tK,mJ]),dB,show(k:Int)+1=((k+1:Nat):Int) by omega];exact afI s d N (k+1) (by omega) (by omega)
  .rw[dG (gU (by rw[bM];omega)),show k=s.length by omega]
theorem apQ (s:bV) (A:List RSt) (out:List jY) (from_ n:Int) (P:List Int) (m f to_:Int) (d:Bool) (v:out.length<1000000) (x:n<1000000)
  (g:(dN A dS (dI (cO .i64 from_ 1))).2.1=P) (i:gy A (cO .i64 from_ 1)=true) (l:pK (dI (cO .i64 from_ 1)) A=true) (o:1<n->gy P (eP .i64 n 1)=true)
  (j:Nat) (p:1<n->j<out.length/\(dN out dP j).2.1=ed P 0 (eP .i64 n 1)) (q: ∀a b,a<out.length->b<out.length->(dN out dP a).2.1=(dN out dP b).2.1->a=b):
  ∀(N k:Nat),out.length-k<N->k<=out.length->
  Ea N s from_ n (k:Int) m f to_ (if 1<n/\j<k then(j:Int)else-1) d out A=a6 (.inl ((s,from_,n,()),((m,f,to_,(if 1<n then(j:Int)else-1),d,()),out,A,())))
 |0,k,h,_=>by omega
 |N+1,k,h,hk=>by
  rw[Ea,O6];by_cases e:k<out.length
  .have u:=apQ s A out from_ n P m f to_ d v x g i l o j p q N (k+1) (by omega) (by omega);rw[bW (fG (by rw[bM];omega)),dB (a:=(k:Int)) (by omega) (by omega),show(k:Int)+1=((k+1:Nat):Int) by omega];by_cases e1:1<n
   .obtain⟨y,z⟩:=p e1;have B:(dN A ([],([],(false,()))) (dI (cO .i64 from_ 1))).2.1=P:=g;rw[bW (fG e1),bW (eF),bW (qU (by assumption)),i,l,B,o e1];simp only[aa];by_cases e2:k=j
    .simp_all [dN,dI,eG]
    .have: ¬(dN out (0,(0,(0,(0,(false,()))))) (dI (k:Int))).2.1=ed P 0 (eP .i64 n 1):=fun D=>e2 (q k j e y (D.trans z.symm));rw[dG (dM this)]
     grind
   .rw[aq (fun h=>e1 h.1)]at u ⊢;rw[dG (gU e1)];exact u
  .rw[dG (gU (by rw[bM];omega))]
   grind
theorem aaG (s:bV) (z:s.length<=100000) (out:List jY) (f n:Nat) (up:Int): ∀(N k:Nat) (m:Int) (p:jY),s.length+1-k<N->f<k->k<=s.length->
  (Gp (iE s k).1)[n]? =a6 (f:Int)->p.1=counts ((jS (iE s k).1).getD n dF).1->p.2.1=f->p.2.2.2.2.1=true->p.2.2.2.1=up->
  zZ N s (f:Int) ((n+1:Nat):Int) (k:Int) m f (s.length:Int) up true out (wL s (s.length+1))=
   a6 (.inl ((s,(f:Int),()),(((oU (s.drop k) k (iE s k) p).1,(f:Int),(if(oU (s.drop k) k (iE s k) p).2.2.2.2.1=true then(s.length:Int)else(oU (s.drop k) k (iE s k) p).2.2.1),up,(oU (s.drop k) k (iE s k) p).2.2.2.2.1,()),out,wL s (s.length+1),())))
   /\(oU (s.drop k) k (iE s k) p).2.2.2.1=up
 |0,k,m,p,h,_,_,_,_,_,_,_=>by omega
 |N+1,k,m,p,h,W,hk,j,A,q,g,u=>by
  have i:=zq s k;have v:=Pj s k hk;obtain⟨X,x⟩:=awp j;have B:dN (wL s (s.length+1)) ([],([],(false,()))) (dI (k:Int))=KG (iE s k):=by
   rw[show dI (k:Int)=k from rfl];exact MZ s (by omega)
  have D:gy (wL s (s.length+1)) (k:Int)=true:=eF (by omega) (by rw[tK];omega);have E:pK (dI (k:Int)) (wL s (s.length+1))=true:=qU (by grind [tK,dI]);obtain⟨G,I⟩:=aM8 i.1 x;have y:=arj i.1 x;rw[zZ,Es,bW (oK (by rw[bM];omega)),D,E,B];simp only[aa,KG];rw[aGm i.1 (by omega),bI,atv v j,dG (dM),I,G];simp only[aa];rw[aIv y.1 y.2,bI,dB,show(k:Int)+1=((k+1:Nat):Int) by omega];simp only;by_cases e:k<s.length
  .have hd:s.drop k=s[k]::s.drop (k+1):=aF e;have l:=JM e;have J:cu s (k:Int)=eX s[k]:=byte_at e;rw[J]at l;have K:=zq s (k+1);have L:=Pj s (k+1) (by omega);have M:oU (s.drop k) k (iE s k) p=oU (s.drop (k+1)) ((k+1:Nat):Int) (iE s (k+1)) (jU (jS (iE s (k+1)).1) k p):=by
    grind [oU]
   rw[M];rcases stay i.1 v j (iE s k).2 (eX s[k])with h1|h1
   .rw[<-l]at h1;have o:jU (jS (iE s (k+1)).1) k p=(counts ((jS (iE s (k+1)).1).getD n dF).1,p.2):=by
     unfold jU;rw[am g,q,av9 L h1]
    rw[o];exact aaG s z out f n up N (k+1) _ _ (by omega) (by omega) (by omega) h1 rfl q g u
   .rw[<-l]at h1;have o:jU (jS (iE s (k+1)).1) k p=xy (k+1) p:=by
     simp_all [jU,av8]
    have O:dN (wL s (s.length+1)) ([],([],(false,()))) (dI ((k+1:Nat):Int))=KG (iE s (k+1)):=by
     rw[show dI ((k+1:Nat):Int)=k+1 from rfl];exact MZ s (by omega)
    have S:gy (wL s (s.length+1)) ((k+1:Nat):Int)=true:=eF (by omega) (by rw[tK];omega);have U:pK (dI ((k+1:Nat):Int)) (wL s (s.length+1))=true:=qU (by simp_all [tK,dI]);rw[o,zf _ _ _ _ rfl];obtain⟨d,rfl⟩: ∃d,N=d+1:=⟨N-1,by omega⟩;rw[zZ,Es,bW (oK (by rw[bM];omega)),S,U,O];simp only[aa,KG];rw[aGm K.1 (by omega),bI,atw h1,bW (eG rfl)];simp_all [xy]
  .have V:k=s.length:=by omega
   subst V;rw[List.drop_length,oU];obtain⟨d,rfl⟩: ∃d,N=d+1:=⟨N-1,by omega⟩;rw[zZ,Es,dG (BC (by rw[bM];omega)),am g,g,A];exact⟨rfl,u⟩
theorem arN (F:List xM) (a:Int):xK F a=decide ((F.map (·.2.1)).getLast?=a6 a):=by
 grind [xK]
theorem acH (s:bV) (G:s.length<=100000): ∀(N k:Nat) (out:List jY),s.length-k<N->k<=s.length->out.length<=k->
  (∀a b,a<out.length->b<out.length->(dN out dP a).2.1=(dN out dP b).2.1->a=b)->(∀p∈out,p.2.1<(k:Int))->(∀v∈Gp (iE s k).1,v∈out.map (·.2.1))->
  E9 N s (k:Int) out (wL s (s.length+1))=a6 (.inl ((),(out++(pg (s.drop k) k (iE s k) (out.map (·.2.1))).map (qE s),())))
 |0,k,out,h,_,_,_,_,_=>by omega
 |N+1,k,out,h,hk,bd,y,I,aw=>by
  rw[E9,UN];by_cases e:k<s.length
  .have hd:s.drop k=s[k]::s.drop (k+1):=aF e;have J:=JM e;have z:cu s (k:Int)=eX s[k]:=byte_at e;rw[z]at J;have hg:=zq s k;have ax:=Pj s k hk;have K:=zq s (k+1);have ay:=Pj s (k+1) (by omega);have i:cO .i64 (k:Int) 1=((k+1:Nat):Int):=by rw[dB];omega
   have W:dN (wL s (s.length+1)) ([],([],(false,()))) (dI ((k+1:Nat):Int))=KG (iE s (k+1)):=by
    rw[show dI ((k+1:Nat):Int)=k+1 from rfl];exact MZ s (by omega)
   have X:gy (wL s (s.length+1)) ((k+1:Nat):Int)=true:=eF (by omega) (by rw[tK];omega);have Y:pK (dI ((k+1:Nat):Int)) (wL s (s.length+1))=true:=qU (by rw[tK];simp only[dI];omega);rw[bW (fG (by rw[bM];omega)),i,X,Y,W,hd,pg,<-J];simp only[aa,KG];rw[aGm K.1 (by omega),bI,arN,vY];obtain⟨c,hc,g⟩:=OO hg.1 (iE s k).2 (eX s[k]) k;rw[<-J]at g;have Z:((Gp (iE s k).1).take c).length=c:=by rw[aZ];omega
   have L: ∀v∈(Gp (iE s k).1).take c,v∈out.map (·.2.1):=fun v f=>aw v (bn f);rcases g with g|g
   .
    have ab:(k:Int)∉Gp (iE s (k+1)).1:=fun f=>by
     rw[g]at f;have:=ax.lt _ (bn f);omega
    have M: ¬(Gp (iE s (k+1)).1).getLast?=a6 (k:Int):=fun f=>ab (List.mem_of_getLast? f);rw[atw ab,bW (eG rfl),decide_eq_false M];simp only[ag,if_false];exact acH s G N (k+1) out (by omega) (by omega) (by omega) y (fun p O=>by have:=I p O;omega) (fun v f=>by rw[g]at f;exact L v f)
   .have ad:(Gp (iE s (k+1)).1)[c]? =a6 (k:Int):=by
     rw[g,List.getElem?_append_right (by omega),Z];simp
    have M:(Gp (iE s (k+1)).1).getLast?=a6 (k:Int):=by rw[g];simp
    have af:(jS (iE s (k+1)).1).length=c+1:=by rw[RJ,g,ai,Z];rfl
    rw[atv ay ad,dG (dM),decide_eq_true M];simp only[if_true];have bf:=NM (iE s (k+1)).1;have bg:=K.2;have az:1<((c+1:Nat):Int)->gy (po (iE s (k+1)).1) (eP .i64 ((c+1:Nat):Int) 1)=true:=fun d=>by
     rw[ig];refine eF (by omega) ?_;rw[XI];have:=NM (iE s (k+1)).1;omega
    obtain⟨t,ht⟩:=ayq K.1;have aA:1<((c+1:Nat):Int)->ed (po (iE s (k+1)).1) 0 (eP .i64 ((c+1:Nat):Int) 1)=((jS (iE s (k+1)).1).getD (c-1) dF).2.1:=fun d=>by
     rw[ig,ht,uM,vY];unfold ed;rw[show(((c+1:Nat):Int)-1).toNat=(c-1)+1 by omega,List.getD_cons_succ]
    have aH: ∃j:Nat,1<((c+1:Nat):Int)->j<out.length/\(dN out dP j).2.1=((jS (iE s (k+1)).1).getD (c-1) dF).2.1/\awy (out.map (·.2.1)) ((jS (iE s (k+1)).1).getD (c-1) dF).2.1=(j:Int):=by
     by_cases d:1<((c+1:Nat):Int)
     .have aK:((jS (iE s (k+1)).1).getD (c-1) dF).2.1∈out.map (·.2.1):=by
       refine L _ ?_;rw[uM,vY,g,List.getD_eq_getElem?_getD,List.getElem?_append_left (by omega),List.getElem?_eq_getElem (by omega)];exact aP _
      obtain⟨j,A,aj⟩:=List.getElem_of_mem aK;rw[aO]at A;rw[List.getElem_map]at aj;have ak:(dN out dP j).2.1=((jS (iE s (k+1)).1).getD (c-1) dF).2.1:=by rw[rZ A];exact aj
      exact⟨j,fun _=>⟨A,ak,by rw[<-ak];exact agS y A⟩⟩
     .exact⟨0,fun l=>absurd l d⟩
    obtain⟨j,S⟩:=aH;have al:=apQ s (wL s (s.length+1)) out (k:Int) ((c+1:Nat):Int) (po (iE s (k+1)).1) 0 (k:Int) (s.length:Int) true (by omega) (by have:=NM (iE s (k+1)).1;omega)
     (by rw[i];exact congrArg (·.2.1) W) (by rw[i];exact X) (by rw[i];exact Y) az j (fun d=>⟨(S d).1,(S d).2.1.trans (aA d).symm⟩) y bT 0 (dJ) (by omega)
    rw[aq (by omega)]at al;rw[show Ea bT s (k:Int) ((c+1:Nat):Int) 0 0 (k:Int) (bK s) (-1) true out (wL s (s.length+1))=_ from al,bI];simp only[dR];have B:oW (jS (iE s (k+1)).1) k (out.map (·.2.1))=(counts ((jS (iE s (k+1)).1).getD c dF).1,(k:Int),0,(if 1<((c+1:Nat):Int)then(j:Int)else-1),true,()):=by
     unfold oW;have aQ:(jS (iE s (k+1)).1).getLastD dF=(jS (iE s (k+1)).1).getD c dF:=by
      rw[List.getLastD_eq_getLast?,List.getLast?_eq_getElem?,af,List.getD_eq_getElem?_getD];rfl
     rw[aQ,af];by_cases d:1<((c+1:Nat):Int)
     .rw[aq (by omega),am d,show c+1-2=c-1 by omega,(S d).2.2]
     .rw[am (by omega),aq d]
    obtain⟨aS,U⟩:=aaG s G out k c (if 1<((c+1:Nat):Int)then(j:Int)else-1) bT (k+1) 0 (oW (jS (iE s (k+1)).1) k (out.map (·.2.1))) (dJ) (by omega) (by omega) ad (by rw[B]) (by rw[B]) (by rw[B]) (by rw[B]);rw[i,aS,bI];simp only;have o:=uJ (s.drop (k+1)) ((k+1:Nat):Int) (iE s (k+1)) (oW (jS (iE s (k+1)).1) k (out.map (·.2.1)));have aV:(oW (jS (iE s (k+1)).1) k (out.map (·.2.1))).2.1=(k:Int):=rfl;rw[aV]at o;rw[show((k:Int)+1)=((k+1:Nat):Int) by omega];generalize hq:oU (s.drop (k+1)) ((k+1:Nat):Int) (iE s (k+1)) (oW (jS (iE s (k+1)).1) k (out.map (·.2.1)))=q at*;have an: ∀x:jY,eu (bU out [x]) 40=true:=fun x=>by
     unfold eu bU;exact decide_eq_true (by rw[ai];simp only[aG,List.length_nil];unfold mJ;omega)
    have go:E9 N s ((k+1:Nat):Int) (out++[qE s q]) (wL s (s.length+1))=a6 (.inl ((),(out++(q::pg (s.drop (k+1)) ((k+1:Nat):Int) (iE s (k+1)) (out.map (·.2.1)++[(k:Int)])).map (qE s),()))):=by
     have u:(qE s q).2.1=(k:Int):=(P6 s q).trans o;have D: ∀a,a<out.length->dN (out++[qE s q]) dP a=dN out dP a:=fun a m=>by
      unfold dN;rw[List.getD_eq_getElem?_getD,List.getD_eq_getElem?_getD,List.getElem?_append_left m]
     have ao:dN (out++[qE s q]) dP out.length=qE s q:=by
      unfold dN;rw[List.getD_eq_getElem?_getD,List.getElem?_append_right (ae _)];simp
     have av: ∀a,a<out.length->(dN out dP a).2.1<(k:Int):=fun a m=>by rw[rZ m];exact I _ (aP m)
     have ih:=acH s G N (k+1) (out++[qE s q]) (by omega) (by omega) (by simp;omega)
      (fun a b m z E=>by
       rw[ai]at m z;simp only[aG,List.length_nil]at m z;rcases aJ a out.length with d|d<;>rcases aJ b out.length with l|l
       .rw[D a d,D b l]at E;exact y a b d l E
       .rw[D a d,show b=out.length by omega,ao,u]at E;have:=av a d;omega
       .rw[D b l,show a=out.length by omega,ao,u]at E;have:=av b l;omega
       .omega)
      (fun p O=>by
       rcases List.mem_append.1 O with d|d
       .have:=I p d;omega
       .rw[List.mem_singleton.1 d,u];omega)
      (fun v f=>by
       rw[g]at f;rw[List.map_append];rcases List.mem_append.1 f with d|d
       .exact bD _ (L v d)
       .rw[List.mem_singleton.1 d];exact bC _ (by simp[u]))
     rw[ih];rw[List.map_append,ah,au];simp only[au,aX,u];rfl
    by_cases e12:q.1=12
    .rw[bW (eG e12),i,aA4 (by omega) (by omega),bI,an,aa];have aW:=ali (s.drop (k+1));rw[aU]at aW;rw[dB];have V:qE s q=(q.1,(k:Int),((k+1:Nat):Int)+((prl (s.drop (k+1)):Nat):Int),(if 1<((c+1:Nat):Int)then(j:Int)else-1),false,()):=by
      unfold qE;rw[am e12,o,U,show((k:Int)+1).toNat=k+1 by omega,show(k:Int)+1=((k+1:Nat):Int) by omega]
     rw[<-V];exact go
    .rw[dG (dM e12),i,an,aa];have V:qE s q=(q.1,(k:Int),(if q.2.2.2.2.1=true then(s.length:Int)else q.2.2.1),(if 1<((c+1:Nat):Int)then(j:Int)else-1),q.2.2.2.2.1,()):=by
      unfold qE;rw[aq e12];by_cases ho:q.2.2.2.2.1=true
      .rw[am ho,am ho,o,U,ho]
      .rw[aq ho,aq ho,<-o,<-U]
     rw[<-V];exact go
  .rw[dG (gU (by rw[bM];omega)),aI (by omega),pg];simp
theorem aOb (s:bV) (d:s.length<=100000):amE s=a6 (bP s,()):=by
 unfold amE;have e:=afI s d bT 0 (Rw) (by omega);have f:=acH s d bT 0 [] (Rw) (by omega) (by simp) (fun a b g=>by cases g) (fun p i=>by cases i) (fun v j=>by cases j);rw[show V7=a6 (KG dZ,()) from rfl,bI,show Jh bT s 0 [(KG dZ,()).1]=_ from e,bI];simp only[dR];rw[show E9 bT s 0 [] (wL s (s.length+1))=_ from f,bI];simp only[aB,aY];rw[xh];rfl
end
section
open List renaming mem_cons_of_mem → aj, length_drop → aU
open Nat renaming le_refl → ae
open Go.RowKit
theorem aj7 {g f:Int×Int} {r:fE} (d:iV (f::g::r)):g.1≠13:=by
 have:=d.2.2.1
 grind [WL]
theorem IU {m:Int} {f:Int×Int} {r:fE} (hf:f.1=m\/m≠13/\f.1≠13) (e: ∀g d,r=g::d->g.1≠13) (q:r=[]->m≠13) (fr:Bool) (b i:Int):
  ∀g d,(iJ m (f::r) fr b i).1=g::d->g.1=13->g.2=i:=by
 intro g d h j;have l: ∀{x:Int×Int} {y:fE},x::y=g::d->x=g:=fun h=>(List.cons.inj h).1;have s:m≠13->f::r=g::d->False:=fun o h=>by
  simp_all
 have p:r=g::d->False:=fun h=>e g d h j;have u: ∀k,(k,i)::f::r=g::d->g.2=i:=fun k h=>by rw[<-l h]
 unfold iJ at h;split at h
 .rename_i o
  have v:m≠13:=by omega
  unfold xn at h
  grind
 .split at h
  .exact(p h).elim
  grind [uf]
theorem avL {s:fE} (j:iV s) (fr:Bool) (b i:Int): ∀g∈(eQ s fr b i).1,g.1=13->g.2=i:=by
 have o: ∀g d,(eQ s fr b i).1=g::d->g.1=13->g.2=i:=by
  cases s with
  |nil=>cases j
  |cons f r=>
  intro g d h l;have D: ∀{x:Int×Int} {y:fE},x::y=g::d->x=g:=fun h=>(List.cons.inj h).1;have p: ∀g d,r=g::d->g.1≠13:=fun g d e=>by subst e;exact aj7 j
  have A: ∀g u d,r=g::u::d->u.1≠13:=fun g u d e=>by subst e;exact aj7 j.2.2.2
  have E: ∀k:Int,k≠13->(k,f.2)::r=g::d->False:=fun k hk h=>by
   grind
  simp only[eQ]at h;split at h
  .split at h
   .simp_all
   .split at h
    .grind
    .split at h
     .grind
     .cases r with
      |nil=>rename_i G _ _ _;have:f.1=0:=j;omega
      |cons q r=>
       exact IU (.inl rfl) (fun g d e=>A q g d (by rw[e])) (fun _=>by simp_all) fr b i g d h l
  .split at h
   .split at h
    .simp_all
    .exact IU (f:=(1,f.2)) (.inl rfl) p (fun _=>by omega) fr b i g d h l
   .split at h
    .split at h
     .grind
     .exact IU (f:=(9,f.2)) (.inl rfl) p (fun _=>by omega) fr b i g d h l
    .refine IU (.inl rfl) p (fun e=> ?_) fr b i g d h l;subst e;have:f.1=0:=j;omega
 have v:=(good_step j fr b i).1;revert o v;generalize (eQ s fr b i).1=y;intro o v g m l;cases y with
 |nil=>cases m
 |cons f r=>
  rcases List.mem_cons.1 m with e|m
  .simp_all
  .exfalso;clear o
   induction r generalizing f with
   |nil=>cases m
   |cons q r B=>
    rcases List.mem_cons.1 m with e|z
    .grind [aj7]
    .exact B q v.2.2.2 (aj _ z) z
def PI (p:jY) (a:Int):Prop:=0<=p.2.1/\p.2.1<a/\(p.2.2.2.2.1=true/\(p.1=13->p.2.1+1=a)\/p.2.2.2.2.1=false/\p.2.1+2<=p.2.2.1/\p.2.2.1<=a/\(p.1=13->p.2.2.1=p.2.1+2))
theorem ap8 {m:Int} (h:counts m=13):m=13:=by
 grind [counts]
theorem aB2 {s:fE} {f:xM} (h:f∈jS s):(f.1,f.2.1)∈s:=by
 unfold jS at h;rw[List.mem_reverse,List.mem_map]at h;obtain⟨g,d,rfl⟩:=h
 grind [List.dropLast_sublist]
theorem ard {F:List xM} {v m:Int} (h:qc F v=some m): ∃f∈F,f.2.1=v/\f.1=m:=by
 unfold qc at h;obtain⟨f,d,rfl⟩:=Option.map_eq_some_iff.1 h
 grind
theorem aI6 {s:fE} (j:iV s) (fr:Bool) (b a:Int) {p:jY} (h:PI p a):PI (jU (jS (eQ s fr b a).1) a p) (a+1):=by
 obtain⟨g,v,l⟩:=h;unfold jU;rcases l with ⟨d,i⟩|⟨d,i,x,o⟩
 .rw[am d];split
  .rename_i m q
   refine⟨g,by simp only;omega,.inl ⟨d,fun h=> ?_⟩⟩;have y:m=13:=ap8 h;obtain⟨f,u,z,e⟩:=ard q;have:=avL j fr b a _ (aB2 u) (by simp only;omega);omega
  .refine⟨g,by simp only[xy];omega,.inr ⟨rfl,by simp only[xy];omega,by simp[xy],fun h=> ?_⟩⟩
   grind [xy]
 .rw[aq (by rw[d];simp)];exact⟨g,by omega,.inr ⟨d,i,by omega,o⟩⟩
theorem aI5 {s:fE} (e:iV s) (fr:Bool) (b:Int) {a:Int} (d:0<=a) (l:List Int):PI (oW (jS (eQ s fr b a).1) a l) (a+1):=
 ⟨d,by simp only[oW];omega,.inl ⟨rfl,fun h=>by simp only[oW]⟩⟩
theorem aox: ∀(l:bV) (a:Int) (x:fE×Bool) (p:jY),iV x.1->PI p a->PI (oU l a x p) (a+l.length)
 |[],a,x,p,_,h=>by simpa [oU] using h
 |b::l,a,x,p,d,h=>by
  rw[oU];have:=aox l (a+1) (eQ x.1 x.2 (eX b) a) _ (good_step d _ _ _).1 (aI6 d x.2 (eX b) a h)
  grind
theorem aeH: ∀(l:bV) (a:Int) (x:fE×Bool) (fr:List Int),0<=a->iV x.1-> ∀p∈pg l a x fr,PI p (a+l.length)/\a<=p.2.1
 |[],a,x,fr,_,_,p,h=>by cases h
 |b::l,a,x,fr,j,f,p,h=>by
  have g:=(good_step f x.2 (eX b) a).1;have e: ∀d,p∈pg l (a+1) (eQ x.1 x.2 (eX b) a) d->PI p (a+((b::l).length:Int))/\a<=p.2.1:=fun d i=>by
   have:=aeH l (a+1) _ d (by omega) g p i
   grind
  rw[pg]at h;split at h
  .rcases List.mem_cons.1 h with rfl|h
   .grind [aox,aI5,uJ,oW]
   .exact e _ h
  .exact e _ h
theorem abu: ∀(l:bV) (a:Int) (x:fE×Bool) (fr:List Int),0<=a->iV x.1->(pg l a x fr).Pairwise (fun p q=>p.2.1<q.2.1)
 |[],a,x,fr,_,_=>List.Pairwise.nil
 |b::l,a,x,fr,g,e=>by
  have d:=(good_step e x.2 (eX b) a).1;rw[pg];split
  .refine List.Pairwise.cons (fun p f=> ?_) (abu l (a+1) _ _ (by omega) d);have:=(aeH l (a+1) _ _ (by omega) d p f).2
   grind [uJ,oW]
  .exact abu l (a+1) _ _ (by omega) d
structure PF (s:bV) (p:jY):Prop where
 f0:0<=p.2.1
 f1:p.2.1<s.length
 t0:p.2.1<p.2.2.1
 t1:p.2.2.1<=s.length
 op:p.2.2.2.2.1=true->p.2.2.1=s.length/\p.1≠12
 sh:p.2.2.2.2.1=false->p.1≠12->p.2.1+2<=p.2.2.1
 es:p.1=13->p.2.2.1<=p.2.1+2
 dl:p.1=12->p.2.2.1=p.2.1+1+((prl (s.drop (p.2.1+1).toNat):Nat):Int)
theorem QA (s:bV): ∀p∈bP s,PF s p:=by
 intro p i;rw[xh]at i;obtain⟨q,m,rfl⟩:=List.mem_map.1 i;obtain⟨⟨f,d,j⟩,_⟩:=aeH s 0 dZ [] (by omega) kV q m;rw[Int.zero_add]at d j;have o:=ali (s.drop (q.2.1+1).toNat);rw[aU]at o;unfold qE;split
 .rename_i e
  exact⟨f,d,by simp only;omega,by simp only;omega,fun h=>(by cases h),fun _ h=>absurd e h,fun h=>(by omega),fun _=>rfl⟩
 .rename_i e
  split
  .rename_i g
   refine⟨f,d,d,Int.le_refl _,fun _=>⟨rfl,e⟩,fun h=>(by cases h),fun h=> ?_,fun h=>absurd h e⟩
   grind
  .rename_i g
   rcases j with ⟨l,_⟩|⟨l,u,v,x⟩
   .exact absurd l g
   .exact⟨f,d,by omega,v,fun h=>absurd h g,fun _ _=>u,fun h=>by have:=x h;omega,fun h=>absurd h e⟩
theorem QB (s:bV):(bP s).Pairwise (fun p q=>p.2.1<q.2.1):=by
 grind [xh,abu,kV,P6]
theorem uV (s:bV):(bP s).length<=s.length:=by
 have h: ∀(l:bV) (a:Int) (x:fE×Bool) (d:List Int),(pg l a x d).length<=l.length:=by
  intro l
  induction l with
  |nil=>intro a x d;exact ae 0
  |cons b l e=>
   grind [pg]
 simp_all [xh,dZ]
end
section
open Nat renaming le_trans → aK
open Go.RowKit
def jE (L:List jY) (v:Int):Option jY:=L.find? fun p=>p.2.1==v
theorem VW {L:List jY} {v:Int} {p:jY} (h:jE L v=some p):p∈L/\p.2.1=v:=
 ⟨List.mem_of_find?_eq_some h,by simpa using List.find?_some h⟩
theorem tX {s:List UInt8} {v:Int} {p:jY} (h:jE (bP s) v=some p):PF s p/\p.2.1=v:=
 ⟨QA s p (VW h).1,(VW h).2⟩
def lone (p:jY):Bool:=decide (p.1=12)&&decide (p.2.2.1=p.2.1+1)
def nK (s:bV) (p:jY):bV:=sub s p.2.1 p.2.2.1
def mQ (p:jY):Int:=if p.2.2.2.2.1=true then p.2.2.1 else p.2.2.1-1
def Lu (s:bV) (p:jY):bV:=if p.2.2.1=p.2.1+2/\cu s (p.2.1+1)≠10 then sub s (p.2.1+1) p.2.2.1 else []
def Lt (s:bV) (p:jY):bV:=if p.2.2.1=p.2.1+2 then(if cu s (p.2.1+1)=36\/cu s (p.2.1+1)=96\/cu s (p.2.1+1)=34\/cu s (p.2.1+1)=92 then sub s (p.2.1+1) p.2.2.1 else if cu s (p.2.1+1)=10 then []else nK s p)else []
def gz (s:bV) (L:List jY) (at_:Int):Int×List UInt8×Bool:=
 match jE L at_ with
 |none=>(at_+1,sub s at_ (at_+1),false)
 |some p=>if lone p=true then(at_+1,sub s at_ (at_+1),false)
  else if p.1=13 then(p.2.2.1,Lt s p,false)
  else(p.2.2.1,nK s p,true)
def oI (s:bV) (L:List jY) (to_:Int):Nat->Int->bV
 |0,_=>[]
 |n+1,at_=>if at_<to_ then(gz s L at_).2.1++oI s L to_ n (gz s L at_).1 else []
def stepT (s:bV) (L:List jY) (at_:Int):Int×List UInt8:=
 match jE L at_ with
 |none=>(at_+1,sub s at_ (at_+1))
 |some p=>if lone p=true\/p.1=14 then(p.2.2.1,nK s p)
  else if p.1=13 then(p.2.2.1,Lu s p)
  else if p.1=4 then(p.2.2.1,sub s (p.2.1+1) (mQ p))
  else if p.1=5 then(p.2.2.1,oI s L (mQ p) s.length (p.2.1+1))
  else(p.2.2.1,nK s p)
def jP (s:bV) (L:List jY):Nat->Int->bV
 |0,_=>[]
 |n+1,at_=>if at_<s.length then(stepT s L at_).2++jP s L n (stepT s L at_).1 else []
def Gl (s:bV):bV:=jP s (bP s) s.length 0
theorem Iy {s:List UInt8} {at_:Int}:at_<(gz s (bP s) at_).1:=by
 unfold gz;split
 .simp only;omega
 .rename_i p d
  obtain⟨h,e⟩:=tX d;have:=h.t0
  grind
theorem Ap {s:List UInt8} {at_:Int}:at_<(stepT s (bP s) at_).1:=by
 unfold stepT;split
 .simp only;omega
 .rename_i p d
  obtain⟨h,e⟩:=tX d;have:=h.t0
  grind
theorem Yn {s:List UInt8} {at_:Int} (f:at_<s.length):(stepT s (bP s) at_).1<=s.length:=by
 unfold stepT;split
 .simp only;omega
 .rename_i p d
  obtain⟨h,e⟩:=tX d;have:=h.t1
  grind
theorem IQ (s:bV) (to_:Int): ∀(n m:Nat) (at_:Int),to_-at_<=n->to_-at_<=m->oI s (bP s) to_ n at_=oI s (bP s) to_ m at_
 |0,0,_,_,_=>rfl
 |0,m+1,at_,h,_=>by rw[oI,oI,aq (by omega)]
 |n+1,0,at_,_,h=>by rw[oI,oI,aq (by omega)]
 |n+1,m+1,at_,d,e=>by
  rw[oI,oI];split
  .have:= @Iy s at_;rw[IQ s to_ n m _ (by omega) (by omega)]
  .rfl
theorem zC (s:bV): ∀(n m:Nat) (at_:Int),(s.length:Int)-at_<=n->(s.length:Int)-at_<=m->jP s (bP s) n at_=jP s (bP s) m at_
 |0,0,_,_,_=>rfl
 |0,m+1,at_,h,_=>by rw[jP,jP,aq (by omega)]
 |n+1,0,at_,_,h=>by rw[jP,jP,aq (by omega)]
 |n+1,m+1,at_,d,e=>by
  rw[jP,jP];split
  .have:= @Ap s at_;rw[zC s n m _ (by omega) (by omega)]
  .rfl
theorem Gh {d:Type} (l:List d) (a b:Int):(sub l a b).length<=l.length:=by
 grind [sub]
theorem JO (s:bV) (L:List jY) (at_:Int):(gz s L at_).2.1.length<=s.length:=by
 unfold gz;split
 .exact Gh s _ _
 .split
  .exact Gh s _ _
  .split
   .simp only;unfold Lt nK
    repeat' split
    all_goals simp_all [Gh]
   .exact Gh s _ _
theorem af2 (s:bV) (L:List jY) (to_:Int): ∀(n:Nat) (at_:Int),(oI s L to_ n at_).length<=n*s.length
 |0,_=>by simp[oI]
 |n+1,at_=>by
  rw[oI];split
  .have:=JO s L at_;have:=af2 s L to_ n (gz s L at_).1
   grind
  simp
theorem JP (s:bV) (L:List jY) (at_:Int):(stepT s L at_).2.length<=s.length*s.length+s.length:=by
 have h: ∀a b,(sub s a b).length<=s.length*s.length+s.length:=fun a b=>aK (Gh s a b) (Nat.le_add_left _ _);unfold stepT;split
 .exact h _ _
 .split
  .exact h _ _
  .split
   .simp only;unfold Lu
    grind
   .split
    .exact h _ _
    .split
     .exact aK (af2 _ _ _ _ _) (Nat.le_add_right _ _)
     .exact h _ _
theorem Zu (s:bV) (L:List jY): ∀(n:Nat) (at_:Int),(jP s L n at_).length<=n*(s.length*s.length+s.length)
 |0,_=>by simp[jP]
 |n+1,at_=>by
  rw[jP];split
  .have:=JP s L at_;have:=Zu s L n (stepT s L at_).1
   grind
  simp
end
section
open Option renaming some → a6, none → a7
open Tryz
open Go.RowKit
noncomputable def aGo:Code:=(f110.body).getD .skip
noncomputable def atJ:Code:=cA (cA (cA (cB (cB (cA (cA (cB (cA (cA (cB (cA (cB (cB (aGo))))))))))))))
noncomputable def atI:Code:=cA (cA (cB (cA (cB (cB (aGo))))))
def awG:fJ:=⟨[0,5,9,10,100007],[],[0,5,9,10],[],[6,7],[]⟩
def awF:fJ:=⟨[0,5,8,9,100003],[],[0],[],[6,7],[]⟩
def acT:SP:=⟨fk,d6⟩
def ady:SP:=⟨fk,d6⟩
def ad8:SP:=⟨us eg 66,[]⟩
def Uy {j:Type} (m l:bV->Int->Int->bV->Bool->Option j) (o:Int->Int->Option j) (e:bV) (f d:Int) (i:bV) (g:Bool):Option j:=cond g (cond (iF d f) (cond (gy e d) (cond (bY (cu e d) 9) (m e f (cO .i64 d 1) i g)<|l e f d i g) a7)<|l e f d i g)<|l e f d i g
def N9:Nat->bV->Int->Int->bV->Bool->Option (ady.den⊕ad8.den)
 |0,_,_,_,_,_=>a7
 |n+1,d,e,f,g,i=>Uy (N9 n) (fun j l m o p=>a6 (.inl ((j,l,m,()),((o,p,()),())))) (fun q s=>a6 (.inr ((q,s,()),()))) d e f g i
def aCt (n:Nat) (v:acT.den):=N9 n v.1.1 v.1.2.1 v.1.2.2.1 v.2.1.1 v.2.1.2.1
noncomputable def ank:dD:=gu awG acT ady ad8 (.exit 2) (aCt bT) 6
def acS:SP:=⟨us [b9,.u,.u,.u,.u,cC,.u,.u,bX,bX] 64,d6⟩
def Uf:SP:=⟨us [b9] 73,[]⟩
def Uj:SP:=⟨us eg 66,[]⟩
def sZ {e:Type} (i:bV) (j l:Int) (m:bV) (o:Bool) (f:Int->Int->Option e) (p:bV->Int->Int->bV->Bool->Option e):Option e:=bJ (N9 bT i j l m o) fun q=>dR q (fun d=>cond (eY (bK d.1.1) d.1.2.2.1 d.1.2.1) (cond (gp (sub d.1.1 d.1.2.2.1 d.1.2.1) d.2.1.1) (cond (iF d.1.2.1 (bK d.1.1)) (f (cO .i64 d.1.2.1 1) 1)<|f d.1.2.1 1)<|p d.1.1 (cO .i64 d.1.2.1 1) (cO .i64 d.1.2.1 1) d.2.1.1 d.2.1.2.1) a7) (fun g=>f g.1.1 g.1.2.1)
def JF {l:Type} (g:bV->Int->Int->bV->Bool->Option l) (o:bV->Option l) (m:Int->Int->Option l) (e:bV) (f d:Int) (i:bV) (j:Bool):Option l:=cond (leI d (bK e)) (cond (iF d (bK e)) (cond (gy e d) (cond (!(bY (cu e d) 10)) (g e f (cO .i64 d 1) i j)<|cond (bY d (bK e)) (cond (bY f d) (g e f (cO .i64 d 1) i j)<|sZ e d f i j m g)<|sZ e d f i j m g) a7)<|cond (bY d (bK e)) (cond (bY f d) (g e f (cO .i64 d 1) i j)<|sZ e d f i j m g)<|sZ e d f i j m g)<|o e
def yg:Nat->bV->Int->Int->bV->Bool->Option (Uf.den⊕Uj.den)
 |0,_,_,_,_,_=>a7
 |n+1,d,e,f,g,i=>JF (yg n) (fun j=>a6 (.inl ((j,()),()))) (fun l m=>a6 (.inr ((l,m,()),()))) d e f g i
def aCs (n:Nat) (v:acS.den):=yg n v.1.1 v.1.2.1 v.1.2.2.1 v.2.1.1 v.2.1.2.1
noncomputable def anj:dD:=gu awF acS Uf Uj (.exit 0) (aCs bT) 12
def aml (g:bV) (d:Int) (e:bV×vJ):Option lL:=bJ (yg bT g d d e.1 e.2.1) fun i=>dR i (fun j=>a6 ((bK j.1.1),(0,()))) (fun f=>a6 (f.1.1,(f.1.2.1,())))
def azo:Sum:=⟨[.str,dA,II],tzJ,fun x=>aml x.1 x.2.1 x.2.2.1⟩
noncomputable def abK:Env:=jm prog tt 110 [] [(7,awG),(3,awF)] [(7,ank),(3,anj)]
def aoO {d:Type} (a:acT.den->Option d) (b:ady.den->Option d) (c:ad8.den->Option d) (v:acT.den):Option d:=Uy (fun e f g i j=>a ((e,f,g,()),((i,j,()),()))) (fun l m o p q=>b ((l,m,o,()),((p,q,()),()))) (aL c) v.1.1 v.1.2.1 v.1.2.2.1 v.2.1.1 v.2.1.2.1
theorem aDd:dX abK 110 atJ ank:=yu (aoO) (h2:=by intros;simp only[aoO,aL,Uy,dm,dn,bI,di,dw])
def aoN {d:Type} (a:acS.den->Option d) (b:Uf.den->Option d) (c:Uj.den->Option d) (v:acS.den):Option d:=JF (fun e f g i j=>a ((e,f,g,()),((i,j,()),()))) (aE b) (aL c) v.1.1 v.1.2.1 v.1.2.2.1 v.2.1.1 v.2.1.2.1
theorem aDc:dX abK 110 atI anj:=yu (aoN) (h2:=by intros;simp only[aoN,aE,aL,JF,dm,dn,bI,di,dw,sZ])
theorem aHq:dO abK 110 aGo:=pI [atJ,atI] (aD (fM (aDd)) (aD (fM (aDc)) aN))
theorem aqg:fK abK:=eA f110 aN (aHq)
theorem asi:dU prog 110 azo:=sA aqg
noncomputable def aLd:Code:=(f111.body).getD .skip
noncomputable def atK:Code:=cA (cA (cA (cB (aLd))))
def acU:SP:=⟨us [b9,bX] 40,[]⟩
def Ug:SP:=⟨us [.u,bX] 40,[]⟩
def Uk:SP:=⟨us cW 37,[]⟩
def Uz {g:Type} (i:bV->Int->Option g) (f j:Int->Option g) (e:bV) (d:Int):Option g:=cond (iF d (bK e)) (cond (gy e d) (cond (bY (cu e d) 32) (i e (cO .i64 d 1))<|cond (gy e d) (cond (bY (cu e d) 9) (i e (cO .i64 d 1))<|cond (gy e d) (cond (bY (cu e d) 92) (cond (iF (cO .i64 d 1) (bK e)) (cond (gy e (cO .i64 d 1)) (cond (bY (cu e (cO .i64 d 1)) 10) (i e (cO .i64 d 2))<|f d) a7)<|f d)<|f d) a7) a7) a7)<|f d
def Jd:Nat->bV->Int->Option (Ug.den⊕Uk.den)
 |0,_,_=>a7
 |n+1,d,e=>Uz (Jd n) (fun f=>a6 (.inl ((f,()),()))) (fun g=>a6 (.inr ((g,()),()))) d e
def aCu (n:Nat) (v:acU.den):=Jd n v.1.1 v.1.2.1
noncomputable def anl:dD:=gu acu acU Ug Uk (.exit 0) (aCu bT) 6
def amm (d:bV) (e:Int):Option AQ:=bJ (Jd bT d e) fun f=>dR f (fun g=>a6 (g.1.1,())) (fun i=>a6 (i.1.1,()))
def azp:Sum:=⟨[.str,dA],U7,fun x=>amm x.1 x.2.1⟩
noncomputable def aiW:Env:=jm prog tt 111 [] [(1,acu)] [(1,anl)]
def aoP {d:Type} (a:acU.den->Option d) (b:Ug.den->Option d) (c:Uk.den->Option d) (v:acU.den):Option d:=Uz (aL a) (aE b) (aE c) v.1.1 v.1.2.1
theorem aDe:dX aiW 111 atK anl:=yu (aoP) (h2:=by intros;simp only[aoP,aL,aE,Uz,dm,dn,bI,di,dw])
theorem aHr:dO aiW 111 aLd:=pI [atK] (aD (fM (aDe)) aN)
theorem aqh:fK aiW:=eA f111 aN (aHr)
theorem asj:dU prog 111 azp:=sA aqh
noncomputable def b70:Code:=(f70.body).getD .skip
noncomputable def aEy:Code:=cA (cA (cA (cB (cB (cB (b70))))))
def aE4:fJ:=⟨[3,100004],[],[3],[],[2],[]⟩
def aol:SP:=⟨us [.u,.u,.u,b9] 29,[]⟩
def akF:SP:=⟨us [.u,.u,.u,b9] 29,[]⟩
def ak5:SP:=⟨us fu 30,[]⟩
def alu {e:Type} (g f i:bV->Option e) (d:bV):Option e:=cond (iF 0 (bK d)) (cond (gy d (eP .i64 (bK d) 1)) (cond (bY (cu d (eP .i64 (bK d) 1)) 32) (cond (eY (bK d) 0 (eP .i64 (bK d) 1)) (g (sub d 0 (eP .i64 (bK d) 1))) a7)<|f d) a7)<|f d
def aj8:Nat->bV->Option (akF.den⊕ak5.den)
 |0,_=>a7
 |n+1,d=>alu (aj8 n) (fun e=>a6 (.inl ((e,()),()))) (fun f=>a6 (.inr ((f,()),()))) d
def aIi (n:Nat) (v:aol.den):=aj8 n v.1.1
noncomputable def axO:dD:=gu aE4 aol akF ak5 (.exit 0) (aIi bT) 6
def aca (d:Int):Option taV:=cond (iF d 1) (a6 ([],()))<|cond (iF 17 d) (a6 ([],()))<|cond (eY (bK [38,38,32,124,124,32,59,59,32,60,60,32,60,60,45,62,62,32,60,38,32,62,38,32,60,62,32,62,124,32,60,32,32,62,32,32,38,32,32,59,32,32,124,32,32,40,32,32,41,32,32]) (arM .i64 3 (eP .i64 d 1)) (arM .i64 3 d)) (bJ (aj8 bT (sub [38,38,32,124,124,32,59,59,32,60,60,32,60,60,45,62,62,32,60,38,32,62,38,32,60,62,32,62,124,32,60,32,32,62,32,32,38,32,32,59,32,32,124,32,32,40,32,32,41,32,32] (arM .i64 3 (eP .i64 d 1)) (arM .i64 3 d))) fun e=>dR e (fun f=>a6 (f.1.1,())) (fun g=>a6 (g.1.1,()))) a7
def apN:Sum:=⟨[dA],tzG,fun x=>aca x.1⟩
noncomputable def avk:Env:=jm prog tt 70 [] [(4,aE4)] [(4,axO)]
def ayU {d:Type} (a:aol.den->Option d) (b:akF.den->Option d) (c:ak5.den->Option d) (v:aol.den):Option d:=alu (aE a) (aE b) (aE c) v.1.1
theorem aIT:dX avk 70 aEy axO:=yu (ayU) (h2:=by intros;simp only[ayU,aE,alu,dm,dn,bI,di,dw])
theorem aMB:dO avk 70 b70:=pI [aEy] (aD (fM (aIT)) aN)
theorem avl:fK avk:=eA f70 aN (aMB)
theorem Yt:dU prog 70 apN:=sA avl
noncomputable def aLe:Code:=(f112.body).getD .skip
noncomputable def atL:Code:=cA (cA (cB (cA (cB (cB (aLe))))))
def acV:SP:=⟨us [b9,bX,.u,.u,.u,bX,bX] 35,[]⟩
def adz:SP:=⟨us [.u,.u,.u,.u,.u,bX] 36,[]⟩
def ad9:SP:=⟨us cW 37,[]⟩
def UA {l:Type} (j:bV->Int->Int->Int->Option l) (m p:Int->Option l) (e:bV) (d g f:Int):Option l:=cond (leI f 17) (bJ (aca f) fun i=>cond (leI (bK i.1) (eP .i64 (bK e) d)) (cond (eY (bK e) d (cO .i64 d (bK i.1))) (cond (gp (sub e d (cO .i64 d (bK i.1))) i.1) (bJ (aca g) fun o=>cond (iF (bK o.1) (bK i.1)) (j e d f (cO .i64 f 1))<|j e d g (cO .i64 f 1))<|j e d g (cO .i64 f 1)) a7)<|j e d g (cO .i64 f 1))<|m g
def Je:Nat->bV->Int->Int->Int->Option (adz.den⊕ad9.den)
 |0,_,_,_,_=>a7
 |n+1,d,e,f,g=>UA (Je n) (fun i=>a6 (.inl ((i,()),()))) (fun j=>a6 (.inr ((j,()),()))) d e f g
def aCv (n:Nat) (v:acV.den):=aR (Je n) v
noncomputable def anm:dD:=gu acv acV adz ad9 (.exit 0) (aCv bT) 6
def agp (d:bV) (e:Int):Option AQ:=bJ (Je bT d e 0 1) fun f=>dR f (fun g=>a6 (g.1.1,())) (fun i=>a6 (i.1.1,()))
def azq:Sum:=⟨[.str,dA],U7,fun x=>agp x.1 x.2.1⟩
noncomputable def aiX:Env:=jm prog tt 112 [(70,apN)] [(3,acv)] [(3,anm)]
def aoQ {d:Type} (a:acV.den->Option d) (b:adz.den->Option d) (c:ad9.den->Option d) (v:acV.den):Option d:=aR (UA (aM a) (aE b) (aE c)) v
theorem aDf:dX aiX 112 atL anm:=yu (aoQ) (h2:=by intros;simp only[aoQ,aM,aE,aR,UA,dm,dn,bI,di,dw])
theorem aHs:dO aiX 112 aLe:=pI [atL] (aD (fM (aDf)) aN)
theorem aqi:fK aiX:=eA f112 (aD Yt aN) (aHs)
theorem asl:dU prog 112 azq:=sA aqi
def VZ (e:bV):Option vJ:=bJ (amu e) fun d=>cond (gp d.1.1 [84]) (a6 (true,()))<|some ((gp d.1.1 [84,76]),())
def azt:Sum:=⟨[.str],YI,fun x=>VZ x.1⟩
theorem asq:dU prog 116 azt:=qA f116 [] (sE asC aN)
end
section
open Option renaming some → a6, none → a7
open Bool renaming false_eq_true → ag, not_true → ax, not_eq_true → bz
open List renaming length_append → ai, drop_eq_getElem_cons → aF, drop_of_length_le → aI, length_map → aO, getElem_mem → aP, length_drop → aU
open Nat renaming le_refl → ae, lt_or_ge → aJ
open Go.RowKit
def nY (b:Int):Bool:=decide (b=32)||decide (b=9)
def BG (b:Int):Bool:=decide (b=124)||decide (b=38)||decide (b=59)||decide (b=60)||decide (b=62)||decide (b=40)||decide (b=41)
theorem aIC: ∀n:Fin 256,(match Ku ((n.val:Nat):Int)with|some (k,_)=>(bY k 1==nY ((n.val:Nat):Int))&&(bY k 3==BG ((n.val:Nat):Int))|none=>false)=true:=by decide+kernel
theorem aIB {b:Int} (h:isByte b): ∃k,Ku b=a6 (k,())/\bY k 1=nY b/\bY k 3=BG b:=by
 obtain⟨n,rfl⟩:=Vx h;have:=aIC n
 grind
def LW:List bV:=[[38,38],[124,124],[59,59],[60,60],[60,60,45],[62,62],[60,38],[62,38],[60,62],[62,124],[60],[62],[38],[59],[124],[40],[41]]
def ofF (u:bV):Nat:=match LW.findIdx? (· ==u)with
 |some j=>j+1
 |none=>0
theorem aAK: ∀n:Fin 18,n.val≠0->aB0 ((n.val:Nat):Int)=a6 (LW.getD (n.val-1) [],()):=by decide+kernel
theorem abT {d:Type} (p:d->Bool) (l:List d) {k:Nat} (h:k<l.length):(l.drop k).findIdx? p=if p l[k]=true then a6 0 else((l.drop (k+1)).findIdx? p).map (· +1):=by
 grind [aF]
theorem aal (u:bV): ∀(d N k:Nat),k+d=17->d<N->
  LP N u ((k+1:Nat):Int)=a6 (match(LW.drop k).findIdx? (· ==u)with
   |some j=>.inr ((((k+j+1:Nat):Int),()),())
   |none=>.inl ((),()))
 |d,0,k,_,h=>by omega
 |0,N+1,k,h,_=>by
  have hk:k=17:=by omega
  subst hk;rfl
 |d+1,N+1,k,h,i=>by
  have hk:k<LW.length:=by show k<17;omega
  have f:=aAK ⟨k+1,by omega⟩ (by simp);simp only[Nat.add_sub_cancel]at f;rw[LP,Yc,bW (oK),f,bI,abT _ _ hk];have g:LW.getD k []=LW[k]:=by simp_all
  simp only[g,gp];by_cases e:(LW[k]==u)=true
  .rw[e];simp
  .rw[bz]at e;rw[e,dB,show((k+1:Nat):Int)+1=((k+1+1:Nat):Int) by omega];simp only[ac];rw[aal u d N (k+1) (by omega) (by omega)]
   grind
theorem aIA (u:bV) (h:ofF u≠0):u∈LW:=by
 unfold ofF at h
 grind
theorem aki (u:bV):ab8 u=a6 (((ofF u:Nat):Int),()):=by
 rw[ab8];by_cases e:u=[]
 .subst e;rfl
 .rw[dG (by grind [gp])];have h:=aal u 17 bT 0 rfl (dJ)
  grind [bI,ofF,dR]
def TG (t:bV):Nat->Nat×Nat
 |0=>(0,0)
 |n+1=>if ofF (t.take (n+1))≠0 then(ofF (t.take (n+1)),n+1)else TG t n
theorem vC (s:bV) (a n:Nat):sub s (a:Int) ((a+n:Nat):Int)=(s.drop a).take n:=by
 grind [sub,List.drop_take]
theorem afL (s:bV) (d:s.length<1000000) (a:Nat): ∀(n N:Nat),n<N->a+n<=s.length->
  Oe N s (a:Int) 0 (n:Int)=a6 (.inl (((((TG (s.drop a) n).1:Nat):Int),(((TG (s.drop a) n).2:Nat):Int),()),()))
 |n,0,h,_=>by omega
 |0,N+1,_,_=>by
  rfl
 |n+1,N+1,h,f=>by
  rw[Oe,UJ,bW (fG),dB,show(a:Int)+((n+1:Nat):Int)=((a+(n+1):Nat):Int) by omega,
   bW (fQ (by omega) (by omega) (by rw[bM];omega)),vC,aki,bI,TG]
  by_cases e:ofF ((s.drop a).take (n+1))=0
  .rw[e];simp only[show(!bY ((0:Nat):Int) 0)=false from rfl,ac,ne_eq,not_true_eq_false,if_false];rw[ig,show((n+1:Nat):Int)-1=(n:Int) by omega];exact afL s d a n N (by omega) (by omega)
  simp_all [dM]
def CS (t:bV):Nat×Nat:=TG t (min 3 t.length)
theorem aDO {c:UInt8} {t:List UInt8} (h:c::t∈LW):BG (c.toNat:Int)=true:=by
 have: ∀u∈LW,(match u with|c::_=>BG (c.toNat:Int)|[]=>true)=true:=by decide
 exact this _ h
theorem TJ {c:UInt8} {t:List UInt8} (h:BG (c.toNat:Int)=false): ∀n,TG (c::t) n=(0,0)
 |0=>rfl
 |n+1=>by
  rw[TG,aq,TJ h n]
  grind [aDO,aIA]
theorem aN8 {s:List UInt8} (e:s.length<1000000) {a:Nat} (d:a<s.length):amB s a=a6 ((((CS (s.drop a)).1:Nat):Int),((((CS (s.drop a)).2:Nat):Int),())):=by
 rw[amB,dG (lD),dG (Sm (by rw[bM];omega)),bW (eF)];obtain⟨k,f,_,g⟩:=aIB (nM s a);rw[f,bI];simp only[g];have hd:=aF d;rw[byte_at d];cases hm:BG (s[a].toNat:Int)with
 |false=>
  grind [CS,TJ]
 |true=>
  simp only[ax,ac];have i:LQ 3 (eP .i64 (bK s) (a:Int))=((min 3 (s.drop a).length:Nat):Int):=by
   grind [bM,ig,LQ]
  rw[i,afL s e a _ bT (dJ) (by grind),bI];rfl
theorem TV (t:bV):(CS t).2<=t.length/\((CS t).2=0↔(CS t).1=0)/\(CS t).1<=17:=by
 have h: ∀n,(TG t n).2<=n/\((TG t n).2=0↔(TG t n).1=0)/\(TG t n).1<=17:=by
  intro n
  induction n with
  |zero=>exact⟨ae _,Iff.rfl,by simp[TG]⟩
  |succ n f=>
   rw[TG];split
   .rename_i e
    refine⟨ae _,⟨fun h=>absurd h (by simp),fun h=>absurd h e⟩, ?_⟩;unfold ofF;split
    .rename_i j d
     have:=(List.findIdx?_eq_some_iff_getElem.1 d).1
     assumption
    omega
   omega
 grind [CS]
theorem awx (c:UInt8): ∀l:bV,Lib.indexByte l c=if(l.takeWhile (· !=c)).length<l.length then(((l.takeWhile (· !=c)).length:Nat):Int)else-1
 |[]=>rfl
 |b::l=>by
  unfold Lib.indexByte;rw[awx c l];by_cases e:b=c
  .subst e;simp
  .have d:(b==c)=false:=by simpa using e
   have f:(b !=c)=true:=by simpa using e
   have g:(b::l).takeWhile (fun x=>x !=c)=b::l.takeWhile (fun x=>x !=c):=by simp_all
   grind
def jq (s:bV) (a:Nat):Nat:=a+((s.drop a).takeWhile (· !=10)).length
theorem zW (s:bV) (a:Nat):a<=jq s a:=Nat.le_add_right _ _
theorem D8 {s:List UInt8} {a:Nat} (h:a<=s.length):jq s a<=s.length:=by
 grind [Gt,jq]
theorem axk {s:List UInt8} (g:s.length<1000000) {a:Nat} (d:a<=s.length):agz s a=a6 (((jq s a:Nat):Int),(decide (jq s a<s.length),())):=by
 have i:=D8 d;have j:=zW s a;rw[agz,bW (fQ (by omega) (by rw[bM];omega) (by omega)),agC,amJ,bI,bI];have e:sub s (a:Int) (bK s)=s.drop a:=by simp[sub,bM]
 have f:ibW (sub s (a:Int) (bK s)) 10=if jq s a<s.length then((jq s a-a:Nat):Int)else-1:=by
  rw[e];unfold ibW;rw[show(10:Int).toNat.toUInt8=10 from rfl,awx,aU];unfold jq at*;omega
 rw[f];by_cases h:jq s a<s.length
 .rw[am h,bW (oK),dB,decide_eq_true h];congr 2;omega
 .rw[aq h,dG (Sm),decide_eq_false h,bM];congr 2;omega
def uB:bV->Nat
 |[]=>0
 |[c]=>if nY (c.toNat:Int)=true then 1 else 0
 |c::d::t=>if nY (c.toNat:Int)=true then uB (d::t)+1 else if c=92/\d=10 then uB t+2 else 0
theorem abt: ∀t:bV,uB t<=t.length
 |[]=>ae _
 |[c]=>by grind [uB]
 |c::d::t=>by
  have e:=abt (d::t);have f:=abt t
  grind [uB]
def pq (t:bV):Bool:=match t with
 |c::d::_=>decide (c=92)&&decide (d=10)
 |_=>false
theorem aG5 (t:bV):amF t [92,10]=a6 (pq t,()):=by
 rw[amF,awe];cases t with
 |nil=>rfl
 |cons c t=>
  cases t with
  |nil=>rfl
  |cons d t=>
   have e:leI (bK [(92:UInt8),10]) (bK (c::d::t))=true:=oK (by grind [bM]);have f:eY (bK (c::d::t)) 0 (bK [(92:UInt8),10])=true:=fQ (by omega) (by rw[bM];simp) (by grind [bM]);simp_all [sub,bM,bI,pq,gp,Bool.beq_eq_decide_eq]
theorem auA {s:List UInt8} {a:Nat} (d:a<=s.length):agx s a=a6 (pq (s.drop a),()):=by
 rw[agx,bW (fQ (by omega) (by rw[bM];omega) (by omega)),show sub s (a:Int) (bK s)=s.drop a by simp[sub,bM],aG5,bI]
theorem tN {c:UInt8} {t:List UInt8}:uB (c::t)=if nY (c.toNat:Int)=true then uB t+1 else if pq (c::t)=true then uB (t.drop 1)+2 else 0:=by
 cases t with
 |nil=>rfl
 |cons d t=>rw[uB];simp[pq]
theorem Ld {s:List UInt8} (d:s.length<1000000): ∀(N a:Nat),s.length-a<N->a<=s.length->
  ∃o,Og N s (a:Int)=a6 o/\dR o (fun f=>a6 (f.1.1,())) (fun g=>a6 (g.1.1,()))=a6 ((((a+uB (s.drop a):Nat):Int)),())
 |0,a,h,_=>by omega
 |N+1,a,h,q=>by
  rw[Og,UK];by_cases e:a<s.length
  .obtain⟨k,i,j,_⟩:=aIB (nM s a);have hd:=aF e;rw[bW (fG (by rw[bM];omega)),bW (eF),i,bI];simp only[j];rw[byte_at e,hd,tN];by_cases hb:nY (s[a].toNat:Int)=true
   .rw[hb,aa,am rfl,dB,show(a:Int)+1=((a+1:Nat):Int) by omega];obtain⟨o,l,m⟩:=Ld d N (a+1) (by omega) (by omega)
    grind
   .rw[bz]at hb;rw[hb,ac,aq (by simp),auA (by omega),bI,hd];cases hc:pq (s[a]::s.drop (a+1))with
    |true=>
     have u:a+2<=s.length:=by
      rw[<-hd]at hc;rcases aJ s.length (a+2)with hl|hl
      .have:(s.drop a).length=1:=by grind
       obtain⟨x,p⟩:=List.length_eq_one_iff.1 this;rw[p]at hc;cases hc
      .exact hl
     simp only[aa,if_true];rw[dB,show(a:Int)+2=((a+2:Nat):Int) by omega,List.drop_drop,show a+1+1=a+2 from rfl];obtain⟨o,l,m⟩:=Ld d N (a+2) (by omega) (by omega)
     grind
    |false=>
     simp only[ac,ag,if_false,Nat.add_zero];exact⟨_,rfl,rfl⟩
  .rw[dG (gU (by rw[bM];omega)),aI (by omega)];exact⟨_,rfl,rfl⟩
theorem aBg {s:List UInt8} (d:s.length<1000000) {a:Nat} (e:a<=s.length):agy s a=a6 ((((a+uB (s.drop a):Nat):Int)),()):=by
 rw[agy];obtain⟨o,f,g⟩:=Ld d bT a (dJ) e
 grind [bI]
def Ae (t:bV):Nat:=if jT t≠0/\(t.drop (jT t)).head?=a6 60\/jT t≠0/\(t.drop (jT t)).head?=a6 62 then jT t else 0
theorem Uw (t:bV):jT t<=t.length:=Gt _ _
theorem ax5 {s:List UInt8} (g:s.length<1000000) {a:Nat} (d:a<=s.length):agA s a=a6 ((((a+Ae (s.drop a):Nat):Int)),()):=by
 have e:=Uw (s.drop a);rw[aU]at e;rw[agA,Vb (s:=s) (by omega) d,bI];simp only;rw[dB,show(a:Int)+((jT (s.drop a):Nat):Int)=((a+jT (s.drop a):Nat):Int) by omega];unfold Ae;by_cases h0:jT (s.drop a)=0
 .simp_all [lD]
 .rw[bW (fG)];by_cases h1:a+jT (s.drop a)<s.length
  .have hd:((s.drop a).drop (jT (s.drop a))).head?=a6 s[a+jT (s.drop a)]:=by
    simp
   rw[bW (fG (by rw[bM];omega)),bW (eF),byte_at h1,hd];by_cases e1:s[a+jT (s.drop a)]=60
   .rw[e1,am (.inl ⟨h0,rfl⟩)];rfl
   .have f:((s[a+jT (s.drop a)].toNat:Nat):Int)≠60:=fun h=>e1 (UInt8.toNat_inj.1 (by grind));rw[dG (dM f),bW (eF)];by_cases e2:s[a+jT (s.drop a)]=62
    .rw[e2,am (.inr ⟨h0,rfl⟩)];rfl
    .have i:((s[a+jT (s.drop a)].toNat:Nat):Int)≠62:=fun h=>e2 (UInt8.toNat_inj.1 (by grind));simp_all [dM]
  .have hd:((s.drop a).drop (jT (s.drop a))).head?=a7:=by
    simp_all
   rw[dG (lD (by rw[bM];omega)),hd,aq (by simp)];simp
theorem aiS: ∀n:Fin 15,(match amH ((n.val:Nat):Int)with|some (t,_)=>(t==([]:bV))==(decide (n.val=0)||decide (n.val=12))&&decide (t.length<=2)|none=>false)=true:=by decide+kernel
theorem auy {m:Int} (d:0<=m) (e:m<=14): ∃t,amH m=a6 (t,())/\(t=[]↔m=0\/m=12)/\t.length<=2:=by
 have:=aiS ⟨m.toNat,by omega⟩
 grind
def O0 (s:fE):Bool:=s.all fun f=>decide (f.1=0)||decide (f.1=12)
theorem Nc (F:List xM) (hF:F.length<1000000) (d: ∀f∈F,0<=f.1/\f.1<=14): ∀(N k:Nat) (a b:bV) (t:List Int),k<N->k<=F.length->t.length<=2*(F.length-k)->
  ∃t',sW N ((k:Int)-1) a b F t=a6 (.inl ((),((a,()),(),(),()),((b,()),(F,()),(),t',())))/\(t'=[]↔t=[]/\ ∀f∈F.take k,f.1=0\/f.1=12)
 |0,k,a,b,t,h,_,_=>by omega
 |N+1,0,a,b,t,h,_,_=>by
  rw[sW,xA];refine⟨t,rfl, ?_⟩;simp
 |N+1,k+1,a,b,t,h,hk,p=>by
  rw[sW,xA];have e:k<F.length:=by omega
  have i:ed F (0,(0,())) (k:Int)=F[k]:=by
   simp_all [ed]
  have g:=d F[k] (aP e);obtain⟨c,j,q,s⟩:=auy g.1 g.2;have l:eu (bU t (cZ c)) 1=true:=by
   simp only[eu,bU,cZ,ai,aO,decide_eq_true_eq,mJ];omega
  rw[show((k+1:Nat):Int)-1=(k:Int) by omega,bW (oK),bW (eF),i,j,bI];simp only[l,eU,aa];rw[ig];obtain⟨t',m,o⟩:=Nc F hF d N k a b (bU t (cZ c)) (by omega) (by omega) (by grind [bU,cZ]);refine⟨t',m, ?_⟩;rw[o,List.take_add_one,List.getElem?_eq_getElem e];have:bU t (cZ c)=[]↔t=[]/\(F[k].1=0\/F[k].1=12):=by
   simp_all [bU,cZ]
  rw[this];simp only[Option.toList_some,List.mem_append,List.mem_singleton]
  grind
theorem apU (w:bV) (m:w.length<=100000): ∃t,amC w=a6 (t,())/\(!gp t [])= !O0 (gB w 0 dZ).1:=by
 have j:=D5 w 0 dZ kV;have q:dZ.1.length=1:=rfl;have s:=LH j.1;rw[amC,aEh w m,bI];obtain⟨l,o,d⟩:=Nc (lo (gB w 0 dZ).1) (by rw[oV];omega) (fun f i=>by
  unfold lo at i
  grind) bT (lo (gB w 0 dZ).1).length [] [] [] (dJ (by rw[oV];omega)) (ae _) (by simp)
 simp only;rw[bM,ig (by rw[oV];omega) (by rw[oV];omega),o,bI];refine⟨_,rfl, ?_⟩;congr 1;simp only;rw[List.take_length]at d;have p:(∀f∈lo (gB w 0 dZ).1,f.1=0\/f.1=12)↔O0 (gB w 0 dZ).1=true:=by
  unfold O0 lo;simp only[List.mem_reverse,List.mem_map,List.all_eq_true,Bool.or_eq_true,decide_eq_true_eq];exact⟨fun h f i=>h _ ⟨f,i,rfl⟩,fun h f ⟨g,j,e⟩=>by grind⟩
 rw[p]at d;unfold gp;cases hs:O0 (gB w 0 dZ).1 with
 |true=>rw[d.2 ⟨rfl,hs⟩];rfl
 |false=>
  have:l≠[]:=fun e=>by simp_all
  cases l with
  |nil=>simp_all
  |cons x y=>rfl
def zX (s:bV) (d:Bool) (a:Nat):bV:=if d=true then((s.take (jq s a)).drop a).dropWhile (· ==9)else(s.take (jq s a)).drop a
def qo (s:bV) (a:Nat):Nat:=if jq s a<s.length then jq s a+1 else jq s a
def rG (s w:bV) (d:Bool):Nat->Nat->Nat×Bool
 |0,a=>(a,false)
 |n+1,a=>if a<s.length then(if zX s d a=w then(qo s a,true)else rG s w d n (qo s a))else(a,false)
theorem ahu {s:List UInt8} {a:Nat} (h:a<s.length):a<qo s a/\qo s a<=s.length:=by
 grind [zW,D8,qo]
theorem YF: ∀(l:bV) (N:Nat),l.length<N->Oi N l 9=a6 (.inl ((l.dropWhile (· ==9),()),()))
 |l,0,h=>by omega
 |[],N+1,_=>by rfl
 |c::l,N+1,h=>by
  rw[Oi,UW,bW (fG (by simp_all [bM])),bW (eF (by omega) (by simp)),show cu (c::l) 0=(c.toNat:Int) from rfl];by_cases e:c=9
  .subst e;rw[show bY (((9:UInt8).toNat:Nat):Int) 9=true from rfl,aa,bW (fQ (by omega) (by grind [bM]) (by omega))];rw[show sub ((9:UInt8)::l) 1 (bK ((9:UInt8)::l))=l by simp[sub,bM],YF l N (by simp at h;omega)];simp
  .rw[dG (dM (fun h=>e (UInt8.toNat_inj.1 (by grind)))),List.dropWhile_cons_of_neg (by simpa using e)]
theorem aD8 (l:bV) (hl:l.length<1000000):amN l 9=a6 (l.dropWhile (· ==9),()):=by
 rw[amN,YF l bT (dJ),bI];rfl
theorem ZZ {s w:List UInt8} (f:s.length<1000000) (d:Bool): ∀(N a:Nat),s.length-a<N->a<=s.length->
  E8 N s (a:Int) w d=a6 (if(rG s w d N a).2=true then .inr (((((rG s w d N a).1:Nat):Int),true,()),())else .inl (((((rG s w d N a).1:Nat):Int),()),()))
 |0,a,h,_=>by omega
 |N+1,a,h,o=>by
  (rewrite [E8,UI];delta Ep;rw[rG])
  by_cases e:a<s.length
  .have p:=zW s a;have q:=D8 (s:=s) (a:=a) (by omega);have u:=ahu e;have v:=ZZ (w:=w) f d N (qo s a) (by omega) (by omega);have i:sub s (a:Int) ((jq s a:Nat):Int)=(s.take (jq s a)).drop a:=by simp[sub]
   have g: ∀(x:bV),x=zX s d a->
     (bif decide (jq s a<s.length)then
      bif gp x w then(a6 (.inr ((cO .i64 ((jq s a:Nat):Int) 1,true,()),())):Option (Ui.den⊕Um.den))
      else E8 N s (cO .i64 ((jq s a:Nat):Int) 1) w d
     else bif gp x w then a6 (.inr ((((jq s a:Nat):Int),true,()),()))
      else E8 N s ((jq s a:Nat):Int) w d)=
     a6 (if(if zX s d a=w then(qo s a,true)else rG s w d N (qo s a)).2=true
      then .inr (((((if zX s d a=w then(qo s a,true)else rG s w d N (qo s a)).1:Nat):Int),true,()),())
      else .inl (((((if zX s d a=w then(qo s a,true)else rG s w d N (qo s a)).1:Nat):Int),()),())):=by
    intro x j;subst j;have l:gp (zX s d a) w=decide (zX s d a=w):=by
     grind [gp]
    rw[l];by_cases hl:jq s a<s.length
    .have m:qo s a=jq s a+1:=by simp_all [qo]
     rw[decide_eq_true hl,aa,dB,show((jq s a:Nat):Int)+1=((qo s a:Nat):Int) by omega]
     grind
    .have m:qo s a=jq s a:=by simp_all [qo]
     grind
   rw[bW (fG (by rw[bM];omega)),axk f (by omega),bI,am e];simp only;rw[bW (fQ (by omega) (by omega) (by rw[bM];omega)),i];cases d with
   |false=>simp_all [zX]
   |true=>
    simp only[aa];by_cases e0:(s.take (jq s a)).drop a=[]
    .rw[e0,show gp ([]:bV) []=true from rfl,aa];exact g _ (by rw[zX,am rfl,e0];rfl)
    .rw[dG (by simp_all [gp])];refine(dG (by rfl)).trans ?_;refine(bW (by rfl)).trans ?_;refine(bW (by rfl)).trans ?_;refine(bW (by rfl)).trans ?_;refine(bW (by rfl)).trans ?_;rw[show cu [9] 0=9 from rfl];rw[aD8 _ (by grind),bI];exact g _ (by rfl)
  simp_all [gU,bM,aq]
def Gn (s w:bV) (d:Bool) (a:Nat):Nat×Bool:=rG s w d bT a
theorem aG6 {s:List UInt8} (e:s.length<1000000) (d:bV×Bool×Unit) {a:Nat} (f:a<=s.length):amA s a d=a6 ((((Gn s d.1 d.2.1 a).1:Nat):Int),((Gn s d.1 d.2.1 a).2,())):=by
 rw[amA,ZZ e d.2.1 bT a (dJ) f,bI];unfold Gn;cases h:(rG s d.1 d.2.1 bT a).2 with
 |true=>simp[dR]
 |false=>simp[dR]
end
end Go.Proofs.YtkichehglnecnaaGreatDoor
