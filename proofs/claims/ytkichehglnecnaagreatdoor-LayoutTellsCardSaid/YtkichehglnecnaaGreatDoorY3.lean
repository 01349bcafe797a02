/- Parts of the proof, joined and shortened by a program: the plain machine, the functions as it prints them, and the mathematics over them. -/
import Derived.ChangeArms
import Derived.WideShapes
import Derived.Test.YtkichehglnecnaaGreatDoorProg
import Derived.Shelf.Strings.Builder1
import Derived.Test.YtkichehglnecnaaGreatDoorY2
set_option linter.unusedVariables false
set_option linter.unusedSimpArgs false
set_option maxRecDepth 100000
set_option maxHeartbeats 4000000
namespace Go.Proofs.YtkichehglnecnaaGreatDoor
section
open Option renaming some → a6, none → a7
open Bool renaming and_eq_true → af, not_eq_true → bg
open List renaming mem_cons_of_mem → au
open Nat renaming le_refl → ae
open Go.RowKit
def TT.allK:TT->Bool
 |.nil=>true
 |.node _ i l r=>i.known&&(l.allK&&r.allK)
theorem TT.allK_at: ∀(T:TT) (t:TypeId),T.allK=true->(T.at t).ty.isSome=true->(T.at t).known=true
 |.nil,t,_,h=>by assumption
 |.node k i l r,t,h,d=>by
  simp only[TT.allK,af]at h;simp only[TT.at]at d ⊢;by_cases e:Nat.beq k t=true
  .simp_all
  .have f:Nat.beq k t=false:=(bg _).mp e;simp only[f,ac]at d ⊢;by_cases e2:Nat.blt t k=true
   .simp only[e2,aa]at d ⊢;exact TT.allK_at l t h.2.1 d
   .have g:Nat.blt t k=false:=(bg _).mp e2;simp only[g,ac]at d ⊢;exact TT.allK_at r t h.2.2 d
def wfD:(t:Ty)->t.den->Prop
 |.unit,_=>True
 |.bool,_=>True
 |.int k,x=>(Lit.int k x).wf=true
 |.str,x=>x.length<=maxLen
 |.list e,d=>d.length<=maxLen/\ ∀x∈d,wfD e x
 |.pair a b,x=>wfD a x.1/\wfD b x.2
section
variable {P:Program} {T:TT} {w:World} {H:Type} {enc:TypeId×Value->H} {spare:Nat->Bool} {held:Bool}
theorem avz {t:TypeId} {k:TK} (h:(P.underlying t).map kL=a6 (a6 k)): ∃d,P.underlying t=a6 d/\kL d=a6 k:=by
 simp_all
theorem Ii (hT:TOk P T) {t:TypeId} (hk:(T.at t).known=true):P.cellsOf t=(T.at t).size:=by
 obtain⟨h,_⟩:=hT t hk;unfold Program.cellsOf;cases hi:P.info? t with
 |none=>simp_all
 |some f=>
  simp_all
theorem avT {a:Addr} {v:Value} (h:w.cell? a=a6 v):a.block<w.heap.size/\a.spot=a7:=by
 unfold World.cell? at h;split at h
 .rename_i d
  refine⟨(Array.getElem?_eq_some_iff.1 d).1, ?_⟩;simp_all
 .cases h
theorem addr_add_add (a:Addr) (x m:Nat):(a.add x).add m=a.add (x+m):=by
 grind [Addr.add]
theorem ad5 {e:Ty} {size:Nat} (p:e.size=size) {a:Addr} {len:Nat} {F:List Value->Option (DataW H×List MemPlace)} (hF: ∀cs y,F cs=a6 y-> ∃x:e.den,fB w (fun b=>b<w.heap.size) e x cs/\wfD e x)
  (h: ∀i,i<len-> ∃y,(w.cells? 0 (a.add (i*size)) size).bind F=a6 y): ∀(k j:Nat),j+k<=len->
  ∃(xs:List e.den) (d:List Value),xs.length=k/\gp (fB w (fun b=>b<w.heap.size) e) e.size xs d/\(∀m (f:m<d.length),w.cell? (a.add (j*size+m))=a6 d[m])/\ ∀x∈xs,wfD e x
 |0,j,_=>⟨[],[],rfl,rfl,fun m f=>absurd f (by simp),fun x g=>by cases g⟩
 |k+1,j,v=>by
  obtain⟨xs,d,q,s,A,B⟩:=ad5 p hF h k (j+1) (by omega);obtain⟨y,l⟩:=h j (by omega);obtain⟨c,o,l⟩:=Option.bind_eq_some_iff.1 l;obtain⟨x,g,D⟩:=hF c y l;have u:c.length=e.size:=fB.length e x c g;have E: ∀m (f:m<c.length),w.cell? (a.add (j*size+m))=a6 c[m]:=fun m f=>by
   simp only[World.cells?,Nat.zero_le,if_true]at o;have:=mapM_some_get o m m (by simp_all);simp_all [addr_add_add]
  refine⟨x::xs,c++d,by simp[q],⟨c,d,rfl,u,g,s⟩,fun m f=> ?_,fun z G=> ?_⟩
  all_goals grind
theorem RD (hT:TOk P T) {n:Nat} {cs:List Value} (e: ∀(t:TypeId) (cs:List Value) (y:DataW H×List MemPlace) (ty:Ty),(T.at t).known=true->(T.at t).ty=a6 ty->DataW.trod enc P w 0 spare held n t cs=a6 y-> ∃x:ty.den,fB w (fun b=>b<w.heap.size) ty x cs/\wfD ty x):
  ∀(f:List (Nat×TypeId)) (off:Nat) (ty:Ty),jF T off f=a6 ty->(∀p∈f,∃y,DataW.trod enc P w 0 spare held n p.2 ((cs.drop p.1).take (P.cellsOf p.2))=a6 y)->
   ∃x:ty.den,fB w (fun b=>b<w.heap.size) ty x ((cs.drop off).take ty.size)/\wfD ty x
 |[],off,ty,h,_=>by
  simp only[jF,Option.some.injEq]at h;subst h;exact⟨(),by simp[fB,Ty.size],trivial⟩
 |(o,g)::l,off,ty,h,i=>by
  simp only[jF]at h;split at h
  .rename_i m
   split at h
   .rename_i a q
    split at h
    .rename_i d
     split at h
     .rename_i b s
      simp only[Option.some.injEq]at h;subst h m;obtain⟨y,j⟩:=i (o,g) (by simp);simp only[Ii hT d.2,<-d.1]at j;obtain⟨u,v,z⟩:=e g _ y a d.2 q j;obtain⟨A,B,D⟩:=RD hT e l _ b s fun p E=>i p (au _ E);refine⟨(u,A),⟨_,_, ?_,v,B⟩,z,D⟩;simp_all [Ty.size,List.take_add]
     .cases h
    .cases h
   .cases h
  .cases h
theorem UQ (hT:TOk P T) (q:T.allK=true): ∀(m:Nat) (t:TypeId) (cs:List Value) (y:DataW H×List MemPlace) (ty:Ty),(T.at t).known=true->(T.at t).ty=a6 ty->DataW.trod enc P w 0 spare held m t cs=a6 y->
  ∃x:ty.den,fB w (fun b=>b<w.heap.size) ty x cs/\wfD ty x
 |0,t,cs,y,ty,_,_,h=>by simp[DataW.trod]at h
 |m+1,t,cs,y,ty,hk,L,h=>by
  obtain⟨ag,M,ah,N,-,-,-,-⟩:=hT t hk;obtain⟨d,hd,l⟩:=avz M;have g:lH T (T.at t).k=a6 ty:=by
   simp_all
  have hc:=Ii hT hk;have ai:=N ty L;cases d with
  |bool=>
   simp only[kL,Option.some.injEq]at l;rw[<-l]at g;simp only[lH,Option.some.injEq]at g;subst g;obtain⟨b,rfl,_⟩:=DataW.trod_bool hd h;exact⟨b,rfl,trivial⟩
  |int k=>
   simp only[kL,Option.some.injEq]at l;rw[<-l]at g;simp only[lH,Option.some.injEq]at g;subst g;obtain⟨b,rfl,_,A⟩:=DataW.trod_int hd h;exact⟨b,rfl,A⟩
  |string=>
   simp only[kL,Option.some.injEq]at l;rw[<-l]at g;simp only[lH,Option.some.injEq]at g;subst g;obtain⟨s,rfl,_,A⟩:=DataW.trod_string hd h;exact⟨s.data.toList,by simp[fB],(show s.data.toList.length<=maxLen from by assumption)⟩
  |slice e=>
   simp only[kL,Option.some.injEq]at l;rw[<-l]at g;simp only[lH,Option.map_eq_some_iff]at g;obtain⟨o,u,rfl⟩:=g;have v:=TT.allK_at T e q (by rw[u];rfl);have O:o.size=(T.at e).size:=(hT e v).2.2.2.1 o u;have S:=Ii hT v;rcases DataW.trod_slice hd h with ⟨rfl,_⟩|⟨a,B,U,aj,ak,n,V,rfl,_,_,hl,hm,W,al,_,_⟩
   .exact⟨[],⟨a7,0,[],rfl,ae _,rfl,.inl rfl⟩,Nat.zero_le _,fun x X=>by cases X⟩
   .obtain rfl:n=m:=by omega
    have Y: ∀i,i<B-> ∃y,(w.cells? 0 (a.add (i*P.cellsOf e)) (P.cellsOf e)).bind (DataW.trod enc P w 0 spare held n e)=a6 y:=fun i Z=>by
     simp_all
    obtain⟨D,E,z,G,h3,h4⟩:=ad5 (w:=w) (e:=o) (O.trans S.symm) (fun cs y hy=>UQ hT q n e cs y o v u hy) Y B 0 (by omega);refine⟨D,⟨a6 a,U,E,by rw[z],by omega,G, ?_⟩,by rw[z];omega,h4⟩;by_cases hz:E=[]
    .exact .inl hz
    .have I:=h3 0 (List.length_pos_iff.2 hz);rw[show a.add (0*P.cellsOf e+0)=a by simp[Addr.add]]at I;obtain⟨J,K⟩:=avT I;obtain⟨ab,ao,an⟩:=a;simp only at J K;subst K;refine .inr ⟨ab,ao,rfl,J,fun j hj=> ?_⟩;simp_all [jX]
  |struct fs=>
   simp only[kL,Option.some.injEq]at l;rw[<-l]at g;simp only[lH]at g;obtain⟨D,n,V,_,W,av,hf⟩:=DataW.trod_struct hd h;obtain rfl:n=m:=by omega
   obtain⟨x,z,G⟩:=RD (P:=P) (T:=T) (w:=w) (enc:=enc) (spare:=spare) (held:=held) (cs:=cs) hT (fun t cs y ty a b c=>UQ hT q n t cs y ty a b c) _ 0 ty g (fun p hp=>by
    obtain⟨f,ad,rfl⟩:=List.mem_map.1 hp;obtain⟨i,Z⟩:=List.getElem?_of_mem ad
    grind)
   grind
  |func a b c=>
   grind [kL,lH]
  |array a b=>simp[kL]at l
  |_=>
   grind [kL,lH]
theorem age (hT:TOk P T) (y:T.allK=true) {t:TypeId} {v:Value} {d:DataW H} {B:List MemPlace} {r:Reach} {b0:Nat} {ty:Ty} (m:(T.at t).ty=a6 ty) (q:Value.okWide P w r b0 t v) (h:DataW.Trod enc P w 0 spare held t v d B):
  ∃x:ty.den,VD (jM w fun _=>False) ty x v/\wfD ty x:=by
 have hk:=TT.allK_at T t y (by rw[m];rfl);obtain⟨D,E⟩:=h;obtain⟨x,s,G⟩:=UQ hT y D t _ _ ty hk m E;have u:fB w (jM w fun _=>False).free ty x v.cells.toList:=fB.mono (fun b I=>⟨⟨I,(by rintro ⟨i,o,h,_⟩;simp[jM,dM]at h),by simp[jM],fun h=>h⟩,rfl⟩) ty x _ s;refine⟨x, ?_,G⟩;obtain⟨M,J,K,-⟩:=hT t hk;obtain⟨z,hd,j⟩:=avz J;have g:lH T (T.at t).k=a6 ty:=by
  rcases K with s|s
  .rw[s]at m;cases m
  .rw[<-s,m]
 cases ha:ty.isAgg with
 |true=>
  cases z with
  |struct A=>
   obtain⟨cs,rfl,_⟩:=Go.WideShapes.okWide_struct hd q;exact(VD.agg ha).2 ⟨cs,rfl,u⟩
  |array a b=>simp[kL]at j
  |slice e=>
   simp only[kL,Option.some.injEq]at j;rw[<-j]at g;simp only[lH,Option.map_eq_some_iff]at g;obtain⟨N,_,rfl⟩:=g;cases ha
  |_=>
   simp only[kL,Option.some.injEq]at j;rw[<-j]at g;simp[lH]at g
   all_goals (subst g;cases ha)
 |false=>
  rw[VD.leaf ha];have L:v.cells= #[v]:=by
   cases z with
   |struct A=>
    simp only[kL,Option.some.injEq]at j;rw[<-j]at g;simp only[lH]at g;exfalso;cases hfs:(A.toList.map fun f=>(f.offset,f.type))with
    |nil=>rw[hfs]at g;simp only[jF,Option.some.injEq]at g;subst g;cases ha
    |cons p l=>
     rw[hfs]at g;simp only[jF]at g;split at g
     .split at g
      .split at g
       .split at g
        .simp only[Option.some.injEq]at g;subst g;cases ha
        .cases g
       .cases g
      .cases g
     .cases g
   |array a b=>simp[kL]at j
   |bool=>obtain⟨b,rfl⟩:=Go.WideShapes.okWide_bool hd q;rfl
   |int k=>obtain⟨b,rfl⟩:=Go.WideShapes.okWide_int hd q;rfl
   |string=>obtain⟨b,rfl⟩:=Go.WideShapes.okWide_string hd q;rfl
   |slice e=>obtain⟨a,b,c,rfl⟩:=Go.WideShapes.okWide_slice hd q;rfl
   |_=>
    simp only[kL,Option.some.injEq]at j;rw[<-j]at g;simp[lH]at g
  rw[L]at u;exact u
end
abbrev di:Ty:=.int .i64
abbrev fJ:Type:=Int×(List UInt8)×(Int×Int×Unit)
abbrev fE:Type:=Int×Int×Int×Int×Unit
abbrev U1:Ty:=.pair di (.pair di .unit)
abbrev bW:Type:=List UInt8
abbrev iZ:Type:=Int×Int×Int×Int×Bool×Unit
abbrev NJ:Ty:=.pair di (.pair .str U1)
abbrev oZ:Ty:=.pair di (.pair di U1)
abbrev tZ:Type:=((List fJ)×Int×(List fE)×Int×Int×Unit)×(Unit)
abbrev tyE:Ty:=.pair di (.pair di (.pair di (.pair .bool .unit)))
abbrev taF:Type:=(List fJ)×bW×(List fE)×Int×Int×Int×Unit
abbrev uO:Type:=Bool×Unit
abbrev oz:Type:=Int×Int×Unit
abbrev tyF:Ty:=.pair .bool .unit
abbrev LC:Type:=Int×Int×Int×Bool×Unit
abbrev jo:Type:=List (Int)
abbrev GH:Type:=Bool×Bool×bW×(Unit)
abbrev lW:Type:=Int×Unit
abbrev Vx:Ty:=.pair .bool (.pair .bool (.pair .str .unit))
abbrev taM:Type:=((List fJ)×Int×(List fE)×Int×Int×Unit)×uO
abbrev taN:Type:=(List oz)×Bool×Int×Unit
abbrev nR:Ty:=.list NJ
abbrev GV:Type:=List (bW×uO)
abbrev Jb:Ty:=.pair di tyE
abbrev EU:Ty:=.pair .str tyF
abbrev H7:Type:=bW×(jo×uO)
abbrev vC:Type:=bW×Unit
abbrev tyK:Ty:=.pair (.list di) tyF
abbrev Dv:Type:=taF×(Unit)
abbrev uP:Type:=Int×Int
abbrev taT:Type:=(Int×(bW×(Int×lW)))×Unit
abbrev taU:Type:=(List (Int×(bW×(Int×lW))))×(List (Int×(Int×(Int×lW))))×Int×Unit
abbrev taV:Type:=LC×(Int×GV×uO)×Unit
abbrev OX:Ty:=.list oZ
abbrev tyM:Ty:=.pair (.list EU) tyF
abbrev Vy:Ty:=.list Jb
abbrev taW:Type:=H7×Unit
abbrev xX:List (Ty×Bool):=[(.list NJ,false),(.int .i64,false),(.list oZ,true),(.int .i64,false),(.int .i64,false)]
abbrev I4:List (Ty×Bool):=[(.list NJ,false),(.str,false),(.list oZ,true),(.int .i64,false),(.int .i64,false),(.int .i64,false)]
abbrev tzC:List (Ty×Bool):=[(.list U1,true),(.bool,false),(.int .i64,false)]
abbrev GX:List (Ty×Bool):=[(.str,false)]
abbrev Vz:List (Ty×Bool):=[(.int .i64,false)]
abbrev O7:List (Ty×Bool):=[(.bool,false)]
abbrev tzG:List (Ty×Bool):=[(.pair .str tyK,false)]
abbrev tzH:List (Ty×Bool):=[(.pair di (.pair di (.pair di tyF)),false),(.pair di tyM,false)]
abbrev tzI:List (Ty×Bool):=[((.int .u8),false)]
abbrev tzJ:List (Ty×Bool):=[(di,false)]
abbrev tzK:List (Ty×Bool):=[(nR,false),(OX,false),(di,false)]
abbrev tzL:List (Ty×Bool):=[(.int .i64,false),(.int .i64,false)]
end
section
open Option renaming some → a6, none → a7
open Bool renaming and_eq_true → af, not_true → ay
open List renaming append_assoc → ag
open Nat renaming eq_of_beq_eq_true → aj
open Tryz
open Go.RowKit
def iP:TI:=⟨true,.fn,1,8,a7,[.nilfn],false,false,true⟩
def ti2:TI:=⟨true,(.int .i64),1,8,a6 (.int .i64),[.val (.int .i64) 0],false,false,true⟩
def ti4:TI:=⟨true,.bool,1,1,a6 .bool,[.val .bool false],false,false,true⟩
def ti5:TI:=⟨true,(.int .u8),1,1,a6 (.int .u8),[.val (.int .u8) 0],false,false,true⟩
def ti7:TI:=⟨true,(.struct [(0,2),(1,3),(2,4),(3,6)]),4,24,a7,[.val (.int .i64) 0,.val (.int .i64) 0,.val .bool false,.val (.int .u8) 0],false,false,true⟩
def ti9:TI:=⟨true,.str,1,16,a6 .str,[.val .str []],false,false,true⟩
def aFc:TI:=⟨true,(.int .u64),1,8,a6 (.int .u64),[.val (.int .u64) 0],false,false,true⟩
def aH3:TI:=⟨true,(.struct [(0,9),(1,12)]),2,24,a6 (.pair .str (.pair (.int .u64) .unit)),[.val .str [],.val (.int .u64) 0],false,false,true⟩
def aJe:TI:=⟨true,(.ptr 255),1,8,a7,[.nilp],false,false,true⟩
def aJf:TI:=⟨true,(.ptr 258),1,8,a7,[.nilp],false,false,true⟩
def aJg:TI:=⟨true,(.ptr 265),1,8,a7,[.nilp],false,false,true⟩
def aIf:TI:=⟨true,(.struct [(0,17)]),1,8,a7,[.nilp],false,false,true⟩
def aFd:TI:=⟨true,(.int .i32),1,4,a6 (.int .i32),[.val (.int .i32) 0],false,false,true⟩
def aJi:TI:=⟨true,(.slice 9),1,24,a6 (.list .str),[.nils],false,false,true⟩
def aJj:TI:=⟨true,(.struct [(0,3),(1,3),(2,3),(3,3),(4,9),(5,4),(6,9),(7,3),(8,3)]),9,88,a6 (.pair (.int .i64) (.pair (.int .i64) (.pair (.int .i64) (.pair (.int .i64) (.pair .str (.pair .bool (.pair .str (.pair (.int .i64) (.pair (.int .i64) .unit))))))))),[.val (.int .i64) 0,.val (.int .i64) 0,.val (.int .i64) 0,.val (.int .i64) 0,.val .str [],.val .bool false,.val .str [],.val (.int .i64) 0,.val (.int .i64) 0],false,false,true⟩
def aJk:TI:=⟨true,(.struct [(0,3),(1,3),(2,3),(3,3),(4,9),(5,4),(6,9),(7,3),(8,3)]),9,88,a6 (.pair (.int .i64) (.pair (.int .i64) (.pair (.int .i64) (.pair (.int .i64) (.pair .str (.pair .bool (.pair .str (.pair (.int .i64) (.pair (.int .i64) .unit))))))))),[.val (.int .i64) 0,.val (.int .i64) 0,.val (.int .i64) 0,.val (.int .i64) 0,.val .str [],.val .bool false,.val .str [],.val (.int .i64) 0,.val (.int .i64) 0],true,false,true⟩
def aJl:TI:=⟨true,(.slice 43),1,24,a6 (.list (.pair (.int .i64) (.pair .str (.pair (.int .i64) (.pair (.int .i64) .unit))))),[.nils],false,false,true⟩
def aJm:TI:=⟨true,(.slice 41),1,24,a6 (.list (.pair (.int .i64) (.pair (.int .i64) (.pair (.int .i64) (.pair (.int .i64) .unit))))),[.nils],false,false,true⟩
def aJn:TI:=⟨true,(.struct [(0,3),(1,3),(2,3),(3,3)]),4,32,a6 (.pair (.int .i64) (.pair (.int .i64) (.pair (.int .i64) (.pair (.int .i64) .unit)))),[.val (.int .i64) 0,.val (.int .i64) 0,.val (.int .i64) 0,.val (.int .i64) 0],false,false,true⟩
def aJo:TI:=⟨true,(.struct [(0,3),(1,3),(2,3),(3,3)]),4,32,a6 (.pair (.int .i64) (.pair (.int .i64) (.pair (.int .i64) (.pair (.int .i64) .unit)))),[.val (.int .i64) 0,.val (.int .i64) 0,.val (.int .i64) 0,.val (.int .i64) 0],true,false,true⟩
def aJp:TI:=⟨true,(.struct [(0,3),(1,9),(2,3),(3,3)]),4,40,a6 (.pair (.int .i64) (.pair .str (.pair (.int .i64) (.pair (.int .i64) .unit)))),[.val (.int .i64) 0,.val .str [],.val (.int .i64) 0,.val (.int .i64) 0],false,false,true⟩
def aJq:TI:=⟨true,(.struct [(0,3),(1,9),(2,3),(3,3)]),4,40,a6 (.pair (.int .i64) (.pair .str (.pair (.int .i64) (.pair (.int .i64) .unit)))),[.val (.int .i64) 0,.val .str [],.val (.int .i64) 0,.val (.int .i64) 0],true,false,true⟩
def aJr:TI:=⟨true,(.slice 3),1,24,a6 (.list (.int .i64)),[.nils],false,false,true⟩
def aJs:TI:=⟨true,(.ptr 51),1,8,a7,[.nilp],false,false,true⟩
def aJt:TI:=⟨true,(.slice 5),1,24,a6 (.list (.int .u8)),[.nils],false,false,true⟩
def aJu:TI:=⟨true,(.struct [(0,48),(1,49)]),2,32,a7,[.nilp,.nils],false,false,true⟩
def aJv:TI:=⟨true,(.struct [(0,48),(1,49)]),2,32,a7,[.nilp,.nils],false,true,true⟩
def aJw:TI:=⟨true,(.ptr 65),1,8,a7,[.nilp],false,false,true⟩
def aIk:TI:=⟨true,(.struct [(0,36),(1,37),(2,51),(4,3)]),5,88,a7,[.nils,.nils,.nilp,.nils,.val (.int .i64) 0],false,false,true⟩
def aJx:TI:=⟨true,(.slice 78),1,24,a6 (.list (.pair (.int .i64) (.pair (.int .i64) (.pair (.int .i64) (.pair .bool .unit))))),[.nils],false,false,true⟩
def aJy:TI:=⟨true,(.slice 157),1,24,a6 (.list (.pair .str (.pair .bool .unit))),[.nils],false,false,true⟩
def aJz:TI:=⟨true,(.struct [(0,3),(1,71),(2,4)]),3,40,a6 (.pair (.int .i64) (.pair (.list (.pair .str (.pair .bool .unit))) (.pair .bool .unit))),[.val (.int .i64) 0,.nils,.val .bool false],false,false,true⟩
def aJA:TI:=⟨true,(.struct [(0,3),(1,71),(2,4)]),3,40,a6 (.pair (.int .i64) (.pair (.list (.pair .str (.pair .bool .unit))) (.pair .bool .unit))),[.val (.int .i64) 0,.nils,.val .bool false],false,false,false⟩
def aJB:TI:=⟨true,(.struct [(0,3),(1,3),(2,3),(3,4)]),4,32,a6 (.pair (.int .i64) (.pair (.int .i64) (.pair (.int .i64) (.pair .bool .unit)))),[.val (.int .i64) 0,.val (.int .i64) 0,.val (.int .i64) 0,.val .bool false],false,false,true⟩
def aJC:TI:=⟨true,(.struct [(0,3),(1,3),(2,3),(3,4)]),4,32,a6 (.pair (.int .i64) (.pair (.int .i64) (.pair (.int .i64) (.pair .bool .unit)))),[.val (.int .i64) 0,.val (.int .i64) 0,.val (.int .i64) 0,.val .bool false],true,false,true⟩
def aJD:TI:=⟨true,(.ptr 82),1,8,a7,[.nilp],false,false,true⟩
def aIl:TI:=⟨true,(.struct [(0,36),(1,9),(2,37),(3,3),(4,3),(5,3)]),6,88,a6 (.pair (.list (.pair (.int .i64) (.pair .str (.pair (.int .i64) (.pair (.int .i64) .unit))))) (.pair .str (.pair (.list (.pair (.int .i64) (.pair (.int .i64) (.pair (.int .i64) (.pair (.int .i64) .unit))))) (.pair (.int .i64) (.pair (.int .i64) (.pair (.int .i64) .unit)))))),[.nils,.val .str [],.nils,.val (.int .i64) 0,.val (.int .i64) 0,.val (.int .i64) 0],false,false,true⟩
def aJE:TI:=⟨true,(.ptr 5),1,8,a7,[.nilp],false,false,true⟩
def aJF:TI:=⟨true,(.ptr 90),1,8,a7,[.nilp],false,false,true⟩
def aIm:TI:=⟨true,(.struct [(0,9),(1,3),(2,3),(3,70),(4,78),(8,4)]),9,96,a6 (.pair .str (.pair (.int .i64) (.pair (.int .i64) (.pair (.list (.pair (.int .i64) (.pair (.int .i64) (.pair (.int .i64) (.pair .bool .unit))))) (.pair (.pair (.int .i64) (.pair (.int .i64) (.pair (.int .i64) (.pair .bool .unit)))) (.pair .bool .unit)))))),[.val .str [],.val (.int .i64) 0,.val (.int .i64) 0,.nils,.val (.int .i64) 0,.val (.int .i64) 0,.val (.int .i64) 0,.val .bool false,.val .bool false],false,false,true⟩
def aJH:TI:=⟨true,(.slice 97),1,24,a6 (.list (.pair (.int .i64) (.pair (.int .i64) .unit))),[.nils],false,false,true⟩
def aJI:TI:=⟨true,(.struct [(0,3),(1,3)]),2,16,a6 (.pair (.int .i64) (.pair (.int .i64) .unit)),[.val (.int .i64) 0,.val (.int .i64) 0],false,false,true⟩
def aJJ:TI:=⟨true,(.struct [(0,3),(1,3)]),2,16,a6 (.pair (.int .i64) (.pair (.int .i64) .unit)),[.val (.int .i64) 0,.val (.int .i64) 0],true,false,true⟩
def aH1:TI:=⟨true,(.ptr 117),1,8,a7,[.nilp],false,false,true⟩
def aAB:TI:=⟨true,(.struct [(0,36),(1,3),(2,37),(3,3),(4,3)]),5,72,a6 (.pair (.list (.pair (.int .i64) (.pair .str (.pair (.int .i64) (.pair (.int .i64) .unit))))) (.pair (.int .i64) (.pair (.list (.pair (.int .i64) (.pair (.int .i64) (.pair (.int .i64) (.pair (.int .i64) .unit))))) (.pair (.int .i64) (.pair (.int .i64) .unit))))),[.nils,.val (.int .i64) 0,.nils,.val (.int .i64) 0,.val (.int .i64) 0],false,false,true⟩
def aH2:TI:=⟨true,(.ptr 168),1,8,a7,[.nilp],false,false,true⟩
def aH4:TI:=⟨true,(.slice 138),1,24,a6 (.list (.pair (.int .i64) (.pair (.int .i64) (.pair (.int .i64) (.pair (.int .i64) (.pair .bool .unit)))))),[.nils],false,false,true⟩
def aH5:TI:=⟨true,(.struct [(0,3),(1,3),(2,3),(3,3),(4,4)]),5,40,a6 (.pair (.int .i64) (.pair (.int .i64) (.pair (.int .i64) (.pair (.int .i64) (.pair .bool .unit))))),[.val (.int .i64) 0,.val (.int .i64) 0,.val (.int .i64) 0,.val (.int .i64) 0,.val .bool false],false,false,true⟩
def aH6:TI:=⟨true,(.struct [(0,3),(1,3),(2,3),(3,3),(4,4)]),5,40,a6 (.pair (.int .i64) (.pair (.int .i64) (.pair (.int .i64) (.pair (.int .i64) (.pair .bool .unit))))),[.val (.int .i64) 0,.val (.int .i64) 0,.val (.int .i64) 0,.val (.int .i64) 0,.val .bool false],true,false,true⟩
def aH7:TI:=⟨true,(.ptr 179),1,8,a7,[.nilp],false,false,true⟩
def aH8:TI:=⟨true,(.struct [(0,4),(1,4),(2,9)]),3,24,a6 (.pair .bool (.pair .bool (.pair .str .unit))),[.val .bool false,.val .bool false,.val .str []],false,false,true⟩
def aH9:TI:=⟨true,(.struct [(0,4),(1,4),(2,9)]),3,24,a6 (.pair .bool (.pair .bool (.pair .str .unit))),[.val .bool false,.val .bool false,.val .str []],true,false,true⟩
def aIa:TI:=⟨true,(.struct [(0,9),(1,4)]),2,24,a6 (.pair .str (.pair .bool .unit)),[.val .str [],.val .bool false],false,false,true⟩
def aIb:TI:=⟨true,(.struct [(0,9),(1,4)]),2,24,a6 (.pair .str (.pair .bool .unit)),[.val .str [],.val .bool false],true,false,true⟩
def aAC:TI:=⟨true,(.struct [(0,92),(1,4),(2,3)]),3,40,a6 (.pair (.list (.pair (.int .i64) (.pair (.int .i64) .unit))) (.pair .bool (.pair (.int .i64) .unit))),[.nils,.val .bool false,.val (.int .i64) 0],false,false,true⟩
def aIc:TI:=⟨true,(.ptr 174),1,8,a7,[.nilp],false,false,true⟩
def aAD:TI:=⟨true,(.struct [(0,135),(1,47)]),2,48,a6 (.pair (.list (.pair (.int .i64) (.pair (.int .i64) (.pair (.int .i64) (.pair (.int .i64) (.pair .bool .unit)))))) (.pair (.list (.int .i64)) .unit)),[.nils,.nils],false,false,true⟩
def aId:TI:=⟨true,(.ptr 138),1,8,a7,[.nilp],false,false,true⟩
def aIe:TI:=⟨true,(.map 3 3),1,8,a7,[.undef],false,false,true⟩
def aAE:TI:=⟨true,(.struct [(0,9),(1,135),(2,177)]),3,48,a7,[.val .str [],.nils,.undef],false,false,true⟩
def aAF:TI:=⟨true,(.struct [(0,9),(1,47),(2,4)]),3,48,a6 (.pair .str (.pair (.list (.int .i64)) (.pair .bool .unit))),[.val .str [],.nils,.val .bool false],false,false,true⟩
def aIg:TI:=⟨true,(.slice 145),1,24,a6 (.list (.pair .bool (.pair .bool (.pair .str .unit)))),[.nils],false,false,true⟩
def aIh:TI:=⟨true,(.int .u32),1,4,a6 (.int .u32),[.val (.int .u32) 0],false,false,true⟩
def aIi:TI:=⟨true,(.slice 193),1,24,a6 (.list (.pair .str (.pair (.list (.int .i64)) (.pair .bool .unit)))),[.nils],false,false,true⟩
def aAG:TI:=⟨true,(.struct [(0,5),(1,5)]),2,2,a6 (.pair (.int .u8) (.pair (.int .u8) .unit)),[.val (.int .u8) 0,.val (.int .u8) 0],false,false,true⟩
def aIj:TI:=⟨true,(.ptr 244),1,8,a7,[.nilp],false,false,true⟩
def aAH:TI:=⟨true,(.struct [(0,17),(1,17),(2,17),(3,9)]),4,40,a7,[.nilp,.nilp,.nilp,.val .str []],false,false,true⟩
def aAI:TI:=⟨true,(.struct [(0,12),(1,12),(2,201),(3,259),(4,5),(5,5),(6,260),(7,261),(8,85),(9,262),(10,263)]),11,48,a7,[.val (.int .u64) 0,.val (.int .u64) 0,.val (.int .u32) 0,.val (.int .u8) 0,.val (.int .u8) 0,.val (.int .u8) 0,.val (.int .u8) 0,.nilfn,.nilp,.val (.int .i32) 0,.val (.int .i32) 0],false,false,true⟩
def tt:TT:=(.node 129 iP (.node 66 iP (.node 32 iP (.node 16 aJf (.node 9 ti9 (.node 4 ti4 (.node 2 ti2 (.node 1 iP .nil .nil) (.node 3 ti2 .nil .nil)) (.node 7 ti7 (.node 5 ti5 .nil .nil) (.node 8 ti7 .nil .nil))) (.node 13 aH3 (.node 11 ti9 (.node 10 ti9 .nil .nil) (.node 12 aFc .nil .nil)) (.node 15 aJe (.node 14 aH3 .nil .nil) .nil))) (.node 24 iP (.node 21 aFd (.node 18 aIf (.node 17 aJg .nil .nil) (.node 19 aIf .nil .nil)) (.node 23 aJi (.node 22 iP .nil .nil) .nil)) (.node 28 aJj (.node 26 iP (.node 25 iP .nil .nil) (.node 27 iP .nil .nil)) (.node 30 ti2 (.node 29 aJk .nil .nil) .nil)))) (.node 48 aJs (.node 41 aJo (.node 37 aJm (.node 35 iP (.node 33 iP .nil .nil) (.node 36 aJl .nil .nil)) (.node 40 aJn (.node 39 iP .nil .nil) .nil)) (.node 45 iP (.node 43 aJq (.node 42 aJp .nil .nil) (.node 44 iP .nil .nil)) (.node 47 aJr (.node 46 iP .nil .nil) .nil))) (.node 58 iP (.node 54 iP (.node 50 aJu (.node 49 aJt .nil .nil) (.node 51 aJv .nil .nil)) (.node 57 iP (.node 56 iP .nil .nil) .nil)) (.node 63 aJw (.node 60 iP (.node 59 iP .nil .nil) (.node 62 iP .nil .nil)) (.node 65 aIk (.node 64 aIk .nil .nil) .nil))))) (.node 97 aJJ (.node 82 aIl (.node 75 iP (.node 70 aJx (.node 68 iP (.node 67 iP .nil .nil) (.node 69 iP .nil .nil)) (.node 72 aJz (.node 71 aJy .nil .nil) (.node 73 aJA .nil .nil))) (.node 79 iP (.node 77 aJB (.node 76 iP .nil .nil) (.node 78 aJC .nil .nil)) (.node 81 aIl (.node 80 aJD .nil .nil) .nil))) (.node 89 aIm (.node 86 aJF (.node 84 iP (.node 83 iP .nil .nil) (.node 85 aJE .nil .nil)) (.node 88 iP (.node 87 iP .nil .nil) .nil)) (.node 94 iP (.node 91 iP (.node 90 aIm .nil .nil) (.node 92 aJH .nil .nil)) (.node 96 aJI (.node 95 iP .nil .nil) .nil)))) (.node 113 iP (.node 106 iP (.node 103 iP (.node 100 iP (.node 99 iP .nil .nil) (.node 101 iP .nil .nil)) (.node 105 iP (.node 104 iP .nil .nil) .nil)) (.node 110 iP (.node 108 iP (.node 107 iP .nil .nil) (.node 109 iP .nil .nil)) (.node 112 iP (.node 111 iP .nil .nil) .nil))) (.node 121 iP (.node 117 aAB (.node 115 aH1 (.node 114 iP .nil .nil) (.node 116 aAB .nil .nil)) (.node 120 iP (.node 118 iP .nil .nil) .nil)) (.node 126 iP (.node 124 iP (.node 123 iP .nil .nil) (.node 125 iP .nil .nil)) (.node 128 iP (.node 127 aH2 .nil .nil) .nil)))))) (.node 192 aAF (.node 159 iP (.node 144 aH8 (.node 137 aH5 (.node 133 iP (.node 131 iP (.node 130 iP .nil .nil) (.node 132 iP .nil .nil)) (.node 135 aH4 (.node 134 iP .nil .nil) (.node 136 iP .nil .nil))) (.node 141 aH7 (.node 139 iP (.node 138 aH6 .nil .nil) (.node 140 iP .nil .nil)) (.node 143 iP (.node 142 iP .nil .nil) .nil))) (.node 152 iP (.node 149 iP (.node 146 iP (.node 145 aH9 .nil .nil) (.node 147 iP .nil .nil)) (.node 151 iP (.node 150 iP .nil .nil) .nil)) (.node 156 aIa (.node 154 iP (.node 153 iP .nil .nil) (.node 155 iP .nil .nil)) (.node 158 iP (.node 157 aIb .nil .nil) .nil)))) (.node 175 iP (.node 168 aAC (.node 165 iP (.node 162 iP (.node 161 aFc .nil .nil) (.node 163 iP .nil .nil)) (.node 167 aAC (.node 166 iP .nil .nil) .nil)) (.node 172 aIc (.node 170 iP (.node 169 iP .nil .nil) (.node 171 iP .nil .nil)) (.node 174 aAD (.node 173 aAD .nil .nil) .nil))) (.node 183 iP (.node 179 aAE (.node 177 aIe (.node 176 aId .nil .nil) (.node 178 aAE .nil .nil)) (.node 182 iP (.node 180 iP .nil .nil) .nil)) (.node 189 iP (.node 186 iP (.node 185 iP .nil .nil) (.node 188 iP .nil .nil)) (.node 191 iP (.node 190 iP .nil .nil) .nil))))) (.node 225 iP (.node 209 iP (.node 199 iP (.node 196 aIg (.node 194 iP (.node 193 aAF .nil .nil) (.node 195 iP .nil .nil)) (.node 198 iP (.node 197 iP .nil .nil) .nil)) (.node 205 iP (.node 203 aFc (.node 201 aIh .nil .nil) (.node 204 iP .nil .nil)) (.node 208 iP (.node 206 iP .nil .nil) .nil))) (.node 217 iP (.node 214 iP (.node 212 iP (.node 210 iP .nil .nil) (.node 213 iP .nil .nil)) (.node 216 iP (.node 215 iP .nil .nil) .nil)) (.node 221 iP (.node 219 iP (.node 218 iP .nil .nil) (.node 220 iP .nil .nil)) (.node 224 iP (.node 223 iP .nil .nil) .nil)))) (.node 246 iP (.node 232 iP (.node 229 iP (.node 227 iP (.node 226 iP .nil .nil) (.node 228 iP .nil .nil)) (.node 231 iP (.node 230 iP .nil .nil) .nil)) (.node 239 aAG (.node 234 iP (.node 233 aIi .nil .nil) (.node 237 iP .nil .nil)) (.node 242 iP (.node 240 aAG .nil .nil) .nil))) (.node 254 aAH (.node 251 iP (.node 248 aIj (.node 247 iP .nil .nil) (.node 250 iP .nil .nil)) (.node 253 iP (.node 252 iP .nil .nil) .nil)) (.node 263 aFd (.node 261 iP (.node 255 aAH .nil .nil) (.node 262 aFd .nil .nil)) (.node 265 aAI (.node 264 aAI .nil .nil) .nil)))))))
theorem ay0 {P:Program} {t:TypeId} {j:TypeInfo} {k:IntKind} (h:(P.info? t).map (·.zero)=a6 (a6 (.int k 0))) (d:P.info? t=a6 j):j.zero=a6 (.int k 0):=by rw[d]at h;simpa using h
theorem tkN {P:Program} {T:TT} {t:TypeId} {i:TI} (u:(P.info? t).map (fun f=>(f.size,f.bytes,f.zero.map fun z=>(z.cells.toList.map xh,z.cells.toList.all Value.oneCell')))=a6 (i.size,i.bytes,a6 (i.zero,true)):=by kernel_rfl)
  (h2:(P.underlying t).map kL=a6 (a6 i.k):=by kernel_rfl) (g:(match i.ty with|none=>a7|some _=>i.ty)=(match i.ty with|none=>a7|some _=>lH T i.k):=by kernel_rfl) (l:(match i.ty with|none=>true|some y=>Nat.beq y.size i.size)=true:=by kernel_rfl) (m:(i.isAgg||Nat.beq i.size 1)=true:=by kernel_rfl)
  (e:(!i.eq||(!P.eqGuardType P.depth t&&(!P.stoodInHeld t&&((P.underlying t).map (fun d=>match d with|.struct fs=>fs.toList.all fun f=>f.name != "_" |_=>false)).getD false)))=true:=by kernel_rfl)
  (v:(P.underlying t).map (fun d=>match d with|.struct fs=>fs.toList.all fun f=>(P.info? f.type).isSome|_=>true)=a6 true:=by kernel_rfl) (x:Nat.beq i.zero.length i.size=true:=by kernel_rfl)
  (p:(match i.ty with|some (.int .u8)=>Nat.beq t oV|_=>true)=true:=by kernel_rfl) (q:(!i.bld||Nat.beq t VH)=true:=by kernel_rfl)
  (s:(match i.k with|.int _=>(P.info? t).map (fun j:TypeInfo=>j.zero)|_=>a7)=(match i.k with|.int k=>a6 (a6 (Value.int k 0))|_=>a7):=by kernel_rfl):aAR P T t i:=fun _=>by
 refine⟨u,h2, ?_,fun y A=> ?_, ?_,fun B=> ?_,v,aj x,fun D=> ?_,fun E=> ?_,fun k hk j G=> ?_⟩
 .cases hi:i.ty with
  |none=>exact .inl rfl
  |some y=>rw[hi]at g;exact .inr g
 .rw[A]at l;exact aj l
 .rw[Bool.or_eq_true]at m;exact m.imp id aj
 .rw[B]at e;simp only[ay,Bool.false_or,af,Bool.not_eq_true']at e;refine⟨e.1,e.2.1, ?_⟩;have h:=e.2.2;generalize (P.underlying t).map _=o at h ⊢;cases o with
  |none=>cases h
  |some b=>exact congrArg a6 h
 .rw[D]at p;exact aj p
 .rw[E]at q;exact aj q
 .rw[hk]at s;exact ay0 s G
theorem tok:TOk prog tt:=TOk.of_all (by repeat' first|exact trivial|refine⟨tkN, ?_, ?_⟩)
def aCX (P:Program):Bool:=P.funcs.toList.all fun fn=>fn.body.isNone|| !(fn.name== "runtime.NumGoroutine")
theorem asO {P:Program} (h:aCX P=true):Jc P:=fun f fn c d e=>by
 have g:=List.all_eq_true.1 h fn (by have:=Array.mem_of_getElem? d;simpa using this);simpa [e] using g
theorem KC:Jc prog:=asO (by kernel_rfl)
theorem mixed:prog.follows .mixedOrders=true:=by kernel_rfl
noncomputable def sg0 (g:FuncId):Option Sum:=cond (Nat.beq g 261) (a6 avm) a7
theorem atZ: ∀g s,sg0 g=a6 s->dK prog g s:=fun g s h=>by
 unfold sg0 at h;rw[cond_eq_ite]at h;split at h
 .rename_i d
  obtain rfl:g=261:=aj d;cases h;exact(aeA func261 (by kernel_rfl) (by kernel_rfl) (by kernel_rfl) (by kernel_rfl))
 cases h
def XP:Go.Shelf.Ren:=⟨fun|240=>39|276=>77|n=>n,fun|0=>0|4=>4|9=>9|20=>20|37=>49|70=>48|72=>51|164=>122|n=>n,fun n=>n⟩
theorem O9:Go.Proofs.Lays.n240 prog XP:={
 mixed:=mixed,
 f240:=(func39).trans (by kernel_rfl),
 f276:=(func77).trans (by kernel_rfl),
 t0:=underlying0,a0:=isAgg0,z0:=sizeOf0,v0:=zeroValue0,
 t4:=underlying4,a4:=isAgg4,z4:=sizeOf4,v4:=zeroValue4,
 t9:=underlying9,a9:=isAgg9,z9:=sizeOf9,v9:=zeroValue9,
 t20:=underlying20,a20:=isAgg20,z20:=sizeOf20,v20:=zeroValue20,
 t70:=underlying48,a70:=isAgg48,z70:=sizeOf48,v70:=zeroValue48,
 t72:=underlying51,a72:=isAgg51,z72:=sizeOf51,v72:=zeroValue51,
 t164:=underlying122,a164:=isAgg122,z164:=sizeOf122,v164:=zeroValue122}
theorem avU:Go.Proofs.Builder.X72 prog XP:={sizeBuilder:=by kernel_rfl,liesBuilder:=by kernel_rfl}
section
open Go.Shelf
theorem apz (b o:Nat) (w:World) (f:w.cell? ⟨b,o,a7⟩=a6 (.pointer (a6 ⟨b,o,a7⟩))):
  Calls prog 39 #[.pointer (a6 ⟨b,o,a7⟩)] w fun e w'=>e=.returned (.tuple #[])/\w'=w:=by
 obtain⟨j,d,_⟩:=Option.map_eq_some_iff.1 avU.sizeBuilder;have L:=O9;have mixed:=L.mixed;have g:=L.t72;have h:=L.a72;have i:=L.z72;have l:=L.v72;have m:=run_underlying L.t72;have p:=L.t70;have q:=L.a70;have s:=L.z70;have u:=L.v70;have v:=run_underlying L.t70;have x:=L.t9;have y:=L.a9;have z:=L.z9;have A:=L.v9;have B:=run_underlying L.t9;have D:=L.t4;have E:=L.a4;have G:=L.z4;have I:=L.v4;have J:=run_underlying L.t4;have K:=L.t164;have M:=L.a164;have N:=L.z164;have O:=L.v164;have S:=run_underlying L.t164
 go_enter L.f240,Body.n240_ntmps XP
 go_wp2
 rw[Lib.run_neq_ptr_same w _ L.t70 d]
 go_wp2
 go_end0
 exact⟨rfl,rfl⟩
theorem alC (b o:Nat) (w:World) {T n:Nat} (i:w.cell? ⟨b,o,a7⟩=a6 (.pointer a7)) (d:w.shape? b=a6 (T,n)) (g:o<n) (l:w.frozen? ⟨b,o,a7⟩=false) (hl:liesAt prog prog.depth T (n/prog.cellsOf T) o 51 1=true):
  Calls prog 39 #[.pointer (a6 ⟨b,o,a7⟩)] w fun e w'=>e=.returned (.tuple #[])/\w'=w.setCell ⟨b,o,a7⟩ (.pointer (a6 ⟨b,o,a7⟩)):=by
 obtain⟨j,f,h⟩:=Option.map_eq_some_iff.1 avU.sizeBuilder;have L:=O9;have mixed:=L.mixed;have m:=L.t72;have p:=L.a72;have q:=L.z72;have s:=L.v72;have u:=run_underlying L.t72;have v:=L.t70;have x:=L.a70;have y:=L.z70;have z:=L.v70;have A:=run_underlying L.t70;have B:=L.t9;have D:=L.a9;have E:=L.z9;have G:=L.v9;have I:=run_underlying L.t9;have J:=L.t4;have K:=L.a4;have M:=L.z4;have N:=L.v4;have O:=run_underlying L.t4;have S:=L.t164;have U:=L.a164;have V:=L.z164;have W:=L.v164;have X:=run_underlying L.t164
 go_enter L.f240,Body.n240_ntmps XP
 go_wp2
 rw[Lib.run_to_unsafe w ⟨b,o,a7⟩ L.t70 L.t164 f (by rw[h];decide) d g];simp only[Result.andThen];rw[Oper.upon_value]
 go_wp2
 rw[run_callFunc_extern L.f276 (by kernel_rfl) (by kernel_rfl) (by kernel_rfl) (e:=Extern.AbiNoEscape.same) (by kernel_rfl)];rw[Lib.run_noEscape];simp only[Result.andThen];rw[Oper.upon_value]
 go_wp2
 rw[Lib.run_from_unsafe w ⟨b,o,a7⟩ L.t164 L.t70 f d hl];simp only[Result.andThen];rw[Oper.upon_value]
 go_wp2
 go_end0
 exact⟨rfl,rfl⟩
end
theorem aeg (w:World) (b o:Nat) (d:Array Value) (t:TypeId) (fr:Nat×Nat) (v:Value) (h:w.heap[b]? =a6 (.cells d t fr)) (f:o<d.size):
  w.setCell ⟨b,o,a7⟩ v=w.setRow b (d.toList.take o++[v]++d.toList.drop (o+1)).toArray:=by
 have e:d.setIfInBounds o v=(d.toList.take o++[v]++d.toList.drop (o+1)).toArray:=by
  apply Array.ext';simp only[Array.toList_setIfInBounds,ag,List.singleton_append];rw[List.set_eq_take_append_cons_drop,am (by simpa using f)]
 unfold World.setCell World.setRow;congr 1;apply Array.ext
 .simp
 .intro i g m;rw[Array.getElem_modify,Array.getElem_modify];by_cases hi:b=i
  .subst hi;have j:b<w.heap.size:=by simpa using g
   have l:w.heap[b]=.cells d t fr:=by rw[Array.getElem?_eq_getElem j]at h;simpa using h
   simp[l,e]
  .simp[hi]
theorem avV:QK prog G9 39:=by
 intro w b t o n l j d m;simp only[G9,aGg,List.any_cons,List.any_nil,Bool.or_false,af]at j;obtain⟨_,f,g,h⟩:=j;have f:=aj f;have g:=aj g;have h:=aj h;subst f;subst g;subst h;have p:w.shape? b=a6 (65,5):=by simp[World.shape?,d,m]
 have q:w.frozen? ⟨b,2,a7⟩=false:=by simp[World.frozen?,d]
 refine⟨by decide,qQ KC func39 (show f39.body=a6 ((f39.body).getD .skip) by kernel_rfl) _ _,fun i=>apz b 2 w i,fun i=> ?_⟩;refine(alC b 2 w i p (by decide) q (by kernel_rfl)).mono ?_;rintro e s ⟨rfl,rfl⟩;exact⟨rfl,aeg w b 2 l _ _ _ d (by omega)⟩
theorem Ri (g:FuncId) (h:JO g=true):BC prog G9 g:=by
 simp only[JO,af]at h;obtain rfl:g=39:=aj h.1;exact⟨fun w b e f=>⟨qQ KC func39 (show f39.body=a6 ((f39.body).getD .skip) by kernel_rfl) _ _,fun d=>Any.Builder_copyCheck_used O9 avU b w d,fun d=>Any.Builder_copyCheck_fresh O9 avU b w d e f⟩,avV⟩
noncomputable def apO:Env:={P:=prog,T:=tt,cl:=true,kp:=fun _ _=>a7,sg:=sg0,lp:=fun _ _=>a7,bf:=JO,em:=G9}
theorem ad4: ∀E,sU prog E->aeN E:=fun E h f k jk d e=>ayK h f k jk d e
theorem ahK:eP apO:=⟨tok,mixed,KC,atZ,fun f fn c _ _=>jy (fun _=>rfl) (fun _=>rfl) c,ad4 _ fun f fn c _ _=>jy (fun _=>rfl) (fun _=>rfl) c,Ri,fun _ _ h=>by cases h⟩
abbrev yc:Ty:=(.pair (.int .i64) (.pair (.int .i64) .unit))
def rH (l:List yc.den):Option (List yc.den):=cond (dV l 16) (a6 l) a7
theorem XQ (xs:List yc.den):kK apO 1000000 (.call 133 [.lst yc xs false]) ⟨[],[],[],0⟩ (fun v st=>iW true [(.list yc,true)] (GN 1 v) st.hp)=(bif dV xs 16 then a6 (xs,())else a7):=by kernel_rfl
theorem XT:kK apO 1000000 (.call 133 [.lst yc [] true]) ⟨[],[],[],0⟩ (fun v st=>match v,st.hp with|.nils,[]=>a6 ()|_,_=>a7)=a6 ():=by kernel_rfl
def oD (l:List yc.den):Option (List yc.den×Unit):=match rH l with|some y=>a6 (y,())|none=>a7
def zi:Sum:=⟨[.list yc],[(.list yc,true)],fun x=>oD x.1⟩
theorem xQ:dK prog 133 zi:=by
 have base:=Du ahK (e:=yc) (e2:=yc) (g:=133) (f:=rH) (show 0<yc.size by decide) (show 0<yc.size by decide) (fun i y h=>by
  unfold rH at h;rw[XQ];cases hf:dV i 16 with
  |true=>rw[hf]at h;cases h;rfl
  |false=>rw[hf]at h;cases h) fun y h=>by
  have e:rH []=a6 []:=rfl;rw[e]at h;cases h;exact⟨rfl,XT⟩
 intro w j l x y m o hd d;refine base w j l x y m o hd ?_;have d:oD x.1=a6 y:=d;unfold oD at d;cases hc:rH x.1 with
 |none=>rw[hc]at d;cases d
 |some z=>rw[hc]at d;simp only[hc];exact d
abbrev yf:Ty:=(.pair .str (.pair .bool .unit))
def wM (l:List yf.den):Option (List yf.den):=cond (dV l 24) (a6 l) a7
theorem XR (xs:List yf.den):kK apO 1000000 (.call 193 [.lst yf xs false]) ⟨[],[],[],0⟩ (fun v st=>iW true [(.list yf,true)] (GN 1 v) st.hp)=(bif dV xs 24 then a6 (xs,())else a7):=by kernel_rfl
theorem XU:kK apO 1000000 (.call 193 [.lst yf [] true]) ⟨[],[],[],0⟩ (fun v st=>match v,st.hp with|.nils,[]=>a6 ()|_,_=>a7)=a6 ():=by kernel_rfl
def rJ (l:List yf.den):Option (List yf.den×Unit):=match wM l with|some y=>a6 (y,())|none=>a7
def OW:Sum:=⟨[.list yf],[(.list yf,true)],fun x=>rJ x.1⟩
theorem xR:dK prog 193 OW:=by
 have base:=Du ahK (e:=yf) (e2:=yf) (g:=193) (f:=wM) (show 0<yf.size by decide) (show 0<yf.size by decide) (fun i y h=>by
  unfold wM at h;rw[XR];cases hf:dV i 24 with
  |true=>rw[hf]at h;cases h;rfl
  |false=>rw[hf]at h;cases h) fun y h=>by
  have e:wM []=a6 []:=rfl;rw[e]at h;cases h;exact⟨rfl,XU⟩
 intro w j l x y m o hd d;refine base w j l x y m o hd ?_;have d:rJ x.1=a6 y:=d;unfold rJ at d;cases hc:wM x.1 with
 |none=>rw[hc]at d;cases d
 |some z=>rw[hc]at d;simp only[hc];exact d
noncomputable def sg1 (g:FuncId):Option Sum:=cond (Nat.beq g 133) (a6 zi)<|cond (Nat.beq g 193) (a6 OW)<|sg0 g
theorem ag5: ∀g s,sg1 g=a6 s->dK prog g s:=fun g s h=>by
 unfold sg1 at h;rw[cond_eq_ite]at h;split at h
 .rename_i d
  obtain rfl:g=133:=aj d;cases h;exact xQ
 rw[cond_eq_ite]at h;split at h
 .rename_i d
  obtain rfl:g=193:=aj d;cases h;exact xR
 exact atZ g s h
noncomputable def aIY:Env:={P:=prog,T:=tt,cl:=true,kp:=fun _ _=>a7,sg:=sg1,lp:=fun _ _=>a7,bf:=JO,em:=G9}
theorem aIu:eP aIY:=⟨tok,mixed,KC,ag5,fun f fn c _ _=>jy (fun _=>rfl) (fun _=>rfl) c,ad4 _ fun f fn c _ _=>jy (fun _=>rfl) (fun _=>rfl) c,Ri,fun _ _ h=>by cases h⟩
end
section
open Go.ChangeShapes Go.WideShapes Go.RowKit
theorem azN {P:Program} {w:World} {H:Type} {enc:TypeId×Value->H} {base:Nat} {spare:Nat->Bool} {held:Bool} {c:Cx} {f:Ty} {x:List f.den} {t e:TypeId} {v:Value} {d:DataW H} {m:List MemPlace}
  (o:P.underlying t=some (.slice e)) (hx:VD c (.list f) x v) (h:DataW.Trod enc P w base spare held t v d m):x.length=0\/ ∃g p,d=.slice g p/\g.length=x.length:=by
 have i:=(VD.leaf rfl).1 hx;simp only[fB]at i;obtain⟨a,k,y,j,z,A,B⟩:=i;simp only[List.cons.injEq,and_true]at j;obtain⟨D,l⟩:=h;subst j;have q:(Value.slice a x.length k).cells.toList=[.slice a x.length k]:=rfl;rw[q]at l;rcases DataW.trod_slice o l with ⟨s,u⟩|⟨E,G,I,J,K,n,s,u,L,M,N,O,S,U⟩
 all_goals simp_all
end
section
open Option renaming some → a6, none → a7
open Tryz
open Go.RowKit
theorem vS {E:Env} {f:FuncId} {c:Code} {k:eG} {l i j:SP} {m p:Ex} {D:Nat} {lp:Nat->l.den->Option (i.den⊕j.den)}
  (st:{g:Type}->(l.den->Option g)->(i.den->Option g)->(j.den->Option g)->l.den->Option g)
  (hk:E.kp f (dC c)=a6 k:=by kernel_rfl) (q: ∀v,lp 0 v=a7:=by intro _;rfl) (s: ∀n v,lp (n+1) v=st (lp n) (fun e=>a6 (.inl e)) (fun r=>a6 (.inr r)) v:=by intro _ _;rfl)
  (u: ∀{R:Type} (d n:Nat) (K:Ex->St->Option R) (v:l.den),iter (a6 k) (Be E (d+D) f c) (n+1) (lw l v) K=st (fun v=>iter (a6 k) (Be E (d+D) f c) n (lw l v) K) (fun e=>K m (lw i e)) (fun r=>K p (lw j r)) v:=by intro _ d n K v;kernel_rfl)
  (h2: ∀{g A:Type} (x:l.den->Option g) (y:i.den->Option g) (z:j.den->Option g) (v:l.den) (K:g->Option A),bF (st x y z v) K=st (fun v=>bF (x v) K) (fun e=>bF (y e) K) (fun r=>bF (z r) K) v):
  dQ E f c (fH k l i j m (fun v=>lp bJ v) D p):=by
 refine am2 hk fun R d K v o h=>⟨bJ, ?_⟩;have B: ∀(n:Nat) (v:l.den),iter (a6 k) (Be E (d+D) f c) n (lw l v) K=bF (lp n v) fun o=>dL o (fun a=>K m (lw i a)) fun b=>K p (lw j b):=by
  intro n
  induction n with
  |zero=>intro v;rw[q];rfl
  |succ n G=>intro v;rw[u,s,h2,funext G];rfl
 exact(B bJ v).trans (congrArg (fun o=>bF o _) h)
theorem mO {E:Env} {f:FuncId} {c:Code} {k:eG} {l i j:SQ} {m p:Ex} {D:Nat} {lp:Nat->l.den->Option (i.den⊕j.den)}
  (st:{g:Type}->(l.den->Option g)->(i.den->Option g)->(j.den->Option g)->l.den->Option g)
  (hk:E.kp f (dC c)=a6 k:=by kernel_rfl) (q: ∀v,lp 0 v=a7:=by intro _;rfl) (s: ∀n v,lp (n+1) v=st (lp n) (fun e=>a6 (.inl e)) (fun r=>a6 (.inr r)) v:=by intro _ _;rfl)
  (u: ∀{R:Type} (d n:Nat) (K:Ex->St->Option R) (v:l.den),iter (a6 k) (Be E (d+D) f c) (n+1) (mX l v) K=st (fun v=>iter (a6 k) (Be E (d+D) f c) n (mX l v) K) (fun e=>K m (mX i e)) (fun r=>K p (mX j r)) v:=by intro _ d n K v;kernel_rfl)
  (h2: ∀{g A:Type} (x:l.den->Option g) (y:i.den->Option g) (z:j.den->Option g) (v:l.den) (K:g->Option A),bF (st x y z v) K=st (fun v=>bF (x v) K) (fun e=>bF (y e) K) (fun r=>bF (z r) K) v):
  dQ E f c (fK k l i j m (fun v=>lp bJ v) D p):=by
 refine afY hk fun R d K v o h=>⟨bJ, ?_⟩;have B: ∀(n:Nat) (v:l.den),iter (a6 k) (Be E (d+D) f c) n (mX l v) K=bF (lp n v) fun o=>dL o (fun a=>K m (mX i a)) fun b=>K p (mX j b):=by
  intro n
  induction n with
  |zero=>intro v;rw[q];rfl
  |succ n G=>intro v;rw[u,s,h2,funext G];rfl
 exact(B bJ v).trans (congrArg (fun o=>bF o _) h)
theorem aFa {E:Env} (d:eP E) {g:FuncId} {s:Sum} (e:news s.rs<=1) (h: ∀x,jD E g s.ps s.rs x=s.f x):dK E.P g s:=
 qE d e fun x y i=>(h x).trans i
theorem fL {E:Env} {f:FuncId} {c:Code} {L:dA} (e:E.lp f (dC c)=a6 L) (h2:dQ E f c L): ∀d,E.lp f (dC c)=a6 d->dQ E f c d:=fun d h=>by
 simp_all
theorem fC {E:Env} {f:FuncId} {c:Code} {L:dA} (e:E.lp f (800000+dC c)=a6 L) (h2:uX E f c L): ∀d,E.lp f (800000+dC c)=a6 d->uX E f c d:=fun d h=>by
 simp_all
theorem aC {d:Type} {p:d->Prop} {a:d} {l:List d} (h:p a/\ ∀x∈l,p x): ∀x∈a::l,p x:=List.forall_mem_cons.2 h
theorem aN {d:Type} {p:d->Prop}: ∀x∈([]:List d),p x:=fun _ h=>absurd h List.not_mem_nil
theorem aAz {E:Env} (d:eP E) {g:FuncId} {s:fF} (h: ∀x y,atx E g s.bt s.cs s.ps s.rs x y=s.f x y):dI E.P g s:=aez d fun x y _ e=>(h x y).trans e
theorem nO {P:Program} {g:FuncId} {s:fF} (h: ∀x y,s.f x y=a7):dI P g s:=fun W0 c x y z _ _ _ _ e _ d=>nomatch (show(a7:Option _)=a6 z from(h x y).symm.trans d)
theorem aD {d:Type} {p:d->Prop} {a:d} {l:List d} (h:p a) (h2: ∀x∈l,p x): ∀x∈a::l,p x:=aC ⟨h,h2⟩
theorem fM {E:Env} {f:FuncId} {c:Code} {L:dA} (h2:dQ E f c L) (e:E.lp f (dC c)=a6 L:=by kernel_rfl): ∀d,E.lp f (dC c)=a6 d->dQ E f c d:=fL e h2
theorem sA {E:Env} (d:eP E) {g:FuncId} {s:Sum} (e:news s.rs<=1:=by decide) (h: ∀x,jD E g s.ps s.rs x=s.f x:=by intro x;kernel_rfl):dK E.P g s:=aFa d e h
theorem sB {E:Env} (d:eP E) {g:FuncId} {s:fF} (h: ∀x y,atx E g s.bt s.cs s.ps s.rs x y=s.f x y:=by intro x y;kernel_rfl):dI E.P g s:=aAz d h
theorem pI {E:Env} {f:FuncId} {c:Code} (l:List Code) (h: ∀d∈l,∀L,E.lp f (dC d)=a6 L->dQ E f d L) (hl:jP c=l:=by kernel_rfl) (k:YS E f c=true:=by kernel_rfl) (e: ∀id,E.rf f id=false:=by intro _;rfl):dO E f c:=afZ c e (by rw[hl];exact h) k
theorem eA {f:FuncId} {sg:List (FuncId×Sum)} {kp:List (Nat×eG)} {lp:List (Nat×dA)} {sb:List (FuncId×fF)} (fn:Func) (d: ∀e∈sg,dK prog e.1 e.2) (hl:dO (iU prog tt f sg kp lp sb) f (fn.body.getD .skip):=by exact jy (fun _=>rfl) (fun _=>rfl) _) (hf:prog.funcs[f]? =a6 fn:=by kernel_rfl) (hb:fn.body=a6 (fn.body.getD .skip):=by kernel_rfl) (hx: ∀e∈sb,dI prog e.1 e.2:=by simp):eP (iU prog tt f sg kp lp sb):=aqn tok mixed KC d hf hb hl ad4 Ri hx
theorem eB {sg:List (FuncId×Sum)} {kp:List (FuncId×Nat×eG)} {lp:List (FuncId×Nat×dA)} {rf:List FuncId} {sb:List (FuncId×fF)} (f: ∀e∈sg,dK prog e.1 e.2) (d:List FuncId) (hl: ∀g∈d,∃fn c,prog.funcs[g]? =a6 fn/\fn.body=a6 c/\dO (gQ prog tt sg kp lp rf sb) g c) (hx: ∀e∈sb,dI prog e.1 e.2:=by simp) (h:(lp.all fun e=>d.any fun g=>Nat.beq e.1 g)=true:=by kernel_rfl) (i:(rf.all fun e=>d.any fun g=>Nat.beq e g)=true:=by kernel_rfl):eP (gQ prog tt sg kp lp rf sb):=amz tok mixed KC f d h i hl ad4 Ri hx
theorem sE {g:FuncId} {s:Sum} {l:List (FuncId×Sum)} (h:dK prog g s) (h2: ∀e∈l,dK prog e.1 e.2): ∀e∈(g,s)::l,dK prog e.1 e.2:=aD (p:=fun e:FuncId×Sum=>dK prog e.1 e.2) h h2
theorem sF {g:FuncId} {s:fF} {l:List (FuncId×fF)} (h:dI prog g s) (h2: ∀e∈l,dI prog e.1 e.2): ∀e∈(g,s)::l,dI prog e.1 e.2:=aD (p:=fun e:FuncId×fF=>dI prog e.1 e.2) h h2
theorem qA {g:FuncId} {s:Sum} {sg:List (FuncId×Sum)} {sb:List (FuncId×fF)} (fn:Func) (kp:List (Nat×eG)) (d: ∀e∈sg,dK prog e.1 e.2) (hx: ∀e∈sb,dI prog e.1 e.2:=by exact aN) (hf:prog.funcs[g]? =a6 fn:=by kernel_rfl) (hb:fn.body=a6 (fn.body.getD .skip):=by kernel_rfl) (h: ∀x,jD (iU prog tt g sg kp [] sb) g s.ps s.rs x=s.f x:=by intro x;kernel_rfl) (i:news s.rs<=1:=by decide):dK prog g s:=aFa (eA fn d (hl:=jy (fun _=>by show(bif Nat.beq g g then a7 else a7)=a7;cases Nat.beq g g<;>rfl) (fun _=>rfl) _) (hf:=hf) (hb:=hb) (hx:=hx)) i h
theorem qC {g:FuncId} {s:Sum} {sg:List (FuncId×Sum)} {sb:List (FuncId×fF)} (kp:List (FuncId×Nat×eG)) (d: ∀e∈sg,dK prog e.1 e.2) (hx: ∀e∈sb,dI prog e.1 e.2:=by exact aN) (h: ∀x,jD (gQ prog tt sg kp [] [] sb) g s.ps s.rs x=s.f x:=by intro x;kernel_rfl) (i:news s.rs<=1:=by decide):dK prog g s:=aFa (eB d [] aN hx) i h
theorem qB {g:FuncId} {s:fF} {sg:List (FuncId×Sum)} {sb:List (FuncId×fF)} (kp:List (FuncId×Nat×eG)) (d: ∀e∈sg,dK prog e.1 e.2) (hx: ∀e∈sb,dI prog e.1 e.2:=by exact aN) (h: ∀x y,atx (gQ prog tt sg kp [] [] sb) g s.bt s.cs s.ps s.rs x y=s.f x y:=by intro x y;kernel_rfl):dI prog g s:=aAz (eB d [] aN hx) h
end
section
open Option renaming some → a6, none → a7
open Tryz
open Go.RowKit
def vg (d:List oz) (e:Bool) (f g:Int):Option (taN×(Unit)):=cond (gm d (eF .i64 (bG d) 1)) (cond (ni (dw (eF .i64 (bG d) 1)) d) (a6 (((ik d (dw (eF .i64 (bG d) 1)) (g,((dD d (0,(0,())) (dw (eF .i64 (bG d) 1))).2.1,()))),(e,(f,()))),())) a7) a7
def auz:fF:=⟨168,tzC,[di],[],fun x y=>vg x.1 x.2.1 x.2.2.1 y.1⟩
theorem Nv:dI prog 130 auz:=qB [] aN
def xq (d:List oz) (e:Bool) (f:Int):Option (taN×(Unit)):=cond (iq 1 (bG d)) (cond (eU (bG d) 0 (eF .i64 (bG d) 1)) (a6 (((takeN d (dw (eF .i64 (bG d) 1))),(e,(f,()))),())) a7)<|some ((d,(e,(f,()))),())
def auA:fF:=⟨168,tzC,[],[],fun x y=>xq x.1 x.2.1 x.2.2.1⟩
theorem wY:dI prog 131 auA:=qB [] aN
def ah3 (d:List oz) (e:Bool) (f:Int):Option (taN×lW):=cond (gm d (su (eF .i64 (bG d) 2) 0)) (cond (ni (dw (su (eF .i64 (bG d) 2) 0)) d) (a6 ((d,(e,(f,()))),((dD d (0,(0,())) (dw (su (eF .i64 (bG d) 2) 0))).1,()))) a7) a7
def aEo:fF:=⟨168,tzC,[],[di],fun x y=>ah3 x.1 x.2.1 x.2.2.1⟩
theorem anR:dI prog 175 aEo:=qB [] aN
def NU (f:List oz) (g:Bool) (h i:Int):Option (taN×uO):=cond (bT i 40) (bF (vg f g h 3) fun d=>a6 ((d.1.1,(true,(d.1.2.2.1,()))),(true,())))<|cond (bT i 123) (bF (ah3 f g h) fun d=>cond (bT d.2.1 5) (cond (bT d.2.1 5) (bF (vg d.1.1 d.1.2.1 d.1.2.2.1 8) fun e=>a6 ((e.1.1,(e.1.2.1,(e.1.2.2.1,()))),(true,())))<|bF (vg d.1.1 d.1.2.1 d.1.2.2.1 7) fun e=>a6 ((e.1.1,(e.1.2.1,(e.1.2.2.1,()))),(true,())))<|cond (bT d.2.1 8) (bF (vg d.1.1 d.1.2.1 d.1.2.2.1 8) fun e=>a6 ((e.1.1,(e.1.2.1,(e.1.2.2.1,()))),(true,())))<|bF (vg d.1.1 d.1.2.1 d.1.2.2.1 7) fun e=>a6 ((e.1.1,(e.1.2.1,(e.1.2.2.1,()))),(true,())))<|cond (bT i 36) (bF (xq f g h) fun d=>a6 ((d.1.1,(d.1.2.1,(d.1.2.2.1,()))),(true,())))<|bF (xq f g h) fun d=>a6 ((d.1.1,(d.1.2.1,(d.1.2.2.1,()))),(false,()))
def auy:fF:=⟨168,tzC,[.int .u8],[.bool],fun x y=>NU x.1 x.2.1 x.2.2.1 y.1⟩
theorem anE:dI prog 129 auy:=qB [] aN (sF Nv (sF wY (sF anR aN)))
def xu (f:List oz) (g:Bool) (d e:Int):Option (taN×(Unit)):=cond (bT e e) (cond (bT d d) (cond (dV (bM f [(e,(d,()))]) 16) (cond (bT e e) (cond (bT d d) (cond ((bT e e)&&((bT d d)&&true)) (a6 (((bM f [(e,(d,()))]),(g,(d,()))),())) a7) a7) a7) a7) a7) a7
def aEq:fF:=⟨168,tzC,[di],[],fun x y=>xu x.1 x.2.1 x.2.2.1 y.1⟩
theorem Bv:dI prog 177 aEq:=qB [] aN
def RU (e:List oz) (f:Bool) (g h:Int):Option (taN×uO):=cond (bT h 92) (bF (xu e f g 13) fun d=>a6 ((d.1.1,(d.1.2.1,(d.1.2.2.1,()))),(true,())))<|cond (bT h 36) (bF (xu e f g 12) fun d=>a6 ((d.1.1,(d.1.2.1,(d.1.2.2.1,()))),(true,())))<|cond (bT h 96) (bF (xu e f g 6) fun d=>a6 ((d.1.1,(d.1.2.1,(d.1.2.2.1,()))),(true,())))<|some ((e,(f,(g,()))),(false,()))
def aEI:fF:=⟨168,tzC,[.int .u8],[.bool],fun x y=>RU x.1 x.2.1 x.2.2.1 y.1⟩
theorem NG:dI prog 226 aEI:=qB [] aN (sF Bv aN)
noncomputable def ab2:Code:=(f125.body).getD .skip
noncomputable def yj:Code:=cB (cB (cB (cB (cB (cB (cB (cA (cA (cB (ab2))))))))))
noncomputable def yl:Code:=cB (cB (ab2))
noncomputable def yu:Code:=cB (cA (cB (cA (cB (cB (ab2))))))
noncomputable def yw:Code:=cB (cB (cB (cA (cB (cA (cB (cB (ab2))))))))
def yD:eG:=⟨[0,18,900011],[],[0],[],[2],[]⟩
def yE:eG:=⟨[0,900012],[],[2],[],[2],[]⟩
def yF:eG:=⟨[33,34,900020],[],[],[],[2],[]⟩
def yG:eG:=⟨[42,900026],[],[],[],[2],[]⟩
def ar {a b c d e g h R:Type} (f:a->b->c->d->e->g->h->R) (v:((a×b×c×Unit)×((d×e×g×h×Unit)×Unit×Unit)×Unit)):R:=f v.1.1 v.1.2.1 v.1.2.2.1 v.2.1.1.1 v.2.1.1.2.1 v.2.1.1.2.2.1 v.2.1.1.2.2.2.1
def aE {a R:Type} (f:((a×Unit)×Unit)->R):a->R:=fun a=>f ((a,()),())
def aL {a b R:Type} (f:((a×b×Unit)×Unit)->R):a->b->R:=fun a b=>f ((a,b,()),())
def aM {a b c d R:Type} (f:((a×b×c×d×Unit)×Unit)->R):a->b->c->d->R:=fun a b c d=>f ((a,b,c,d,()),())
def aR {a b c d R:Type} (f:a->b->c->d->R) (v:((a×b×c×d×Unit)×Unit)):R:=f v.1.1 v.1.2.1 v.1.2.2.1 v.1.2.2.2.1
def a8 {a b c R:Type} (f:a->b->c->R) (v:((a×b×c×Unit)×Unit)):R:=f v.1.1 v.1.2.1 v.1.2.2.1
def ba {a b c d e g h i j k l R:Type} (f:a->b->c->d->e->g->h->i->j->k->l->R) (v:((a×b×c×d×Unit)×((e×g×h×i×j×Unit)×k×l×Unit))):R:=f v.1.1 v.1.2.1 v.1.2.2.1 v.1.2.2.2.1 v.2.1.1 v.2.1.2.1 v.2.1.2.2.1 v.2.1.2.2.2.1 v.2.1.2.2.2.2.1 v.2.2.1 v.2.2.2.1
def bb {a b c d e g R:Type} (f:((a×Unit)×(Unit×Unit)×((b×c×d×e×Unit)×g×Unit))->R):a->b->c->d->e->g->R:=fun a b c d e g=>f ((a,()),((),()),((b,c,d,e,()),g,()))
def bc {a b c d e g R:Type} (f:a->b->c->d->e->g->R) (v:((a×Unit)×(Unit×Unit)×((b×c×d×e×Unit)×g×Unit))):R:=f v.1.1 v.2.2.1.1 v.2.2.1.2.1 v.2.2.1.2.2.1 v.2.2.1.2.2.2.1 v.2.2.2.1
def be {a b c d e R:Type} (f:(Unit×(Unit×Unit)×((a×b×c×d×Unit)×e×Unit))->R):a->b->c->d->e->R:=fun a b c d e=>f ((),((),()),((a,b,c,d,()),e,()))
def bh {a b c d e R:Type} (f:a->b->c->d->e->R) (v:(Unit×(Unit×Unit)×((a×b×c×d×Unit)×e×Unit))):R:=f v.2.2.1.1 v.2.2.1.2.1 v.2.2.1.2.2.1 v.2.2.1.2.2.2.1 v.2.2.2.1
def bj {a b c d e g h i j k l R:Type} (f:(Unit×((a×b×Unit)×(c×d×Unit)×(e×g×Unit)×Unit×Unit)×(Unit×Unit×h×(i×j×k×l×Unit)×Unit))->R):a->b->c->d->e->g->h->i->j->k->l->R:=fun a b c d e g h i j k l=>f ((),((a,b,()),(c,d,()),(e,g,()),(),()),((),(),h,(i,j,k,l,()),()))
def bk {a b c d e g R:Type} (f:(Unit×((a×b×Unit)×(c×d×Unit)×(e×g×Unit)×Unit×Unit)×Unit)->R):a->b->c->d->e->g->R:=fun a b c d e g=>f ((),((a,b,()),(c,d,()),(e,g,()),(),()),())
def bl {a b c d e g h i j k l R:Type} (f:a->b->c->d->e->g->h->i->j->k->l->R) (v:(Unit×((a×b×Unit)×(c×d×Unit)×(e×g×Unit)×Unit×Unit)×(Unit×Unit×h×(i×j×k×l×Unit)×Unit))):R:=f v.2.1.1.1 v.2.1.1.2.1 v.2.1.2.1.1 v.2.1.2.1.2.1 v.2.1.2.2.1.1 v.2.1.2.2.1.2.1 v.2.2.2.2.1 v.2.2.2.2.2.1.1 v.2.2.2.2.2.1.2.1 v.2.2.2.2.2.1.2.2.1 v.2.2.2.2.2.1.2.2.2.1
def bm {a b c d e g h R:Type} (f:((a×Unit)×(Unit×Unit)×((b×c×d×e×g×Unit)×h×Unit))->R):a->b->c->d->e->g->h->R:=fun a b c d e g h=>f ((a,()),((),()),((b,c,d,e,g,()),h,()))
def bo {a b c d e g h R:Type} (f:a->b->c->d->e->g->h->R) (v:((a×Unit)×(Unit×Unit)×((b×c×d×e×g×Unit)×h×Unit))):R:=f v.1.1 v.2.2.1.1 v.2.2.1.2.1 v.2.2.1.2.2.1 v.2.2.1.2.2.2.1 v.2.2.1.2.2.2.2.1 v.2.2.2.1
def bp {a b c d e g R:Type} (f:a->b->c->d->e->g->R) (v:((a×b×c×d×e×Unit)×(g×Unit))):R:=f v.1.1 v.1.2.1 v.1.2.2.1 v.1.2.2.2.1 v.1.2.2.2.2.1 v.2.1
def bq {a b c d e R:Type} (f:a->b->c->d->e->R) (v:((a×b×c×d×Unit)×(e×Unit))):R:=f v.1.1 v.1.2.1 v.1.2.2.1 v.1.2.2.2.1 v.2.1
def br {a b c d e g h i j k l m R:Type} (f:a->b->c->d->e->g->h->i->j->k->l->m->R) (v:((a×b×c×Unit)×((d×e×g×Unit)×(h×i×Unit)×(j×k×l×m×Unit)×Unit))):R:=f v.1.1 v.1.2.1 v.1.2.2.1 v.2.1.1 v.2.1.2.1 v.2.1.2.2.1 v.2.2.1.1 v.2.2.1.2.1 v.2.2.2.1.1 v.2.2.2.1.2.1 v.2.2.2.1.2.2.1 v.2.2.2.1.2.2.2.1
def bs {a b c d e g h i j k l m n o p R:Type} (f:a->b->c->d->e->g->h->i->j->k->l->m->n->o->p->R) (v:((a×b×c×Unit)×((d×e×g×Unit)×(h×i×Unit)×(j×k×l×m×Unit)×(n×o×p×Unit)×Unit))):R:=f v.1.1 v.1.2.1 v.1.2.2.1 v.2.1.1 v.2.1.2.1 v.2.1.2.2.1 v.2.2.1.1 v.2.2.1.2.1 v.2.2.2.1.1 v.2.2.2.1.2.1 v.2.2.2.1.2.2.1 v.2.2.2.1.2.2.2.1 v.2.2.2.2.1.1 v.2.2.2.2.1.2.1 v.2.2.2.2.1.2.2.1
def bv {a b c d e g R:Type} (f:(Unit×((a×Unit)×Unit×Unit×Unit)×((b×c×Unit)×d×Unit×(e×Unit)×g×Unit×Unit))->R):a->b->c->d->e->g->R:=fun a b c d e g=>f ((),((a,()),(),(),()),((b,c,()),d,(),(e,()),g,(),()))
def bw {a b c d e g h i j k l m n o p q r s t u R:Type} (f:a->b->c->d->e->g->h->i->j->k->l->m->n->o->p->q->r->s->t->u->R) (v:((a×b×c×Unit)×((d×e×g×h×Unit)×(i×Unit)×Unit×Unit×Unit)×(j×(k×l×m×n×o×Unit)×p×Unit×Unit×(q×r×Unit)×s×Unit×(t×Unit)×u×Unit×Unit))):R:=f v.1.1 v.1.2.1 v.1.2.2.1 v.2.1.1.1 v.2.1.1.2.1 v.2.1.1.2.2.1 v.2.1.1.2.2.2.1 v.2.1.2.1.1 v.2.2.1 v.2.2.2.1.1 v.2.2.2.1.2.1 v.2.2.2.1.2.2.1 v.2.2.2.1.2.2.2.1 v.2.2.2.1.2.2.2.2.1 v.2.2.2.2.1 v.2.2.2.2.2.2.2.1.1 v.2.2.2.2.2.2.2.1.2.1 v.2.2.2.2.2.2.2.2.1 v.2.2.2.2.2.2.2.2.2.2.1.1 v.2.2.2.2.2.2.2.2.2.2.2.1
def bx {a b c d e g h i j k l m n o p R:Type} (f:a->b->c->d->e->g->h->i->j->k->l->m->n->o->p->R) (v:((a×Unit)×(Unit×Unit×Unit×Unit)×((b×c×d×e×Unit)×(g×h×i×Unit)×(j×Unit)×Unit×k×(l×m×n×Unit)×Unit×(o×p×Unit)×Unit))):R:=f v.1.1 v.2.2.1.1 v.2.2.1.2.1 v.2.2.1.2.2.1 v.2.2.1.2.2.2.1 v.2.2.2.1.1 v.2.2.2.1.2.1 v.2.2.2.1.2.2.1 v.2.2.2.2.1.1 v.2.2.2.2.2.2.1 v.2.2.2.2.2.2.2.1.1 v.2.2.2.2.2.2.2.1.2.1 v.2.2.2.2.2.2.2.1.2.2.1 v.2.2.2.2.2.2.2.2.2.1.1 v.2.2.2.2.2.2.2.2.2.1.2.1
def bA {a b c d e g h i j R:Type} (f:a->b->c->d->e->g->h->i->j->R) (v:((a×b×c×d×e×g×h×i×Unit)×(j×Unit))):R:=f v.1.1 v.1.2.1 v.1.2.2.1 v.1.2.2.2.1 v.1.2.2.2.2.1 v.1.2.2.2.2.2.1 v.1.2.2.2.2.2.2.1 v.1.2.2.2.2.2.2.2.1 v.2.1
def bB {a b c d e R:Type} (f:a->b->c->d->e->R) (v:((a×b×c×d×e×Unit)×Unit)):R:=f v.1.1 v.1.2.1 v.1.2.2.1 v.1.2.2.2.1 v.1.2.2.2.2.1
def ct:FK:=.ptr 0 0
def cE:FK:=.fn 278 [(1000001,0),(2000003,0)]
def bR:FK:=.v di
def cH:FK:=.ptr 1000001 0
def bO:List FK:=[ct]
def bE:List (List FK):=[us [ct,.u,cE,.u,.u,.u,bR,bR,.u,.u,.u,.u,.u,.u,.u,.u,.u,.u,.u,.u,.u,.u,.u,.u,.u,.u,.u,.u,.u,.u,.u,.u,.u,.u,.u,.u,.u,cE] 16,us [ct,bR,cE,.u,.u,.u,.u,.u,.u,.u,.u,.u,.u,ct,bR,cE] 8,[.u,cH,bR,.ptr 2000003 0,.u,.u,.u,.u,.u,.u,.u,.u,.u,.u,.u,.u,.u,.u,.u,.u,.u,.u,.u,.u,.u,.u,.u,.u,ct,bR,cE,.u],bO]
def bS:FK:=.v .str
def cq:HK:=.arr 1 oZ
def bL:List HK:=[.box 0 82 [.v nR,bS,.slc 1,bR,bR,bR],cq]
def bN:HK:=.box 0 117 [.v nR,bR,.slc 1,bR,bR]
def ey:FK:=.ptr 2000001 0
def cK:FK:=.fn 139 [(3000003,0),(3000002,0)]
def cg:FK:=.v .bool
def cX:FK:=.ptr 2000011 0
def bX:List FK:=[.u,ey,.ptr 3000002 0,.ptr 3000003 0,cK,bR,.ptr 3000006 0,.u,.u,.u,.u,.u,.u,.u,.u,.u,.u,.u,.u,.u,.u,.u,.u,.u,.u,.u,.u,.u,.u,.u,.u,.u,.u,.u,.u,.u,.u,.u,.u,.u,.u,.u,.u,.u,.u,.u,.u,.u,.u,.u,.u,.u,.u,.u,.u,.u,.u,.u,.u,.u,.u,.u,.u,.u,.u,.u,.u,.u,.u,.u,.u,.u,.u,.u,.u,.u,.u,.u,.u,.u,.u,.u,.u,.u,.u,.u,.u,.u,.u,.u,.u,.u,.u,.u,.u,.u,.u,.u,.u,.u,.u,cK,cg,cg,cX,.v Jb,.yld 1700008,.u,.u,.u,.u,.u]
def ek:FK:=.fn 238 [(1000001,0)]
def ca:List (List FK):=[us [ct,.u,ek,.u,.u,.u,bR,bR,.u,.u,.u,.u,.u,.u,.u,.u,.u,.u,.u,.u,.u,.u,.u,.u,.u,.u,.u,.u,.u,.u,.u,.u,.u,.u,.u,.u,.u,ek] 16,[.u,cH,.u,.u,.u,.u,.u,ct,ek,.u],bO]
def cy:HK:=.box 2000011 179 [bS,.v Vy,.mpv 2000009]
def cV:HK:=.mp 2000009 .i64 .i64
def en:HK:=.box 2000001 141 [cX]
def cR:FK:=.ptr 1000003 0
def ck:List FK:=us [.u,.u,bS,cR] 9
def cN:HK:=.arr 1500003 (.int .u8)
def cw:HK:=.box 1000003 51 [.slf 1000003,.slc 1500003]
def ce:List HK:=[cy,cV,en,.lp 1700008 201 (ck) [8] 4 0 a7,cN,cw]
def cL:List FK:=[.yld 1700008]
def cf:List HK:=[.arr 4800009 (.int .u8),.box 3000006 138 [bR,bR,bR,bR,cg],.arr 3500003 (.int .u8),.box 3000003 49 [.nils],.box 3000002 180 cL,cy,cV,en,.lp 1700008 201 (ck) [8] 4 0 a7,cN,cw]
def ci:List HK:=[.arr 3500003 (.int .u8),.box 3000003 49 [.slc 3500003],.box 3000002 180 cL,cy,cV,en,.lp 1700008 201 (ck) [8] 4 0 a7,cN,cw]
def eC:FK:=.ptr 1000004 0
def cx:FK:=.ptr 1000005 0
def cj:List FK:=us [.u,.u,.nils,cR,eC,cx] 13
def cP:HK:=.arr 1000012 (.pair .str tyK)
def cm:List HK:=[.box 1000008 138 [bR,bR,bR,bR,cg],.arr 1800005 Jb,cP]
def co:HK:=.box 1000001 115 bO
def cr:List FK:=[bR,.v (.list EU),cg]
def d5:HK:=.box 1000009 174 [.slc 1500009,.slc 1502009]
def cz:List HK:=[.arr 1502009 di,.arr 1500009 Jb,d5]
def d6:FK:=.v (.list U1)
def cC:List HK:=[.lp 1700014 200 (us [.u,.u,bS,.u,.u,cx] 15) [14] 5 0 a7,.box 2000001 92 [d6],.box 1000005 49 [.slc 1500005],.arr 1500005 (.int .u8)]
def cD:List HK:=[.box 0 174 [.slc 1,.slc 2],.arr 1 Jb,.arr 2 di]
def cF:HK:=.box 2000004 168 [.slc 2000002,cg,bR]
def cG:FK:=.slc 1800005
def dj:HK:=.box 1000005 73 cr
def cI:List HK:=[.box 1000011 73 cr,.box 1000007 73 [bR,.nils,cg],.box 1000006 78 [bR,bR,bR,cg],dj]
def cJ:FK:=.v (.int .u8)
def dy:FK:=.ptr 1000006 0
def cM:List FK:=us [bS,bR,.u,.u,.u,cx,dy,.ptr 1000007 0,.u,.u,.u,.ptr 1000011 0,.u,.u,bR] 171
def cQ:HK:=.box 1000003 73 [bR,.nils,cg]
def cS:List FK:=[.u,.u,.u,.u,bR]
def cT:List (List FK):=[us [.u,.u,bS,.u,.u,cx] 15,[.yld 1700014],[]]
def cU:List HK:=[.box 1000011 73 cr,.box 1000007 73 [bR,.nils,cg],.box 1000006 78 [bR,bR,bR,cg]]
def eK:FK:=.v OX
def cW:List FK:=us [.u,.u,.slc 1800002,.v nR,eK,.u,.u,.u,.u,.u,.u,.u,.u,.u,eK,bR,bR] 45
def cY:List HK:=[.box 1000005 157 [bS,cg]]
def c6:List FK:=us [ct,.u,.u,.u,.u,bR] 102
def c7:List FK:=[bS,bR,.u,.u,.u,.u,.u,.u,.u,bS,bR,.u]
def c8:List FK:=[bS,bR,.u,.u,.u,bS,bR,.u,.u,.u,.u,.u]
def eE:List FK:=[bS,.v (.list di),cg]
def c9:List HK:=[.box 1000003 193 eE,.box 1000002 193 [bS,.nils,cg]]
def da:List HK:=[bN,cq]
def db:FK:=.slc 1800004
def dc:List (List FK):=[bO]
def de:HK:=.arr 2000002 U1
def dg:HK:=.box 1000004 138 [bR,bR,bR,bR,cg]
def dk:FK:=.v (.list .str)
def dq:List HK:=[.arr 1200482 oZ,.box 1000024 82 [.v nR,bS,.slc 1200482,bR,bR,bR]]
def dr:FK:=.slc 1000012
def dt:List FK:=us [.u,.u,.u,.u,.u,.u,.u,bR] 25
def du:List FK:=us [] 13
def dv:List FK:=us [.u,.u,.v Vy] 119
def dx:List FK:=[.u,.u,bR]
def dz:List HK:=[.arr 1800002 .str]
def dE:List HK:=[.arr 1800005 .str]
def d7:HK:=.box 1000006 51 [.slf 1000006,.slc 1500006]
def d8:List FK:=[bS,bR,.u,.u,.u,bS,bR,.u]
def d9:List HK:=[de,.box 0 168 [.slc 2000002,cg,bR],.arr 1 U1]
def eb:List FK:=[.u,.u,bS]
def ec:List HK:=[.box 2000003 1 [.mfn 273 [(0,0)]],co,cq,bN]
def ef:List HK:=[.box 2000003 1 [.mfn 274 [(0,0)]],co,cq,bN]
def eg:List HK:=[.box 2000003 1 [.mfn 275 [(0,0)]],co,cq,bN]
def eh:List HK:=[.box 2000003 1 [.mfn 276 [(0,0)]],co,cq,bN]
def ei:List HK:=[.box 2000003 1 [.mfn 277 [(0,0)]],co,cq,bN]
def ej:List HK:=[.box 2000003 1 [.mfn 272 [(0,0)]],co,cq,bN]
def eo:List FK:=[ct,.u,.u,bR]
def er:FK:=.ptr 1000009 0
def ev:FK:=.ptr 2000004 0
def ez:FK:=.ptr 1000008 0
def eD:List FK:=us [bS,.u,.u,.u,.u,cx,.u,.u,.u,bR,bR] 63
def eI:List FK:=us [cH] 12
def eJ:List FK:=[ct,.u,bR]
def eM:List HK:=[.box 0 168 [.slc 1,cg,bR],.arr 1 U1]
def Em:SP:=⟨us [cJ,.u,.u,.u,.u,.u,.u,.u,.u,.u,.u,.u,.u,.u,.u,.u,.u,.u,cg] 29,[]⟩
def qZ:SP:=⟨us [cJ] 47,[]⟩
def rq:SP:=⟨us dx 45,[]⟩
def CX {d:Type} (e f:Int->Option d) (g:Int) (h:Bool):Option d:=cond h (f 5)<|e g
def kT (d:Int) (e:Bool):Option (qZ.den⊕rq.den):=CX (fun f=>a6 (.inl ((f,()),()))) (fun g=>a6 (.inr ((g,()),()))) d e
noncomputable def Kt:dA:=fH yD Em qZ rq (.exit 999999) (fun v=>kT v.1.1 v.1.2.1) 6
def Ep:SP:=⟨[.u,.u,.u,.u,.u,.u,.u,.u,.u,.u,.u,.u,.u,.u,.u,.u,.u,.u,.u,.u,.u,.u,.u,.u,.u,.u,.u,.u,.u,.u,.u,.u,.u,.u,.u,.u,.u,.u,.u,.u,.u,.u,cg,.u,.u,.u,.u,.u],[]⟩
def wu:SP:=⟨us [] 48,[]⟩
def wC:SP:=⟨us dx 45,[]⟩
def C9 {d:Type} (e:Option d) (f:Int->Option d) (g:Bool):Option d:=cond g (f 4) e
def kU (d:Bool):Option (wu.den⊕wC.den):=C9 (a6 (.inl ((),()))) (fun e=>a6 (.inr ((e,()),()))) d
noncomputable def Kw:dA:=fH yG Ep wu wC (.exit 999999) (fun v=>kU v.1.1) 12
def Eo:SP:=⟨us [.u,.u,.u,.u,.u,.u,.u,.u,.u,.u,.u,.u,.u,.u,.u,.u,.u,.u,.u,.u,.u,.u,.u,.u,.u,.u,.u,.u,.u,.u,.u,.u,.u,cJ,cg] 13,[]⟩
def wo:SP:=⟨us [] 48,[]⟩
def wB:SP:=⟨us dx 45,[]⟩
def CZ {j:Type} (h:Option j) (g:Int->Option j) (d:Int) (l:Bool):Option j:=cond l (g 3)<|cond (bT d 92) (bF (kU (bT d 92)) fun e=>dL e (fun i=>h) (fun f=>g f.1.1))<|cond (bT d 39) (bF (kU (bT d 39)) fun e=>dL e (fun i=>h) (fun f=>g f.1.1))<|cond (bT d 34) (bF (kU (bT d 34)) fun e=>dL e (fun i=>h) (fun f=>g f.1.1))<|cond (bT d 96) (bF (kU (bT d 96)) fun e=>dL e (fun i=>h) (fun f=>g f.1.1))<|bF (kU (bT d 36)) fun e=>dL e (fun i=>h) (fun f=>g f.1.1)
def jA (d:Int) (e:Bool):Option (wo.den⊕wB.den):=CZ (a6 (.inl ((),()))) (fun f=>a6 (.inr ((f,()),()))) d e
noncomputable def Kv:dA:=fH yF Eo wo wB (.exit 999999) (fun v=>jA v.1.1 v.1.2.1) 18
def En:SP:=⟨us [cJ] 47,[]⟩
def vZ:SP:=⟨[],[]⟩
def wz:SP:=⟨us dx 45,[]⟩
def CY {i:Type} (j:Option i) (e:Int->Option i) (d:Int):Option i:=cond (bT d 124) (bF (jA d (bT d 124)) fun f=>dL f (fun h=>e 0) (fun g=>e g.1.1))<|cond (bT d 38) (bF (jA d (bT d 38)) fun f=>dL f (fun h=>e 0) (fun g=>e g.1.1))<|cond (bT d 59) (bF (jA d (bT d 59)) fun f=>dL f (fun h=>e 0) (fun g=>e g.1.1))<|cond (bT d 60) (bF (jA d (bT d 60)) fun f=>dL f (fun h=>e 0) (fun g=>e g.1.1))<|cond (bT d 62) (bF (jA d (bT d 62)) fun f=>dL f (fun h=>e 0) (fun g=>e g.1.1))<|cond (bT d 40) (bF (jA d (bT d 40)) fun f=>dL f (fun h=>e 0) (fun g=>e g.1.1))<|bF (jA d (bT d 41)) fun f=>dL f (fun h=>e 0) (fun g=>e g.1.1)
def vN (d:Int):Option (vZ.den⊕wz.den):=CY (a6 (.inl ((),()))) (fun e=>a6 (.inr ((e,()),()))) d
noncomputable def Ku:dA:=fH yE En vZ wz (.exit 0) (fun v=>vN v.1.1) 24
def JG (d:qZ.den⊕rq.den):Option lW:=dL d (fun e=>bF (vN e.1.1) fun f=>dL f (fun i=>a7) (fun g=>a6 (g.1.1,()))) (fun h=>a6 (h.1.1,()))
def Pm (d:Int):Option lW:=cond (leI 65 d) (cond (leI d 90) (bF (kT d (leI d 90)) fun e=>JG e)<|bF (kT d (bT d 95)) fun e=>JG e)<|bF (kT d (bT d 95)) fun e=>JG e
def ahX (d:Int):Option lW:=cond (bT d 10) (a6 (2,()))<|cond (leI 48 d) (cond (leI d 57) (a6 (6,()))<|cond (leI 97 d) (cond (leI d 122) (bF (kT d (leI d 122)) fun e=>JG e)<|Pm d)<|Pm d)<|cond (leI 97 d) (cond (leI d 122) (bF (kT d (leI d 122)) fun e=>JG e)<|Pm d)<|Pm d
def JF (d:Int):Option lW:=cond (bT d 32) (cond (bT d 32) (a6 (1,()))<|ahX d)<|cond (bT d 9) (a6 (1,()))<|ahX d
def ahe:Sum:=⟨[.int .u8],Vz,fun x=>JF x.1⟩
noncomputable def qo:Env:=iU prog tt 125 [] [(800011,yD),(800012,yE),(800020,yF),(800026,yG)] [(800011,Kt),(800026,Kw),(800020,Kv),(800012,Ku)]
theorem Us {R:Type} (d:Nat) (K:Ex->St->Option R) (e:Int) (f:Bool):
  iter (a6 yD) (DL (Be qo (d+6) 125 yj)) 1 (lw Em ((e,f,()),())) K=
   CX (fun g=>K (.exit 999999) (lw qZ ((g,()),()))) (fun h=>K .ret (lw rq ((h,()),()))) e f:=by kernel_rfl
theorem YA {R:Type} (d:Nat) (K:Ex->St->Option R) (e:Int) (f:Bool):
  iter (a6 yD) (DL (Be qo (d+6) 125 yj)) 1 (lw Em ((e,f,()),())) K=bF (kT e f) fun o=>dL o (fun a=>K (.exit 999999) (lw qZ a)) fun b=>K .ret (lw rq b):=by
  rw[Us];simp only[kT,CX,cu,cO,bD,bV,cZ]
  try simp only[dL]
theorem YV:uX qo 125 yj Kt:=Jm (by kernel_rfl) fun R d K v o h=>⟨1,(YA d K (v.1.1) (v.1.2.1)).trans (congrArg (fun o=>bF o _) h)⟩
theorem Uw {R:Type} (d:Nat) (K:Ex->St->Option R) (e:Bool):
  iter (a6 yG) (DL (Be qo (d+12) 125 yw)) 1 (lw Ep ((e,()),())) K=
   C9 (K (.exit 999999) (lw wu ((),()))) (fun f=>K .ret (lw wC ((f,()),()))) e:=by kernel_rfl
theorem YD {R:Type} (d:Nat) (K:Ex->St->Option R) (e:Bool):
  iter (a6 yG) (DL (Be qo (d+12) 125 yw)) 1 (lw Ep ((e,()),())) K=bF (kU e) fun o=>dL o (fun a=>K (.exit 999999) (lw wu a)) fun b=>K .ret (lw wC b):=by
  rw[Uw];simp only[kU,C9,cu,cO,bD,bV,cZ]
  try simp only[dL]
theorem YY:uX qo 125 yw Kw:=Jm (by kernel_rfl) fun R d K v o h=>⟨1,(YD d K (v.1.1)).trans (congrArg (fun o=>bF o _) h)⟩
theorem Uu {R:Type} (d:Nat) (K:Ex->St->Option R) (e:Int) (f:Bool):
  iter (a6 yF) (DL (Be qo (d+18) 125 yu)) 1 (lw Eo ((e,f,()),())) K=
   CZ (K (.exit 999999) (lw wo ((),()))) (fun g=>K .ret (lw wB ((g,()),()))) e f:=by kernel_rfl
theorem YC {R:Type} (d:Nat) (K:Ex->St->Option R) (e:Int) (f:Bool):
  iter (a6 yF) (DL (Be qo (d+18) 125 yu)) 1 (lw Eo ((e,f,()),())) K=bF (jA e f) fun o=>dL o (fun a=>K (.exit 999999) (lw wo a)) fun b=>K .ret (lw wB b):=by
  rw[Uu];simp only[jA,CZ,cu,cO,bD,bV,cZ]
  try simp only[dL]
theorem YX:uX qo 125 yu Kv:=Jm (by kernel_rfl) fun R d K v o h=>⟨1,(YC d K (v.1.1) (v.1.2.1)).trans (congrArg (fun o=>bF o _) h)⟩
theorem Ut {R:Type} (d:Nat) (K:Ex->St->Option R) (e:Int):
  iter (a6 yE) (DL (Be qo (d+24) 125 yl)) 1 (lw En ((e,()),())) K=
   CY (K (.exit 0) (lw vZ ((),()))) (fun f=>K .ret (lw wz ((f,()),()))) e:=by kernel_rfl
theorem YB {R:Type} (d:Nat) (K:Ex->St->Option R) (e:Int):
  iter (a6 yE) (DL (Be qo (d+24) 125 yl)) 1 (lw En ((e,()),())) K=bF (vN e) fun o=>dL o (fun a=>K (.exit 0) (lw vZ a)) fun b=>K .ret (lw wz b):=by
  rw[Ut];simp only[vN,CY,cu,cO,bD,bV,cZ]
  try simp only[dL]
theorem YW:uX qo 125 yl Ku:=Jm (by kernel_rfl) fun R d K v o h=>⟨1,(YB d K (v.1.1)).trans (congrArg (fun o=>bF o _) h)⟩
theorem aBQ:jP ab2=[]:=by kernel_rfl
theorem aBa:MF qo 125 ab2=[yj,yl,yu,yw]:=by kernel_rfl
theorem aB3:dO qo 125 ab2:=Ea ab2 (fun x _ d=>absurd (show false=true from d) (by decide)) (by rw[aBQ];exact aN) (JP (by rw[aBa];exact(aD (fC (by kernel_rfl) (YV)) (aD (fC (by kernel_rfl) (YW)) (aD (fC (by kernel_rfl) (YX)) (aD (fC (by kernel_rfl) (YY)) aN))))))
theorem alQ:eP qo:=eA f125 aN (aB3)
theorem wX:dK prog 125 ahe:=sA alQ
def G6 (e:Int):Option uO:=bF (JF e) fun d=>cond (bT d.1 1) (cond (bT d.1 1) (a6 (true,()))<|some (false,()))<|cond (bT d.1 2) (cond (bT d.1 2) (a6 (true,()))<|some (false,()))<|cond (bT d.1 3) (a6 (true,()))<|some (false,())
def aEJ:Sum:=⟨[.int .u8],O7,fun x=>G6 x.1⟩
theorem Xn:dK prog 227 aEJ:=qA f227 [] (sE wX aN)
def JH (d:Int) (e:List oz) (f:Int):Option (taN×(Unit)):=bF (G6 d) fun g=>a6 ((e,(g.1,(f,()))),())
def V3 (f:List oz) (h:Bool) (g j e:Int):Option (taN×(Unit)):=cond (bT e 92) (bF (xu f h g 13) fun d=>a6 ((d.1.1,(d.1.2.1,(d.1.2.2.1,()))),()))<|cond (bT e 35) (cond h (bF (xu f h g 14) fun d=>a6 ((d.1.1,(d.1.2.1,(d.1.2.2.1,()))),()))<|JH e f g)<|cond (bT e 40) (cond (!(bT j 0)) (bF (xu f h g 2) fun d=>bF (G6 e) fun i=>a6 ((d.1.1,(i.1,(d.1.2.2.1,()))),()))<|JH e f g)<|cond (bT e 41) (cond (!(bT j 0)) (bF (xq f h g) fun d=>a6 ((d.1.1,((!(bT j 1)),(d.1.2.2.1,()))),()))<|some ((f,((!(bT j 1)),(g,()))),()))<|cond (bT e 39) (bF (xu f h g 4) fun d=>bF (G6 e) fun i=>a6 ((d.1.1,(i.1,(d.1.2.2.1,()))),()))<|cond (bT e 34) (bF (xu f h g 5) fun d=>bF (G6 e) fun i=>a6 ((d.1.1,(i.1,(d.1.2.2.1,()))),()))<|cond (bT e 36) (cond (bT e 36) (bF (RU f h g e) fun d=>bF (G6 e) fun i=>a6 ((d.1.1,(i.1,(d.1.2.2.1,()))),()))<|JH e f g)<|cond (bT e 96) (bF (RU f h g e) fun d=>bF (G6 e) fun i=>a6 ((d.1.1,(i.1,(d.1.2.2.1,()))),()))<|JH e f g
def aEp:fF:=⟨168,tzC,[di,.int .u8],[],fun x y=>V3 x.1 x.2.1 x.2.2.1 y.1 y.2.1⟩
theorem anS:dI prog 176 aEp:=qB [] (sE Xn aN) (sF wY (sF Bv (sF NG aN)))
def ah4 (g:List oz) (h:Bool) (i j f:Int):Option (taN×(Unit)):=bF (RU g h i f) fun d=>cond d.2.1 (a6 ((d.1.1,(d.1.2.1,(d.1.2.2.1,()))),()))<|cond (bT f 40) (bF (xu d.1.1 d.1.2.1 d.1.2.2.1 10) fun e=>a6 ((e.1.1,(e.1.2.1,(e.1.2.2.1,()))),()))<|cond (bT f 41) (cond (bT j 10) (bF (xq d.1.1 d.1.2.1 d.1.2.2.1) fun e=>a6 ((e.1.1,(e.1.2.1,(e.1.2.2.1,()))),()))<|cond (bT f 41) (bF (vg d.1.1 d.1.2.1 d.1.2.2.1 11) fun e=>a6 ((e.1.1,(e.1.2.1,(e.1.2.2.1,()))),()))<|some ((d.1.1,(d.1.2.1,(d.1.2.2.1,()))),()))<|cond (bT f 41) (bF (vg d.1.1 d.1.2.1 d.1.2.2.1 11) fun e=>a6 ((e.1.1,(e.1.2.1,(e.1.2.2.1,()))),()))<|some ((d.1.1,(d.1.2.1,(d.1.2.2.1,()))),())
def aEr:fF:=⟨168,tzC,[di,.int .u8],[],fun x y=>ah4 x.1 x.2.1 x.2.2.1 y.1 y.2.1⟩
theorem anT:dI prog 178 aEr:=qB [] aN (sF Nv (sF wY (sF Bv (sF NG aN))))
def Yj (f g:Int) (d:(taN×uO)):Option (taN×(Unit)):=cond (bT f 39) (cond (bT g 7) (bF (xu d.1.1 d.1.2.1 d.1.2.2.1 4) fun e=>a6 ((e.1.1,(e.1.2.1,(e.1.2.2.1,()))),()))<|some ((d.1.1,(d.1.2.1,(d.1.2.2.1,()))),()))<|some ((d.1.1,(d.1.2.1,(d.1.2.2.1,()))),())
def Yk (f:Int) (d:(taN×uO)) (g:Int):Option (taN×(Unit)):=cond (bT f 34) (bF (xu d.1.1 d.1.2.1 d.1.2.2.1 5) fun e=>a6 ((e.1.1,(e.1.2.1,(e.1.2.2.1,()))),()))<|cond (bT f 125) (cond (!(bT g 5)) (bF (xq d.1.1 d.1.2.1 d.1.2.2.1) fun e=>a6 ((e.1.1,(e.1.2.1,(e.1.2.2.1,()))),()))<|Yj f g d)<|Yj f g d
def ah5 (h:List oz) (i:Bool) (j f e:Int):Option (taN×(Unit)):=bF (RU h i j e) fun d=>cond d.2.1 (a6 ((d.1.1,(d.1.2.1,(d.1.2.2.1,()))),()))<|cond (bT e 34) (cond (bT f 5) (bF (xq d.1.1 d.1.2.1 d.1.2.2.1) fun g=>a6 ((g.1.1,(g.1.2.1,(g.1.2.2.1,()))),()))<|Yk e d f)<|Yk e d f
def aEs:fF:=⟨168,tzC,[di,.int .u8],[],fun x y=>ah5 x.1 x.2.1 x.2.2.1 y.1 y.2.1⟩
theorem anU:dI prog 179 aEs:=qB [] aN (sF wY (sF Bv (sF NG aN)))
def BM (h:Int) (e:List oz) (f:Bool) (g i:Int):Option (taN×(Unit)):=cond (bT h 13) (bF (xq e f g) fun d=>cond d.1.2.1 (a6 ((d.1.1,((bT i 10),(d.1.2.2.1,()))),()))<|some ((d.1.1,(false,(d.1.2.2.1,()))),()))<|cond (bT h 4) (cond (bT i 39) (bF (xq e f g) fun d=>a6 ((d.1.1,(d.1.2.1,(d.1.2.2.1,()))),()))<|some ((e,(f,(g,()))),()))<|cond (bT h 14) (cond (bT i 10) (bF (xq e f g) fun d=>a6 ((d.1.1,(true,(d.1.2.2.1,()))),()))<|some ((e,(f,(g,()))),()))<|cond (bT h 6) (cond (bT i 96) (bF (xq e f g) fun d=>a6 ((d.1.1,(d.1.2.1,(d.1.2.2.1,()))),()))<|cond (bT i 92) (bF (xu e f g 13) fun d=>a6 ((d.1.1,(d.1.2.1,(d.1.2.2.1,()))),()))<|some ((e,(f,(g,()))),()))<|cond (bT h 9) (cond (bT h 9) (bF (ah4 e f g h i) fun d=>a6 ((d.1.1,(d.1.2.1,(d.1.2.2.1,()))),()))<|bF (ah5 e f g h i) fun d=>a6 ((d.1.1,(d.1.2.1,(d.1.2.2.1,()))),()))<|cond (bT h 10) (bF (ah4 e f g h i) fun d=>a6 ((d.1.1,(d.1.2.1,(d.1.2.2.1,()))),()))<|bF (ah5 e f g h i) fun d=>a6 ((d.1.1,(d.1.2.1,(d.1.2.2.1,()))),())
def NV (f:List oz) (g:Bool) (h d i:Int):Option (taN×(Unit)):=cond (bT d 0) (cond (bT d 0) (bF (V3 f g h d i) fun e=>a6 ((e.1.1,(e.1.2.1,(e.1.2.2.1,()))),()))<|BM d f g h i)<|cond (bT d 1) (cond (bT d 1) (bF (V3 f g h d i) fun e=>a6 ((e.1.1,(e.1.2.1,(e.1.2.2.1,()))),()))<|BM d f g h i)<|cond (bT d 2) (bF (V3 f g h d i) fun e=>a6 ((e.1.1,(e.1.2.1,(e.1.2.2.1,()))),()))<|BM d f g h i
def auB:fF:=⟨168,tzC,[di,.int .u8],[],fun x y=>NV x.1 x.2.1 x.2.2.1 y.1 y.2.1⟩
theorem anF:dI prog 132 auB:=qB [] aN (sF wY (sF anS (sF Bv (sF anT (sF anU aN)))))
noncomputable def b84:Code:=(f84.body).getD .skip
noncomputable def ahG:Code:=cA (cA (cA (cB (cB (cA (b84))))))
def arV:eG:=⟨[0,1,100002],[],[0],[],[],[]⟩
def BV:eG:=⟨[0,1],[],[],[],[],[]⟩
def ajN:SQ:=⟨us [ct,cJ] 63,dc,d9⟩
def agz:SQ:=⟨us bO 64,dc,d9⟩
def agT:SQ:=⟨us [] 65,dc,[]⟩
def aha {j:Type} (m:Int->(List oz)->Bool->Int->(List oz)->Option j) (l:(List oz)->Bool->Int->(List oz)->Option j) (o:Option j) (f:Int) (e:List oz) (h:Bool) (i:Int) (g:List oz):Option j:=cond (gm e (eF .i64 (bG e) 1)) (cond (ni (dw (eF .i64 (bG e) 1)) e) (cond (bT (dD e (0,(0,())) (dw (eF .i64 (bG e) 1))).1 12) (bF (NU e h i f) fun d=>cond d.2.1 (l d.1.1 d.1.2.1 d.1.2.2.1 g)<|m f d.1.1 d.1.2.1 d.1.2.2.1 g)<|cond (bT (dD e (0,(0,())) (dw (eF .i64 (bG e) 1))).1 3) (cond (bT f 40) (bF (vg e h i 9) fun d=>l d.1.1 false d.1.2.2.1 g)<|bF (vg e h i 1) fun d=>m f d.1.1 d.1.2.1 d.1.2.2.1 g)<|cond (bT (dD e (0,(0,())) (dw (eF .i64 (bG e) 1))).1 11) (cond (bT f 41) (bF (xq e h i) fun d=>l d.1.1 d.1.2.1 d.1.2.2.1 g)<|bF (vg e h i 9) fun d=>m f d.1.1 d.1.2.1 d.1.2.2.1 g)<|bF (NV e h i (dD e (0,(0,())) (dw (eF .i64 (bG e) 1))).1 f) fun d=>l d.1.1 d.1.2.1 d.1.2.2.1 g) a7) a7
def af4:Nat->Int->(List oz)->Bool->Int->(List oz)->Option (agz.den⊕agT.den)
 |0,_,_,_,_,_=>a7
 |n+1,d,e,f,g,h=>aha (af4 n) (fun i j l m=>a6 (.inl ((),((),()),(i,(j,l,()),m,())))) (a6 (.inr ((),((),()),()))) d e f g h
def aCR (n:Nat) (v:ajN.den):=af4 n v.1.1 v.2.2.1 v.2.2.2.1.1 v.2.2.2.1.2.1 v.2.2.2.2.1
noncomputable def af8:dA:=fK arV ajN agz agT (.exit 0) (aCR bJ) 6
def PM:SQ:=⟨us [ct,cJ] 63,dc,eM⟩
def TM:SQ:=⟨us bO 64,dc,eM⟩
def TV:SQ:=⟨us [] 65,dc,[]⟩
def EN {i:Type} (l:Int->Bool->Int->(List oz)->Option i) (j:Bool->Int->(List oz)->Option i) (m:Option i) (f:Int) (g:Bool) (h:Int) (e:List oz):Option i:=cond (gm e (eF .i64 (bG e) 1)) (cond (ni (dw (eF .i64 (bG e) 1)) e) (cond (bT (dD e (0,(0,())) (dw (eF .i64 (bG e) 1))).1 12) (bF (NU e g h f) fun d=>cond d.2.1 (j d.1.2.1 d.1.2.2.1 d.1.1)<|l f d.1.2.1 d.1.2.2.1 d.1.1)<|cond (bT (dD e (0,(0,())) (dw (eF .i64 (bG e) 1))).1 3) (cond (bT f 40) (bF (vg e g h 9) fun d=>j false d.1.2.2.1 d.1.1)<|bF (vg e g h 1) fun d=>l f d.1.2.1 d.1.2.2.1 d.1.1)<|cond (bT (dD e (0,(0,())) (dw (eF .i64 (bG e) 1))).1 11) (cond (bT f 41) (bF (xq e g h) fun d=>j d.1.2.1 d.1.2.2.1 d.1.1)<|bF (vg e g h 9) fun d=>l f d.1.2.1 d.1.2.2.1 d.1.1)<|bF (NV e g h (dD e (0,(0,())) (dw (eF .i64 (bG e) 1))).1 f) fun d=>j d.1.2.1 d.1.2.2.1 d.1.1) a7) a7
def AX:Nat->Int->Bool->Int->(List oz)->Option (TM.den⊕TV.den)
 |0,_,_,_,_=>a7
 |n+1,d,e,f,g=>EN (AX n) (fun h i j=>a6 (.inl ((),((),()),((h,i,()),j,())))) (a6 (.inr ((),((),()),()))) d e f g
def asn (n:Nat) (v:PM.den):=AX n v.1.1 v.2.2.1.1 v.2.2.1.2.1 v.2.2.2.1
noncomputable def Td:dA:=fK arV PM TM TV (.exit 0) (asn bJ) 12
def amL (e:List oz) (h:Bool) (i g:Int):Option (taN×(Unit)):=cond (bT (bG e) 0) (bF (af4 bJ g [(0,(0,()))] true 0 e) fun f=>dL f (fun d=>a6 ((d.2.2.1,(d.2.2.2.1.1,((bZ .i64 d.2.2.2.1.2.1 1),()))),())) (fun j=>a7))<|bF (AX bJ g h i e) fun f=>dL f (fun d=>a6 ((d.2.2.2.1,(d.2.2.1.1,((bZ .i64 d.2.2.1.2.1 1),()))),())) (fun j=>a7)
def alg:fF:=⟨168,tzC,[.int .u8],[],fun x y=>amL x.1 x.2.1 x.2.2.1 y.1⟩
noncomputable def acl:Env:=gQ prog tt [] [(84,2,arV),(84,600001,BV)] [(84,2,kN af8 Td)] [] [(129,auy),(130,auz),(131,auA),(132,auB)]
def atV {d:Type} (a:ajN.den->Option d) (b:agz.den->Option d) (c:agT.den->Option d) (v:ajN.den):Option d:=aha (fun e f g h i=>a ((e,()),((),()),(f,(g,h,()),i,()))) (fun j l m o=>b ((),((),()),(j,(l,m,()),o,()))) (c ((),((),()),())) v.1.1 v.2.2.1 v.2.2.2.1.1 v.2.2.2.1.2.1 v.2.2.2.2.1
theorem aDk:dQ acl 84 ahG af8:=mO (atV) (h2:=by intros;simp only[atV,aha,cu,cO,bD,bV,cZ])
def aed {d:Type} (a:PM.den->Option d) (b:TM.den->Option d) (c:TV.den->Option d) (v:PM.den):Option d:=EN (fun e f g h=>a ((e,()),((),()),((f,g,()),h,()))) (fun i j l=>b ((),((),()),((i,j,()),l,()))) (c ((),((),()),())) v.1.1 v.2.2.1.1 v.2.2.1.2.1 v.2.2.2.1
theorem as2:dQ acl 84 ahG Td:=mO (aed) (h2:=by intros;simp only[aed,EN,cu,cO,bD,bV,cZ])
theorem aHn:dO acl 84 b84:=pI [ahG] (aD (fun L h=>by rw[show(acl).lp 84 (dC ahG)=a6 (kN af8 Td) by kernel_rfl]at h;cases h;exact rX aDk as2) aN)
theorem aql:eP acl:=eB aN [84] (aD ⟨f84,b84,by kernel_rfl,by kernel_rfl,aHn⟩ aN) (hx:=(aD anE (aD Nv (aD wY (aD anF aN)))))
theorem UE:dI prog 84 alg:=sB aql
def V4 (d:Int):Option lW:=cond (bT d 3) (a6 (1,()))<|cond (bT d 11) (a6 (9,()))<|some (d,())
def auO:Sum:=⟨[di],Vz,fun x=>V4 x.1⟩
theorem anW:dK prog 182 auO:=qA f182 [] aN
noncomputable def avN:Code:=(f136.body).getD .skip
noncomputable def ao2:Code:=cA (cA (cB (cA (cB (avN)))))
noncomputable def ao3:Code:=cA (cA (cB (cB (cB (avN)))))
def arv:eG:=⟨[0,1,2,6,100002],[],[0,1],[],[],[]⟩
def arw:eG:=⟨[0,77,78,79,100009],[],[],[],[],[]⟩
def Zc:SQ:=⟨us [ct,d6,bR,.u,.u,.u,bR] 141,dc,cD⟩
def ZP:SQ:=⟨us [ct,d6] 146,dc,cD⟩
def aaw:SQ:=⟨us [] 148,dc,[]⟩
def jg (d:jo) (e:Int):=dD d 0 (dw (eF .i64 e 1))
def wQ (d:List iZ) (e:jo) (f g:Int):=ik d (dw (jg e f)) ((dD d (0,(0,(0,(0,(false,()))))) (dw (jg e f))).1,((dD d (0,(0,(0,(0,(false,()))))) (dw (jg e f))).2.1,((bZ .i64 g 1),((dD d (0,(0,(0,(0,(false,()))))) (dw (jg e f))).2.2.2.1,((dD d (0,(0,(0,(0,(false,()))))) (dw (jg e f))).2.2.2.2.1,())))))
def wR (f:List iZ) (d:jo) (e g:Int):=dD (wQ f d e g) (0,(0,(0,(0,(false,()))))) (dw (jg d e))
def Gm {h:Type} (f:List iZ) (e:jo) (d g:Int) (i:(List oz)->Int->Int->(List iZ)->jo->Option h) (j:List oz):Option h:=cond (gm f (jg e d)) (cond (ni (dw (jg e d)) f) (cond (gm (wQ f e d g) (jg e d)) (cond (ni (dw (jg e d)) (wQ f e d g)) (cond (eU (bG e) 0 (eF .i64 d 1)) (i j g (eF .i64 d 1) (ik (wQ f e d g) (dw (jg e d)) ((wR f e d g).1,((wR f e d g).2.1,((wR f e d g).2.2.1,((wR f e d g).2.2.2.1,(false,())))))) (takeN e (dw (eF .i64 d 1)))) a7) a7) a7) a7) a7
def Qd {h:Type} (i:(List oz)->Int->Int->(List iZ)->jo->Option h) (j:(List oz)->(List iZ)->jo->Option h) (m:Option h) (f:List oz) (l d:Int) (g:List iZ) (e:jo):Option h:=cond (iq 0 d) (cond (gm e (eF .i64 d 1)) (cond (ni (dw (eF .i64 d 1)) e) (cond (leI d (bG f)) (cond (gm f (eF .i64 d 1)) (cond (gm g (jg e d)) (cond (ni (dw (jg e d)) g) (cond (bT (eX f (0,(0,())) (eF .i64 d 1)).2.1 (dD g (0,(0,(0,(0,(false,()))))) (dw (jg e d))).2.1) (j f g e)<|Gm g e d l i f) a7) a7) a7)<|Gm g e d l i f) a7) a7)<|j f g e
def JX:Nat->(List oz)->Int->Int->(List iZ)->jo->Option (ZP.den⊕aaw.den)
 |0,_,_,_,_,_=>a7
 |n+1,d,e,f,g,h=>Qd (JX n) (fun i j l=>a6 (.inl ((i,()),((),()),((),j,l,())))) (a6 (.inr ((),((),()),()))) d e f g h
def aw8 (n:Nat) (v:Zc.den):=JX n v.1.1 v.1.2.1 v.1.2.2.1 v.2.2.2.1 v.2.2.2.2.1
noncomputable def aiT:dA:=fK arv Zc ZP aaw (.exit 0) (aw8 bJ) 6
def Zd:SQ:=⟨us [ct,.u,.u,.u,.u,.u,.u,.u,.u,.u,.u,.u,.u,.u,.u,.u,.u,.u,.u,.u,.u,.u,.u,.u,.u,.u,.u,.u,.u,.u,.u,.u,.u,.u,.u,.u,.u,.u,.u,.u,.u,.u,.u,.u,.u,.u,.u,.u,.u,.u,.u,.u,.u,.u,.u,.u,.u,.u,.u,.u,.u,.u,.u,.u,.u,.u,.u,.u,.u,.u,.u,.u,.u,.u,.u,.u,.u,d6,bR,bR] 68,dc,cD⟩
def ZQ:SQ:=⟨us [] 148,dc,cD⟩
def aax:SQ:=⟨us [] 148,dc,[]⟩
def jZ (d:List iZ) (e:jo) (f:Int):=dD d (0,(0,(0,(0,(false,()))))) (dw (dD e 0 (dw f)))
def lU (d:List oz) (e:Int):=bT (eX d (0,(0,())) e).2.1 (eX d (0,(0,())) e).2.1
def lV (d:List oz) (e:Int):=bT (eX d (0,(0,())) e).1 (eX d (0,(0,())) e).1
def Dc {i:Type} (l:(List oz)->Int->Int->(List iZ)->jo->Option i) (m:(List iZ)->jo->Option i) (o:Option i) (g:List oz) (j d:Int) (f:List iZ) (e:jo):Option i:=cond (iq d j) (cond (gm g d) (cond (iq d (bG e)) (cond (gm e d) (cond (ni (dw d) e) (bF (V4 (eX g (0,(0,())) d).1) fun h=>cond (gm f (dD e 0 (dw d))) (cond (ni (dw (dD e 0 (dw d))) f) (cond (gm (ik f (dw (dD e 0 (dw d))) (h.1,((jZ f e d).2.1,((jZ f e d).2.2.1,((jZ f e d).2.2.2.1,((jZ f e d).2.2.2.2.1,())))))) (dD e 0 (dw d))) (cond ((eqN (dw (dD e 0 (dw d))) (dw (dD e 0 (dw d))))&&true) (l g j (bZ .i64 d 1) (ik f (dw (dD e 0 (dw d))) (h.1,((jZ f e d).2.1,((jZ f e d).2.2.1,((jZ f e d).2.2.2.1,((jZ f e d).2.2.2.2.1,())))))) e) a7) a7) a7) a7) a7) a7)<|cond (iq 0 d) (cond (gm e (eF .i64 d 1)) (cond (ni (dw (eF .i64 d 1)) e) (cond (dV (bM e [(bG f)]) 8) (cond (bT (bG f) (bG f)) (bF (V4 (eX g (0,(0,())) d).1) fun h=>cond (lV g d) (cond (lU g d) (cond (bT (dD e 0 (dw (eF .i64 d 1))) (dD e 0 (dw (eF .i64 d 1)))) (cond (((lV g d)&&true)&&((bT h.1 h.1)&&true)) (cond (dV (bM f [(h.1,((eX g (0,(0,())) d).2.1,(0,((dD e 0 (dw (eF .i64 d 1))),(true,())))))]) 40) (cond (lV g d) (cond (lU g d) (cond (bT (dD e 0 (dw (eF .i64 d 1))) (dD e 0 (dw (eF .i64 d 1)))) (cond ((bT h.1 h.1)&&((lU g d)&&((bT 0 0)&&((bT (dD e 0 (dw (eF .i64 d 1))) (dD e 0 (dw (eF .i64 d 1))))&&((jr true true)&&true))))) (l g j (bZ .i64 d 1) (bM f [(h.1,((eX g (0,(0,())) d).2.1,(0,((dD e 0 (dw (eF .i64 d 1))),(true,())))))]) (bM e [(bG f)])) a7) a7) a7) a7) a7) a7) a7) a7) a7) a7) a7) a7) a7)<|cond (dV (bM e [(bG f)]) 8) (cond (bT (bG f) (bG f)) (bF (V4 (eX g (0,(0,())) d).1) fun h=>cond (lV g d) (cond (lU g d) (cond (bT (-1) (-1)) (cond (((lV g d)&&true)&&((bT h.1 h.1)&&true)) (cond (dV (bM f [(h.1,((eX g (0,(0,())) d).2.1,(0,((-1),(true,())))))]) 40) (cond (lV g d) (cond (lU g d) (cond (bT (-1) (-1)) (cond ((bT h.1 h.1)&&((lU g d)&&((bT 0 0)&&((bT (-1) (-1))&&((jr true true)&&true))))) (l g j (bZ .i64 d 1) (bM f [(h.1,((eX g (0,(0,())) d).2.1,(0,((-1),(true,())))))]) (bM e [(bG f)])) a7) a7) a7) a7) a7) a7) a7) a7) a7) a7) a7) a7)<|m f e
def tq:Nat->(List oz)->Int->Int->(List iZ)->jo->Option (ZQ.den⊕aax.den)
 |0,_,_,_,_,_=>a7
 |n+1,d,e,f,g,h=>Dc (tq n) (fun i j=>a6 (.inl ((),((),()),((),i,j,())))) (a6 (.inr ((),((),()),()))) d e f g h
def aw9 (n:Nat) (v:Zd.den):=tq n v.1.1 v.1.2.1 v.1.2.2.1 v.2.2.2.1 v.2.2.2.2.1
noncomputable def aiU:dA:=fK arw Zd ZQ aax (.exit 2) (aw9 bJ) 12
def acx (h:List iZ) (f:jo) (d:List oz) (i:Int):Option (((List iZ)×jo×Unit)×(Unit)):=cond (eU (bG d) 1 (bG d)) (bF (JX bJ (sub d 1 (bG d)) i (bG f) h f) fun j=>dL j (fun e=>bF (tq bJ e.1.1 (bG e.1.1) 0 e.2.2.2.1 e.2.2.2.2.1) fun l=>dL l (fun g=>a6 ((g.2.2.2.1,(g.2.2.2.2.1,())),())) (fun m=>a7)) (fun o=>a7)) a7
def auC:fF:=⟨174,[(.list Jb,true),(.list di,true)],[.list U1,di],[],fun x y=>acx x.1 x.2.1 y.1 y.2.1⟩
noncomputable def X5:Env:=gQ prog tt [(182,auO)] [(136,2,arv),(136,9,arw)] [(136,2,aiT),(136,9,aiU)] []
def akg {d:Type} (a:Zc.den->Option d) (b:ZP.den->Option d) (c:aaw.den->Option d) (v:Zc.den):Option d:=Qd (fun e f g h i=>a ((e,f,g,()),((),()),((),h,i,()))) (fun j l m=>b ((j,()),((),()),((),l,m,()))) (c ((),((),()),())) v.1.1 v.1.2.1 v.1.2.2.1 v.2.2.2.1 v.2.2.2.2.1
theorem axV:dQ X5 136 ao2 aiT:=mO (akg) (h2:=by intros;simp only[akg,Qd,cu,cO,bD,bV,cZ,jg,wQ,wR,Gm])
def akh {d:Type} (a:Zd.den->Option d) (b:ZQ.den->Option d) (c:aax.den->Option d) (v:Zd.den):Option d:=Dc (fun e f g h i=>a ((e,f,g,()),((),()),((),h,i,()))) (fun j l=>b ((),((),()),((),j,l,()))) (c ((),((),()),())) v.1.1 v.1.2.1 v.1.2.2.1 v.2.2.2.1 v.2.2.2.2.1
theorem axW:dQ X5 136 ao3 aiU:=mO (akh) (h2:=by intros;simp only[akh,Dc,cu,cO,bD,bV,cZ,jZ,lU,lV])
theorem aB4:dO X5 136 avN:=pI [ao2,ao3] (aD (fM (axV)) (aD (fM (axW)) aN))
theorem alT:eP X5:=eB (aD anW aN) [136] (aD ⟨f136,avN,by kernel_rfl,by kernel_rfl,aB4⟩ aN)
theorem anG:dI prog 136 auC:=sB alT
def acB (d:Int):Option uO:=bF (JF d) fun e=>a6 ((bT e.1 6),())
def ahg:Sum:=⟨[.int .u8],O7,fun x=>acB x.1⟩
theorem Xf:dK prog 170 ahg:=qA f170 [] (sE wX aN)
noncomputable def QR:Code:=(Tryz.f169.body).getD .skip
noncomputable def Q4:Code:=cA (cA (cA (cB (cB (cB (cA (cB (QR))))))))
def xC:eG:=⟨[0,1,2,7,180000004],[],[7],[],[6],[]⟩
def Og:eG:=⟨[0,1,2,7],[],[],[],[],[]⟩
def Cj:SQ:=⟨us [bS,bR,.fn 170 [],.u,.u,.u,.u,bR] 25,[d8,[]],[]⟩
def Et:SQ:=⟨dt,[d8,[]],[]⟩
def ED:SQ:=⟨us [] 33,[d8,[]],[]⟩
def yX {e:Type} (o:bW->Int->Int->bW->Int->bW->Int->Option e) (m:Int->bW->Int->bW->Int->Option e) (q:bW->Int->bW->Int->Option e) (f:bW) (g d:Int) (h:bW) (i:Int) (j:bW) (l:Int):Option e:=cond (iq (bZ .i64 g d) (bG f)) (cond (gm f (bZ .i64 g d)) (bF (acB (bY f (bZ .i64 g d))) fun p=>cond (!p.1) (m d h i j l)<|o f g (bZ .i64 d 1) h i j l) a7)<|m d h i j l
def qF:Nat->bW->Int->Int->bW->Int->bW->Int->Option (Et.den⊕ED.den)
 |0,_,_,_,_,_,_,_=>a7
 |n+1,d,e,f,g,h,i,j=>yX (qF n) (fun l m o p q=>a6 (.inl ((l,()),((m,o,p,q,()),(),()),()))) (fun s u v x=>a6 (.inr ((),((s,u,v,x,()),(),()),()))) d e f g h i j
def adl (n:Nat) (v:Cj.den):=ar (qF n) v
noncomputable def Oj:dA:=fK xC Cj Et ED (.exit 0) (adl bJ) 6
def DW (e:bW) (d:Int):Option lW:=cond (iq d 0) (a6 (0,()))<|cond (leI (bG e) d) (a6 (0,()))<|bF (qF bJ e d 0 e d e d) fun f=>dL f (fun g=>a6 (g.1.1,())) (fun h=>a7)
def aEd:Sum:=⟨[.str,di],Vz,fun x=>DW x.1 x.2.1⟩
noncomputable def ae3:Env:=gQ prog tt [(170,ahg)] [(169,4,xC),(127,600001,BV),(169,600006,Og)] [(169,4,Oj)] []
def OG {d:Type} (a:Cj.den->Option d) (b:Et.den->Option d) (c:ED.den->Option d) (v:Cj.den):Option d:=ar (yX (fun e f g h i j l=>a ((e,f,g,()),((h,i,j,l,()),(),()),())) (fun m o p q s=>b ((m,()),((o,p,q,s,()),(),()),())) (fun u x y z=>c ((),((u,x,y,z,()),(),()),()))) v
theorem adI:dQ ae3 169 Q4 Oj:=mO (OG) (h2:=by intros;simp only[OG,ar,yX,cu,cO,bD,bV,cZ])
theorem afR:dO ae3 169 QR:=pI [Q4] (aD (fM (adI)) aN)
theorem alR:eP ae3:=eB (aD Xf aN) [169] (aD ⟨Tryz.f169,QR,by kernel_rfl,by kernel_rfl,afR⟩ aN)
theorem Xc:dK prog 127 aEd:=sA alR
def acC (d:Int):Option uO:=bF (JF d) fun e=>a6 ((bT e.1 5),())
def auN:Sum:=⟨[.int .u8],O7,fun x=>acC x.1⟩
theorem anV:dK prog 180 auN:=qA f180 [] (sE wX aN)
noncomputable def QS:Code:=(Tryz.f169.body).getD .skip
noncomputable def BF:Code:=cA (cA (cA (cB (cB (cB (cA (cB (QS))))))))
def Cm:SQ:=⟨us [bS,bR,.fn 181 [],.u,.u,.u,.u,bR] 25,[c7,[]],[]⟩
def Eu:SQ:=⟨dt,[c7,[]],[]⟩
def EE:SQ:=⟨us [] 33,[c7,[]],[]⟩
def yY {g:Type} (m:bW->Int->Int->bW->Int->bW->Int->Option g) (o:Int->bW->Int->bW->Int->Option g) (s:bW->Int->bW->Int->Option g) (e:bW) (f d:Int) (h:bW) (i:Int) (j:bW) (l:Int):Option g:=cond (iq (bZ .i64 f d) (bG e)) (cond (gm e (bZ .i64 f d)) (bF (acC (bY e (bZ .i64 f d))) fun p=>cond p.1 (m e f (bZ .i64 d 1) h i j l)<|bF (acB (bY e (bZ .i64 f d))) fun q=>cond (!q.1) (o d h i j l)<|m e f (bZ .i64 d 1) h i j l) a7)<|o d h i j l
def nZ:Nat->bW->Int->Int->bW->Int->bW->Int->Option (Eu.den⊕EE.den)
 |0,_,_,_,_,_,_,_=>a7
 |n+1,d,e,f,g,h,i,j=>yY (nZ n) (fun l m o p q=>a6 (.inl ((l,()),((m,o,p,q,()),(),()),()))) (fun s u v x=>a6 (.inr ((),((s,u,v,x,()),(),()),()))) d e f g h i j
def adm (n:Nat) (v:Cm.den):=ar (nZ n) v
noncomputable def Ed:dA:=fK xC Cm Eu EE (.exit 0) (adm bJ) 6
def vT:SQ:=⟨us [bS,bR,.fn 180 [],.u,.u,.u,.u,bR] 25,[c8,[]],[]⟩
def zH:SQ:=⟨dt,[c8,[]],[]⟩
def zN:SQ:=⟨us [] 33,[c8,[]],[]⟩
def tJ {e:Type} (o:bW->Int->Int->bW->Int->bW->Int->Option e) (m:Int->bW->Int->bW->Int->Option e) (q:bW->Int->bW->Int->Option e) (f:bW) (g d:Int) (h:bW) (i:Int) (j:bW) (l:Int):Option e:=cond (iq (bZ .i64 g d) (bG f)) (cond (gm f (bZ .i64 g d)) (bF (acC (bY f (bZ .i64 g d))) fun p=>cond (!p.1) (m d h i j l)<|o f g (bZ .i64 d 1) h i j l) a7)<|m d h i j l
def mZ:Nat->bW->Int->Int->bW->Int->bW->Int->Option (zH.den⊕zN.den)
 |0,_,_,_,_,_,_,_=>a7
 |n+1,d,e,f,g,h,i,j=>tJ (mZ n) (fun l m o p q=>a6 (.inl ((l,()),((m,o,p,q,()),(),()),()))) (fun s u v x=>a6 (.inr ((),((s,u,v,x,()),(),()),()))) d e f g h i j
def U7 (n:Nat) (v:vT.den):=ar (mZ n) v
noncomputable def zy:dA:=fK xC vT zH zN (.exit 0) (U7 bJ) 12
def Yh (d:Int) (e:bW):Option lW:=cond (bT 0 0) (a6 (0,()))<|cond (iq d 0) (a6 (0,()))<|cond (leI (bG e) d) (a6 (0,()))<|bF (nZ bJ e d 0 e d e d) fun f=>dL f (fun g=>a6 (g.1.1,())) (fun h=>a7)
def RN (f:bW) (e:Int):Option lW:=cond (iq e 0) (Yh e f)<|cond (leI (bG f) e) (Yh e f)<|bF (mZ bJ f e 0 f e f e) fun g=>dL g (fun d=>cond (bT d.1.1 0) (a6 (0,()))<|cond (iq d.2.1.1.2.1 0) (a6 (0,()))<|cond (leI (bG d.2.1.1.1) d.2.1.1.2.1) (a6 (0,()))<|bF (nZ bJ d.2.1.1.1 d.2.1.1.2.1 0 d.2.1.1.1 d.2.1.1.2.1 d.2.1.1.1 d.2.1.1.2.1) fun h=>dL h (fun i=>a6 (i.1.1,())) (fun j=>a7)) (fun l=>a7)
def aEe:Sum:=⟨[.str,di],Vz,fun x=>RN x.1 x.2.1⟩
noncomputable def Rt:Env:=gQ prog tt [(180,auN),(170,ahg)] [(169,4,xC),(135,600001,BV),(135,600003,BV),(169,600006,Og)] [(169,4,kN Ed zy)] []
def OH {d:Type} (a:Cm.den->Option d) (b:Eu.den->Option d) (c:EE.den->Option d) (v:Cm.den):Option d:=ar (yY (fun e f g h i j l=>a ((e,f,g,()),((h,i,j,l,()),(),()),())) (fun m o p q s=>b ((m,()),((o,p,q,s,()),(),()),())) (fun u x y z=>c ((),((u,x,y,z,()),(),()),()))) v
theorem adJ:dQ Rt 169 BF Ed:=mO (OH) (h2:=by intros;simp only[OH,ar,yY,cu,cO,bD,bV,cZ])
def Hr {d:Type} (a:vT.den->Option d) (b:zH.den->Option d) (c:zN.den->Option d) (v:vT.den):Option d:=ar (tJ (fun e f g h i j l=>a ((e,f,g,()),((h,i,j,l,()),(),()),())) (fun m o p q s=>b ((m,()),((o,p,q,s,()),(),()),())) (fun u x y z=>c ((),((u,x,y,z,()),(),()),()))) v
theorem Vg:dQ Rt 169 BF zy:=mO (Hr) (h2:=by intros;simp only[Hr,ar,tJ,cu,cO,bD,bV,cZ])
theorem afS:dO Rt 169 QS:=pI [BF] (aD (fun L h=>by rw[show(Rt).lp 169 (dC BF)=a6 (kN Ed zy) by kernel_rfl]at h;cases h;exact rX adJ Vg) aN)
theorem alS:eP Rt:=eB (aD anV (aD Xf aN)) [169] (aD ⟨Tryz.f169,QS,by kernel_rfl,by kernel_rfl,afS⟩ aN)
theorem Nw:dK prog 135 aEe:=sA alS
def VY (e:bW) (d:Int):Option lW:=bF (RN e d) fun g=>cond (iq 0 g.1) (a6 (g.1,()))<|cond (iq d 0) (a6 (0,()))<|cond (leI (bG e) d) (a6 (0,()))<|cond (gm e d) (cond (bT (bY e d) 64) (cond (bT (bY e d) 64) (a6 (1,()))<|bF (DW e d) fun f=>a6 ((IC f.1 1),()))<|cond (bT (bY e d) 42) (cond (bT (bY e d) 42) (a6 (1,()))<|bF (DW e d) fun f=>a6 ((IC f.1 1),()))<|cond (bT (bY e d) 35) (cond (bT (bY e d) 35) (a6 (1,()))<|bF (DW e d) fun f=>a6 ((IC f.1 1),()))<|cond (bT (bY e d) 63) (cond (bT (bY e d) 63) (a6 (1,()))<|bF (DW e d) fun f=>a6 ((IC f.1 1),()))<|cond (bT (bY e d) 45) (cond (bT (bY e d) 45) (a6 (1,()))<|bF (DW e d) fun f=>a6 ((IC f.1 1),()))<|cond (bT (bY e d) 36) (cond (bT (bY e d) 36) (a6 (1,()))<|bF (DW e d) fun f=>a6 ((IC f.1 1),()))<|cond (bT (bY e d) 33) (a6 (1,()))<|bF (DW e d) fun f=>a6 ((IC f.1 1),())) a7
def auD:Sum:=⟨[.str,di],Vz,fun x=>VY x.1 x.2.1⟩
theorem anH:dK prog 137 auD:=qA f137 [] (sE Nw (sE Xc aN))
noncomputable def b90:Code:=(f90.body).getD .skip
noncomputable def azn:Code:=cA (cA (cB (cA (cB (cB (cB (b90)))))))
noncomputable def apx:Code:=cA (cA (cB (cA (cB (cB (cB (cB (b90))))))))
def azL:eG:=⟨[0,3,4,12,13,100004],[(100000900,.pair (.list .unit) Jb),(100000901,.pair (.list .unit) di)],[0,3],[],[2],[(2,Jb)]⟩
def arW:eG:=⟨[0,3,31,32,100010],[],[3],[],[2],[(2,Jb)]⟩
def aBK:eG:=⟨[0,3],[],[],[],[],[]⟩
def aBL:eG:=⟨[0,3,4,5,12,13],[],[],[],[],[]⟩
def ajO:SP:=⟨us [bS,.u,.u,er,ev,.u,.u,.u,.u,.u,.u,.u,bR,bR] 65,[cF,de,.arr 1502009 di,.arr 1500009 Jb,d5]⟩
def agA:SP:=⟨us [bS,.u,.u,er] 75,cz⟩
def agU:SP:=⟨us [.u,.u,.v Vy] 76,[]⟩
def aby {g:Type} (m:bW->Int->Int->Bool->Int->(List oz)->jo->(List iZ)->Option g) (p:bW->jo->(List iZ)->Option g) (v:(List iZ)->Option g) (f:bW) (i e:Int) (q:Bool) (s:Int) (u:List oz) (j:jo) (l:List iZ):Option g:=cond (iq e i) (cond (gm f e) (bF (amL u q s (bY f e)) fun d=>cond (bT (bG d.1.1) 0) (bF (acx l j [(0,(0,()))] e) fun h=>m f i (bZ .i64 e 1) d.1.2.1 d.1.2.2.1 d.1.1 h.1.2.1 h.1.1)<|bF (oD d.1.1) fun h=>bF (acx l j h.1 e) fun o=>m f i (bZ .i64 e 1) d.1.2.1 d.1.2.2.1 d.1.1 o.1.2.1 o.1.1) a7)<|p f j l
def SX:Nat->bW->Int->Int->Bool->Int->(List oz)->jo->(List iZ)->Option (agA.den⊕agU.den)
 |0,_,_,_,_,_,_,_,_=>a7
 |n+1,d,e,f,g,h,i,j,l=>aby (SX n) (fun m o p=>a6 (.inl ((m,()),(o,p,(),())))) (fun q=>a6 (.inr ((q,()),()))) d e f g h i j l
def aCS (n:Nat) (v:ajO.den):=SX n v.1.1 v.1.2.1 v.1.2.2.1 v.2.1.1 v.2.1.2.1 v.2.2.1 v.2.2.2.1 v.2.2.2.2.1
noncomputable def asI:dA:=fH azL ajO agA agU (.exit 0) (aCS bJ) 6
def ZI:SP:=⟨us [bS,.u,.u,er,.u,.u,.u,.u,.u,.u,.u,.u,.u,.u,.u,.u,.u,.u,.u,.u,.u,.u,.u,.u,.u,.u,.u,.u,.u,.u,.u,bR,bR] 46,cz⟩
def aap:SP:=⟨us [.u,.u,.u,er] 75,cz⟩
def aa0:SP:=⟨us [.u,.u,.v Vy] 76,[]⟩
def eY (d:List iZ) (e:Int):=dD d (0,(0,(0,(0,(false,()))))) (dw e)
def jK (d:List iZ) (e:Int) (f:bW):=ik d (dw e) ((eY d e).1,((eY d e).2.1,((bG f),((eY d e).2.2.2.1,((eY d e).2.2.2.2.1,())))))
def fP (e:List iZ) (d:Int) (f:bW):=dD (jK e d f) (0,(0,(0,(0,(false,()))))) (dw d)
def QH {j:Type} (l:bW->Int->Int->jo->(List iZ)->Option j) (m:jo->(List iZ)->Option j) (o:(List iZ)->Option j) (f:bW) (h d:Int) (i:jo) (e:List iZ):Option j:=cond (iq d h) (cond (gm e d) (cond (ni (dw d) e) (cond ((eY e d).2.2.2.2.1) (cond (ni (dw d) e) (cond (ni (dw d) (jK e d f)) (cond (bT (fP e d f).1 12) (cond (ni (dw d) (jK e d f)) (cond (ni (dw d) (jK e d f)) (bF (VY f (bZ .i64 (fP e d f).2.1 1)) fun g=>cond (ni (dw d) (jK e d f)) (cond ((eqN (dw d) (dw d))&&true) (cond ((eqN (dw d) (dw d))&&true) (cond (ni (dw d) (ik (jK e d f) (dw d) ((fP e d f).1,((fP e d f).2.1,((bZ .i64 (bZ .i64 (fP e d f).2.1 1) g.1),((fP e d f).2.2.2.1,((fP e d f).2.2.2.2.1,()))))))) (cond ((eqN (dw d) (dw d))&&true) (l f h (bZ .i64 d 1) i (ik (ik (jK e d f) (dw d) ((fP e d f).1,((fP e d f).2.1,((bZ .i64 (bZ .i64 (fP e d f).2.1 1) g.1),((fP e d f).2.2.2.1,((fP e d f).2.2.2.2.1,())))))) (dw d) ((dD (ik (jK e d f) (dw d) ((fP e d f).1,((fP e d f).2.1,((bZ .i64 (bZ .i64 (fP e d f).2.1 1) g.1),((fP e d f).2.2.2.1,((fP e d f).2.2.2.2.1,())))))) (0,(0,(0,(0,(false,()))))) (dw d)).1,((dD (ik (jK e d f) (dw d) ((fP e d f).1,((fP e d f).2.1,((bZ .i64 (bZ .i64 (fP e d f).2.1 1) g.1),((fP e d f).2.2.2.1,((fP e d f).2.2.2.2.1,())))))) (0,(0,(0,(0,(false,()))))) (dw d)).2.1,((dD (ik (jK e d f) (dw d) ((fP e d f).1,((fP e d f).2.1,((bZ .i64 (bZ .i64 (fP e d f).2.1 1) g.1),((fP e d f).2.2.2.1,((fP e d f).2.2.2.2.1,())))))) (0,(0,(0,(0,(false,()))))) (dw d)).2.2.1,((dD (ik (jK e d f) (dw d) ((fP e d f).1,((fP e d f).2.1,((bZ .i64 (bZ .i64 (fP e d f).2.1 1) g.1),((fP e d f).2.2.2.1,((fP e d f).2.2.2.2.1,())))))) (0,(0,(0,(0,(false,()))))) (dw d)).2.2.2.1,(false,()))))))) a7) a7) a7) a7) a7) a7) a7)<|l f h (bZ .i64 d 1) i (jK e d f)) a7) a7)<|cond (ni (dw d) e) (cond (bT (eY e d).1 12) (cond (ni (dw d) e) (cond (ni (dw d) e) (bF (VY f (bZ .i64 (eY e d).2.1 1)) fun g=>cond (ni (dw d) e) (cond ((eqN (dw d) (dw d))&&true) (cond ((eqN (dw d) (dw d))&&true) (cond (ni (dw d) (ik e (dw d) ((eY e d).1,((eY e d).2.1,((bZ .i64 (bZ .i64 (eY e d).2.1 1) g.1),((eY e d).2.2.2.1,((eY e d).2.2.2.2.1,()))))))) (cond ((eqN (dw d) (dw d))&&true) (l f h (bZ .i64 d 1) i (ik (ik e (dw d) ((eY e d).1,((eY e d).2.1,((bZ .i64 (bZ .i64 (eY e d).2.1 1) g.1),((eY e d).2.2.2.1,((eY e d).2.2.2.2.1,())))))) (dw d) ((dD (ik e (dw d) ((eY e d).1,((eY e d).2.1,((bZ .i64 (bZ .i64 (eY e d).2.1 1) g.1),((eY e d).2.2.2.1,((eY e d).2.2.2.2.1,())))))) (0,(0,(0,(0,(false,()))))) (dw d)).1,((dD (ik e (dw d) ((eY e d).1,((eY e d).2.1,((bZ .i64 (bZ .i64 (eY e d).2.1 1) g.1),((eY e d).2.2.2.1,((eY e d).2.2.2.2.1,())))))) (0,(0,(0,(0,(false,()))))) (dw d)).2.1,((dD (ik e (dw d) ((eY e d).1,((eY e d).2.1,((bZ .i64 (bZ .i64 (eY e d).2.1 1) g.1),((eY e d).2.2.2.1,((eY e d).2.2.2.2.1,())))))) (0,(0,(0,(0,(false,()))))) (dw d)).2.2.1,((dD (ik e (dw d) ((eY e d).1,((eY e d).2.1,((bZ .i64 (bZ .i64 (eY e d).2.1 1) g.1),((eY e d).2.2.2.1,((eY e d).2.2.2.2.1,())))))) (0,(0,(0,(0,(false,()))))) (dw d)).2.2.2.1,(false,()))))))) a7) a7) a7) a7) a7) a7) a7)<|l f h (bZ .i64 d 1) i e) a7) a7) a7)<|m i e
def FZ:Nat->bW->Int->Int->jo->(List iZ)->Option (aap.den⊕aa0.den)
 |0,_,_,_,_,_=>a7
 |n+1,d,e,f,g,h=>QH (FZ n) (fun i j=>a6 (.inl ((),(i,j,(),())))) (fun l=>a6 (.inr ((l,()),()))) d e f g h
def axC (n:Nat) (v:ZI.den):=FZ n v.1.1 v.1.2.1 v.1.2.2.1 v.2.1 v.2.2.1
noncomputable def ajn:dA:=fH arW ZI aap aa0 (.exit 2) (axC bJ) 12
def awt (e:bW):Option ((List iZ)×Unit):=bF (SX bJ e (bG e) 0 true 0 [(0,(0,()))] [] []) fun f=>dL f (fun d=>bF (FZ bJ d.1.1 (bG d.2.2.1) 0 d.2.1 d.2.2.1) fun g=>dL g (fun h=>a6 (h.2.2.1,())) (fun i=>a6 (i.1.1,()))) (fun j=>a6 (j.1.1,()))
def aAw:Sum:=⟨[.str],[(.list Jb,false)],fun x=>awt x.1⟩
noncomputable def ahP:Env:=gQ prog tt [(133,zi),(137,auD)] [(90,4,azL),(90,10,arW),(90,600002,aBK),(90,600007,aBL)] [(90,4,asI),(90,10,ajn)] [] [(84,alg),(136,auC)]
def atW {d:Type} (a:ajO.den->Option d) (b:agA.den->Option d) (c:agU.den->Option d) (v:ajO.den):Option d:=aby (fun e f g h i j l m=>a ((e,f,g,()),((h,i,()),j,l,m,(),()))) (fun o p q=>b ((o,()),(p,q,(),()))) (aE c) v.1.1 v.1.2.1 v.1.2.2.1 v.2.1.1 v.2.1.2.1 v.2.2.1 v.2.2.2.1 v.2.2.2.2.1
theorem aDl:dQ ahP 90 azn asI:=vS (atW) (h2:=by intros;simp only[atW,aE,aby,cu,cO,bD,bV,cZ])
def akK {d:Type} (a:ZI.den->Option d) (b:aap.den->Option d) (c:aa0.den->Option d) (v:ZI.den):Option d:=QH (fun e f g h i=>a ((e,f,g,()),(h,i,(),()))) (fun j l=>b ((),(j,l,(),()))) (aE c) v.1.1 v.1.2.1 v.1.2.2.1 v.2.1 v.2.2.1
theorem ayp:dQ ahP 90 apx ajn:=vS (akK) (h2:=by intros;simp only[akK,aE,QH,cu,cO,bD,bV,cZ,eY,jK,fP])
theorem aHo:dO ahP 90 b90:=pI [azn,apx] (aD (fM (aDl)) (aD (fM (ayp)) aN))
theorem aqm:eP ahP:=eB (aD xQ (aD anH aN)) [90] (aD ⟨f90,b90,by kernel_rfl,by kernel_rfl,aHo⟩ aN) (hx:=(aD UE (aD anG aN)))
theorem avi:dK prog 90 aAw:=sA aqm
def aq4 (d:List oz) (e:Bool) (f:Int):Option (taN×uO):=cond e (a6 ((d,(e,(f,()))),(true,())))<|some ((d,(e,(f,()))),((bT (bG d) 0),()))
def aAu:fF:=⟨168,tzC,[],[.bool],fun x y=>aq4 x.1 x.2.1 x.2.2.1⟩
theorem avh:dI prog 86 aAu:=qB [] aN
noncomputable def b48:Code:=(f48.body).getD .skip
noncomputable def azd:Code:=cA (cA (cB (cA (cB (cB (b48))))))
def azE:eG:=⟨[0,4,8,9,100003],[],[4],[],[2,3],[(2,U1)]⟩
def BU:eG:=⟨[0],[],[],[],[],[]⟩
def ar0:eG:=⟨[4],[],[],[],[],[]⟩
def ajD:SP:=⟨us [bS,.u,.u,.u,ev,.u,.u,.u,bR,bR] 12,[cF,de]⟩
def agp:SP:=⟨us [.u,.u,.u,.u,ev] 17,[cF,de]⟩
def agJ:SP:=⟨us [.u,.u,d6,cg] 18,[]⟩
def abr {d:Type} (m:bW->Int->Int->Bool->Int->(List oz)->Option d) (o:Bool->Int->(List oz)->Option d) (p:(List oz)->Bool->Option d) (f:bW) (h e:Int) (i:Bool) (j:Int) (l:List oz):Option d:=cond (iq e h) (cond (gm f e) (bF (amL l i j (bY f e)) fun g=>m f h (bZ .i64 e 1) g.1.2.1 g.1.2.2.1 g.1.1) a7)<|o i j l
def SK:Nat->bW->Int->Int->Bool->Int->(List oz)->Option (agp.den⊕agJ.den)
 |0,_,_,_,_,_,_=>a7
 |n+1,d,e,f,g,h,i=>abr (SK n) (fun j l m=>a6 (.inl ((),((j,l,()),m,())))) (fun o p=>a6 (.inr ((o,p,()),()))) d e f g h i
def aCH (n:Nat) (v:ajD.den):=SK n v.1.1 v.1.2.1 v.1.2.2.1 v.2.1.1 v.2.1.2.1 v.2.2.1
noncomputable def asy:dA:=fH azE ajD agp agJ (.exit 0) (aCH bJ) 6
def awp (f:bW):Option ((List oz)×Bool×Unit):=bF (SK bJ f (bG f) 0 true 0 [(0,(0,()))]) fun h=>dL h (fun d=>cond (bT (bG d.2.2.1) 0) (bF (aq4 d.2.2.1 d.2.1.1 d.2.1.2.1) fun e=>a6 ([(0,(0,()))],(e.2.1,())))<|bF (oD d.2.2.1) fun e=>bF (aq4 d.2.2.1 d.2.1.1 d.2.1.2.1) fun i=>a6 (e.1,(i.2.1,()))) (fun g=>a6 (g.1.1,(g.1.2.1,())))
def aAm:Sum:=⟨[.str],[(.list U1,false),(.bool,false)],fun x=>awp x.1⟩
noncomputable def ap2:Env:=gQ prog tt [(133,zi)] [(48,3,azE),(48,600001,BU),(48,600007,ar0)] [(48,3,asy)] [] [(84,alg),(86,aAu)]
def atJ {d:Type} (a:ajD.den->Option d) (b:agp.den->Option d) (c:agJ.den->Option d) (v:ajD.den):Option d:=abr (fun e f g h i j=>a ((e,f,g,()),((h,i,()),j,()))) (fun l m o=>b ((),((l,m,()),o,()))) (aL c) v.1.1 v.1.2.1 v.1.2.2.1 v.2.1.1 v.2.1.2.1 v.2.2.1
theorem aDa:dQ ap2 48 azd asy:=vS (atJ) (h2:=by intros;simp only[atJ,aL,abr,cu,cO,bD,bV,cZ])
theorem aHd:dO ap2 48 b48:=pI [azd] (aD (fM (aDa)) aN)
theorem ap3:eP ap2:=eB (aD xQ aN) [48] (aD ⟨f48,b48,by kernel_rfl,by kernel_rfl,aHd⟩ aN) (hx:=(aD UE (aD avh aN)))
theorem au9:dK prog 48 aAm:=sA ap3
def aif (d:List oz) (e:Bool) (f g:Int):Option (taN×uO):=bF (G6 g) fun h=>cond (!h.1) (a6 ((d,(e,(f,()))),(false,())))<|cond (bT (bG d) 1) (a6 ((d,(e,(f,()))),(true,())))<|cond (bT (bG d) 2) (cond (gm d 1) (cond (ni (dw 1) d) (cond (bT (dD d (0,(0,())) (dw 1)).1 12) (a6 ((d,(e,(f,()))),((!(bT g 40)),())))<|some ((d,(e,(f,()))),(false,()))) a7) a7)<|some ((d,(e,(f,()))),(false,()))
def auW:fF:=⟨168,tzC,[.int .u8],[.bool],fun x y=>aif x.1 x.2.1 x.2.2.1 y.1⟩
theorem aob:dI prog 233 auW:=qB [] (sE Xn aN)
noncomputable def aA1:Code:=(f199.body).getD .skip
noncomputable def apb:Code:=cA (cA (cA (cB (cB (cB (aA1))))))
def arC:eG:=⟨[0,1,5,100004],[],[1],[],[4],[]⟩
def Zl:SP:=⟨us [bS,bR,.u,.u,.u,ev] 27,[cF,de]⟩
def ZY:SP:=⟨us [.u,bR] 31,[]⟩
def aaE:SP:=⟨us cS 28,[]⟩
def Qm {g:Type} (i:bW->Int->Bool->Int->(List oz)->Option g) (j l:Int->Option g) (e:bW) (d:Int) (m:Bool) (o:Int) (p:List oz):Option g:=cond (iq d (bG e)) (cond (gm e d) (bF (aif p m o (bY e d)) fun f=>cond f.2.1 (l d)<|cond (gm e d) (bF (amL f.1.1 f.1.2.1 f.1.2.2.1 (bY e d)) fun h=>i e (bZ .i64 d 1) h.1.2.1 h.1.2.2.1 h.1.1) a7) a7)<|j d
def J6:Nat->bW->Int->Bool->Int->(List oz)->Option (ZY.den⊕aaE.den)
 |0,_,_,_,_,_=>a7
 |n+1,d,e,f,g,h=>Qm (J6 n) (fun i=>a6 (.inl ((i,()),()))) (fun j=>a6 (.inr ((j,()),()))) d e f g h
def axh (n:Nat) (v:Zl.den):=J6 n v.1.1 v.1.2.1 v.2.1.1 v.2.1.2.1 v.2.2.1
noncomputable def ai2:dA:=fH arC Zl ZY aaE (.exit 0) (axh bJ) 6
def acH (e:bW) (d:Int):Option lW:=cond (iq d 0) (a6 ((-1),()))<|cond (iq (bG e) d) (a6 ((-1),()))<|bF (J6 bJ e d true 0 [(0,(0,()))]) fun f=>dL f (fun g=>a6 (g.1.1,())) (fun h=>a6 (h.1.1,()))
def aEx:Sum:=⟨[.str,di],Vz,fun x=>acH x.1 x.2.1⟩
noncomputable def afb:Env:=gQ prog tt [] [(199,4,arC),(199,600003,BV)] [(199,4,ai2)] [] [(84,alg),(233,auW)]
def akp {d:Type} (a:Zl.den->Option d) (b:ZY.den->Option d) (c:aaE.den->Option d) (v:Zl.den):Option d:=Qm (fun e f g h i=>a ((e,f,()),((g,h,()),i,()))) (aE b) (aE c) v.1.1 v.1.2.1 v.2.1.1 v.2.1.2.1 v.2.2.1
theorem ax4:dQ afb 199 apb ai2:=vS (akp) (h2:=by intros;simp only[akp,aE,Qm,cu,cO,bD,bV,cZ])
theorem aCd:dO afb 199 aA1:=pI [apb] (aD (fM (ax4)) aN)
theorem al2:eP afb:=eB aN [199] (aD ⟨f199,aA1,by kernel_rfl,by kernel_rfl,aCd⟩ aN) (hx:=(aD UE (aD aob aN)))
theorem an2:dK prog 199 aEx:=sA al2
def JJ (d:Int):Option vC:=cond (bT d 9) (a6 ([41,41],()))<|cond (bT d 13) (cond (bT d 13) (a6 ([10],()))<|some ([],()))<|cond (bT d 14) (a6 ([10],()))<|some ([],())
def aih (d:Int):Option vC:=cond (bT d 1) (cond (bT d 1) (a6 ([41],()))<|JJ d)<|cond (bT d 3) (cond (bT d 3) (a6 ([41],()))<|JJ d)<|cond (bT d 2) (cond (bT d 2) (a6 ([41],()))<|JJ d)<|cond (bT d 10) (cond (bT d 10) (a6 ([41],()))<|JJ d)<|cond (bT d 11) (a6 ([41],()))<|JJ d
def aig (d:Int):Option vC:=cond (bT d 4) (a6 ([39],()))<|cond (bT d 5) (a6 ([34],()))<|cond (bT d 6) (a6 ([96],()))<|cond (bT d 7) (cond (bT d 7) (a6 ([125],()))<|aih d)<|cond (bT d 8) (a6 ([125],()))<|aih d
def auX:Sum:=⟨[di],GX,fun x=>aig x.1⟩
theorem aoc:dK prog 235 auX:=qA f235 [] aN
noncomputable def XG:Code:=(f200.body).getD .skip
noncomputable def QT:Code:=(Tryz.f260.body).getD .skip
noncomputable def Q5:Code:=cA (cA (cB (QT)))
def Sr:eG:=⟨[0,1,3,102000001],[],[],[],[],[]⟩
def awR:eG:=⟨[2,5],[],[],[],[],[]⟩
def awJ:eG:=⟨[2,3,5],[],[],[],[],[]⟩
def ac4:eG:=⟨[0,1,3],[],[],[],[],[]⟩
def CB:SQ:=⟨us [.yld 1700014,ey,.u,bR] 15,cT,cC⟩
def Ew:SQ:=⟨us [] 19,cT,cC⟩
def EF:SQ:=⟨us [] 19,cT,[]⟩
def uK {f:Type} (l:Int->bW->bW->(List oz)->jo->Option f) (m:bW->bW->(List oz)->jo->Option f) (o:bW->Option f) (d:Int) (h i:bW) (e:List oz) (g:jo):Option f:=cond (leI 0 d) (cond (gm e d) (bF (aig (eX e (0,(0,())) d).1) fun j=>cond (dV (bM g (dn j.1)) 1) (cond (bT (eX e (0,(0,())) d).1 (eX e (0,(0,())) d).1) (l (eF .i64 d 1) h i e (bM g (dn j.1))) a7) a7) a7)<|m h i e g
def qG:Nat->Int->bW->bW->(List oz)->jo->Option (Ew.den⊕EF.den)
 |0,_,_,_,_,_=>a7
 |n+1,d,e,f,g,h=>uK (qG n) (fun i j l m=>a6 (.inl ((),((i,()),(),(),()),((j,()),(l,()),(),m,())))) (fun o=>a6 (.inr ((),((o,()),(),(),()),()))) d e f g h
def adn (n:Nat) (v:CB.den):=qG n v.1.1 v.2.1.1.1 v.2.2.1.1 v.2.2.2.1.1 v.2.2.2.2.2.1
noncomputable def Ol:dA:=fK Sr CB Ew EF (.exit 0) (adn bJ) 6
def aib (e:bW):Option vC:=bF (awp e) fun d=>bF (qG bJ (eF .i64 (bG d.1) 1) [] [] d.1 []) fun f=>dL f (fun g=>a6 ((ofBytes g.2.2.2.2.2.1),())) (fun h=>a7)
def aEy:Sum:=⟨[.str],GX,fun x=>aib x.1⟩
noncomputable def X6:Env:=gQ prog tt [(48,aAm),(235,auX)] [(260,1,Sr),(200,500005,awR),(200,600003,awJ),(260,600003,ac4)] [(260,1,Ol)] [200]
def OI {d:Type} (a:CB.den->Option d) (b:Ew.den->Option d) (c:EF.den->Option d) (v:CB.den):Option d:=uK (fun e f g h i=>a ((e,()),((f,()),(),(),()),((g,()),(h,()),(),i,()))) (fun j l m o=>b ((),((j,()),(),(),()),((l,()),(m,()),(),o,()))) (fun p=>c ((),((p,()),(),(),()),())) v.1.1 v.2.1.1.1 v.2.2.1.1 v.2.2.2.1.1 v.2.2.2.2.2.1
theorem adK:dQ X6 260 Q5 Ol:=mO (OI) (h2:=by intros;simp only[OI,uK,cu,cO,bD,bV,cZ])
theorem aBS:jP XG=[]:=by kernel_rfl
theorem aDW:kF XG=[(cA (cA (cB (cA (cB (cB (cB (XG))))))),cB (cA (cB (cA (cB (cB (cB (XG))))))))]:=by kernel_rfl
theorem aCe:dO X6 200 XG:=yJ XG (by rw[aDW];exact(aD (fun _=>(show uI 200 5=a6 (cA (cA (cB (cA (cB (cB (cB (XG))))))),cB (cA (cB (cA (cB (cB (cB (XG)))))))) by kernel_rfl)) aN)) (by rw[aBS];exact aN)
theorem afT:dO X6 260 QT:=pI [Q5] (aD (fM (adK)) aN)
theorem al3:eP X6:=eB (aD au9 (aD aoc aN)) [200,260] (aD ⟨f200,XG,by kernel_rfl,by kernel_rfl,aCe⟩ (aD ⟨Tryz.f260,QT,by kernel_rfl,by kernel_rfl,afT⟩ aN))
theorem an3:dK prog 200 aEy:=sA al3
def azu (d:Int):Option vC:=cond (bT d 10) (a6 ([62,124],()))<|cond (bT d 11) (a6 ([60],()))<|cond (bT d 12) (a6 ([62],()))<|cond (bT d 13) (a6 ([38],()))<|cond (bT d 14) (a6 ([59],()))<|cond (bT d 15) (a6 ([124],()))<|cond (bT d 16) (a6 ([40],()))<|cond (bT d 17) (a6 ([41],()))<|some ([],())
def aEg:Sum:=⟨[di],GX,fun x=>azu x.1⟩
theorem anK:dK prog 146 aEg:=qA f146 [] aN
def awu (d:Int):Option vC:=cond (bT d 1) (a6 ([38,38],()))<|cond (bT d 2) (a6 ([124,124],()))<|cond (bT d 3) (a6 ([59,59],()))<|cond (bT d 4) (a6 ([60,60],()))<|cond (bT d 5) (a6 ([60,60,45],()))<|cond (bT d 6) (a6 ([62,62],()))<|cond (bT d 7) (a6 ([60,38],()))<|cond (bT d 8) (a6 ([62,38],()))<|cond (bT d 9) (a6 ([60,62],()))<|bF (azu d) fun e=>a6 (e.1,())
def aAx:Sum:=⟨[di],GX,fun x=>awu x.1⟩
theorem avj:dK prog 98 aAx:=qA f98 [] (sE anK aN)
noncomputable def b59:Code:=(f59.body).getD .skip
noncomputable def aze:Code:=cA (cA (cB (cA (cB (cB (b59))))))
def aiG:eG:=⟨[0,3,100004],[],[],[],[2],[]⟩
def ajE:SP:=⟨us [bS,.u,.u,bR] 11,[]⟩
def agq:SP:=⟨us [] 15,[]⟩
def agK:SP:=⟨us dx 12,[]⟩
def Uo {d:Type} (g:bW->Int->Option d) (h:Option d) (i:Int->Option d) (f:bW) (e:Int):Option d:=cond (leI e 17) (bF (awu e) fun j=>cond (gI j.1 f) (i e)<|g f (bZ .i64 e 1)) h
def IB:Nat->bW->Int->Option (agq.den⊕agK.den)
 |0,_,_=>a7
 |n+1,d,e=>Uo (IB n) (a6 (.inl ((),()))) (fun f=>a6 (.inr ((f,()),()))) d e
def aCI (n:Nat) (v:ajE.den):=IB n v.1.1 v.1.2.1
noncomputable def asz:dA:=fH aiG ajE agq agK (.exit 0) (aCI bJ) 6
def acN (d:bW):Option lW:=cond (gI d []) (a6 (0,()))<|bF (IB bJ d 1) fun e=>dL e (fun g=>a6 (0,())) (fun f=>a6 (f.1.1,()))
def aAn:Sum:=⟨[.str],Vz,fun x=>acN x.1⟩
noncomputable def ap4:Env:=iU prog tt 59 [(98,aAx)] [(4,aiG)] [(4,asz)]
def atK {d:Type} (a:ajE.den->Option d) (b:agq.den->Option d) (c:agK.den->Option d) (v:ajE.den):Option d:=Uo (aL a) (b ((),())) (aE c) v.1.1 v.1.2.1
theorem aDb:dQ ap4 59 aze asz:=vS (atK) (h2:=by intros;simp only[atK,aL,aE,Uo,cu,cO,bD,bV,cZ])
theorem aHe:dO ap4 59 b59:=pI [aze] (aD (fM (aDb)) aN)
theorem ap5:eP ap4:=eA f59 (aD avj aN) (aHe)
theorem UC:dK prog 59 aAn:=sA ap5
noncomputable def aFY:Code:=(f194.body).getD .skip
noncomputable def ao9:Code:=cA (cA (cA (cB (cB (cB (cA (cB (aFY))))))))
def arB:eG:=⟨[0,1,4,5,100004],[],[4,5],[],[4,5],[]⟩
def Zj:SP:=⟨us [bS,bR,.u,.u,bR,bR] 35,[]⟩
def ZW:SP:=⟨us [.u,.u,.u,.u,bR,bR] 35,[]⟩
def aaC:SP:=⟨us [.u,.u,.u,.u,bR,bR] 35,[]⟩
def Qk {f:Type} (j:bW->Int->Int->Int->Option f) (i m:Int->Int->Option f) (g:bW) (e l d:Int):Option f:=cond (iq 0 d) (cond (eU (bG g) e (bZ .i64 e d)) (bF (acN (sub g e (bZ .i64 e d))) fun h=>cond (!(bT h.1 0)) (i h.1 d)<|j g e h.1 (eF .i64 d 1)) a7)<|i l d
def J4:Nat->bW->Int->Int->Int->Option (ZW.den⊕aaC.den)
 |0,_,_,_,_=>a7
 |n+1,d,e,f,g=>Qk (J4 n) (fun h i=>a6 (.inl ((h,i,()),()))) (fun j l=>a6 (.inr ((j,l,()),()))) d e f g
def axf (n:Nat) (v:Zj.den):=aR (J4 n) v
noncomputable def ai0:dA:=fH arB Zj ZW aaC (.exit 0) (axf bJ) 6
def aia (e:bW) (d:Int):Option oz:=cond (iq d 0) (a6 (0,(0,())))<|cond (leI (bG e) d) (a6 (0,(0,())))<|cond (gm e d) (bF (JF (bY e d)) fun h=>cond (!(bT h.1 3)) (a6 (0,(0,())))<|bF (J4 bJ e d 0 (IC 3 (eF .i64 (bG e) d))) fun i=>dL i (fun f=>a6 (f.1.1,(f.1.2.1,()))) (fun g=>a6 (g.1.1,(g.1.2.1,())))) a7
def aEu:Sum:=⟨[.str,di],tzL,fun x=>aia x.1 x.2.1⟩
noncomputable def ae9:Env:=iU prog tt 194 [(59,aAn),(125,ahe)] [(4,arB)] [(4,ai0)]
def akn {d:Type} (a:Zj.den->Option d) (b:ZW.den->Option d) (c:aaC.den->Option d) (v:Zj.den):Option d:=aR (Qk (aM a) (aL b) (aL c)) v
theorem ax2:dQ ae9 194 ao9 ai0:=vS (akn) (h2:=by intros;simp only[akn,aM,aL,aR,Qk,cu,cO,bD,bV,cZ])
theorem aCb:dO ae9 194 aFY:=pI [ao9] (aD (fM (ax2)) aN)
theorem al0:eP ae9:=eA f194 (aD UC (aD wX aN)) (aCb)
theorem anZ:dK prog 194 aEu:=sA al0
def aq1 (e d:bW):Option uO:=cond (leI (bG d) (bG e)) (cond (eU (bG e) 0 (bG d)) (a6 ((gI (sub e 0 (bG d)) d),())) a7)<|some (false,())
def aEU:Sum:=⟨[.str,.str],O7,fun x=>aq1 x.1 x.2.1⟩
theorem aoj:dK prog 259 aEU:=qA f259 [] aN
def aie (d e:bW):Option uO:=bF (aq1 d e) fun f=>a6 (f.1,())
def aEK:Sum:=⟨[.str,.str],O7,fun x=>aie x.1 x.2.1⟩
theorem aoa:dK prog 232 aEK:=qA f232 [] (sE aoj aN)
def acD (d:bW) (e:Int):Option uO:=cond (eU (bG d) e (bG d)) (bF (aie (sub d e (bG d)) [92,10]) fun f=>a6 (f.1,())) a7
def auQ:Sum:=⟨[.str,di],O7,fun x=>acD x.1 x.2.1⟩
theorem Xg:dK prog 195 auQ:=qA Tryz.f195 [] (sE aoa aN)
noncomputable def aFZ:Code:=(f196.body).getD .skip
noncomputable def apa:Code:=cA (cA (cA (cB (aFZ))))
def YH:eG:=⟨[0,1,100001],[],[1],[],[4],[]⟩
def Zk:SP:=⟨us [bS,bR] 23,[]⟩
def ZX:SP:=⟨us [.u,bR] 23,[]⟩
def aaD:SP:=⟨us cS 20,[]⟩
def Ql {f:Type} (g:bW->Int->Option f) (h i:Int->Option f) (e:bW) (d:Int):Option f:=cond (iq d (bG e)) (cond (gm e d) (bF (JF (bY e d)) fun j=>cond (bT j.1 1) (g e (bZ .i64 d 1))<|bF (acD e d) fun l=>cond l.1 (g e (bZ .i64 d 2))<|i d) a7)<|h d
def J5:Nat->bW->Int->Option (ZX.den⊕aaD.den)
 |0,_,_=>a7
 |n+1,d,e=>Ql (J5 n) (fun f=>a6 (.inl ((f,()),()))) (fun g=>a6 (.inr ((g,()),()))) d e
def axg (n:Nat) (v:Zk.den):=J5 n v.1.1 v.1.2.1
noncomputable def ai1:dA:=fH YH Zk ZX aaD (.exit 0) (axg bJ) 6
def acE (d:bW) (e:Int):Option lW:=bF (J5 bJ d e) fun f=>dL f (fun g=>a6 (g.1.1,())) (fun h=>a6 (h.1.1,()))
def aEv:Sum:=⟨[.str,di],Vz,fun x=>acE x.1 x.2.1⟩
noncomputable def afa:Env:=iU prog tt 196 [(125,ahe),(195,auQ)] [(1,YH)] [(1,ai1)]
def ako {d:Type} (a:Zk.den->Option d) (b:ZX.den->Option d) (c:aaD.den->Option d) (v:Zk.den):Option d:=Ql (aL a) (aE b) (aE c) v.1.1 v.1.2.1
theorem ax3:dQ afa 196 apa ai1:=vS (ako) (h2:=by intros;simp only[ako,aL,aE,Ql,cu,cO,bD,bV,cZ])
theorem aCc:dO afa 196 aFZ:=pI [apa] (aD (fM (ax3)) aN)
theorem al1:eP afa:=eA f196 (aD wX (aD Xg aN)) (aCc)
theorem an0:dK prog 196 aEv:=sA al1
def aii (d:bW) (e:Int):Option lW:=a6 ((ibW d e),())
def aEL:Sum:=⟨[.str,.int .u8],Vz,fun x=>aii x.1 x.2.1⟩
theorem aod:dK prog 236 aEL:=qA f236 [] (sE (aeA func261 (by kernel_rfl) (by kernel_rfl) (by kernel_rfl) (by kernel_rfl)) aN)
def acI (d:bW) (e:Int):Option lW:=bF (aii d e) fun f=>a6 (f.1,())
def aEA:Sum:=⟨[.str,.int .u8],Vz,fun x=>acI x.1 x.2.1⟩
theorem Xi:dK prog 202 aEA:=qA f202 [] (sE aod aN)
def acF (d:bW) (e:Int):Option (Int×Bool×Unit):=cond (eU (bG d) e (bG d)) (bF (acI (sub d e (bG d)) 10) fun f=>cond (leI 0 f.1) (a6 ((bZ .i64 e f.1),(true,())))<|some ((bG d),(false,()))) a7
def auR:Sum:=⟨[.str,di],[(.int .i64,false),(.bool,false)],fun x=>acF x.1 x.2.1⟩
theorem Xh:dK prog 197 auR:=qA Tryz.f197 [] (sE Xi aN)
def acG (f:bW) (d:Int):Option lW:=bF (DW f d) fun e=>cond (iq d (bZ .i64 d e.1)) (cond (iq (bZ .i64 d e.1) (bG f)) (cond (gm f (bZ .i64 d e.1)) (cond (bT (bY f (bZ .i64 d e.1)) 60) (a6 ((bZ .i64 d e.1),()))<|cond (gm f (bZ .i64 d e.1)) (cond (bT (bY f (bZ .i64 d e.1)) 62) (a6 ((bZ .i64 d e.1),()))<|some (d,())) a7) a7)<|some (d,()))<|some (d,())
def aEw:Sum:=⟨[.str,di],Vz,fun x=>acG x.1 x.2.1⟩
theorem an1:dK prog 198 aEw:=qA f198 [] (sE Xc aN)
def Yi (e:bW) (d:Int) (h:oz):Option (LC×Unit):=cond (gm e d) (cond (bT (bY e d) 10) (a6 ((2,(d,((bZ .i64 d 1),(false,())))),()))<|cond (gm e d) (cond (bT (bY e d) 35) (bF (acF e d) fun g=>a6 ((3,(d,(g.1,(false,())))),()))<|cond (iq 0 h.2.1) (a6 ((4,(d,((bZ .i64 d h.2.1),(false,())))),()))<|bF (acG e d) fun g=>cond (iq d g.1) (bF (acG e d) fun f=>a6 ((5,(d,(f.1,(false,())))),()))<|bF (acH e d) fun f=>cond (eU (bG e) d f.1) (bF (aib (sub e d f.1)) fun i=>a6 ((6,(d,(f.1,((!(gI i.1 [])),())))),())) a7) a7) a7
def ahZ (e:bW) (d:Int):Option (LC×Unit):=bF (aia e d) fun g=>cond (gm e d) (bF (JF (bY e d)) fun h=>cond (bT h.1 1) (cond (bT h.1 1) (bF (acE e d) fun f=>a6 ((1,(d,(f.1,(false,())))),()))<|Yi e d g)<|bF (acD e d) fun f=>cond f.1 (bF (acE e d) fun i=>a6 ((1,(d,(i.1,(false,())))),()))<|Yi e d g) a7
def aEj:Sum:=⟨[.str,di],[(.pair di (.pair di (.pair di tyF)),false)],fun x=>ahZ x.1 x.2.1⟩
theorem anN:dK prog 150 aEj:=qA f150 [] (sE wX (sE anZ (sE Xg (sE an0 (sE Xh (sE an1 (sE an2 (sE an3 aN))))))))
noncomputable def aF6:Code:=(f255.body).getD .skip
noncomputable def apn:Code:=cA (cA (cA (cB (aF6))))
def arN:eG:=⟨[0,1,100001],[],[0],[],[4],[]⟩
def Zy:SP:=⟨us [bS,cJ] 15,[]⟩
def aag:SP:=⟨us [bS] 16,[]⟩
def aaQ:SP:=⟨us [.u,.u,.u,.u,bS] 12,[]⟩
def Qw {e:Type} (h:bW->Int->Option e) (f i:bW->Option e) (d:bW) (g:Int):Option e:=cond (iq 0 (bG d)) (cond (gm d 0) (cond (bT (bY d 0) g) (cond (eU (bG d) 1 (bG d)) (h (sub d 1 (bG d)) g) a7)<|f d) a7)<|f d
def J7:Nat->bW->Int->Option (aag.den⊕aaQ.den)
 |0,_,_=>a7
 |n+1,d,e=>Qw (J7 n) (fun f=>a6 (.inl ((f,()),()))) (fun g=>a6 (.inr ((g,()),()))) d e
def axt (n:Nat) (v:Zy.den):=J7 n v.1.1 v.1.2.1
noncomputable def aje:dA:=fH arN Zy aag aaQ (.exit 0) (axt bJ) 6
def aim (d:bW) (e:Int):Option vC:=bF (J7 bJ d e) fun f=>dL f (fun g=>a6 (g.1.1,())) (fun h=>a6 (h.1.1,()))
def au2:Sum:=⟨[.str,.int .u8],GX,fun x=>aim x.1 x.2.1⟩
noncomputable def afk:Env:=iU prog tt 255 [] [(1,arN)] [(1,aje)]
def akB {d:Type} (a:Zy.den->Option d) (b:aag.den->Option d) (c:aaQ.den->Option d) (v:Zy.den):Option d:=Qw (aL a) (aE b) (aE c) v.1.1 v.1.2.1
theorem ayg:dQ afk 255 apn aje:=vS (akB) (h2:=by intros;simp only[akB,aL,aE,Qw,cu,cO,bD,bV,cZ])
theorem aCq:dO afk 255 aF6:=pI [apn] (aD (fM (ayg)) aN)
theorem amj:eP afk:=eA f255 aN (aCq)
theorem aoi:dK prog 255 au2:=sA amj
noncomputable def aA0:Code:=(f192.body).getD .skip
noncomputable def ao8:Code:=cA (cA (cA (cB (cA (cB (aA0))))))
def arA:eG:=⟨[0,1,5,100001],[],[1],[],[6,7],[]⟩
def awI:eG:=⟨[0,5,8,9,10],[],[],[],[],[]⟩
def Zi:SP:=⟨us [bS,bR,.u,.u,.u,cx] 33,cY⟩
def PQ:SP:=⟨us [.u,bR] 37,[]⟩
def PV:SP:=⟨us [.u,.u,.u,.u,.u,.u,bR,cg] 31,[]⟩
def Bi {g:Type} (d:(Int×Bool×Unit)) (e:bW) (h:Int) (f:bW) (i:Int->Bool->Option g) (j:bW->Int->bW->Bool->Option g) (l:Bool):Option g:=cond d.2.1 (cond (gI (sub e h d.1) f) (i (bZ .i64 d.1 1) true)<|j e (bZ .i64 d.1 1) f l)<|cond (gI (sub e h d.1) f) (i d.1 true)<|j e d.1 f l
def Qj {l:Type} (i:bW->Int->bW->Bool->Option l) (o:Int->Option l) (j:Int->Bool->Option l) (e:bW) (f:Int) (g:bW) (h:Bool):Option l:=cond (iq f (bG e)) (bF (acF e f) fun d=>cond (eU (bG e) f d.1) (cond h (cond (gI (sub e f d.1) []) (Bi d e f g j i h)<|cond (gI [9] []) (Bi d e f g j i h)<|cond (bT (bG [9]) 1) (cond (gm [9] 0) (cond (iq (bY [9] 0) 128) (cond (gm [9] 0) (bF (aim (sub e f d.1) (bY [9] 0)) fun m=>cond d.2.1 (cond (gI m.1 g) (j (bZ .i64 d.1 1) true)<|i e (bZ .i64 d.1 1) g h)<|cond (gI m.1 g) (j d.1 true)<|i e d.1 g h) a7) a7) a7) a7)<|Bi d e f g j i h) a7)<|o f
def BZ:Nat->bW->Int->bW->Bool->Option (PQ.den⊕PV.den)
 |0,_,_,_,_=>a7
 |n+1,d,e,f,g=>Qj (BZ n) (fun h=>a6 (.inl ((h,()),()))) (fun i j=>a6 (.inr ((i,j,()),()))) d e f g
def axe (n:Nat) (v:Zi.den):=BZ n v.1.1 v.1.2.1 v.2.1.1 v.2.1.2.1
noncomputable def aiZ:dA:=fH arA Zi PQ PV (.exit 0) (axe bJ) 6
def ah9 (f:bW) (g:Int) (d:bW×uO):Option (Int×Bool×Unit):=bF (BZ bJ f g d.1 d.2.1) fun h=>dL h (fun i=>a6 (i.1.1,(false,()))) (fun e=>a6 (e.1.1,(e.1.2.1,())))
def aEt:Sum:=⟨[.str,di,EU],[(.int .i64,false),(.bool,false)],fun x=>ah9 x.1 x.2.1 x.2.2.1⟩
noncomputable def ae8:Env:=gQ prog tt [(197,auR),(255,au2)] [(192,1,arA),(192,600005,awI)] [(192,1,aiZ)] []
def akm {d:Type} (a:Zi.den->Option d) (b:PQ.den->Option d) (c:PV.den->Option d) (v:Zi.den):Option d:=Qj (fun e f g h=>a ((e,f,()),((g,h,()),()))) (aE b) (aL c) v.1.1 v.1.2.1 v.2.1.1 v.2.1.2.1
theorem ax1:dQ ae8 192 ao8 aiZ:=vS (akm) (h2:=by intros;simp only[akm,aE,aL,Qj,cu,cO,bD,bV,cZ,Bi])
theorem aCa:dO ae8 192 aA0:=pI [ao8] (aD (fM (ax1)) aN)
theorem alZ:eP ae8:=eB (aD Xh (aD aoi aN)) [192] (aD ⟨f192,aA0,by kernel_rfl,by kernel_rfl,aCa⟩ aN)
theorem anY:dK prog 192 aEt:=sA alZ
def RP:Option taW:=a6 (([84],([0],(true,()))),())
def abD:Sum:=⟨[],tzG,fun x=>RP⟩
theorem Nz:dK prog 158 abD:=qA f158 [] aN
def yB (d:H7) (e:Bool):Option taW:=a6 ((d.1,(d.2.1,(e,()))),())
def aED:Sum:=⟨[.pair .str tyK,.bool],tzG,fun x=>yB x.1 x.2.1⟩
theorem NE:dK prog 206 aED:=qA f206 [] aN
def DX (d:H7) (e:bW):Option taW:=cond (eU (bG d.1) 0 (eF .i64 (bG d.1) 1)) (cond (iD (sub d.1 0 (eF .i64 (bG d.1) 1)) e) (a6 (((bM (sub d.1 0 (eF .i64 (bG d.1) 1)) e),(d.2.1,(d.2.2.1,()))),())) a7) a7
def aEE:Sum:=⟨[.pair .str tyK,.str],tzG,fun x=>DX x.1 x.2.1⟩
theorem Xk:dK prog 207 aEE:=qA f207 [] aN
def JI (d:H7):Option taW:=cond (eU (bG d.1) 0 (eF .i64 (bG d.1) 1)) (cond (eU (bG d.2.1) 0 (eF .i64 (bG d.1) 1)) (a6 (((sub d.1 0 (eF .i64 (bG d.1) 1)),((sub d.2.1 0 (eF .i64 (bG d.1) 1)),(d.2.2.1,()))),())) a7) a7
def aEF:Sum:=⟨[.pair .str tyK],tzG,fun x=>JI x.1⟩
theorem NF:dK prog 208 aEF:=qA f208 [] aN
noncomputable def b73:Code:=(f73.body).getD .skip
noncomputable def azk:Code:=cA (cA (cB (cA (cB (b73)))))
def azK:eG:=⟨[0,1,5,100002],[],[],[],[4],[]⟩
def ajK:SP:=⟨us [cJ,bS,.u,.u,.u,bR] 11,[]⟩
def agw:SP:=⟨us [] 17,[]⟩
def agQ:SP:=⟨us [.u,.u,.u,.u,cg] 12,[]⟩
def Ur {d:Type} (h:Int->bW->Int->Option d) (i:Option d) (j:Bool->Option d) (g:Int) (e:bW) (f:Int):Option d:=cond (iq f (bG e)) (cond (gm e f) (cond (bT (bY e f) g) (j true)<|h g e (bZ .i64 f 1)) a7) i
def Ce:Nat->Int->bW->Int->Option (agw.den⊕agQ.den)
 |0,_,_,_=>a7
 |n+1,d,e,f=>Ur (Ce n) (a6 (.inl ((),()))) (fun g=>a6 (.inr ((g,()),()))) d e f
def aCO (n:Nat) (v:ajK.den):=a8 (Ce n) v
noncomputable def asF:dA:=fH azK ajK agw agQ (.exit 0) (aCO bJ) 6
def Md (d:Int) (e:bW):Option uO:=bF (Ce bJ d e 0) fun f=>dL f (fun h=>a6 (false,())) (fun g=>a6 (g.1.1,()))
def aAs:Sum:=⟨[.int .u8,.str],O7,fun x=>Md x.1 x.2.1⟩
noncomputable def aqf:Env:=iU prog tt 73 [] [(2,azK)] [(2,asF)]
def atS {d:Type} (a:ajK.den->Option d) (b:agw.den->Option d) (c:agQ.den->Option d) (v:ajK.den):Option d:=a8 (Ur (fun e f g=>a ((e,f,g,()),())) (b ((),())) (aE c)) v
theorem aDh:dQ aqf 73 azk asF:=vS (atS) (h2:=by intros;simp only[atS,aE,a8,Ur,cu,cO,bD,bV,cZ])
theorem aHk:dO aqf 73 b73:=pI [azk] (aD (fM (aDh)) aN)
theorem aqg:eP aqf:=eA f73 aN (aHk)
theorem Lu:dK prog 73 aAs:=sA aqg
def JE (d:Int):Option lW:=cond (bT d 32) (a6 (1,()))<|cond (bT d 9) (a6 (1,()))<|cond (bT d 10) (a6 (2,()))<|bF (Md d [124,38,59,60,62,40,41]) fun e=>cond e.1 (a6 (3,()))<|bF (Md d [92,39,34,96,36]) fun f=>cond f.1 (a6 (4,()))<|bF (Md d [65,66,67,68,69,70,71,72,73,74,75,76,77,78,79,80,81,82,83,84,85,86,87,88,89,90,97,98,99,100,101,102,103,104,105,106,107,108,109,110,111,112,113,114,115,116,117,118,119,120,121,122,95]) fun g=>cond g.1 (a6 (5,()))<|bF (Md d [48,49,50,51,52,53,54,55,56,57]) fun h=>cond h.1 (a6 (6,()))<|some (0,())
def ahc:Sum:=⟨[.int .u8],Vz,fun x=>JE x.1⟩
theorem Gv:dK prog 113 ahc:=qA f113 [] (sE Lu aN)
def acA (e:Int):Option uO:=bF (JE e) fun d=>cond (bT d.1 1) (a6 (true,()))<|cond (bT d.1 2) (a6 (true,()))<|some ((bT d.1 3),())
def auI:Sum:=⟨[.int .u8],O7,fun x=>acA x.1⟩
theorem Xe:dK prog 159 auI:=qA f159 [] (sE Gv aN)
def kJ (d:H7) (e:bW):=gI (bM d.1 e) (bM d.1 e)
def mF (d:H7):=oH di d.2.1 d.2.1
def xw (d:H7) (e:bW) (f:Int):Option taW:=cond (iD d.1 e) (cond (gI d.1 d.1) (cond (gI e e) (cond (iD d.1 e) (cond (kJ d e) (cond (mF d) (cond (bT f f) (cond (jr d.2.2.1 d.2.2.1) (cond (dV (bM [] d.2.1) 8) (cond (gI d.1 d.1) (cond (gI e e) (cond (iD d.1 e) (cond (kJ d e) (cond (bT f f) (cond (jr d.2.2.1 d.2.2.1) (cond (gI d.1 d.1) (cond (gI e e) (cond (iD d.1 e) (cond (kJ d e) (cond (mF d) (cond (jr d.2.2.1 d.2.2.1) (cond (dV (bM (bM [] d.2.1) [f]) 8) (cond (gI d.1 d.1) (cond (gI e e) (cond (iD d.1 e) (cond (kJ d e) (cond (mF d) (cond (bT f f) (cond (jr d.2.2.1 d.2.2.1) (bF (cond (gI d.1 d.1) (cond (gI e e) (cond (iD d.1 e) (cond (kJ d e) (cond (mF d) (cond (jr d.2.2.1 d.2.2.1) (cond (dV (bM [] d.2.1) 8) (cond (gI d.1 d.1) (cond (gI e e) (cond (iD d.1 e) (cond (kJ d e) (cond (bT f f) (cond (jr d.2.2.1 d.2.2.1) (cond (dV (bM (bM [] d.2.1) [f]) 8) (cond (gI d.1 d.1) (cond (gI e e) (cond (iD d.1 e) (cond (kJ d e) (cond (mF d) (cond (bT f f) (cond (jr d.2.2.1 d.2.2.1) (cond (((((gI d.1 d.1)&&((mF d)&&((jr d.2.2.1 d.2.2.1)&&true)))&&((gI e e)&&((bT f f)&&((gI d.1 d.1)&&((gI e e)&&((kJ d e)&&((mF d)&&((bT f f)&&((jr d.2.2.1 d.2.2.1)&&(((kJ d e)&&((jr d.2.2.1 d.2.2.1)&&true))&&true))))))))))&&(((oH di [f] [f])&&((oH di (bM (bM [] d.2.1) [f]) (bM (bM [] d.2.1) [f]))&&(((kJ d e)&&((jr d.2.2.1 d.2.2.1)&&true))&&(((gI d.1 d.1)&&((mF d)&&((jr d.2.2.1 d.2.2.1)&&true)))&&true))))&&true))&&true) (a6 ()) (a7)) (a7)) (a7)) (a7)) (a7)) (a7)) (a7)) (a7)) (a7)) (a7)) (a7)) (a7)) (a7)) (a7)) (a7)) (a7)) (a7)) (a7)) (a7)) (a7)) (a7)) (a7)) fun g=>bF (cond (gI d.1 d.1) (cond (gI e e) (cond (iD d.1 e) (cond (kJ d e) (cond (mF d) (cond (jr d.2.2.1 d.2.2.1) (cond (gI d.1 d.1) (cond (gI e e) (cond (iD d.1 e) (cond (kJ d e) (cond (mF d) (cond (bT f f) (cond (jr d.2.2.1 d.2.2.1) (cond (dV (bM [] d.2.1) 8) (cond (gI d.1 d.1) (cond (gI e e) (cond (iD d.1 e) (cond (kJ d e) (cond (bT f f) (cond (jr d.2.2.1 d.2.2.1) (cond (dV (bM (bM [] d.2.1) [f]) 8) (cond (gI d.1 d.1) (cond (gI e e) (cond (iD d.1 e) (cond (kJ d e) (cond (mF d) (cond (bT f f) (cond (jr d.2.2.1 d.2.2.1) (cond (((((gI d.1 d.1)&&((mF d)&&((jr d.2.2.1 d.2.2.1)&&true)))&&((gI e e)&&((bT f f)&&((gI d.1 d.1)&&((gI e e)&&((kJ d e)&&((mF d)&&((bT f f)&&((jr d.2.2.1 d.2.2.1)&&(((kJ d e)&&((jr d.2.2.1 d.2.2.1)&&true))&&true))))))))))&&(((oH di [f] [f])&&((oH di (bM (bM [] d.2.1) [f]) (bM (bM [] d.2.1) [f]))&&(((kJ d e)&&((jr d.2.2.1 d.2.2.1)&&true))&&(((gI d.1 d.1)&&((mF d)&&((jr d.2.2.1 d.2.2.1)&&true)))&&true))))&&true))&&true) (a6 ()) (a7)) (a7)) (a7)) (a7)) (a7)) (a7)) (a7)) (a7)) (a7)) (a7)) (a7)) (a7)) (a7)) (a7)) (a7)) (a7)) (a7)) (a7)) (a7)) (a7)) (a7)) (a7)) (a7)) (a7)) (a7)) (a7)) (a7)) (a7)) (a7)) fun h=>a6 (((bM d.1 e),((bM (bM [] d.2.1) [f]),(d.2.2.1,()))),())) a7) a7) a7) a7) a7) a7) a7) a7) a7) a7) a7) a7) a7) a7) a7) a7) a7) a7) a7) a7) a7) a7) a7) a7) a7) a7) a7) a7) a7
def aEO:Sum:=⟨[.pair .str tyK,.str,di],tzG,fun x=>xw x.1 x.2.1 x.2.2.1⟩
theorem Xo:dK prog 241 aEO:=qA Tryz.f241 [] aN
def V8 (d:Int):Option vC:=cond (bT d 92) (a6 ([88],()))<|cond (bT d 36) (a6 ([76],()))<|cond (bT d 96) (a6 ([66],()))<|some ([],())
def aEP:Sum:=⟨[.int .u8],GX,fun x=>V8 x.1⟩
theorem Xp:dK prog 242 aEP:=qA f242 [] aN
def Yo (e:Int) (d:H7) (f:Int):Option taW:=bF (V8 e) fun g=>bF (xw (d.1,(d.2.1,(d.2.2.1,()))) g.1 f) fun i=>cond (bT e e) (bF (yB i.1 false) fun h=>cond ((gI d.1 d.1)&&((oH di d.2.1 d.2.1)&&((jr d.2.2.1 d.2.2.1)&&true))) (cond (bT e e) (cond (bT f f) (cond (((bT e e)&&true)&&((gI g.1 g.1)&&true)) (a6 ((h.1.1,(h.1.2.1,(h.1.2.2.1,()))),())) a7) a7) a7) a7) a7
def Yp (g h:Int) (d:H7) (i:Int):Option taW:=cond (bT g 40) (cond (bT h 84) (bF (yB (d.1,(d.2.1,(d.2.2.1,()))) true) fun e=>a6 ((e.1.1,(e.1.2.1,(e.1.2.2.1,()))),()))<|bF (xw (d.1,(d.2.1,(d.2.2.1,()))) [80] i) fun e=>bF (yB e.1 true) fun f=>a6 ((f.1.1,(f.1.2.1,(f.1.2.2.1,()))),()))<|cond (bT g 41) (cond (bT h 84) (bF (yB (d.1,(d.2.1,(d.2.2.1,()))) true) fun e=>a6 ((e.1.1,(e.1.2.1,(e.1.2.2.1,()))),()))<|bF (JI (d.1,(d.2.1,(d.2.2.1,())))) fun e=>bF (yB e.1 (bT h 80)) fun f=>a6 ((f.1.1,(f.1.2.1,(f.1.2.2.1,()))),()))<|bF (acA g) fun e=>bF (yB (d.1,(d.2.1,(d.2.2.1,()))) e.1) fun f=>cond (bT g g) (a6 ((f.1.1,(f.1.2.1,(f.1.2.2.1,()))),())) a7
def aij (d:H7) (i f g:Int):Option taW:=cond (bT f 92) (bF (xw (d.1,(d.2.1,(d.2.2.1,()))) [88] g) fun e=>a6 ((e.1.1,(e.1.2.1,(e.1.2.2.1,()))),()))<|cond (bT f 39) (bF (xw (d.1,(d.2.1,(d.2.2.1,()))) [83] g) fun e=>bF (yB e.1 false) fun h=>a6 ((h.1.1,(h.1.2.1,(h.1.2.2.1,()))),()))<|cond (bT f 34) (bF (xw (d.1,(d.2.1,(d.2.2.1,()))) [68] g) fun e=>bF (yB e.1 false) fun h=>a6 ((h.1.1,(h.1.2.1,(h.1.2.2.1,()))),()))<|cond (bT f 96) (Yo f d g)<|cond (bT f 36) (Yo f d g)<|cond (bT f 35) (cond d.2.2.1 (bF (xw (d.1,(d.2.1,(d.2.2.1,()))) [35] g) fun e=>a6 ((e.1.1,(e.1.2.1,(e.1.2.2.1,()))),()))<|Yp f i d g)<|Yp f i d g
def aEN:Sum:=⟨[.pair .str tyK,.int .u8,.int .u8,di],tzG,fun x=>aij x.1 x.2.1 x.2.2.1 x.2.2.2.1⟩
theorem aoe:dK prog 240 aEN:=qA Tryz.f240 [] (sE Xe (sE NE (sE NF (sE Xo (sE Xp aN)))))
def BN (d:H7) (f g h:Int):Option taW:=bF (aij (d.1,(d.2.1,(d.2.2.1,()))) f g h) fun e=>a6 ((e.1.1,(e.1.2.1,(e.1.2.2.1,()))),())
def vI (d:H7):Option taW:=bF (JI (d.1,(d.2.1,(d.2.2.1,())))) fun e=>a6 ((e.1.1,(e.1.2.1,(e.1.2.2.1,()))),())
def Ff (f:Int) (d:H7):Option taW:=cond (bT f 41) (bF (DX (d.1,(d.2.1,(d.2.2.1,()))) [69]) fun e=>a6 ((e.1.1,(e.1.2.1,(e.1.2.2.1,()))),()))<|some ((d.1,(d.2.1,(d.2.2.1,()))),())
def Fg (e:Int) (d:H7) (g h:Int):Option taW:=cond (bT e 40) (bF (xw (d.1,(d.2.1,(d.2.2.1,()))) [82] g) fun f=>a6 ((f.1.1,(f.1.2.1,(f.1.2.2.1,()))),()))<|cond (bT e 41) (cond (bT h 82) (vI d)<|Ff e d)<|Ff e d
def G5 (d:H7) (g e i:Int):Option taW:=cond (bT g 84) (BN d g e i)<|cond (bT g 67) (BN d g e i)<|cond (bT g 80) (BN d g e i)<|cond (bT g 88) (bF (JI (d.1,(d.2.1,(d.2.2.1,())))) fun h=>cond (!(bT e 10)) (bF (yB (h.1.1,(h.1.2.1,(h.1.2.2.1,()))) false) fun f=>a6 ((f.1.1,(f.1.2.1,(f.1.2.2.1,()))),()))<|some ((h.1.1,(h.1.2.1,(h.1.2.2.1,()))),()))<|cond (bT g 83) (cond (bT e 39) (vI d)<|some ((d.1,(d.2.1,(d.2.2.1,()))),()))<|cond (bT g 35) (cond (bT e 10) (bF (JI (d.1,(d.2.1,(d.2.2.1,())))) fun h=>bF (yB h.1 true) fun f=>a6 ((f.1.1,(f.1.2.1,(f.1.2.2.1,()))),()))<|some ((d.1,(d.2.1,(d.2.2.1,()))),()))<|cond (bT g 66) (cond (bT e 96) (vI d)<|cond (bT e 92) (bF (xw (d.1,(d.2.1,(d.2.2.1,()))) [88] i) fun h=>a6 ((h.1.1,(h.1.2.1,(h.1.2.2.1,()))),()))<|some ((d.1,(d.2.1,(d.2.2.1,()))),()))<|bF (V8 e) fun h=>cond (!(gI h.1 [])) (bF (V8 e) fun f=>bF (xw (d.1,(d.2.1,(d.2.2.1,()))) f.1 i) fun j=>cond (bT e e) (a6 ((j.1.1,(j.1.2.1,(j.1.2.2.1,()))),())) a7)<|cond (bT g 65) (Fg e d i g)<|cond (bT g 82) (Fg e d i g)<|cond (bT g 68) (cond (bT e 34) (vI d)<|some ((d.1,(d.2.1,(d.2.2.1,()))),()))<|cond (bT e 34) (bF (xw (d.1,(d.2.1,(d.2.2.1,()))) [68] i) fun f=>a6 ((f.1.1,(f.1.2.1,(f.1.2.2.1,()))),()))<|cond (bT e 125) (vI d)<|cond (bT e 39) (cond (bT g 86) (bF (xw (d.1,(d.2.1,(d.2.2.1,()))) [83] i) fun f=>a6 ((f.1.1,(f.1.2.1,(f.1.2.2.1,()))),()))<|some ((d.1,(d.2.1,(d.2.2.1,()))),()))<|some ((d.1,(d.2.1,(d.2.2.1,()))),())
def aEG:Sum:=⟨[.pair .str tyK,.int .u8,.int .u8,di],tzG,fun x=>G5 x.1 x.2.1 x.2.2.1 x.2.2.2.1⟩
theorem an5:dK prog 209 aEG:=qA f209 [] (sE NE (sE Xk (sE NF (sE aoe (sE Xo (sE Xp aN))))))
def RQ (d:H7) (g h:Int):Option taW:=cond (gm d.1 (eF .i64 (bG d.1) 1)) (cond (bT (bY d.1 (eF .i64 (bG d.1) 1)) 76) (cond (bT g 40) (bF (DX (d.1,(d.2.1,(d.2.2.1,()))) [79]) fun e=>bF (yB e.1 true) fun f=>a6 ((f.1.1,(f.1.2.1,(f.1.2.2.1,()))),()))<|cond (bT g 123) (cond (gm d.1 (eF .i64 (bG d.1) 2)) (cond (bT (bY d.1 (eF .i64 (bG d.1) 2)) 68) (bF (DX (d.1,(d.2.1,(d.2.2.1,()))) [73]) fun e=>a6 ((e.1.1,(e.1.2.1,(e.1.2.2.1,()))),()))<|cond (gm d.1 (eF .i64 (bG d.1) 2)) (cond (bT (bY d.1 (eF .i64 (bG d.1) 2)) 73) (bF (DX (d.1,(d.2.1,(d.2.2.1,()))) [73]) fun e=>a6 ((e.1.1,(e.1.2.1,(e.1.2.2.1,()))),()))<|bF (DX (d.1,(d.2.1,(d.2.2.1,()))) [86]) fun e=>a6 ((e.1.1,(e.1.2.1,(e.1.2.2.1,()))),())) a7) a7)<|bF (JI (d.1,(d.2.1,(d.2.2.1,())))) fun e=>cond (bT g 36) (a6 ((e.1.1,(e.1.2.1,(e.1.2.2.1,()))),()))<|cond (gm e.1.1 (eF .i64 (bG e.1.1) 1)) (bF (G5 (e.1.1,(e.1.2.1,(e.1.2.2.1,()))) (bY e.1.1 (eF .i64 (bG e.1.1) 1)) g h) fun f=>a6 ((f.1.1,(f.1.2.1,(f.1.2.2.1,()))),())) a7)<|cond (bT (bY d.1 (eF .i64 (bG d.1) 1)) 79) (cond (bT g 40) (bF (DX (d.1,(d.2.1,(d.2.2.1,()))) [65]) fun e=>bF (yB e.1 false) fun f=>a6 ((f.1.1,(f.1.2.1,(f.1.2.2.1,()))),()))<|bF (DX (d.1,(d.2.1,(d.2.2.1,()))) [67]) fun e=>bF (G5 (e.1.1,(e.1.2.1,(e.1.2.2.1,()))) 67 g h) fun f=>a6 ((f.1.1,(f.1.2.1,(f.1.2.2.1,()))),()))<|cond (bT (bY d.1 (eF .i64 (bG d.1) 1)) 69) (cond (bT g 41) (bF (JI (d.1,(d.2.1,(d.2.2.1,())))) fun e=>a6 ((e.1.1,(e.1.2.1,(e.1.2.2.1,()))),()))<|bF (DX (d.1,(d.2.1,(d.2.2.1,()))) [65]) fun e=>bF (G5 (e.1.1,(e.1.2.1,(e.1.2.2.1,()))) 65 g h) fun f=>a6 ((f.1.1,(f.1.2.1,(f.1.2.2.1,()))),()))<|bF (G5 (d.1,(d.2.1,(d.2.2.1,()))) (bY d.1 (eF .i64 (bG d.1) 1)) g h) fun e=>a6 ((e.1.1,(e.1.2.1,(e.1.2.2.1,()))),())) a7
def abE:Sum:=⟨[.pair .str tyK,.int .u8,di],tzG,fun x=>RQ x.1 x.2.1 x.2.2.1⟩
theorem NC:dK prog 160 abE:=qA f160 [] (sE NE (sE Xk (sE NF (sE an5 aN))))
noncomputable def aF4:Code:=(Tryz.f243.body).getD .skip
noncomputable def apj:Code:=cA (cA (cB (cA (cB (aF4)))))
def arJ:eG:=⟨[1,2,5,100002],[],[],[],[4],[]⟩
def Zu:SP:=⟨us [.u,bR,.ptr 1000002 0,.u,.u,bR] 15,[.box 1000002 193 eE]⟩
def aac:SP:=⟨us [] 21,[]⟩
def aaM:SP:=⟨us cS 16,[]⟩
def Qu {e:Type} (h:Int->Int->bW->jo->Bool->Option e) (i:Option e) (j:Int->Option e) (g d:Int) (l:bW) (f:jo) (m:Bool):Option e:=cond (iq d (bG f)) (cond (gm f d) (cond (bT (eX f 0 d) g) (j d)<|h g (bZ .i64 d 1) l f m) a7) i
def FQ:Nat->Int->Int->bW->jo->Bool->Option (aac.den⊕aaM.den)
 |0,_,_,_,_,_=>a7
 |n+1,d,e,f,g,h=>Qu (FQ n) (a6 (.inl ((),()))) (fun i=>a6 (.inr ((i,()),()))) d e f g h
def axp (n:Nat) (v:Zu.den):=FQ n v.1.1 v.1.2.1 v.2.1.1 v.2.1.2.1 v.2.1.2.2.1
noncomputable def aja:dA:=fH arJ Zu aac aaM (.exit 0) (axp bJ) 6
def acM (d:H7) (e:Int):Option lW:=bF (FQ bJ e 1 d.1 d.2.1 d.2.2.1) fun f=>dL f (fun h=>a6 (0,())) (fun g=>a6 (g.1.1,()))
def auY:Sum:=⟨[.pair .str tyK,di],Vz,fun x=>acM x.1 x.2.1⟩
noncomputable def afh:Env:=iU prog tt 243 [] [(2,arJ)] [(2,aja)]
def akx {d:Type} (a:Zu.den->Option d) (b:aac.den->Option d) (c:aaM.den->Option d) (v:Zu.den):Option d:=Qu (fun e f g h i=>a ((e,f,()),((g,h,i,()),()))) (b ((),())) (aE c) v.1.1 v.1.2.1 v.2.1.1 v.2.1.2.1 v.2.1.2.2.1
theorem ayc:dQ afh 243 apj aja:=vS (akx) (h2:=by intros;simp only[akx,aE,Qu,cu,cO,bD,bV,cZ])
theorem aCm:dO afh 243 aF4:=pI [apj] (aD (fM (ayc)) aN)
theorem amd:eP afh:=eA Tryz.f243 aN (aCm)
theorem aof:dK prog 243 auY:=sA amd
noncomputable def aF5:Code:=(f244.body).getD .skip
noncomputable def apk:Code:=cA (cA (cB (cA (cB (cB (cB (aF5)))))))
def arK:eG:=⟨[0,3,100006],[],[],[],[2],[]⟩
def Zv:SP:=⟨us [cJ,.u,.u,bR] 13,[]⟩
def aad:SP:=⟨us [] 17,[]⟩
def aaN:SP:=⟨us dx 14,[]⟩
def abn {e:Type} (g:Int->Int->Option e) (h:Option e) (i:Int->Option e) (f d:Int):Option e:=cond (iq d 15) (cond (gm [84,67,80,79,83,68,66,86,73,65,82,69,76,88,35] d) (cond (bT (bY [84,67,80,79,83,68,66,86,73,65,82,69,76,88,35] d) f) (i d)<|g f (bZ .i64 d 1)) a7) h
def YO:Nat->Int->Int->Option (aad.den⊕aaN.den)
 |0,_,_=>a7
 |n+1,d,e=>abn (YO n) (a6 (.inl ((),()))) (fun f=>a6 (.inr ((f,()),()))) d e
def axq (n:Nat) (v:Zv.den):=YO n v.1.1 v.1.2.1
noncomputable def ajb:dA:=fH arK Zv aad aaN (.exit 0) (axq bJ) 6
def aik (d:Int):Option lW:=cond (bT d 79) (a6 (1,()))<|cond (bT d 69) (a6 (9,()))<|bF (YO bJ d 0) fun e=>dL e (fun g=>a6 (0,())) (fun f=>a6 (f.1.1,()))
def auZ:Sum:=⟨[.int .u8],Vz,fun x=>aik x.1⟩
noncomputable def afi:Env:=iU prog tt 244 [] [(6,arK)] [(6,ajb)]
def aky {d:Type} (a:Zv.den->Option d) (b:aad.den->Option d) (c:aaN.den->Option d) (v:Zv.den):Option d:=abn (aL a) (b ((),())) (aE c) v.1.1 v.1.2.1
theorem ayd:dQ afi 244 apk ajb:=vS (aky) (h2:=by intros;simp only[aky,aL,aE,abn,cu,cO,bD,bV,cZ])
theorem aCn:dO afi 244 aF5:=pI [apk] (aD (fM (ayd)) aN)
theorem ame:eP afi:=eA f244 aN (aCn)
theorem aog:dK prog 244 auZ:=sA ame
noncomputable def aF2:Code:=(f215.body).getD .skip
noncomputable def aph:Code:=cA (cA (cB (cA (cB (cB (aF2))))))
def Zr:SP:=⟨us [bS,.u,.u,bR] 27,[]⟩
def Z9:SP:=⟨us [] 31,[]⟩
def aaK:SP:=⟨us [.u,.u,cg] 28,[]⟩
def Qr {f:Type} (g:bW->Int->Option f) (h:Option f) (i:Bool->Option f) (d:bW) (e:Int):Option f:=cond (iq e (bG d)) (cond (gm d e) (bF (JE (bY d e)) fun j=>cond (!(bT j.1 5)) (cond (gm d e) (bF (JE (bY d e)) fun l=>cond (!(bT l.1 6)) (i false)<|g d (bZ .i64 e 1)) a7)<|g d (bZ .i64 e 1)) a7) h
def FP:Nat->bW->Int->Option (Z9.den⊕aaK.den)
 |0,_,_=>a7
 |n+1,d,e=>Qr (FP n) (a6 (.inl ((),()))) (fun f=>a6 (.inr ((f,()),()))) d e
def axn (n:Nat) (v:Zr.den):=FP n v.1.1 v.1.2.1
noncomputable def ai8:dA:=fH aiG Zr Z9 aaK (.exit 0) (axn bJ) 6
def RS (d:bW):Option uO:=cond (bT (bG d) 0) (a6 (false,()))<|cond (gm d 0) (bF (JE (bY d 0)) fun e=>cond (!(bT e.1 5)) (a6 (false,()))<|bF (FP bJ d 1) fun f=>dL f (fun h=>a6 (true,())) (fun g=>a6 (g.1.1,()))) a7
def UA:Sum:=⟨[.str],O7,fun x=>RS x.1⟩
noncomputable def aff:Env:=iU prog tt 215 [(113,ahc)] [(4,aiG)] [(4,ai8)]
def akv {d:Type} (a:Zr.den->Option d) (b:Z9.den->Option d) (c:aaK.den->Option d) (v:Zr.den):Option d:=Qr (aL a) (b ((),())) (aE c) v.1.1 v.1.2.1
theorem aya:dQ aff 215 aph ai8:=vS (akv) (h2:=by intros;simp only[akv,aL,aE,Qr,cu,cO,bD,bV,cZ])
theorem aCk:dO aff 215 aF2:=pI [aph] (aD (fM (aya)) aN)
theorem ama:eP aff:=eA f215 (aD Gv aN) (aCk)
theorem Gw:dK prog 215 UA:=sA ama
noncomputable def aF7:Code:=(f268.body).getD .skip
noncomputable def apq:Code:=cA (cA (cB (cA (cB (cB (aF7))))))
def YI:eG:=⟨[0,1,5,6,100003],[],[5],[],[4],[]⟩
def ZA:SP:=⟨us [bS,bR,.u,.u,.u,bR,bR] 17,[]⟩
def aai:SP:=⟨us [.u,.u,.u,.u,.u,bR] 18,[]⟩
def aaS:SP:=⟨us cS 19,[]⟩
def Qy {g:Type} (h:bW->Int->Int->Int->Option g) (j m:Int->Option g) (f:bW) (d i e:Int):Option g:=cond (leI e (eF .i64 (bG f) d)) (cond (eU (bG f) d (bZ .i64 d e)) (bF (RS (sub f d (bZ .i64 d e))) fun l=>cond l.1 (h f d e (bZ .i64 e 1))<|h f d i (bZ .i64 e 1)) a7)<|j i
def FV:Nat->bW->Int->Int->Int->Option (aai.den⊕aaS.den)
 |0,_,_,_,_=>a7
 |n+1,d,e,f,g=>Qy (FV n) (fun h=>a6 (.inl ((h,()),()))) (fun i=>a6 (.inr ((i,()),()))) d e f g
def axv (n:Nat) (v:ZA.den):=aR (FV n) v
noncomputable def ajg:dA:=fH YI ZA aai aaS (.exit 0) (axv bJ) 6
def aip (d:bW) (e:Int):Option lW:=bF (FV bJ d e 0 1) fun f=>dL f (fun g=>a6 (g.1.1,())) (fun h=>a6 (h.1.1,()))
def aEX:Sum:=⟨[.str,di],Vz,fun x=>aip x.1 x.2.1⟩
noncomputable def afm:Env:=iU prog tt 268 [(215,UA)] [(3,YI)] [(3,ajg)]
def akD {d:Type} (a:ZA.den->Option d) (b:aai.den->Option d) (c:aaS.den->Option d) (v:ZA.den):Option d:=aR (Qy (aM a) (aE b) (aE c)) v
theorem ayi:dQ afm 268 apq ajg:=vS (akD) (h2:=by intros;simp only[akD,aM,aE,aR,Qy,cu,cO,bD,bV,cZ])
theorem aCs:dO afm 268 aF7:=pI [apq] (aD (fM (ayi)) aN)
theorem amn:eP afm:=eA f268 (aD Gw aN) (aCs)
theorem aom:dK prog 268 aEX:=sA amn
def ail (d:bW) (e:Int):Option lW:=bF (aip d e) fun f=>cond (bT f.1 0) (cond (iq e (bG d)) (cond (gm d e) (bF (JE (bY d e)) fun g=>cond (bT g.1 6) (a6 (1,()))<|cond (gm d e) (bF (Md (bY d e) [64,42,35,63,45,36,33]) fun h=>cond h.1 (a6 (1,()))<|some (f.1,())) a7) a7)<|some (f.1,()))<|some (f.1,())
def au0:Sum:=⟨[.str,di],Vz,fun x=>ail x.1 x.2.1⟩
theorem aoh:dK prog 245 au0:=qA f245 [] (sE Gv (sE Lu (sE aom aN)))
noncomputable def aoN:Code:=(f210.body).getD .skip
noncomputable def apc:Code:=cA (cA (cB (cA (cB (cB (aoN))))))
noncomputable def ahB:Code:=cA (cA (cB (cA (cB (cB (cB (cA (cA (cB (cA (cA (cB (cA (cB (cB (cB (cB (aoN))))))))))))))))))
noncomputable def ahC:Code:=cA (cA (cB (cA (cB (cB (cB (cB (cA (cA (cB (cA (cA (cB (cA (cB (cB (cB (cB (aoN)))))))))))))))))))
noncomputable def apd:Code:=cA (cA (cB (cA (cB (cB (cB (cB (aoN))))))))
def arD:eG:=⟨[0,3,4,100003],[],[0,3],[],[2],[(2,Jb)]⟩
def aiA:eG:=⟨[0,3,5,6,7,8,9,100014],[],[0,3,5,6,7,8],[],[2],[(2,Jb)]⟩
def aiB:eG:=⟨[0,3,5,6,7,8,10,100019],[],[0,3,5,6,8],[],[2],[(2,Jb)]⟩
def arE:eG:=⟨[0,3,5,6,100008],[(5,Jb)],[5],[],[2],[(2,Jb)]⟩
def Zm:SP:=⟨us [bS,.u,.u,dr,bR] 117,[cP]⟩
def ZZ:SP:=⟨us [bS,.u,.u,dr] 118,[cP]⟩
def aaF:SP:=⟨dv,[]⟩
def Qn {g:Type} (i:bW->Int->(List H7)->Option g) (j:bW->(List H7)->Option g) (l:(List iZ)->Option g) (f:bW) (d:Int) (e:List H7):Option g:=cond (iq d (bG f)) (cond (gm e d) (cond (gm f d) (cond (ni (dw d) e) (bF (RQ ((dD e ([],([],(false,()))) (dw d)).1,((dD e ([],([],(false,()))) (dw d)).2.1,((dD e ([],([],(false,()))) (dw d)).2.2.1,()))) (bY f d) d) fun h=>cond (dV (bM e [h.1]) 48) (i f (bZ .i64 d 1) (bM e [h.1])) a7) a7) a7) a7)<|j f e
def FN:Nat->bW->Int->(List H7)->Option (ZZ.den⊕aaF.den)
 |0,_,_,_=>a7
 |n+1,d,e,f=>Qn (FN n) (fun g h=>a6 (.inl ((g,()),(h,())))) (fun i=>a6 (.inr ((i,()),()))) d e f
def axi (n:Nat) (v:Zm.den):=FN n v.1.1 v.1.2.1 v.2.1
noncomputable def ai3:dA:=fH arD Zm ZZ aaF (.exit 0) (axi bJ) 6
def PD:SP:=⟨us [bS,.u,.u,dr,.u,cG,bR,bR,ez,bR] 112,cm⟩
def TF:SP:=⟨us [bS,.u,.u,dr,.u,cG,bR,bR,ez] 113,cm⟩
def TQ:SP:=⟨dv,[]⟩
def La {i:Type} (q:bW->Int->Int->Int->Int->Int->Int->Int->Bool->(List iZ)->(List H7)->Option i) (u:bW->Int->Int->Int->Int->Int->Int->Bool->(List iZ)->(List H7)->Option i) (v:(List iZ)->Option i) (j:bW) (d h e l m o s:Int) (p:Bool) (f:List iZ) (g:List H7):Option i:=cond (iq e (bG f)) (cond (iq 1 h) (cond (gm f e) (cond (ni (dw e) f) (cond (gm g (bZ .i64 d 1)) (cond (ni (dw (bZ .i64 d 1)) g) (cond (gm (dD g ([],([],(false,()))) (dw (bZ .i64 d 1))).2.1 (eF .i64 h 1)) (cond (bT (dD f (0,(0,(0,(0,(false,()))))) (dw e)).2.1 (eX (dD g ([],([],(false,()))) (dw (bZ .i64 d 1))).2.1 0 (eF .i64 h 1))) (q j d h (bZ .i64 e 1) l m o e p f g)<|q j d h (bZ .i64 e 1) l m o s p f g) a7) a7) a7) a7) a7)<|q j d h (bZ .i64 e 1) l m o s p f g)<|u j d h l m o s p f g
def AU:Nat->bW->Int->Int->Int->Int->Int->Int->Int->Bool->(List iZ)->(List H7)->Option (TF.den⊕TQ.den)
 |0,_,_,_,_,_,_,_,_,_,_,_=>a7
 |n+1,d,e,f,g,h,i,j,l,m,o,p=>La (AU n) (fun q s u v x y z A B D=>a6 (.inl ((q,s,u,()),((v,x,y,z,A,()),B,D,())))) (fun E=>a6 (.inr ((E,()),()))) d e f g h i j l m o p
def asf (n:Nat) (v:PD.den):=ba (AU n) v
noncomputable def adt:dA:=fH aiA PD TF TQ (.exit 4) (asf bJ) 12
def PE:SP:=⟨us [bS,.u,.u,dr,.u,cG,bR,bR,ez,.u,bR] 111,cm⟩
def TG:SP:=⟨us [bS,.u,.u,dr,.u,cG,bR,.u,ez] 113,cm⟩
def TR:SP:=⟨dv,[]⟩
def Bj {f:Type} (u:bW->Int->Int->Int->Int->Int->Int->Int->Bool->(List iZ)->(List H7)->Option f) (o:bW->Int->Int->Int->Int->Int->Bool->(List iZ)->(List H7)->Option f) (y:(List iZ)->Option f) (g:bW) (h i d p j q l:Int) (s:Bool) (m:List iZ) (e:List H7):Option f:=cond (leI d (bG g)) (cond (gm e d) (cond (ni (dw d) e) (bF (acM ((dD e ([],([],(false,()))) (dw d)).1,((dD e ([],([],(false,()))) (dw d)).2.1,((dD e ([],([],(false,()))) (dw d)).2.2.1,()))) h) fun v=>cond (bT v.1 0) (o g h p j d l false m e)<|cond (gm e d) (cond (ni (dw d) e) (cond (gm (dD e ([],([],(false,()))) (dw d)).1 i) (bF (aik (bY (dD e ([],([],(false,()))) (dw d)).1 i)) fun x=>u g h i (bZ .i64 d 1) x.1 j q l s m e) a7) a7) a7) a7) a7)<|o g h p j q l s m e
def xH:Nat->bW->Int->Int->Int->Int->Int->Int->Int->Bool->(List iZ)->(List H7)->Option (TG.den⊕TR.den)
 |0,_,_,_,_,_,_,_,_,_,_,_=>a7
 |n+1,d,e,f,g,h,i,j,l,m,o,p=>Bj (xH n) (fun q s u v x y z A B=>a6 (.inl ((q,s,()),((u,v,x,y,z,()),A,B,())))) (fun D=>a6 (.inr ((D,()),()))) d e f g h i j l m o p
def ash (n:Nat) (v:PE.den):=ba (xH n) v
noncomputable def adu:dA:=fH aiB PE TG TR (.exit 6) (ash bJ) 18
def Zn:SP:=⟨us [bS,.u,.u,dr,.u,cG,bR] 115,[.arr 1800005 Jb,cP]⟩
def Z4:SP:=⟨us [.u,.u,.u,.u,.u,cG] 116,[.arr 1800005 Jb]⟩
def aaG:SP:=⟨dv,[]⟩
def Qo {i:Type} (j:bW->Int->(List iZ)->(List H7)->Option i) (q m:(List iZ)->Option i) (h:bW) (f:Int) (l:List iZ) (g:List H7):Option i:=cond (iq f (bG h)) (cond (gm g (bZ .i64 f 1)) (cond (ni (dw (bZ .i64 f 1)) g) (bF (acM ((dD g ([],([],(false,()))) (dw (bZ .i64 f 1))).1,((dD g ([],([],(false,()))) (dw (bZ .i64 f 1))).2.1,((dD g ([],([],(false,()))) (dw (bZ .i64 f 1))).2.2.1,()))) f) fun o=>cond (bT o.1 0) (j h (bZ .i64 f 1) l g)<|bF (AU bJ h f o.1 0 0 f (bG h) (-1) true l g) fun s=>dL s (fun e=>bF (xH bJ e.1.1 e.1.2.1 e.1.2.2.1 (bZ .i64 e.1.2.1 1) e.2.1.1 e.2.1.2.1 e.2.1.2.2.1 e.2.1.2.2.2.1 e.2.1.2.2.2.2.1 e.2.2.1 e.2.2.2.1) fun u=>dL u (fun d=>cond (bT d.2.1.1 12) (bF (ail d.1.1 (bZ .i64 d.1.2.1 1)) fun p=>cond (dV (bM d.2.2.1 [(d.2.1.1,(d.2.1.2.1,((bZ .i64 (bZ .i64 d.1.2.1 1) p.1),(d.2.1.2.2.2.1,(false,())))))]) 40) (j d.1.1 (bZ .i64 d.1.2.1 1) (bM d.2.2.1 [(d.2.1.1,(d.2.1.2.1,((bZ .i64 (bZ .i64 d.1.2.1 1) p.1),(d.2.1.2.2.2.1,(false,())))))]) d.2.2.2.1) a7)<|cond (dV (bM d.2.2.1 [(d.2.1.1,(d.2.1.2.1,(d.2.1.2.2.1,(d.2.1.2.2.2.1,(d.2.1.2.2.2.2.1,())))))]) 40) (j d.1.1 (bZ .i64 d.1.2.1 1) (bM d.2.2.1 [(d.2.1.1,(d.2.1.2.1,(d.2.1.2.2.1,(d.2.1.2.2.2.1,(d.2.1.2.2.2.2.1,())))))]) d.2.2.2.1) a7) (fun v=>m v.1.1)) (fun x=>m x.1.1)) a7) a7)<|q l
def Cb:Nat->bW->Int->(List iZ)->(List H7)->Option (Z4.den⊕aaG.den)
 |0,_,_,_,_=>a7
 |n+1,d,e,f,g=>Qo (Cb n) (fun h=>a6 (.inl ((),(h,())))) (fun i=>a6 (.inr ((i,()),()))) d e f g
def axj (n:Nat) (v:Zn.den):=Cb n v.1.1 v.1.2.1 v.2.1 v.2.2.1
noncomputable def ai4:dA:=fH arE Zn Z4 aaG (.exit 2) (axj bJ) 24
def aid (e:bW):Option ((List iZ)×Unit):=bF RP fun f=>bF (FN bJ e 0 [f.1]) fun g=>dL g (fun d=>bF (Cb bJ d.1.1 0 [] d.2.1) fun h=>dL h (fun i=>a6 (i.2.1,())) (fun j=>a6 (j.1.1,()))) (fun l=>a6 (l.1.1,()))
def auS:Sum:=⟨[.str],[(.list Jb,false)],fun x=>aid x.1⟩
noncomputable def LY:Env:=iU prog tt 210 [(158,abD),(160,abE),(243,auY),(244,auZ),(245,au0)] [(3,arD),(14,aiA),(19,aiB),(8,arE)] [(3,ai3),(14,adt),(19,adu),(8,ai4)]
def akq {d:Type} (a:Zm.den->Option d) (b:ZZ.den->Option d) (c:aaF.den->Option d) (v:Zm.den):Option d:=Qn (fun e f g=>a ((e,f,()),(g,()))) (fun h i=>b ((h,()),(i,()))) (aE c) v.1.1 v.1.2.1 v.2.1
theorem ax5:dQ LY 210 apc ai3:=vS (akq) (h2:=by intros;simp only[akq,aE,Qn,cu,cO,bD,bV,cZ])
def ad8 {d:Type} (a:PD.den->Option d) (b:TF.den->Option d) (c:TQ.den->Option d) (v:PD.den):Option d:=ba (La (fun e f g h i j l m o p q=>a ((e,f,g,h,()),((i,j,l,m,o,()),p,q,()))) (fun s u x y z A B D E G=>b ((s,u,x,()),((y,z,A,B,D,()),E,G,()))) (aE c)) v
theorem asW:dQ LY 210 ahB adt:=vS (ad8) (h2:=by intros;simp only[ad8,aE,ba,La,cu,cO,bD,bV,cZ])
def ad9 {d:Type} (a:PE.den->Option d) (b:TG.den->Option d) (c:TR.den->Option d) (v:PE.den):Option d:=ba (Bj (fun e f g h i j l m o p q=>a ((e,f,g,h,()),((i,j,l,m,o,()),p,q,()))) (fun s u x y z A B D E=>b ((s,u,()),((x,y,z,A,B,()),D,E,()))) (aE c)) v
theorem asX:dQ LY 210 ahC adu:=vS (ad9) (h2:=by intros;simp only[ad9,aE,ba,Bj,cu,cO,bD,bV,cZ])
def akr {d:Type} (a:Zn.den->Option d) (b:Z4.den->Option d) (c:aaG.den->Option d) (v:Zn.den):Option d:=Qo (fun e f g h=>a ((e,f,()),(g,h,()))) (fun i=>b ((),(i,()))) (aE c) v.1.1 v.1.2.1 v.2.1 v.2.2.1
theorem ax6:dQ LY 210 apd ai4:=vS (akr) (h2:=by intros;simp only[akr,aE,Qo,cu,cO,bD,bV,cZ])
theorem aCg:dO LY 210 aoN:=pI [apc,ahB,ahC,apd] (aD (fM (ax5)) (aD (fM (asW)) (aD (fM (asX)) (aD (fM (ax6)) aN))))
theorem al6:eP LY:=eA f210 (aD Nz (aD NC (aD aof (aD aog (aD aoh aN))))) (aCg)
theorem an6:dK prog 210 auS:=sA al6
noncomputable def aFX:Code:=(f162.body).getD .skip
noncomputable def ao7:Code:=cA (cA (cB (cA (cB (cB (aFX))))))
def arz:eG:=⟨[0,2,3,4,100003],[],[2,3],[],[2],[]⟩
def Zh:SP:=⟨us [bS,.u,.ptr 1000002 0,cR,bR] 14,c9⟩
def ZV:SP:=⟨us [.u,.u,.ptr 1000002 0,cR] 15,c9⟩
def aaB:SP:=⟨us [] 19,[]⟩
def Qi {e:Type} (o:bW->Int->bW->jo->Bool->bW->Bool->Option e) (p:bW->jo->Bool->bW->Bool->Option e) (q:Option e) (f:bW) (d:Int) (h:bW) (i:jo) (j:Bool) (l:bW) (m:Bool):Option e:=cond (iq d (bG f)) (cond (gm f d) (bF (RQ (h,(i,(j,()))) (bY f d) d) fun g=>o f (bZ .i64 d 1) g.1.1 g.1.2.1 g.1.2.2.1 l m) a7)<|p h i j l m
def J3:Nat->bW->Int->bW->jo->Bool->bW->Bool->Option (ZV.den⊕aaB.den)
 |0,_,_,_,_,_,_,_=>a7
 |n+1,d,e,f,g,h,i,j=>Qi (J3 n) (fun l m o p q=>a6 (.inl ((),((l,m,o,()),(p,q,()),())))) (a6 (.inr ((),()))) d e f g h i j
def axd (n:Nat) (v:Zh.den):=J3 n v.1.1 v.1.2.1 v.2.1.1 v.2.1.2.1 v.2.1.2.2.1 v.2.2.1.1 v.2.2.1.2.1
noncomputable def aiY:dA:=fH arz Zh ZV aaB (.exit 0) (axd bJ) 6
def ah2 (f:bW):Option taW:=bF RP fun d=>bF (J3 bJ f 0 d.1.1 d.1.2.1 d.1.2.2.1 [] false) fun g=>dL g (fun e=>a6 ((e.2.1.1,(e.2.1.2.1,(e.2.1.2.2.1,()))),())) (fun h=>a7)
def aEm:Sum:=⟨[.str],tzG,fun x=>ah2 x.1⟩
noncomputable def ae7:Env:=iU prog tt 162 [(158,abD),(160,abE)] [(3,arz)] [(3,aiY)]
def akl {d:Type} (a:Zh.den->Option d) (b:ZV.den->Option d) (c:aaB.den->Option d) (v:Zh.den):Option d:=Qi (fun e f g h i j l=>a ((e,f,()),((g,h,i,()),(j,l,()),()))) (fun m o p q s=>b ((),((m,o,p,()),(q,s,()),()))) (c ((),())) v.1.1 v.1.2.1 v.2.1.1 v.2.1.2.1 v.2.1.2.2.1 v.2.2.1.1 v.2.2.1.2.1
theorem ax0:dQ ae7 162 ao7 aiY:=vS (akl) (h2:=by intros;simp only[akl,Qi,cu,cO,bD,bV,cZ])
theorem aB8:dO ae7 162 aFX:=pI [ao7] (aD (fM (ax0)) aN)
theorem alX:eP ae7:=eA f162 (aD Nz (aD NC aN)) (aB8)
theorem anQ:dK prog 162 aEm:=sA alX
noncomputable def aFU:Code:=(f114.body).getD .skip
noncomputable def aoZ:Code:=cA (cA (cB (cA (cB (cB (aFU))))))
def art:eG:=⟨[0,5,6,100003],[],[0],[],[4],[]⟩
def Y9:SP:=⟨us [bS,.u,.u,.u,.u,cx,bR] 37,[.box 1000005 193 eE]⟩
def PP:SP:=⟨us [bS] 43,[]⟩
def PU:SP:=⟨us cS 39,[]⟩
def Bf {g:Type} (e:bW) (d:Int) (h:bW) (i:jo) (j:Bool) (l:bW->Int->bW->jo->Bool->Option g):Option g:=cond (gm e d) (bF (RQ (h,(i,(j,()))) (bY e d) d) fun f=>l e (bZ .i64 d 1) f.1.1 f.1.2.1 f.1.2.2.1) a7
def Qa {g:Type} (h:bW->Int->bW->jo->Bool->Option g) (m:bW->Option g) (l:Int->Option g) (e:bW) (d:Int) (f:bW) (i:jo) (j:Bool):Option g:=cond (iq d (bG e)) (cond (gm e d) (bF (acA (bY e d)) fun o=>cond o.1 (cond (gI f [84]) (l d)<|cond (gI f [84,76]) (cond (gm e d) (cond (!(bT (bY e d) 40)) (l d)<|Bf e d f i j h) a7)<|Bf e d f i j h)<|Bf e d f i j h) a7)<|m e
def FI:Nat->bW->Int->bW->jo->Bool->Option (PP.den⊕PU.den)
 |0,_,_,_,_,_=>a7
 |n+1,d,e,f,g,h=>Qa (FI n) (fun i=>a6 (.inl ((i,()),()))) (fun j=>a6 (.inr ((j,()),()))) d e f g h
def aw5 (n:Nat) (v:Y9.den):=FI n v.1.1 v.1.2.1 v.2.1.1 v.2.1.2.1 v.2.1.2.2.1
noncomputable def aiQ:dA:=fH art Y9 PP PU (.exit 0) (aw5 bJ) 6
def VW (e:bW) (f:Int):Option lW:=bF RP fun d=>bF (FI bJ e f d.1.1 d.1.2.1 d.1.2.2.1) fun g=>dL g (fun h=>a6 ((bG h.1.1),())) (fun i=>a6 (i.1.1,()))
def aut:Sum:=⟨[.str,di],Vz,fun x=>VW x.1 x.2.1⟩
noncomputable def ae0:Env:=iU prog tt 114 [(158,abD),(160,abE),(159,auI)] [(3,art)] [(3,aiQ)]
def akd {d:Type} (a:Y9.den->Option d) (b:PP.den->Option d) (c:PU.den->Option d) (v:Y9.den):Option d:=Qa (fun e f g h i=>a ((e,f,()),((g,h,i,()),()))) (aE b) (aE c) v.1.1 v.1.2.1 v.2.1.1 v.2.1.2.1 v.2.1.2.2.1
theorem axS:dQ ae0 114 aoZ aiQ:=vS (akd) (h2:=by intros;simp only[akd,aE,Qa,cu,cO,bD,bV,cZ,Bf])
theorem aB0:dO ae0 114 aFU:=pI [aoZ] (aD (fM (axS)) aN)
theorem alN:eP ae0:=eA f114 (aD Nz (aD NC (aD Xe aN))) (aB0)
theorem anB:dK prog 114 aut:=sA alN
end
section
open List renaming length_drop → aQ
open Go.RowKit
theorem dh {a b:Int} (d: -9223372036854775808<=a+b:=by omega) (h2:a+b<=9223372036854775807:=by omega):bZ .i64 a b=a+b:=by
 unfold bZ;rw[IntKind.wrap_i64];omega
theorem iy {a b:Int} (d: -9223372036854775808<=a-b:=by omega) (h2:a-b<=9223372036854775807:=by omega):eF .i64 a b=a-b:=by
 unfold eF;rw[IntKind.wrap_i64];omega
theorem awW {a b:Int}:leI a b=true↔a<=b:=by simp[leI]
theorem axD {a b:Int}:iq a b=true↔a<b:=by simp[iq]
theorem awd {a b:Int}:bT a b=true↔a=b:=by simp[bT]
theorem awE {d:Type} {l:List d} {i:Int}:gm l i=true↔0<=i/\i<l.length:=by simp[gm]
theorem axE {d:Type} {l:List d} {i:Nat}:ni i l=true↔i<l.length:=by simp[ni,O1]
theorem anc {n lo hi:Int}:eU n lo hi=true↔0<=lo/\lo<=hi/\hi<=n:=by simp[eU]
theorem bU {d:Type} {b:Bool} {x y:d} (h:b=true):(bif b then x else y)=x:=by rw[h];rfl
theorem dG {d:Type} {b:Bool} {x y:d} (h:b=false):(bif b then x else y)=y:=by rw[h];rfl
theorem nK {a b:Int} (h:a<=b:=by omega):leI a b=true:=awW.2 h
theorem D9 {a b:Int} (h:b<a:=by omega):leI a b=false:=by simp[leI];omega
theorem eQ {a b:Int} (h:a<b:=by omega):iq a b=true:=axD.2 h
theorem kW {a b:Int} (h:b<=a:=by omega):iq a b=false:=by simp[iq];omega
theorem Dq {a b:Int} (h: ¬a<=b:=by omega):leI a b=false:=D9
theorem gK {a b:Int} (h: ¬a<b:=by omega):iq a b=false:=kW
theorem fO {a b:Int} (h:a=b:=by omega):bT a b=true:=awd.2 h
theorem dR {a b:Int} (h:a≠b:=by omega):bT a b=false:=by simp[bT];exact h
theorem dU {d:Type} {l:List d} {i:Int} (h:0<=i:=by omega) (h2:i<l.length:=by omega):gm l i=true:=awE.2 ⟨h,h2⟩
theorem pJ {d:Type} {l:List d} {i:Nat} (h:i<l.length):ni i l=true:=axE.2 h
theorem fV {n lo hi:Int} (h:0<=lo) (d:lo<=hi) (h2:hi<=n):eU n lo hi=true:=anc.2 ⟨h,d,h2⟩
theorem bI {d:Type} {l:List d}:bG l=(l.length:Int):=rfl
theorem dH {n:Nat} (h:n<1000000000000000000000000:=by omega):n<bJ:=by unfold bJ;omega
theorem aA9 (s:bW) (i:Int): ∃n:Fin 256,bY s i=((n.val:Nat):Int):=⟨⟨(s.getD i.toNat 0).toNat,UInt8.toNat_lt _⟩,rfl⟩
theorem aA8 {s:List UInt8} {a b j:Int} (d:0<=a) (e:0<=j) (h:a+j<b):bY (sub s a b) j=bY s (a+j):=by
 unfold bY sub;congr 2;simp only[List.getD,List.getElem?_drop,List.getElem?_take];rw[am (by omega)];congr 2;omega
theorem aIF {d:Type} {s:List d} {a b:Int} (e:0<=a) (f:a<=b) (h:b<=s.length):(((sub s a b).length:Nat):Int)=b-a:=by
 unfold sub;simp only[aQ,List.length_take];omega
theorem amQ {e:Type} {l m:List e} {d:e} {i:Int} (f:0<=i) (h:i<l.length):eX (l++m) d i=eX l d i:=by
 unfold eX;simp only[List.getD];rw[List.getElem?_append_left (by omega)]
theorem AB {e:Type} {l:List e} {d x:e} {i:Int} (h:i=l.length):eX (l++[x]) d i=x:=by
 unfold eX;subst h;simp[List.getD]
end
section
open Option renaming some → a6, none → a7
open List renaming length_append → ai, length_singleton → aO
open Go.RowKit
abbrev fQ:=List uP
def lo (s:fQ):List oz:=(s.map fun f=>(f.1,f.2,())).reverse
def letter (m:Int):UInt8:=([84,67,80,79,83,68,66,86,73,65,82,69,76,88,35]:bW).getD m.toNat 0
def so (s:fQ):bW:=(s.map fun f=>letter f.1).reverse
def po (s:fQ):List Int:=(s.map (·.2)).reverse
theorem sZ (f:uP) (s:fQ):lo (f::s)=lo s++[(f.1,f.2,())]:=by simp[lo]
theorem oP (f:uP) (s:fQ):so (f::s)=so s++[letter f.1]:=by simp[so]
theorem tH (f:uP) (s:fQ):po (f::s)=po s++[f.2]:=by simp[po]
theorem oW (s:fQ):(lo s).length=s.length:=by simp[lo]
theorem CW (s:fQ):(so s).length=s.length:=by simp[so]
theorem TW (s:fQ):(po s).length=s.length:=by simp[po]
def Dn (b:Int):Bool:=decide (b=32)||decide (b=9)||decide (b=10)||decide (b=124)||decide (b=38)||decide (b=59)||decide (b=60)||decide (b=62)||decide (b=40)||decide (b=41)
def isByte (b:Int):Prop:=0<=b/\b<256
theorem Q3 {b:Int} (h:isByte b): ∃n:Fin 256,b=((n.val:Nat):Int):=⟨⟨b.toNat,by have:=h.2;have:=h.1;omega⟩,by have:=h.1;simp;omega⟩
theorem lS (s:bW) (i:Int):isByte (bY s i):=by
 grind [bY,isByte,UInt8.toNat_lt]
theorem aGh: ∀n:Fin 256,G6 ((n.val:Nat):Int)=a6 (Dn ((n.val:Nat):Int),()):=by decide+kernel
theorem aGi: ∀n:Fin 256,acA ((n.val:Nat):Int)=a6 (Dn ((n.val:Nat):Int),()):=by decide+kernel
theorem apM {b:Int} (h:isByte b):G6 b=a6 (Dn b,()):=by
 obtain⟨n,rfl⟩:=Q3 h;exact aGh n
theorem apN {b:Int} (h:isByte b):acA b=a6 (Dn b,()):=by
 obtain⟨n,rfl⟩:=Q3 h;exact aGi n
theorem WF {d:Type} {l:List d} (x:d) (h:l.length<1000000):dw (eF .i64 (bG (l++[x])) 1)=l.length:=by
 grind [bI,iy,dw]
theorem Xa {d:Type} {l:List d} (x:d) (h:l.length<1000000):sub (l++[x]) 0 (eF .i64 (bG (l++[x])) 1)=l:=by
 have e:(((l++[x]).length:Nat):Int)=l.length+1:=by simp
 rw[bI,e,iy];simp_all [sub]
theorem wV {d:Type} {l:List d} (x:d) (h:l.length<1000000):eF .i64 (bG (l++[x])) 1=l.length:=by
 grind [bI,iy]
theorem ajP {s:fQ} (hb:s.length<1000000) (fr:Bool) (at_ m:Int):xu (lo s) fr at_ m=a6 ((lo ((m,at_)::s),(fr,(at_,()))),()):=by
 have h:dV (bM (lo s) [(m,(at_,()))]) 16=true:=by
  simp only[dV,bM,ai,oW,aO,decide_eq_true_eq,jO];omega
 unfold xu;rw[h];simp[bT,bM,sZ]
theorem PW {f g:Int×Int} {r:fQ} (hb:(f::g::r).length<1000000) (fr:Bool) (at_:Int):xq (lo (f::g::r)) fr at_=a6 ((lo (g::r),(fr,(at_,()))),()):=by
 have d:(lo (g::r)).length=r.length+1:=by rw[oW];rfl
 have e:r.length+2<1000000:=by simpa using hb
 unfold xq;rw[sZ f,wV _ (by omega),bU (eQ (by grind [bI])),bU (fV (by omega) (by omega) (by rw[bI];simp;omega))];simp[takeN,dw]
theorem sG {f:Int×Int} {r:fQ} (hb:(f::r).length<1000000) (fr:Bool) (at_ m:Int):vg (lo (f::r)) fr at_ m=a6 ((lo ((m,f.2)::r),(fr,(at_,()))),()):=by
 have d:(lo r).length=r.length:=oW r;have e:r.length+1<1000000:=by simpa using hb
 unfold vg;rw[sZ f,wV _ (by omega),bU (dU (by omega) (by simp;omega)),bU (pJ (by simp[dw]))];simp[dw,dD,ik,sZ]
theorem adU {f g:Int×Int} {r:fQ} (hb:(f::g::r).length<1000000) (fr:Bool) (at_:Int):ah3 (lo (f::g::r)) fr at_=a6 ((lo (f::g::r),(fr,(at_,()))),(g.1,())):=by
 have d:(lo r).length=r.length:=oW r;have h:r.length+2<1000000:=by simpa using hb
 have e:su (eF .i64 (bG (lo (f::g::r))) 2) 0=r.length:=by
  grind [bI,iy,oW,su]
 unfold ah3;rw[e,sZ f,sZ g,bU (dU (by omega) (by simp[d];omega)),bU (pJ (by simp[dw,d]))];simp_all [dw,dD]
theorem Gh {f:Int×Int} {r:fQ} (hb:(f::r).length<1000000) (fr:Bool) (c:UInt8):DX (so (f::r),(po (f::r),(fr,()))) [c]=a6 ((so r++[c],(po (f::r),(fr,()))),()):=by
 have d:(so r).length=r.length:=CW r;have e:r.length+1<1000000:=by simpa using hb
 unfold DX;simp only;rw[oP,Xa _ (by omega),wV _ (by omega),bU (fV (by omega) (by omega) (by rw[bI];simp;omega)),bU (by simp[iD,jO,d];omega)];rfl
theorem aa6 {f:Int×Int} {r:fQ} (hb:(f::r).length<1000000) (fr:Bool):JI (so (f::r),(po (f::r),(fr,())))=a6 ((so r,(po r,(fr,()))),()):=by
 have d:(so r).length=r.length:=CW r;have e:(po r).length=r.length:=TW r;have g:r.length+1<1000000:=by simpa using hb
 unfold JI;simp only;rw[oP,tH,Xa _ (by omega),wV _ (by omega),bU (fV (by omega) (by omega) (by rw[bI];simp;omega)),bU (fV (by omega) (by omega) (by rw[bI];simp;omega))];simp[sub,d,e]
theorem DR {d:Type} {f:d->d->Bool} (h: ∀x,f x x=true): ∀l:List d,xk f l l=true
 |[]=>rfl
 |x::l=>by simp[xk,h,DR h l]
theorem Rw: ∀(t:Ty) (x:t.den),X8 t x x=true
 |.unit,_=>rfl
 |.bool,x=>by simp[X8]
 |.int _,x=>by simp[X8,bT]
 |.str,x=>by simp[X8,gI]
 |.list t,x=>DR (Rw t) x
 |.pair a b,x=>by simp[X8,Rw]
theorem gU (t:Ty) (x:List t.den):oH t x x=true:=DR (Rw t) x
theorem eH (x:Int):bT x x=true:=by simp[bT]
theorem pg (x:bW):gI x x=true:=by simp[gI]
theorem iG (x:Bool):jr x x=true:=by simp[jr]
theorem ayL {s:fQ} (hb:s.length<1000000) (fr:Bool) (c:UInt8) (at_:Int):xw (so s,(po s,(fr,()))) [c] at_=a6 ((so s++[c],(po s++[at_],(fr,()))),()):=by
 have e:(so s).length=s.length:=CW s;have d:(po s).length=s.length:=TW s;have f:iD (so s) [c]=true:=by simp[iD,jO,e];omega
 have g:dV (bM [] (po s)) 8=true:=by simp[dV,bM,jO,d];omega
 have h:dV (bM (bM [] (po s)) [at_]) 8=true:=by simp[dV,bM,jO,d];omega
 (unfold xw;delta mF kJ)
 simp_all [eH,pg,iG,gU,bD,bM]
theorem PZ (a:bW) (b:List Int) (fr d:Bool):yB (a,(b,(fr,()))) d=a6 ((a,(b,(d,()))),()):=rfl
end
section
open Go.RowKit
def Iu (s:fQ) (b at_:Int):Option fQ:=if b=92 then some ((13,at_)::s)else if b=36 then some ((12,at_)::s)else if b=96 then some ((6,at_)::s)else none
def KL (m:Int) (s:fQ) (fr:Bool) (b at_:Int):fQ×Bool:=if b=92 then((13,at_)::s,fr)else if b=35/\fr=true then((14,at_)::s,fr)else if b=40 then(if m=0 then s else(2,at_)::s,true)else if b=41 then(if m=0 then s else s.tail, !decide (m=1))else if b=39 then((4,at_)::s,false)else if b=34 then((5,at_)::s,false)else if b=36 then((12,at_)::s,false)else if b=96 then((6,at_)::s,false)else(s,Dn b)
def ji (m:Int) (s:fQ) (fr:Bool) (b at_:Int):fQ×Bool:=
 if m=0\/m=1\/m=2 then KL m s fr b at_
 else if m=13 then(s.tail,fr&&decide (b=10))
 else if m=4 then(if b=39 then s.tail else s,fr)
 else if m=14 then(if b=10 then(s.tail,true)else(s,fr))
 else if m=6 then(if b=96 then s.tail else if b=92 then(13,at_)::s else s,fr)
 else match Iu s b at_ with
  |some d=>(d,fr)
  |none=>
   if m=9\/m=10 then(if b=40 then(10,at_)::s else if b=41 then(if m=10 then s.tail else(11,(s.headD (0,0)).2)::s.tail)else s,fr)
   else(if b=34 then(if m=5 then s.tail else(5,at_)::s)else if b=125/\m≠5 then s.tail else if b=39/\m=7 then(4,at_)::s else s,fr)
def fZ (s:fQ) (fr:Bool) (b at_:Int):fQ×Bool:=
 match s with
 |[]=>([],fr)
 |f::r=>
  if f.1=12 then
   (if b=40 then((3,f.2)::r,true)
   else if b=123 then((if(r.headD (0,0)).1=5\/(r.headD (0,0)).1=8 then 8 else 7,f.2)::r,fr)
   else if b=36 then(r,fr)
   else ji (r.headD (0,0)).1 r fr b at_)
  else if f.1=3 then(if b=40 then((9,f.2)::r,false)else ji 1 ((1,f.2)::r) fr b at_)
  else if f.1=11 then(if b=41 then(r,fr)else ji 9 ((9,f.2)::r) fr b at_)
  else ji f.1 (f::r) fr b at_
theorem nU (b:Int):b=10\/b=34\/b=35\/b=36\/b=39\/b=40\/b=41\/b=92\/b=96\/b=123\/b=125\/
  (b≠10/\b≠34/\b≠35/\b≠36/\b≠39/\b≠40/\b≠41/\b≠92/\b≠96/\b≠123/\b≠125):=by omega
theorem gZ (a b:Int):bT a b=decide (a=b):=by
 rfl
def pst (x:fQ×Bool) (at_:Int):(List oz×Bool×Int×Unit):=(lo x.1,(x.2,(at_,())))
def Ho (x:fQ×Bool):bW×(List Int×uO):=(so x.1,(po x.1,(x.2,())))
theorem agY {m:Int} {f:Int×Int} {r:fQ} (d:m=0\/((m=1\/m=2)/\ ∃g h,r=g::h)) (hb:(f::r).length<1000000) (fr:Bool) {b:Int} (i:isByte b) (at_:Int):
  V3 (lo (f::r)) fr at_ m b=some (pst (KL m (f::r) fr b at_) at_,()):=by
 have e:=apM i;rcases d with rfl|⟨rfl|rfl,g,r,rfl⟩<;>rcases nU b with rfl|rfl|rfl|rfl|rfl|rfl|rfl|rfl|rfl|rfl|rfl|⟨j,l,o,p,q,s,u,v,x,y,z⟩<;>cases fr<;>
  simp_all [V3,RU,KL,pst,gZ,ajP,PW,Dn,bD,JH]
theorem ayx {m:Int} {f:Int×Int} {r:fQ} (d:m=0\/((m=1\/m=2\/m=4\/m=5\/m=6\/m=7\/m=8\/m=9\/m=10\/m=13\/m=14)/\ ∃g h,r=g::h)) (hb:(f::r).length<1000000) (fr:Bool) {b:Int} (e:isByte b) (at_:Int):
  NV (lo (f::r)) fr at_ m b=some (pst (ji m (f::r) fr b at_) at_,()):=by
 rcases d with rfl|⟨rfl|rfl|d,g,r,rfl⟩
 .simp[NV,ji,gZ,agY (.inl rfl) hb fr e at_,pst,bD,BM]
 .simp[NV,ji,gZ,agY (.inr ⟨.inl rfl,g,r,rfl⟩) hb fr e at_,pst,bD,BM]
 .simp[NV,ji,gZ,agY (.inr ⟨.inr rfl,g,r,rfl⟩) hb fr e at_,pst,bD,BM]
 .rcases d with rfl|rfl|rfl|rfl|rfl|rfl|rfl|rfl|rfl<;>rcases nU b with rfl|rfl|rfl|rfl|rfl|rfl|rfl|rfl|rfl|rfl|rfl|⟨i,j,l,o,p,q,s,u,v,x,y⟩<;>cases fr<;>
  simp_all [NV,ah4,ah5,RU,ji,Iu,pst,gZ,ajP,PW,sG,bD,BM,Yj,Yk]
def SH (m:Int):Prop:=m=0\/m=1\/m=2\/m=5\/m=6\/m=7\/m=8\/m=9\/m=10
def iC:fQ->Prop
 |[]=>False
 |[f]=>f.1=0
 |f::g::r=>1<=f.1/\f.1<=14/\SH g.1/\iC (g::r)
theorem aGI: ∃k,bJ=k+2:=by
 simp_all [bJ]
theorem adG {l:List oz} {x:Int×Int×Unit} (h:l.length<1000000):dD (l++[x]) (0,(0,())) (dw (eF .i64 (bG (l++[x])) 1))=x:=by
 rw[WF x h];simp[dD]
theorem Yv {d:Type} {l:List d} {x:d} (h:l.length<1000000):gm (l++[x]) (eF .i64 (bG (l++[x])) 1)=true:=by
 grind [wV,dU]
theorem ajp {d:Type} {l:List d} {x:d} (h:l.length<1000000):ni (dw (eF .i64 (bG (l++[x])) 1)) (l++[x])=true:=by
 simp_all [WF,pJ]
theorem yT {f:Int×Int} {r:fQ} (n:Nat) (e:f.1=0\/((f.1=1\/f.1=2\/f.1=4\/f.1=5\/f.1=6\/f.1=7\/f.1=8\/f.1=9\/f.1=10\/f.1=13\/f.1=14)/\ ∃g h,r=g::h)) (hb:(f::r).length<1000000) (fr:Bool) {b:Int} (i:isByte b) (at_:Int):
  AX (n+1) b fr at_ (lo (f::r))=some (.inl ((),((),()),(((ji f.1 (f::r) fr b at_).2,at_,()),lo (ji f.1 (f::r) fr b at_).1,()))):=by
 have d:(lo r).length<1000000:=by grind [oW]
 have j:f.1≠12:=by omega
 have l:f.1≠3:=by omega
 have m:f.1≠11:=by omega
 have o:=ayx e hb fr i at_;rw[AX,EN];rw[show lo (f::r)=lo r++[(f.1,f.2,())] from sZ f r,Yv d,ajp d,adG d];simp only[aa,gZ,j,l,m,decide_false,ac];rw[<-sZ,o,bD];rfl
theorem am3 {f:Int×Int} {r:fQ} (d:iC (f::r)) (hl:SH f.1):f.1=0\/((f.1=1\/f.1=2\/f.1=4\/f.1=5\/f.1=6\/f.1=7\/f.1=8\/f.1=9\/f.1=10\/f.1=13\/f.1=14)/\ ∃g e,r=g::e):=by
 cases r with
 |nil=>exact .inl d
 |cons g r=>
  unfold SH at hl
  grind
theorem afw {s:fQ} (d:iC s) (hb:s.length<1000000) (fr:Bool) {b:Int} (l:isByte b) {at_:Int} (q:0<=at_) (m:at_<1000000000):amL (lo s) fr at_ b=some (pst (fZ s fr b at_) (at_+1),()):=by
 obtain⟨k,hk⟩:=aGI;cases s with
 |nil=>cases d
 |cons f r=>
 have i:(lo r).length<1000000:=by grind [oW]
 have o:bT (bG (lo (f::r))) 0=false:=dR (by rw[bI,oW];simp;omega);have h:bZ .i64 at_ 1=at_+1:=dh;unfold amL;rw[o,ac,hk];by_cases hp:f.1=12\/f.1=3\/f.1=11
 .cases r with
  |nil=>have:f.1=0:=d;omega
  |cons g r=>
  have u:=am3 d.2.2.2 d.2.2.1;have v:(g::r).length<1000000:=by grind
  rw[show k+2=(k+1)+1 from rfl,AX,EN,show lo (f::g::r)=lo (g::r)++[(f.1,f.2,())] from sZ f _,Yv i,ajp i,adG i,<-sZ];rcases hp with e|e|e
  .have hd:NU (lo (f::g::r)) fr at_ b=some ((if b=40 then(lo ((3,f.2)::g::r),(true,(at_,())))else if b=123 then(lo ((if g.1=5\/g.1=8 then 8 else 7,f.2)::g::r),(fr,(at_,())))else(lo (g::r),(fr,(at_,())))),(decide (b=40\/b=123\/b=36),())):=by
    by_cases e1:b=40
    .subst e1;simp[NU,gZ,sG hb,bD]
    .by_cases e2:b=123
     .subst e2;by_cases e5:g.1=5
      .simp[NU,gZ,sG hb,adU hb,bD,e5]
      .by_cases e8:g.1=8<;>simp[NU,gZ,sG hb,adU hb,bD,e5,e8]
     .by_cases e3:b=36<;>simp[NU,gZ,PW hb,bD,e1,e2,e3]
   simp only[aa,gZ,e,decide_true];rw[hd,bD];by_cases e1:b=40\/b=123\/b=36
   .simp only[e1,decide_true,aa,bD,dL,h];rcases e1 with rfl|rfl|rfl<;>simp[fZ,e,pst,h]
   .have j:b≠40/\b≠123/\b≠36:=by omega
    simp only[j.1,j.2.1,j.2.2,or_self,decide_false,ac,if_false];simp_all [yT,bD,dL,fZ,pst]
  .simp only[aa,gZ,e,decide_true,show decide ((3:Int)=12)=false from rfl,ac];by_cases e1:b=40
   .simp_all [sG,bD,dL,fZ,pst]
   .simp only[e1,decide_false,ac,sG hb,bD];rw[yT k (f:=(1,f.2)) (.inr ⟨.inl rfl,g,r,rfl⟩) (by simpa using hb) fr l at_,bD];simp[dL,fZ,e,e1,pst,h]
  .simp only[aa,gZ,e,decide_true,show decide ((11:Int)=12)=false from rfl,show decide ((11:Int)=3)=false from rfl,ac];by_cases e1:b=41
   .simp_all [PW,bD,dL,fZ,pst]
   .simp only[e1,decide_false,ac,sG hb,bD];rw[yT k (f:=(9,f.2)) (.inr ⟨by simp,g,r,rfl⟩) (by simpa using hb) fr l at_,bD];simp[dL,fZ,e,e1,pst,h]
 .have x:f.1=0\/((f.1=1\/f.1=2\/f.1=4\/f.1=5\/f.1=6\/f.1=7\/f.1=8\/f.1=9\/f.1=10\/f.1=13\/f.1=14)/\ ∃g p,r=g::p):=by
   cases r with
   |nil=>exact .inl d
   |cons g r=>have m:=d.1;have y:=d.2.1;grind
  simp_all [yT,bD,dL,fZ,pst]
end
section
open Go.RowKit
theorem akR (f:uP) (r:fQ) (h:r.length<1000000):bY (so (f::r)) (eF .i64 (bG (so (f::r))) 1)=((letter f.1).toNat:Int):=by
 rw[oP,wV _ (by rw[CW];exact h)];simp[bY,List.getD]
theorem aAa (f:uP) (r:fQ) (h:r.length<1000000):gm (so (f::r)) (eF .i64 (bG (so (f::r))) 1)=true:=by
 rw[oP];exact Yv (by rw[CW];exact h)
theorem aul (f g:uP) (r:fQ) (h:r.length<900000):gm (so (f::g::r)) (eF .i64 (bG (so (f::g::r))) 2)=true/\bY (so (f::g::r)) (eF .i64 (bG (so (f::g::r))) 2)=((letter g.1).toNat:Int):=by
 have d:(((so (f::g::r)).length:Nat):Int)=r.length+2:=by rw[CW];simp;omega
 rw[bI,d,iy,show((r.length:Int)+2-2)=r.length by omega];refine⟨dU (by omega) (by rw[d];omega), ?_⟩;rw[oP,oP];simp[bY,List.getD,CW]
theorem lets:letter 0=84/\letter 1=67/\letter 2=80/\letter 3=79/\letter 4=83/\letter 5=68/\letter 6=66/\letter 7=86/\letter 8=73/\letter 9=65/\letter 10=82/\letter 11=69/\letter 12=76/\letter 13=88/\letter 14=35:=by decide
theorem Bd {s:fQ} (hb:s.length<1000000) (fr:Bool) (m:Int) (c:UInt8) (d:c=letter m) (at_:Int):xw (so s,(po s,(fr,()))) [c] at_=some ((so ((m,at_)::s),(po ((m,at_)::s),(fr,()))),()):=by
 subst d;rw[ayL hb,oP,tH]
theorem agZ {m:Int} {f:Int×Int} {r:fQ} (d:m=0\/m=1\/m=2) (hb:(f::r).length<1000000) (fr:Bool) {b:Int} (g:isByte b) (at_:Int):
  aij (so (f::r),(po (f::r),(fr,()))) ((letter m).toNat:Int) b at_=some (Ho (KL m (f::r) fr b at_),()):=by
 have e:=apN g;have h:=Bd hb fr 13 88 rfl at_;have i:=Bd hb fr 4 83 rfl at_;have j:=Bd hb fr 5 68 rfl at_;have l:=Bd hb fr 12 76 rfl at_;have o:=Bd hb fr 6 66 rfl at_;have p:=Bd hb fr 14 35 rfl at_;have q:=Bd hb fr 2 80 rfl at_;have s:=aa6 hb fr;have u:=lets;rcases d with rfl|rfl|rfl<;>rcases nU b with rfl|rfl|rfl|rfl|rfl|rfl|rfl|rfl|rfl|rfl|rfl|⟨v,x,y,z,A,B,D,E,G,I,J⟩<;>cases fr<;>
  simp_all [aij,V8,KL,Ho,gZ,PZ,Dn,bD,pg,gU,iG,Yo,Yp]
theorem PX {m:Int} {f:Int×Int} {r:fQ} (hf:f.1=m) (e:m=0\/m=1\/m=2\/m=4\/m=5\/m=6\/m=7\/m=8\/m=9\/m=10\/m=13\/m=14) (hb:(f::r).length<1000000) (fr:Bool) {b:Int} (g:isByte b) (at_:Int):
  G5 (so (f::r),(po (f::r),(fr,()))) ((letter m).toNat:Int) b at_=some (Ho (ji m (f::r) fr b at_),()):=by
 have h:=lets;have i:=Bd hb fr 13 88 rfl at_;have j:=Bd hb fr 12 76 rfl at_;have l:=Bd hb fr 6 66 rfl at_;have o:=Bd hb fr 10 82 rfl at_;have p:=Bd hb fr 5 68 rfl at_;have q:=Bd hb fr 4 83 rfl at_;have s:=aa6 hb fr;have tt:=Gh hb fr 69;have u:so r++[69]=so ((11,f.2)::r):=by rw[oP];rfl
 have v:po (f::r)=po ((11,f.2)::r):=by simp[tH]
 rcases e with rfl|rfl|rfl|e
 .have d:=agZ (.inl rfl) hb fr g at_;simp[G5,ji,gZ,bD,Ho,BN,vI,Ff,Fg]at d ⊢;rw[d];simp[bD,h]
 .have d:=agZ (.inr (.inl rfl)) hb fr g at_;simp[G5,ji,gZ,bD,Ho,BN,vI,Ff,Fg]at d ⊢;rw[d];simp[bD,h]
 .have d:=agZ (.inr (.inr rfl)) hb fr g at_;simp[G5,ji,gZ,bD,Ho,BN,vI,Ff,Fg]at d ⊢;rw[d];simp[bD,h]
 .rcases e with rfl|rfl|rfl|rfl|rfl|rfl|rfl|rfl|rfl<;>rcases nU b with rfl|rfl|rfl|rfl|rfl|rfl|rfl|rfl|rfl|rfl|rfl|⟨x,y,z,A,B,D,E,G,I,J,K⟩<;>cases fr<;>
  simp_all [G5,V8,ji,Iu,Ho,gZ,PZ,bD,pg,gU,iG,gI,BN,vI,Ff,Fg]
end
section
open Go.RowKit
theorem Fj {f:Int×Int} {r:fQ} (h:iC (f::r)):0<=f.1/\f.1<=14:=by
 cases r with
 |nil=>have:f.1=0:=h;omega
 |cons g r=>have:=h.1;have:=h.2.1;omega
theorem letter_eq {m:Int} (d:0<=m) (e:m<=14):decide (((letter m).toNat:Int)=76)=decide (m=12)/\decide (((letter m).toNat:Int)=79)=decide (m=3)/\decide (((letter m).toNat:Int)=69)=decide (m=11)/\
  decide (((letter m).toNat:Int)=68)=decide (m=5)/\decide (((letter m).toNat:Int)=73)=decide (m=8):=by
 have:m=0\/m=1\/m=2\/m=3\/m=4\/m=5\/m=6\/m=7\/m=8\/m=9\/m=10\/m=11\/m=12\/m=13\/m=14:=by omega
 rcases this with rfl|rfl|rfl|rfl|rfl|rfl|rfl|rfl|rfl|rfl|rfl|rfl|rfl|rfl|rfl<;>decide
theorem afx {s:fQ} (i:iC s) (hb:s.length<900000) (fr:Bool) {b:Int} (j:isByte b) (at_:Int):RQ (so s,(po s,(fr,()))) b at_=some (Ho (fZ s fr b at_),()):=by
 cases s with
 |nil=>cases i
 |cons f r=>
 have d:(f::r).length<1000000:=by omega
 have l:r.length<1000000:=by simp at hb;omega
 obtain⟨o,g1⟩:=Fj i;obtain⟨p,q,u,-,-⟩:=letter_eq o g1;unfold RQ;simp only;rw[aAa f r l,akR f r l];simp only[aa,gZ,p,q,u];by_cases e:f.1=12
 .cases r with
  |nil=>have:f.1=0:=i;omega
  |cons g r=>
  have E:=i.2.2.1;have v:(g::r).length<1000000:=by omega
  obtain⟨x,y⟩:=Fj i.2.2.2;obtain⟨-,-,-,z,A⟩:=letter_eq x y;obtain⟨B,D⟩:=aul f g r (by simp at hb;omega);simp only[e,decide_true,aa];by_cases e1:b=40
  .subst e1;simp only[decide_true,aa,Gh d,bD,PZ];simp[fZ,e,Ho,oP,tH,lets]
  .by_cases e2:b=123
   .subst e2;simp only[e1,decide_true,decide_false,aa,ac,B,D,z,A,Gh d,bD]
    grind [fZ,Ho,oP,tH,lets]
   .simp only[e1,e2,decide_false,ac,aa6 d,bD];by_cases e3:b=36
    .simp_all [fZ,Ho]
    .simp only[e3,decide_false,ac];rw[aAa g r (by simp at l;omega),akR g r (by simp at l;omega)];have m:g.1=0\/g.1=1\/g.1=2\/g.1=4\/g.1=5\/g.1=6\/g.1=7\/g.1=8\/g.1=9\/g.1=10\/g.1=13\/g.1=14:=by grind [SH]
     rw[aa,PX rfl m v fr j at_,bD];simp_all [fZ]
 .simp only[e,decide_false,ac];by_cases e3:f.1=3
  .simp only[e3,decide_true,aa];by_cases e1:b=40
   .subst e1;simp only[decide_true,aa,Gh d,bD,PZ];simp[fZ,e3,Ho,oP,tH,lets]
   .simp only[e1,decide_false,ac,Gh d,bD];have h:=PX (f:=(1,f.2)) (r:=r) rfl (.inr (.inl rfl)) (by simpa using d) fr j at_;rw[oP,tH]at h;simp only[lets]at h;rw[show((67:Int))=(((67:UInt8).toNat:Nat):Int) from rfl,tH f r,h,bD]
    grind [fZ]
  .simp only[e3,decide_false,ac];by_cases e11:f.1=11
   .simp only[e11,decide_true,aa];by_cases e1:b=41
    .simp_all [aa6,bD,fZ,Ho]
    .simp only[e1,decide_false,ac,Gh d,bD];have h:=PX (f:=(9,f.2)) (r:=r) rfl (by simp) (by simpa using d) fr j at_;rw[oP,tH]at h;simp only[lets]at h;rw[show((65:Int))=(((65:UInt8).toNat:Nat):Int) from rfl,tH f r,h,bD]
     grind [fZ]
   .simp only[e11,decide_false,ac];have m:f.1=0\/f.1=1\/f.1=2\/f.1=4\/f.1=5\/f.1=6\/f.1=7\/f.1=8\/f.1=9\/f.1=10\/f.1=13\/f.1=14:=by omega
    rw[PX rfl m d fr j at_,bD];simp_all [fZ]
theorem amR {s:fQ} (d:iC s) (hl: ∃f r,s=f::r/\SH f.1) {m at_:Int} (e:1<=m) (h2:m<=14):iC ((m,at_)::s):=by
 obtain⟨f,r,rfl,g⟩:=hl;exact⟨e,h2,g,d⟩
theorem D6 {f:Int×Int} {r:fQ} (d:iC (f::r)) (e:r≠[]) {m at_:Int} (h:1<=m) (h2:m<=14):iC ((m,at_)::r):=by
 cases r with
 |nil=>exact absurd rfl e
 |cons g r=>exact⟨h,h2,d.2.2.1,d.2.2.2⟩
theorem Fp {f:Int×Int} {r:fQ} (d:iC (f::r)) (e:r≠[]):iC r:=by
 cases r with
 |nil=>exact absurd rfl e
 |cons g r=>exact d.2.2.2
theorem oI {f:Int×Int} {r:fQ} (d:iC (f::r)) (h:f.1≠0):r≠[]:=by
 rintro rfl;exact h d
theorem BO {m:Int} {f:Int×Int} {r:fQ} (hf:f.1=m) (d:iC (f::r)) (p:m≠12/\m≠3/\m≠11) (fr:Bool) (b at_:Int):
  iC (ji m (f::r) fr b at_).1/\(ji m (f::r) fr b at_).1.length<=(f::r).length+1:=by
 obtain⟨q,g1⟩:=Fj d;have j:f.1≠0->r≠[]:=oI d;have l:m=0\/m=1\/m=2\/m=4\/m=5\/m=6\/m=7\/m=8\/m=9\/m=10\/m=13\/m=14:=by omega
 have push: ∀k,SH f.1->1<=k->k<=14->iC ((k,at_)::f::r):=fun k o g i=>amR d ⟨f,r,rfl,o⟩ g i;have s:m=0\/m=1\/m=2\/m=5\/m=6\/m=7\/m=8\/m=9\/m=10->SH f.1:=fun h=>by simp_all [SH]
 have u:m≠0->iC r:=fun h=>Fp d (j (by rw[hf];exact h));have st: ∀k,m≠0->1<=k->k<=14->iC ((k,f.2)::r):=fun k h g i=>D6 d (j (by rw[hf];exact h)) g i;rcases l with e|e|e|e|e|e|e|e|e|e|e|e<;>subst e<;>rcases nU b with rfl|rfl|rfl|rfl|rfl|rfl|rfl|rfl|rfl|rfl|rfl|⟨g,i,v,x,y,z,A,B,D,E,G⟩<;>cases fr<;>
  simp_all [ji,KL,Iu]<;>first|omega|(refine⟨?_,by omega⟩;assumption)
end
section
open List renaming drop_eq_getElem_cons → aF, drop_of_length_le → aK, eq_nil_of_length_eq_zero → bz
open Go.RowKit
theorem good_step {s:fQ} (d:iC s) (fr:Bool) (b at_:Int):iC (fZ s fr b at_).1/\(fZ s fr b at_).1.length<=s.length+1:=by
 cases s with
 |nil=>cases d
 |cons f r=>
 simp only[fZ];split
 .rename_i e
  have i:r≠[]:=oI d (by omega);have p: ∀k,1<=k->k<=14->iC ((k,f.2)::r):=fun k j l=>D6 d i j l;have m:=Fp d i;split
  .simp_all
  .split
   .grind
   .split
    .grind
    .cases r with
     |nil=>exact absurd rfl i
     |cons g r=>
      have o:=d.2.2.1;have h:=BO rfl m (by unfold SH at o;omega) fr b at_
      grind
 .split
  .rename_i e
   have i:r≠[]:=oI d (by omega);split
   .grind [D6]
   .have h:=BO (f:=(1,f.2)) rfl (D6 d i (by omega) (by omega)) (by omega) fr b at_
    assumption
  .split
   .rename_i e
    have i:r≠[]:=oI d (by omega);split
    .grind [Fp]
    .have h:=BO (f:=(9,f.2)) rfl (D6 d i (by omega) (by omega)) (by omega) fr b at_
     assumption
   .exact BO rfl d (by omega) fr b at_
def md (s:fQ):List Int:=s.map (·.1)
theorem Kz (m:Int) {s d:fQ} (h:md s=md d) (fr:Bool) (b a e:Int):md (ji m s fr b a).1=md (ji m d fr b e).1/\(ji m s fr b a).2=(ji m d fr b e).2:=by
 have f:md s.tail=md d.tail:=by
  have:=congrArg List.tail h;simpa [md] using this
 have g:m=0\/m=1\/m=2\/m=4\/m=5\/m=6\/m=7\/m=9\/m=10\/m=13\/m=14\/(m≠0/\m≠1/\m≠2/\m≠4/\m≠5/\m≠6/\m≠7/\m≠9/\m≠10/\m≠13/\m≠14):=by omega
 have i: ∀k (p q:Int),md ((k,p)::s)=md ((k,q)::d):=fun k p q=>by simp_all [md]
 have hd: ∀k (p q:Int),md ((k,p)::s.tail)=md ((k,q)::d.tail):=fun k p q=>by simp_all [md]
 rcases g with rfl|rfl|rfl|rfl|rfl|rfl|rfl|rfl|rfl|rfl|rfl|⟨j,l,o,u,v,x,y,z,A,B,D⟩<;>rcases nU b with rfl|rfl|rfl|rfl|rfl|rfl|rfl|rfl|rfl|rfl|rfl|⟨E,G,I,J,K,L,M,N,O,S,U⟩<;>cases fr<;>
  simp_all [ji,KL,Iu]<;>first|exact h|exact f|exact i _ _ _|exact hd _ _ _
theorem axG {s d:fQ} (h:md s=md d) (fr:Bool) (b a i:Int):md (fZ s fr b a).1=md (fZ d fr b i).1/\(fZ s fr b a).2=(fZ d fr b i).2:=by
 cases s with
 |nil=>cases d with
  |nil=>exact⟨rfl,rfl⟩
  |cons _ _=>simp[md]at h
 |cons f r=>cases d with
  |nil=>simp[md]at h
  |cons f' e=>
   have j:f.1=f'.1:=by simp_all [md]
   have g:md r=md e:=by simp_all [md]
   have l:(r.headD (0,0)).1=(e.headD (0,0)).1:=by
    cases r<;>cases e<;>simp[md]at g ⊢;exact g.1
   have m: ∀k (p q:Int),md ((k,p)::r)=md ((k,q)::e):=fun k p q=>by simp_all [md]
   simp only[fZ,<-j,<-l];split
   .split
    .grind
    .split
     .grind
     .split
      .exact⟨g,rfl⟩
      grind [Kz]
   .split
    .split
     .grind
     grind [Kz]
    .split
     .split
      .exact⟨g,rfl⟩
      grind [Kz]
     grind [Kz]
def jq (b:UInt8):Int:=(b.toNat:Int)
def mY:bW->Int->fQ×Bool->fQ×Bool
 |[],_,x=>x
 |b::l,a,x=>mY l (a+1) (fZ x.1 x.2 (jq b) a)
def fG:fQ×Bool:=([(0,0)],true)
theorem kC:iC fG.1:=rfl
theorem drop_at {s:List UInt8} {i:Int} (d:0<=i) (h:i<s.length): ∃b,s.drop i.toNat=b::s.drop (i+1).toNat/\bY s i=jq b:=by
 have e:i.toNat<s.length:=by omega
 refine⟨s[i.toNat], ?_, ?_⟩
 .grind [aF]
 simp_all [bY,jq]
theorem Jp {s:List UInt8} {i:Int} (h:s.length<=i:=by omega):s.drop i.toNat=[]:=aK (by omega)
theorem azW (s:bW) (j:s.length<=100000): ∀(N:Nat) (i:Int) (x:fQ×Bool),(s.length:Int)-i<N->0<=i->i<=s.length->iC x.1->(x.1.length:Int)<=i+1->
  SK N s (bG s) i x.2 i (lo x.1)=some (.inl ((),(((mY (s.drop i.toNat) i x).2,(s.length:Int),()),lo (mY (s.drop i.toNat) i x).1,())))
 |0,i,x,h,_,_,_,_=>by omega
 |N+1,i,x,h,d,m,f,o=>by
  rw[SK,abr];by_cases e:i<s.length
  .obtain⟨b,hd,l⟩:=drop_at d e;rw[bU (eQ (b:=bG s) e),bU (dU d e),afw f (by omega) x.2 (lS s i) d (by omega),bD,hd,mY,<-l];simp only[pst];rw[dh];have g:=good_step f x.2 (bY s i) i;exact azW s j N (i+1) (fZ x.1 x.2 (bY s i) i) (by omega) (by omega) (by omega) g.1 (by have:=g.2;omega)
  .have p:i=s.length:=by omega
   simp_all [kW,bI,mY]
theorem azX (s:bW) (m:s.length<=100000) (d:bW) (f:Bool): ∀(N:Nat) (i:Int) (x:fQ×Bool),(s.length:Int)-i<N->0<=i->i<=s.length->iC x.1->(x.1.length:Int)<=i+1->
  J3 N s i (so x.1) (po x.1) x.2 d f=some (.inl ((),((so (mY (s.drop i.toNat) i x).1,po (mY (s.drop i.toNat) i x).1,(mY (s.drop i.toNat) i x).2,()),(d,f,()),())))
 |0,i,x,h,_,_,_,_=>by omega
 |N+1,i,x,h,g,p,j,q=>by
  rw[J3,Qi];by_cases e:i<s.length
  .obtain⟨b,hd,o⟩:=drop_at g e;rw[bU (eQ (b:=bG s) e),bU (dU g e),afx j (by omega) x.2 (lS s i) i,bD,hd,mY,<-o];simp only[Ho];rw[dh];have l:=good_step j x.2 (bY s i) i;exact azX s m d f N (i+1) (fZ x.1 x.2 (bY s i) i) (by omega) (by omega) (by omega) l.1 (by have:=l.2;omega)
  simp_all [kW,bI,Jp,mY]
theorem D5: ∀(l:bW) (a:Int) (x:fQ×Bool),iC x.1->iC (mY l a x).1/\(mY l a x).1.length<=x.1.length+l.length
 |[],a,x,h=>⟨h,by simp[mY]⟩
 |b::l,a,x,h=>by
  have d:=good_step h x.2 (jq b) a;have e:=D5 l (a+1) (fZ x.1 x.2 (jq b) a) d.1
  grind [mY]
theorem NS {n:Nat} (h:n<=1000000000:=by omega):n<bJ:=by unfold bJ;omega
theorem aFQ (s:bW) (f:s.length<=100000):awp s=some (lo (mY s 0 fG).1,((mY s 0 fG).2,())):=by
 have h:=azW s f bJ 0 fG (by have:=NS (n:=s.length) (by omega);omega) (by omega) (by omega) kC (by simp[fG]);have d:=D5 s 0 fG kC;unfold awp;rw[show([(0,(0,()))]:List oz)=lo fG.1 from rfl,show(true:Bool)=fG.2 from rfl,h,bD];simp only[dL,Int.toNat_zero,List.drop_zero];have g:(lo (mY s 0 fG).1).length≠0:=by
  rw[oW];intro e;rw[bz e]at d;exact d.1
 rw[dG (dR (by rw[bI];omega))];have i:oD (lo (mY s 0 fG).1)=some (lo (mY s 0 fG).1,()):=by
  unfold oD rH;have:dV (lo (mY s 0 fG).1) 16=true:=by
   have:=d.2;have j:fG.1.length=1:=rfl;simp only[dV,oW,decide_eq_true_eq,jO];omega
  rw[this];rfl
 rw[i,bD];cases hf:(mY s 0 fG).2 with
 |true=>simp[aq4,bD]
 |false=>simp[aq4,bD,gZ,bI,g]
theorem aFR (s:bW) (d:s.length<=100000):ah2 s=some (Ho (mY s 0 fG),()):=by
 have h:=azX s d [] false bJ 0 fG (by have:=NS (n:=s.length) (by omega);omega) (by omega) (by omega) kC (by simp[fG]);unfold ah2;rw[show RP=some ((so fG.1,(po fG.1,(fG.2,()))),()) from rfl,bD];simp_all [bD,dL,Ho]<;>rfl
end
section
open Option renaming some → a6, none → a7
open Bool renaming false_eq_true → ah, and_true → ax, not_true → ay, not_false → aB
open List renaming length_cons → aH
open Nat renaming le_refl → ae
open Go.RowKit
def rE (s:fQ) (b:Int):Bool:=Dn b&&(match s with
 |[_]=>true
 |[f,_]=>decide (f.1=12)&& !decide (b=40)
 |_=>false)
def Dx:bW->Int->fQ×Bool->Nat
 |[],_,_=>0
 |b::l,a,x=>if rE x.1 (jq b)then 0 else Dx l (a+1) (fZ x.1 x.2 (jq b) a)+1
theorem ahI: ∀(l:bW) (a:Int) (x:fQ×Bool),Dx l a x<=l.length
 |[],_,_=>ae _
 |b::l,a,x=>by
  simp only[Dx,aH];split
  .omega
  .have:=ahI l (a+1) (fZ x.1 x.2 (jq b) a);omega
theorem apL {s d:fQ} (h:md s=md d) (b:Int):rE s b=rE d b:=by
 match s,d with
 |[],[]=>rfl
 |[_],[_]=>rfl
 |[f,_],[e,_]=>simp_all [md,rE]
 |_::_::_::_,_::_::_::_=>rfl
 |[],_::_=>simp[md]at h
 |_::_,[]=>simp[md]at h
 |[_],_::_::_=>simp[md]at h
 |_::_::_,[_]=>simp[md]at h
 |[_,_],_::_::_::_=>simp[md]at h
 |_::_::_::_,[_,_]=>simp[md]at h
theorem ahJ: ∀(l:bW) (a d:Int) (x e:fQ×Bool),md x.1=md e.1->x.2=e.2->Dx l a x=Dx l d e
 |[],_,_,_,_,_,_=>rfl
 |b::l,a,d,x,e,f,h=>by
  have g:=axG f x.2 (jq b) a d;simp only[Dx,apL f,<-h];rw[ahJ l (a+1) (d+1) _ _ g.1 g.2]
theorem av3 {s:fQ} (d:iC s) (hb:s.length<1000000) (fr:Bool) (at_:Int) {b:Int} (e:isByte b):aif (lo s) fr at_ b=a6 ((lo s,(fr,(at_,()))),(rE s b,())):=by
 unfold aif;rw[apM e,bD];cases he:Dn b with
 |false=>simp[rE,he]
 |true=>
  match s with
  |[]=>cases d
  |[f]=>simp[rE,he,gZ,bI,lo]
  |[f,g]=>
   have i:gm (lo [f,g]) 1=true:=dU (by omega) (by simp[lo]);have j:ni (dw 1) (lo [f,g])=true:=pJ (by simp[lo,dw]);have l:dD (lo [f,g]) (0,(0,())) (dw 1)=(f.1,f.2,()):=by rfl
   have m:(lo [f,g]).length=2:=by simp[lo]
   simp only[gZ,bI,i,j,l,m,aa]
   grind [rE]
  |f::g::h::r=>
   grind [oW,gZ,bI,rE]
theorem apJ (s:bW) (j:s.length<=100000): ∀(N:Nat) (i a:Int) (x:fQ×Bool),(s.length:Int)-i<N->0<=i->i<=s.length->0<=a->a<=i->iC x.1->(x.1.length:Int)<=a+1->
  ∃o,J6 N s i x.2 a (lo x.1)=a6 o/\dL o (fun l=>a6 (l.1.1,())) (fun m=>a6 (m.1.1,()))=a6 (i+Dx (s.drop i.toNat) a x,())
 |0,i,a,x,h,_,_,_,_,_,_=>by omega
 |N+1,i,a,x,h,d,q,u,v,f,y=>by
  rw[J6,Qm];by_cases e:i<s.length
  .obtain⟨b,hd,p⟩:=drop_at d e;rw[bU (eQ (b:=bG s) e),bU (dU d e),av3 f (by omega) x.2 a (lS s i),bD,hd,Dx,<-p];cases hw:rE x.1 (bY s i)with
   |true=>exact⟨_,rfl,by simp[dL]⟩
   |false=>
    simp only[ac,ah,if_false];rw[bU (dU d e),afw f (by omega) x.2 (lS s i) (by omega) (by omega),bD];simp only[pst];rw[dh];have g:=good_step f x.2 (bY s i) a;obtain⟨o,z,A⟩:=apJ s j N (i+1) (a+1) (fZ x.1 x.2 (bY s i) a) (by omega) (by omega) (by omega) (by omega) (by omega) g.1 (by have:=g.2;omega)
    grind
  .rw[dG (kW (b:=bG s) (by rw[bI];omega)),Jp];exact⟨_,rfl,by simp[dL,Dx]⟩
theorem aFK (s:bW) (e:s.length<=100000) {i:Int} (d:0<=i) (hi:i<=s.length):acH s i=a6 (i+Dx (s.drop i.toNat) i fG,()):=by
 obtain⟨o,f,g⟩:=apJ s e bJ i 0 fG (by have:=NS (n:=s.length) (by omega);omega) d hi (by omega) d kC (by simp[fG]);unfold acH;rw[dG (kW d),dG (kW (a:=bG s) hi),show([(0,(0,()))]:List oz)=lo fG.1 from rfl,show(true:Bool)=fG.2 from rfl,f,bD,g,ahJ _ i 0 fG fG rfl rfl]
theorem aum {s:fQ} (d:iC s):gI (so s) [84]=(match s with|[_]=>true|_=>false):=by
 match s with
 |[]=>cases d
 |[f]=>have h:f.1=0:=d;simp[so,gI,h,lets]
 |f::g::r=>
  grind [CW,gI]
theorem akS {s:fQ} (d:iC s):gI (so s) [84,76]=(match s with|[f,_]=>decide (f.1=12)|_=>false):=by
 match s with
 |[]=>cases d
 |[f]=>
  simp_all [so,gI]
 |[f,g]=>
  have h:g.1=0:=d.2.2.2;obtain⟨j,g1⟩:=Fj d;have i:f.1=0\/f.1=1\/f.1=2\/f.1=3\/f.1=4\/f.1=5\/f.1=6\/f.1=7\/f.1=8\/f.1=9\/f.1=10\/f.1=11\/f.1=12\/f.1=13\/f.1=14:=by omega
  rcases i with e|e|e|e|e|e|e|e|e|e|e|e|e|e|e<;>simp[so,gI,h,e,lets]
 |f::g::h::r=>
  grind [CW,gI]
theorem apK (s:bW) (u:s.length<=100000): ∀(N:Nat) (i:Int) (x:fQ×Bool),(s.length:Int)-i<N->0<=i->i<=s.length->iC x.1->(x.1.length:Int)<=i+1->
  ∃o,FI N s i (so x.1) (po x.1) x.2=a6 o/\dL o (fun d=>a6 ((bG d.1.1),())) (fun j=>a6 (j.1.1,()))=a6 (i+Dx (s.drop i.toNat) i x,())
 |0,i,x,h,_,_,_,_=>by omega
 |N+1,i,x,h,m,B,l,D=>by
  (rewrite [FI,Qa];delta Bf)
  by_cases e:i<s.length
  .obtain⟨b,hd,v⟩:=drop_at m e;have p:=good_step l x.2 (bY s i) i;obtain⟨o,y,z⟩:=apK s u N (i+1) (fZ x.1 x.2 (bY s i) i) (by omega) (by omega) (by omega) p.1 (by have:=p.2;omega);rw[bU (eQ (b:=bG s) e),bU (dU m e),apN (lS s i),bD,hd,Dx,<-v,aum l,akS l,dU m e,afx l (by omega) x.2 (lS s i) i,bD];simp only[Ho,aa];rw[dh];have q: ∃o,FI N s (i+1) (so (fZ x.1 x.2 (bY s i) i).1) (po (fZ x.1 x.2 (bY s i) i).1) (fZ x.1 x.2 (bY s i) i).2=a6 o/\dL o (fun d=>a6 ((bG d.1.1),())) (fun j=>a6 (j.1.1,()))=a6 (i+((Dx (s.drop (i+1).toNat) (i+1) (fZ x.1 x.2 (bY s i) i)+1:Nat):Int),()):=
    ⟨o,y,z.trans (by grind)⟩
   have A: ∃o,(a6 (Sum.inr ((i,()),())):Option (PP.den⊕PU.den))=a6 o/\dL o (fun d=>a6 ((bG d.1.1),())) (fun j=>a6 (j.1.1,()))=a6 (i+((0:Nat):Int),()):=⟨_,rfl,by simp[dL]⟩;cases he:Dn (bY s i)with
   |false=>simp_all [rE]
   |true=>
    generalize E:x.1=st at*
    match st with
    |[]=>cases l
    |[f]=>simp_all [rE]
    |[f,g]=>
     by_cases e12:f.1=12
     .by_cases e40:bY s i=40
      .simp only[rE,he,aa,ac,gZ,e12,e40,decide_true,ay,Bool.and_false,ah,if_false]at q ⊢;exact q
      .simp only[rE,he,aa,ac,gZ,e12,e40,decide_true,decide_false,aB,ax,if_true];exact A
     simp_all [rE]
    |f::g::h::r=>simp_all [rE]
  .rw[dG (kW (b:=bG s) (by rw[bI];omega)),Jp];exact⟨_,rfl,by simp[dL,Dx,bI];omega⟩
theorem aFL (s:bW) (d:s.length<=100000) {i:Int} (e:0<=i) (hi:i<=s.length):VW s i=a6 (i+Dx (s.drop i.toNat) i fG,()):=by
 obtain⟨o,f,g⟩:=apK s d bJ i fG (by have:=NS (n:=s.length) (by omega);omega) e hi kC (by simp[fG];omega);unfold VW;rw[show RP=a6 ((so fG.1,(po fG.1,(fG.2,()))),()) from rfl,bD];simp_all [bD]
end
section
open Option renaming some → a6, none → a7
open Bool renaming and_eq_true → af, not_true → ay
open List renaming drop_eq_getElem_cons → aF, length_cons → aH, drop_of_length_le → aK, length_drop → aQ
open Go.RowKit
def isL (c:UInt8):Bool:=(97<=c&&c<=122)||(65<=c&&c<=90)||c==95
def isD (c:UInt8):Bool:=48<=c&&c<=57
def Wj (c:UInt8):Bool:=isL c||isD c
def isP (c:UInt8):Bool:=c==64||c==42||c==35||c==63||c==45||c==36||c==33
def avW:Bool:=(List.range 256).all fun b=>match acC (b:Int),acB (b:Int),JE (b:Int)with
 |some (x,_),a6 (y,_),a6 (k,_)=>(x==isL (UInt8.ofNat b))&&((y==isD (UInt8.ofNat b))&&((decide (k=5)==isL (UInt8.ofNat b))&&(decide (k=6)==isD (UInt8.ofNat b))))
 |_,_,_=>false
theorem apB:avW=true:=by kernel_rfl
theorem uo (c:UInt8):acC (c.toNat:Int)=a6 (isL c,())/\acB (c.toNat:Int)=a6 (isD c,())/\ ∃k,JE (c.toNat:Int)=a6 (k,())/\bT k 5=isL c/\bT k 6=isD c:=by
 have h:=List.all_eq_true.1 apB c.toNat (List.mem_range.2 (by have:=c.toNat_lt;omega));have d:UInt8.ofNat c.toNat=c:=by simp
 rw[d]at h;split at h
 .rename_i x u y v k w e f g
  simp only[af,beq_iff_eq]at h
  grind [bT]
 .cases h
def aHB:Bool:=(List.range 256).all fun b=>match Md (b:Int) [64,42,35,63,45,36,33]with
 |some (x,_)=>(x==isP (UInt8.ofNat b))&&(isP (UInt8.ofNat b)==(bT (b:Int) 64||(bT (b:Int) 42||(bT (b:Int) 35||(bT (b:Int) 63||(bT (b:Int) 45||(bT (b:Int) 36||bT (b:Int) 33)))))))
 |_=>false
theorem aDm:aHB=true:=by kernel_rfl
theorem atc (c:UInt8):Md (c.toNat:Int) [64,42,35,63,45,36,33]=a6 (isP c,())/\isP c=(bT (c.toNat:Int) 64||(bT (c.toNat:Int) 42||(bT (c.toNat:Int) 35||(bT (c.toNat:Int) 63||(bT (c.toNat:Int) 45||(bT (c.toNat:Int) 36||bT (c.toNat:Int) 33)))))):=by
 have h:=List.all_eq_true.1 aDm c.toNat (List.mem_range.2 (by have:=c.toNat_lt;omega));have d:UInt8.ofNat c.toNat=c:=by simp
 grind
theorem byte_at {s:List UInt8} {i:Nat} (h:i<s.length):bY s (i:Int)=(s[i].toNat:Int):=by
 simp_all [bY]
def runN (s:bW):Nat:=(s.takeWhile Wj).length
def GR (s:bW):Nat:=(s.takeWhile isL).length
def kY (s:bW):Nat:=(s.takeWhile isD).length
theorem LH (p:UInt8->Bool) (s:bW):(s.takeWhile p).length<=s.length:=by
 induction s with
 |nil=>simp
 |cons c v d=>grind [List.takeWhile_cons]
theorem ES (p:UInt8->Bool): ∀(s:bW) (i:Nat) (h:i<s.length),i<(s.takeWhile p).length->p s[i]=true
 |[],i,h,_=>by simp at h
 |c::v,i,h,d=>by
  rw[List.takeWhile_cons]at d;split at d
  .rename_i e
   match i with
   |0=>exact e
   |i+1=>exact ES p v i (by simpa using h) (by simpa using d)
  .simp at d
theorem Ac (p:UInt8->Bool): ∀(s:bW) (h:(s.takeWhile p).length<s.length),p s[(s.takeWhile p).length]=false
 |[],h=>by simp at h
 |c::v,h=>by
  by_cases hc:p c=true
  .have e:List.takeWhile p (c::v)=c::v.takeWhile p:=by simp_all
   have d:(v.takeWhile p).length<v.length:=by simp_all
   have:=Ac p v d;simp_all
  simp_all
theorem aIn (p:UInt8->Bool) (s:bW) (n:Nat) (d:n<=s.length) (e: ∀i (h:i<s.length),i<n->p s[i]=true) (h2: ∀h:n<s.length,p s[n]=false):(s.takeWhile p).length=n:=by
 have a:=LH p s;by_cases c:(s.takeWhile p).length<n
 .grind [Ac]
 grind [ES]
def nl (s:bW):Nat:=if GR s=0 then 0 else runN s
theorem aty {s:List UInt8} (h:GR s≠0):runN s≠0:=by
 unfold GR at h;unfold runN
 match s with
 |[]=>simp at h
 |c::v=>
  simp_all [List.takeWhile_cons,Wj]
theorem azT (s:bW):nl s<=s.length:=by
 unfold nl;split
 .omega
 .exact LH _ _
theorem XF {s:List UInt8} (d:s.length<4000000) {a k:Nat} (h:a+k<s.length): ∃hk:k<(s.drop a).length,bY s (bZ .i64 (a:Int) (k:Int))=(((s.drop a)[k]).toNat:Int):=by
 have hk:k<(s.drop a).length:=by grind
 refine⟨hk, ?_⟩;rw[dh,show(a:Int)+(k:Int)=((a+k:Nat):Int) by omega,byte_at h,List.getElem_drop]
theorem aAc {s:List UInt8} (e:s.length<4000000) {at_:Nat} (g:at_<=s.length) (a:bW) (b:Int) (c:bW) (d:Int): ∀(N k:Nat),s.length-k<N->k<=GR (s.drop at_)->
  mZ N s (at_:Int) (k:Int) a b c d=a6 (.inl ((((GR (s.drop at_):Nat):Int),()),((a,b,c,d,()),(),()),()))
 |0,k,h,hk=>by
  omega
 |N+1,k,h,hk=>by
  have o:=LH isL (s.drop at_);have p:=aQ (i:=at_) (l:=s);rw[mZ,tJ];have q:k<=((s.drop at_).takeWhile isL).length:=hk;have f:bZ .i64 (at_:Int) (k:Int)=(at_:Int)+k:=dh;by_cases h1:at_+k<s.length
  .obtain⟨j,m⟩:=XF e h1;rw[m,f,bU (eQ (by rw[bI];omega)),bU (dU),(uo _).1,bD];by_cases h2:k<GR (s.drop at_)
   .rw[ES isL _ k j h2];simp only[ay,ac];rw[dh,show(k:Int)+1=((k+1:Nat):Int) by omega];exact aAc e g a b c d N (k+1) (by omega) (by omega)
   .obtain rfl:k=GR (s.drop at_):=by omega
    grind [Ac,GR]
  .obtain rfl:k=GR (s.drop at_):=by grind [GR]
   rw[f,dG (gK (by rw[bI];omega))]
theorem aAd {s:List UInt8} (e:s.length<4000000) {at_:Nat} (j:at_<=s.length) (a:bW) (b:Int) (c:bW) (d:Int): ∀(N k:Nat),s.length-k<N->k<=runN (s.drop at_)->
  nZ N s (at_:Int) (k:Int) a b c d=a6 (.inl ((((runN (s.drop at_):Nat):Int),()),((a,b,c,d,()),(),()),()))
 |0,k,h,hk=>by
  omega
 |N+1,k,h,hk=>by
  have q:=LH Wj (s.drop at_);have u:=aQ (i:=at_) (l:=s);rw[nZ,yY];have v:k<=((s.drop at_).takeWhile Wj).length:=hk;have f:bZ .i64 (at_:Int) (k:Int)=(at_:Int)+k:=dh;by_cases h1:at_+k<s.length
  .obtain⟨g,m⟩:=XF e h1;have o:bZ .i64 (k:Int) 1=((k+1:Nat):Int):=by grind [dh]
   rw[m,f,bU (eQ (by rw[bI];omega)),bU (dU),(uo _).1,bD,(uo _).2.1];by_cases h2:k<runN (s.drop at_)
   .have p:=aAd e j a b c d N (k+1) (by omega) (by omega);have x:=ES Wj _ k g h2;rw[o];cases hL:isL (s.drop at_)[k]with
    |true=>exact p
    |false=>
     simp_all [Wj,bD]
   .obtain rfl:k=runN (s.drop at_):=by omega
    have:=Ac Wj _ g;have y:Wj (s.drop at_)[runN (s.drop at_)]=false:=this;simp_all [Wj,bD]
  .obtain rfl:k=runN (s.drop at_):=by grind [runN]
   rw[f,dG (gK (by rw[bI];omega))]
theorem aAb {s:List UInt8} (e:s.length<4000000) {at_:Nat} (g:at_<=s.length) (a:bW) (b:Int) (c:bW) (d:Int): ∀(N k:Nat),s.length-k<N->k<=kY (s.drop at_)->
  qF N s (at_:Int) (k:Int) a b c d=a6 (.inl ((((kY (s.drop at_):Nat):Int),()),((a,b,c,d,()),(),()),()))
 |0,k,h,hk=>by
  omega
 |N+1,k,h,hk=>by
  have o:=LH isD (s.drop at_);have p:=aQ (i:=at_) (l:=s);rw[qF,yX];have q:k<=((s.drop at_).takeWhile isD).length:=hk;have f:bZ .i64 (at_:Int) (k:Int)=(at_:Int)+k:=dh;by_cases h1:at_+k<s.length
  .obtain⟨j,m⟩:=XF e h1;rw[m,f,bU (eQ (by rw[bI];omega)),bU (dU),(uo _).2.1,bD];by_cases h2:k<kY (s.drop at_)
   .rw[ES isD _ k j h2];simp only[ay,ac];rw[dh,show(k:Int)+1=((k+1:Nat):Int) by omega];exact aAb e g a b c d N (k+1) (by omega) (by omega)
   .obtain rfl:k=kY (s.drop at_):=by omega
    grind [Ac,kY]
  .obtain rfl:k=kY (s.drop at_):=by grind [kY]
   rw[f,dG (gK (by rw[bI];omega))]
theorem abV {s:List UInt8} (d:s.length<4000000) {a:Nat} (e:a<=s.length):DW s a=a6 (((kY (s.drop a):Nat):Int),()):=by
 rw[DW,dG (gK)];by_cases h0:a=s.length
 .subst h0;rw[bU (nK (by rw[bI];omega)),List.drop_length];rfl
 rw[dG (Dq (by rw[bI];omega)),show qF bJ s a 0 s a s a=_ from aAb d e s a s a bJ 0 (dH) (by omega),bD];rfl
theorem aoG {s:List UInt8} (d:s.length<4000000) {a:Nat} (e:a<=s.length):RN s a=a6 (((nl (s.drop a):Nat):Int),()):=by
 (rewrite [RN];delta Yh;rw[dG (gK)])
 by_cases h0:a=s.length
 .subst h0;rw[bU (nK (by rw[bI];omega)),List.drop_length];rfl
 rw[dG (Dq (by rw[bI];omega)),show mZ bJ s a 0 s a s a=_ from aAc d e s a s a bJ 0 (dH) (by omega),bD];unfold dL;simp only;unfold nl;by_cases h1:GR (s.drop a)=0
 .rw[am h1,h1];rfl
 .rw[aq h1,dG (dR),dG (gK),dG (Dq (by rw[bI];omega)),show nZ bJ s a 0 _ _ _ _=_ from aAd d e _ _ _ _ bJ 0 (dH) (by omega)];rfl
theorem Oc {s:List UInt8} (e:s.length<4000000): ∀(N k:Nat),s.length-k<N->k<=runN s->
  FP N s (k:Int)=a6 (if runN s=s.length then .inl ((),())else .inr ((false,()),()))
 |0,k,h,hk=>by omega
 |N+1,k,h,hk=>by
  have m:=LH Wj s;have o:k<=(s.takeWhile Wj).length:=hk;rw[FP,Qr];by_cases h1:k<s.length
  .obtain⟨c,f,g,p⟩:=(uo s[k]).2.2;have i:gm s (k:Int)=true:=dU;rw[bU (eQ (by rw[bI];omega)),i,byte_at h1,f,bD,g];by_cases h2:k<runN s
   .have j:=Oc e N (k+1) (by omega) (by omega);have q:=ES Wj s k h1 h2;have l:bZ .i64 (k:Int) 1=((k+1:Nat):Int):=by grind [dh]
    rw[l];cases hL:isL s[k]with
    |true=>exact j
    |false=>
     simp_all [Wj,bD]
   .obtain rfl:k=runN s:=by omega
    have:=Ac Wj s h1;have d:Wj s[runN s]=false:=this;simp only[Wj,Bool.or_eq_false_iff]at d;rw[d.1,aq (by omega)];simp_all [bD]
  .obtain rfl:k=runN s:=by grind [runN]
   rw[dG (gK (by rw[bI];omega)),am (by omega)]
theorem ard {s:List UInt8} (d:s≠[]):GR s=0↔isL (s.headD 0)=false:=by
 match s,d with
 |c::v,_=>
  simp_all [GR,List.takeWhile_cons]
theorem xB {s:List UInt8} (e:s.length<4000000):RS s=a6 (decide (nl s≠0/\nl s=s.length),()):=by
 rw[RS];by_cases h0:s=[]
 .subst h0;rfl
 have f:0<s.length:=List.length_pos_iff.2 h0;obtain⟨_,_,c,g,j,o⟩:=uo s[0];have l:bY s 0=(s[0].toNat:Int):=byte_at (i:=0) f;have p:s.headD 0=s[0]:=by
  match s,h0 with
  |c::v,_=>rfl
 rw[dG (dR (by rw[bI];omega)),bU (dU),l,g,bD];simp only;rw[j];unfold nl;cases hL:isL s[0]with
 |false=>
  simp_all [ard]
 |true=>
  have d:GR s≠0:=fun h=>by simp_all [ard]
  have m:=aty d;simp only[ay,ac];rw[aq d,show FP bJ s 1=_ from Oc e bJ 1 (dH) (by omega)];by_cases h3:runN s=s.length
  .rw[am h3,decide_eq_true ⟨m,h3⟩];rfl
  .rw[aq h3,decide_eq_false (fun h=>h3 h.2)];rfl
theorem abP (p:UInt8->Bool): ∀(s:bW) (k:Nat),((s.take k).takeWhile p).length=min k (s.takeWhile p).length
 |[],k=>by simp
 |c::v,0=>by simp
 |c::v,k+1=>by
  rw[List.take_succ_cons,List.takeWhile_cons,List.takeWhile_cons];split
  .rw[aH,aH,abP p v k];omega
  .simp
theorem axJ (t:bW) {k:Nat} (d:1<=k) (hk:k<=t.length):(nl (t.take k)≠0/\nl (t.take k)=(t.take k).length)↔k<=nl t:=by
 have e:(t.take k).length=k:=by simp_all
 have a:=abP isL t k;have b:=abP Wj t k;unfold nl GR runN
 grind
theorem Tm {s:List UInt8} (d:s.length<4000000) {a:Nat} (f:a<=s.length): ∀(N k:Nat),s.length-a+1-k<N->1<=k->k<=s.length-a+1->
  FV N s a ((min (k-1) (nl (s.drop a)):Nat):Int) (k:Int)=a6 (.inl ((((nl (s.drop a):Nat):Int),()),()))
 |0,k,h,_,_=>by omega
 |N+1,k,h,g,l=>by
  have i:=azT (s.drop a);rw[aQ]at i;rw[FV,Qy,bI,iy];by_cases e:k<=s.length-a
  .have j:sub s (a:Int) (bZ .i64 (a:Int) (k:Int))=(s.drop a).take k:=by
    grind [dh,sub,List.drop_take]
   have m:=Tm d f N (k+1) (by omega) (by omega) (by omega);rw[bU (nK),bU (fV (by omega) (by grind [dh]) (by grind [dh])),j,
    xB (by grind),bD,dh,show(k:Int)+1=((k+1:Nat):Int) by omega]
   have o:=axJ (s.drop a) g (by simp_all)
   grind
  .rw[dG (Dq),show min (k-1) (nl (s.drop a))=nl (s.drop a) by omega]
theorem aAO {s:List UInt8} (d:s.length<4000000) {a:Nat} (e:a<=s.length):aip s a=a6 (((nl (s.drop a):Nat):Int),()):=by
 rw[aip];have h:=Tm d e bJ 1 (dH) (by omega) (by omega);rw[show min (1-1) (nl (s.drop a))=0 by omega]at h;rw[show FV bJ s a 0 1=_ from h,bD];rfl
def prl (s:bW):Nat:=if nl s≠0 then nl s else match s with
 |c::_=>if isP c||isD c then 1 else 0
 |[]=>0
theorem agX (s:bW):prl s<=s.length:=by
 unfold prl
 grind [azT]
theorem LW {s:List UInt8} {a:Nat} (h:a<s.length):s.drop a=s[a]::s.drop (a+1):=aF h
theorem avL {s:List UInt8} (d:s.length<4000000) {a:Nat} (f:a<=s.length):ail s a=a6 (((prl (s.drop a):Nat):Int),()):=by
 rw[ail,aAO d f,bD];unfold prl;by_cases e:nl (s.drop a)=0
 .rw[bU (fO),aq (by omega)];by_cases h:a<s.length
  .obtain⟨k,hk,j,g⟩:=(uo s[a]).2.2;have i:gm s (a:Int)=true:=dU;rw[bU (eQ (by rw[bI];omega)),i,byte_at h,hk,bD,g,(atc _).1,bD,e,LW h]
   grind
  simp_all [gK,bI,aK]
 simp_all [dR]
theorem avK {s:List UInt8} (d:s.length<4000000) {a:Nat} (f:a<=s.length):VY s a=a6 (((prl (s.drop a):Nat):Int),()):=by
 rw[VY,aoG d f,bD];unfold prl;by_cases e:nl (s.drop a)=0
 .rw[dG (gK),aq (by omega),dG (gK)];by_cases h:a<s.length
  .rw[dG (Dq (by rw[bI];omega)),bU (dU),byte_at h,abV d f,bD];have hd:IC ((kY (s.drop a):Nat):Int) 1=if isD s[a]then 1 else 0:=by
    grind [kY,LW,List.takeWhile_cons,IC]
   have g:=(atc s[a]).2;rw[hd,LW h]
   grind
  simp_all [nK,bI,aK]
 .rw[bU (eQ),am e]
end
section
open Bool renaming and_true → ax
open List renaming length_append → ai, length_cons → aH, length_nil → aX
open Nat renaming le_refl → ae
open Go.RowKit
abbrev jW:=Int×Int×Int×Int×Bool×Unit
abbrev GY:=Int×Int×Unit
def dP:jW:=(0,(0,(0,(0,(false,())))))
def dF:GY:=(0,(0,()))
def counts (m:Int):Int:=if m=3 then 1 else if m=11 then 9 else m
theorem acb (m:Int):V4 m=some (counts m,()):=by
 unfold V4 counts;simp only[gZ];by_cases h1:m=3
 .simp[h1]
 .by_cases h2:m=11<;>simp[h1,h2]
theorem F8 {e:Type} {l:List e} {d x:e} {i:Nat} (h:i<l.length):dD (ik l i x) d i=x:=by
 simp_all [dD,ik]
theorem aeh {d:Type} {l:List d} {i:Nat} {x y:d}:ik (ik l i x) i y=ik l i y:=by
 simp_all [ik]
theorem ais {d:Type} {l:List d} {i:Nat} {x:d} {k:Int}:gm (ik l i x) k=gm l k:=by
 simp_all [gm,ik]
theorem ajo {d:Type} {l:List d} {i k:Nat} {x:d}:ni k (ik l i x)=ni k l:=by
 simp_all [ni,ik]
theorem wH {d:Type} {l:List d} {i:Nat} {x:d}:(ik l i x).length=l.length:=by
 simp_all [ik]
theorem acm (n:Nat):eqN n n=true:=by simp[eqN]
def OQ (L:List jW) (j:Nat) (a:Int):List jW:=ik L j ((dD L dP j).1,(dD L dP j).2.1,a,(dD L dP j).2.2.2.1,false,())
def WE (L:List jW) (j:Nat) (m:Int):List jW:=ik L j (m,(dD L dP j).2)
theorem Gi (L:List jW) (j:Nat) (a:Int):(OQ L j a).length=L.length:=wH
theorem F5 (L:List jW) (j:Nat) (m:Int):(WE L j m).length=L.length:=wH
def oQ (F:List GY) (a:Int):Nat->List jW->List Int->List jW×List Int
 |0,L,H=>(L,H)
 |n+1,L,H=>
  if n+1<=F.length/\(F.getD n dF).2.1=(dD L dP (H.getD n 0).toNat).2.1 then(L,H)
  else oQ F a n (OQ L (H.getD n 0).toNat (a+1)) (H.take n)
def AY (F:List GY) (H:List Int):Nat->Nat->List jW->List jW
 |0,_,L=>L
 |k+1,i,L=>AY F H k (i+1) (WE L (H.getD i 0).toNat (counts (F.getD i dF).1))
theorem aef (F:List GY) {a:Int} (d:0<=a) (f:a<1000000) (hF:F.length<1000000): ∀(N n:Nat) (L:List jW) (H:List Int),n<N->n=H.length->n<1000000->L.length<1000000->
  (∀j∈H,0<=j/\j<L.length)->
  JX N F a (n:Int) L H=some (.inl ((F,()),((),()),((),(oQ F a n L H).1,(oQ F a n L H).2,())))
 |0,n,L,H,h,_,_,_,_=>by omega
 |N+1,0,L,H,h,_,_,_,_=>by
  rfl
 |N+1,n+1,L,H,h,D,E,g,i=>by
  have G:n<H.length:=by omega
  have l:eF .i64 ((n+1:Nat):Int) 1=(n:Int):=by grind [iy]
  have m:H.getD n 0∈H:=by simp_all
  obtain⟨o,p⟩:=i _ m;have q:dD H 0 (dw (n:Int))=H.getD n 0:=rfl;have s:eX F (0,(0,())) (n:Int)=F.getD n dF:=rfl;have u:gm L (H.getD n 0)=true:=dU o p;have v:ni (dw (H.getD n 0)) L=true:=pJ (by simp only[dw];omega);have y:eU (bG H) 0 (n:Int)=true:=fV (by omega) (by omega) (by rw[bI];omega);have z:sub H 0 (n:Int)=H.take n:=by simp[sub]
  have A:bZ .i64 a 1=a+1:=dh;have B:dw (H.getD n 0)<L.length:=by simp only[dw];omega
  have iT: ∀x,dD (ik L (dw (H.getD n 0)) x) (0,(0,(0,(0,(false,()))))) (dw (H.getD n 0))=x:=fun x=>F8 B;have go:=aef F d f hF N n (OQ L (H.getD n 0).toNat (a+1)) (H.take n) (by omega) (by grind) (by omega) (by rw[Gi];exact g)
   (fun j I=>by grind [Gi])
  (rewrite [JX,Qd];delta Gm wR wQ jg;rw[oQ])
  simp only[l,q,s,u,v,y,z,A,ais,ajo,iT,aeh,aa];rw[bU (eQ),bU (dU),bU (pJ (by assumption))];by_cases e:n+1<=F.length
  .rw[bU (nK (by rw[bI];omega)),bU (dU)];by_cases e2:(F.getD n dF).2.1=(dD L dP (H.getD n 0).toNat).2.1
   .rw[am ⟨e,e2⟩];exact bU (fO e2)
   .rw[aq (fun h=>e2 h.2)];exact(dG (dR e2)).trans go
  .rw[dG (Dq (by rw[bI];omega)),aq (fun h=>e h.1)];exact go
theorem aee (F:List GY) (H:List Int) (hF:F.length<1000000) (e:H.length<1000000): ∀(k i N:Nat) (L:List jW),i+k=H.length->H.length<=F.length->L.length<1000000->(∀j∈H,0<=j/\j<L.length)->
  tq (N+k) F (bG F) (i:Int) L H=tq N F (bG F) (H.length:Int) (AY F H k i L) H
 |0,i,N,L,h,_,_,_=>by simp_all [AY]
 |k+1,i,N,L,h,f,g,l=>by
  have v:i<H.length:=by omega
  have m:H.getD i 0∈H:=by simp_all
  obtain⟨o,p⟩:=l _ m;have q:dD H 0 (dw (i:Int))=H.getD i 0:=rfl;have s:eX F (0,(0,())) (i:Int)=F.getD i dF:=rfl;have d:gm L (H.getD i 0)=true:=dU o p;have u:ni (dw (H.getD i 0)) L=true:=pJ (by simp only[dw];omega);have go:=aee F H hF e k (i+1) N (WE L (H.getD i 0).toNat (counts (F.getD i dF).1)) (by omega) f (by rw[F5];exact g) (fun j x=>by grind [F5])
  (rewrite [show N+(k+1)=(N+k)+1 by omega,tq,Dc];delta lV lU jZ;rw[AY,<-go])
  rw[bU (eQ (by rw[bI];omega)),bU (dU),bU (eQ (by rw[bI];omega)),bU (dU),bU (pJ (by assumption)),acb,bD,q,d,u];simp only[ais,d,aa,acm,ax,s];rw[dh,show(i:Int)+1=((i+1:Nat):Int) by omega];rfl
theorem MO (F:List GY) (H:List Int): ∀(k i:Nat) (L:List jW),(AY F H k i L).length=L.length
 |0,_,_=>rfl
 |k+1,i,L=>by rw[AY,MO F H k,F5]
theorem Nk (F:List GY) (a:Int): ∀(n:Nat) (L:List jW) (H:List Int),(oQ F a n L H).1.length=L.length/\(oQ F a n L H).2.length<=H.length/\(∀j∈(oQ F a n L H).2,j∈H)
 |0,_,H=>⟨rfl,ae _,fun _ h=>h⟩
 |n+1,L,H=>by
  rw[oQ];split
  .simp
  .have h:=Nk F a n (OQ L (H.getD n 0).toNat (a+1)) (H.take n)
   grind [Gi]
def aba (L:List jW) (H:List Int) (F:List GY) (a:Int):List jW×List Int:=
 let r:=oQ F a H.length L H
 let d:=AY F r.2 r.2.length 0 r.1
 if F.length=r.2.length then(d,r.2)
 else(d++[(counts (F.getD r.2.length dF).1,((F.getD r.2.length dF).2.1,(0,((if r.2.length=0 then-1 else r.2.getD (r.2.length-1) 0),(true,())))))],r.2++[(d.length:Int)])
theorem aHM {L:List jW} {H:List Int} {F:List GY} {t:GY} {a:Int} (i:0<=a) (m:a<1000000) (hF:F.length<1000000) (o:L.length<1000000) (p:H.length<1000000) (q: ∀j∈H,0<=j/\j<L.length)
  (s:(oQ F a H.length L H).2.length<=F.length) (h2:F.length<=(oQ F a H.length L H).2.length+1):
  acx L H (t::F) a=some (((aba L H F a).1,((aba L H F a).2,())),()):=by
 have G:=Nk F a H.length L H;have u:sub (t::F) 1 (bG (t::F))=F:=by simp[sub,bG]
 have v:=aef F i m hF bJ H.length L H (dH) rfl p o q;unfold acx;rw[bU (fV (by omega) (by rw[bI];simp;omega) (by rw[bI];omega)),u,bI (l:=H),v,bD];simp only[dL];unfold aba;generalize I:oQ F a H.length L H=r at*;have y: ∀j∈r.2,0<=j/\j<r.1.length:=fun j J=>by simp_all
 have M:=MO F r.2 r.2.length 0 r.1;obtain⟨K,z⟩: ∃K,bJ=(K+2)+r.2.length:=⟨bJ-2-r.2.length,by have:=dH (n:=r.2.length+2) (by omega);omega⟩;have g:=aee F r.2 hF (by omega) r.2.length 0 (K+2) r.1 (by omega) s (by omega) y;rw[<-z]at g;rw[show(0:Int)=((0:Nat):Int) from rfl,g];by_cases e:F.length=r.2.length
 ·(rewrite [tq,Dc];delta lV lU jZ;rw[dG (gK (by rw[bI];omega)),am e,bD])
 .rw[aq e];have N:r.2.length<F.length:=by omega
  generalize O:AY F r.2 r.2.length 0 r.1=L2 at*;have A:eX F (0,(0,())) (r.2.length:Int)=F.getD r.2.length dF:=rfl;have B: ∀x:jW,dV (bM L2 [x]) 40=true:=fun x=>by simp only[dV,bM,ai,aH,aX,decide_eq_true_eq,jO];omega
  have D: ∀x:Int,dV (bM r.2 [x]) 8=true:=fun x=>by simp only[dV,bM,ai,aH,aX,decide_eq_true_eq,jO];omega
  have h: ∀f d,(d.length:Int)=r.2.length+1->tq (K+1) F (bG F) (bZ .i64 (r.2.length:Int) 1) f d=some (.inl ((),((),()),((),f,d,()))):=fun f d S=>by
   (rewrite [tq,Dc];delta lV lU jZ;rw[dG (gK (by grind [bI,dh]))])
  (rewrite [tq,Dc];delta lV lU jZ;rw[bU (eQ (by rw[bI];omega)),bU (dU),dG (gK (by rw[bI];omega))])
  simp only[A,acb,bD,eH,B,D,ax,aa,iG];by_cases e0:r.2.length=0
  .rw[dG (gK),am e0,h _ _ (by simp[bM]),bD];rfl
  .have E:eF .i64 (r.2.length:Int) 1=((r.2.length-1:Nat):Int):=by grind [iy]
   rw[bU (eQ),E,bU (dU),bU (pJ (by simp only[dw];omega)),aq e0,h _ _ (by simp[bM]),bD];rfl
end
section
open Go.RowKit
def qg (s:fQ):List GY:=(s.dropLast.map fun f=>(f.1,f.2,())).reverse
def Dt (s:fQ):List Int:=(s.dropLast.map (·.2)).reverse
theorem tC (s:fQ):(qg s).map (·.2.1)=Dt s:=by
 simp only[qg,Dt,List.map_reverse,List.map_map];rfl
theorem aBV {s:fQ} (d:iC s): ∃t:GY,lo s=t::qg s:=by
 have e:s≠[]:=by rintro rfl;exact d
 grind [List.dropLast_concat_getLast,lo,qg]
theorem adV (f:uP) {r:fQ} (h:r≠[]):Dt (f::r)=Dt r++[f.2]:=by
 cases r with
 |nil=>exact absurd rfl h
 |cons g r=>simp[Dt]
theorem ayy (pre:fQ) (f:uP) (r:fQ): ∃l,Dt (pre++f::r)=Dt (f::r)++l:=by
 induction pre with
 |nil=>simp
 |cons g pre d=>
  obtain⟨l,h⟩:=d;simp_all [adV]
def Shape (s y:fQ) (at_:Int):Prop:= ∃e f r d,s=e++f::r/\(y=(d,f.2)::r\/ ∃g,y=(g,at_)::(d,f.2)::r)
theorem yV {m:Int} {f:Int×Int} {r:fQ} (j:m=0\/r≠[]) (fr:Bool) (b at_:Int):Shape (f::r) (ji m (f::r) fr b at_).1 at_:=by
 have d:Shape (f::r) (f::r) at_:=⟨[],f,r,f.1,rfl,.inl rfl⟩;have push: ∀k,Shape (f::r) ((k,at_)::f::r) at_:=fun k=>⟨[],f,r,f.1,rfl,.inr ⟨k,rfl⟩⟩;have e: ∀k,Shape (f::r) ((k,f.2)::r) at_:=fun k=>⟨[],f,r,k,rfl,.inl rfl⟩;have i:m≠0->Shape (f::r) r at_:=fun h=>by
  cases r with
  |nil=>simp_all
  |cons g r=>exact⟨[f],g,r,g.1,rfl,.inl rfl⟩
 unfold ji KL Iu;rcases nU b with rfl|rfl|rfl|rfl|rfl|rfl|rfl|rfl|rfl|rfl|rfl|⟨l,o,p,q,s,u,v,x,y,z,A⟩<;>cases fr<;>simp_all<;>
  (repeat' split)<;>first|assumption|exact push _|exact e _|(exact i (by omega))|(simp_all;done)|exact d|skip
theorem anp {pre s y:fQ} {at_:Int} (h:Shape s y at_):Shape (pre++s) y at_:=by
 obtain⟨p,f,r,d,g,e⟩:=h;exact⟨pre++p,f,r,d,by simp_all,e⟩
theorem Ui {a:Int} {f:Int×Int} {r y:fQ} {at_:Int} (h:Shape ((a,f.2)::r) y at_):Shape (f::r) y at_:=by
 obtain⟨p,g,m,e,i,j⟩:=h;cases p with
 |nil=>
  obtain⟨l,d⟩:=List.cons.inj i;subst l d;exact⟨[],f,r,e,rfl,j⟩
 |cons q p=>
  obtain⟨l,d⟩:=List.cons.inj i;exact⟨f::p,g,m,e,by rw[d];rfl,j⟩
theorem ahb {s:fQ} (d:iC s) (fr:Bool) (b at_:Int):Shape s (fZ s fr b at_).1 at_:=by
 cases s with
 |nil=>cases d
 |cons f r=>
 have l: ∀k,Shape (f::r) ((k,f.2)::r) at_:=fun k=>⟨[],f,r,k,rfl,.inl rfl⟩;have m: ∀g j,r=g::j->Shape (f::r) r at_:=fun g j h=>by rw[h];exact⟨[f],g,j,g.1,rfl,.inl rfl⟩
 simp only[fZ];split
 .rename_i e
  have i:r≠[]:=oI d (by omega);cases r with
  |nil=>exact absurd rfl i
  |cons g r=>
  split
  .exact l 3
  .split
   .split<;>exact l _
   .split
    .exact m g r rfl
    .have o:=Fp d i;refine anp (pre:=[f]) (yV ?_ fr b at_)
     grind [oI]
 .split
  .grind [oI,Ui,yV]
  .split
   .rename_i e
    have i:r≠[]:=oI d (by omega);split
    .cases r with
     |nil=>exact absurd rfl i
     |cons g r=>exact m g r rfl
    grind [Ui,yV]
   grind [yV,oI]
theorem KJ {s:fQ} (e:iC s) (fr:Bool) (b at_:Int): ∃c,c<=(Dt s).length/\(Dt (fZ s fr b at_).1=(Dt s).take c\/Dt (fZ s fr b at_).1=(Dt s).take c++[at_]):=by
 obtain⟨i,f,r,j,m,o⟩:=ahb e fr b at_;obtain⟨l,d⟩:=ayy i f r;rw[<-m]at d;have p:Dt ((j,f.2)::r)=Dt (f::r):=by
  cases r with
  |nil=>rfl
  |cons g r=>rfl
 refine⟨(Dt (f::r)).length,by rw[d];simp, ?_⟩;rw[d,List.take_left']
 .rcases o with h|⟨q,h⟩
  .simp_all
  .rw[h,adV _ (by simp),p];exact .inr rfl
 .rfl
end
section
open Int renaming toNat_natCast → aS
open List renaming length_append → ai, length_map → aI
open Nat renaming le_refl → ae, lt_or_ge → az
open Go.RowKit
def aJ2 (p:jW):Int:=p.1
def aJ1 (p:jW):Int:=p.2.1
def pTo (p:jW):Int:=p.2.2.1
def pUp (p:jW):Int:=p.2.2.2.1
def aJ3 (p:jW):Bool:=p.2.2.2.2.1
theorem ajr {e:Type} {l:List e} {d:e} {i:Nat} (h:l.length<=i):dD l d i=d:=by
 simp_all [dD]
theorem qi {e:Type} {l:List e} {d:e} {i:Nat} (h:i<l.length):dD l d i=l[i]:=by
 simp_all [dD]
theorem getD_take {e:Type} {l:List e} {d:e} {i n:Nat} (h:i<n):(l.take n).getD i d=l.getD i d:=by
 simp_all
theorem IG {e:Type} {l:List e} {d x:e} {i j:Nat} (h:i≠j):dD (ik l i x) d j=dD l d j:=by
 simp_all [dD,ik]
def KW (a:Int) (p:jW):jW:=(p.1,p.2.1,a,p.2.2.2.1,false,())
theorem Gj (L:List jW) (j:Nat) (a:Int) (k:Nat) (d:j<L.length):dD (OQ L j a) dP k=if j=k then KW a (dD L dP k)else dD L dP k:=by
 unfold OQ;by_cases h:j=k
 .subst h;rw[am rfl,F8 d];rfl
 .rw[aq h,IG h]
theorem MP (L:List jW) (j:Nat) (m:Int) (k:Nat) (d:j<L.length):dD (WE L j m) dP k=if j=k then(m,(dD L dP k).2)else dD L dP k:=by
 unfold WE;by_cases h:j=k
 .subst h;rw[am rfl,F8 d]
 .rw[aq h,IG h]
theorem Uk (F:List GY) (a:Int) (H:List Int) (c:Nat) (o: ∀n,n<H.length->0<=H.getD n 0): ∀(n:Nat) (L:List jW),c<=n->n<=H.length->
  (∀m,m<n->(H.getD m 0).toNat<L.length)->
  (∀m,m<c->m<F.length/\(F.getD m dF).2.1=(dD L dP (H.getD m 0).toNat).2.1)->
  (∀m,c<=m->m<n-> ¬(m+1<=F.length/\(F.getD m dF).2.1=(dD L dP (H.getD m 0).toNat).2.1))->
  (oQ F a n L (H.take n)).2=H.take c/\
  (∀j,(∃m,c<=m/\m<n/\(H.getD m 0).toNat=j)->dD (oQ F a n L (H.take n)).1 dP j=KW (a+1) (dD L dP j))/\
  (∀j,(∀m,c<=m->m<n->(H.getD m 0).toNat≠j)->dD (oQ F a n L (H.take n)).1 dP j=dD L dP j)
 |0,L,p,q,g,s,i=>by
  have:c=0:=by omega
  subst this;exact⟨rfl,fun j ⟨m,_,h,_⟩=>by omega,fun j _=>rfl⟩
 |n+1,L,p,q,g,s,i=>by
  rw[oQ,getD_take (by omega)];by_cases e:c=n+1
  .grind
  .have u:=i n (by omega) (by omega);have f:=g n (by omega);have A: ∀k,(dD (OQ L (H.getD n 0).toNat (a+1)) dP k).2.1=(dD L dP k).2.1:=fun k=>by
    rw[Gj _ _ _ _ f];split<;>rfl
   rw[aq u,List.take_take,show min n (n+1)=n by omega];obtain⟨v,x,y⟩:=Uk F a H c o n (OQ L (H.getD n 0).toNat (a+1)) (by omega) (by omega) (fun m l=>by grind [Gi])
    (fun m l=>by grind) (fun m l z=>by grind)
   refine⟨v,fun j d=> ?_,fun j d=> ?_⟩
   .by_cases hq: ∃m,c<=m/\m<n/\(H.getD m 0).toNat=j
    .rw[x j hq,Gj _ _ _ _ f];split<;>rfl
    .obtain⟨m,B,z,D⟩:=d;have:m=n:=by
      grind
     simp_all [Gj]
   .rw[y j (fun k hk E=>d k hk (by omega)),Gj _ _ _ _ f,aq (d n (by omega) (by omega))]
theorem Tj (F:List GY) (H:List Int) (f: ∀m n,m<H.length->n<H.length->(H.getD m 0).toNat=(H.getD n 0).toNat->m=n): ∀(k i:Nat) (L:List jW),i+k<=H.length->
  (∀m,m<H.length->(H.getD m 0).toNat<L.length)->
  (∀m,i<=m->m<i+k->dD (AY F H k i L) dP (H.getD m 0).toNat=(counts (F.getD m dF).1,(dD L dP (H.getD m 0).toNat).2))/\
  (∀j,(∀m,i<=m->m<i+k->(H.getD m 0).toNat≠j)->dD (AY F H k i L) dP j=dD L dP j)
 |0,i,L,h,g=>⟨fun m p q=>by omega,fun j _=>rfl⟩
 |k+1,i,L,h,g=>by
  have d:=g i (by omega);obtain⟨s,l⟩:=Tj F H f k (i+1) (WE L (H.getD i 0).toNat (counts (F.getD i dF).1)) (by omega) (fun m u=>by grind [F5]);rw[AY];refine⟨fun m p q=> ?_,fun j o=> ?_⟩
  .by_cases e:m=i
   .subst e;rw[l _ (fun k hk x y=>by grind),MP _ _ _ _ d,am rfl]
   .rw[s m (by omega) (by omega),MP _ _ _ _ d,aq (fun v=>e (f i m (by omega) (by omega) v).symm)]
  .rw[l j (fun m u z=>o m (by omega) (by omega)),MP _ _ _ _ d,aq (o i (by omega) (by omega))]
def GZ (F:List GY) (v:Int):Option Int:=(F.find? fun f=>f.2.1==v).map (·.1)
theorem RH {F:List GY} (hd: ∀m n,m<F.length->n<F.length->(F.getD m dF).2.1=(F.getD n dF).2.1->m=n) {m:Nat} (d:m<F.length):GZ F (F.getD m dF).2.1=some (F.getD m dF).1:=by
 have e: ∃f,F.find? (fun f=>f.2.1==(F.getD m dF).2.1)=some f:=by
  cases h:F.find? (fun f=>f.2.1==(F.getD m dF).2.1)with
  |some f=>exact⟨f,rfl⟩
  |none=>
   grind
 grind [List.getElem_of_mem,GZ]
theorem Iq {F:List GY} {v:Int} (h: ∀m,m<F.length->(F.getD m dF).2.1≠v):GZ F v=none:=by
 grind [GZ,List.getElem_of_mem]
def nH (F:List GY) (a:Int) (p:jW):jW:=
 if p.2.2.2.2.1=true then(match GZ F p.2.1 with
  |some m=>(counts m,p.2)
  |none=>KW (a+1) p)else p
def YQ (F:List GY) (a:Int):Bool:=match F.getLast? with
 |some f=>decide (f.2.1=a)
 |none=>false
def ari (L:List Int) (v:Int):Int:=((L.findIdx fun p=>p==v:Nat):Int)
def zG (F:List GY) (a:Int) (fr:List Int):jW:=(counts (F.getLastD dF).1,a,0,(if F.length=1 then-1 else ari fr (F.getD (F.length-2) dF).2.1),true,())
def N9 (F:List GY) (a:Int) (L:List jW):List jW:=L.map (nH F a)++if YQ F a=true then [zG F a (L.map (·.2.1))]else []
structure Inv (L:List jW) (H:List Int) (F:List GY) (k:Int):Prop where
 len:H.length=F.length
 nn: ∀n,n<H.length->0<=H.getD n 0/\(H.getD n 0).toNat<L.length
 frm: ∀n,n<H.length->(dD L dP (H.getD n 0).toNat).2.1=(F.getD n dF).2.1/\(dD L dP (H.getD n 0).toNat).2.2.2.2.1=true
 opn: ∀j,(dD L dP j).2.2.2.2.1=true-> ∃n,n<H.length/\(H.getD n 0).toNat=j
 lt: ∀j,j<L.length->(dD L dP j).2.1<k
 inj: ∀i j,i<L.length->j<L.length->(dD L dP i).2.1=(dD L dP j).2.1->i=j
 fd: ∀m n,m<F.length->n<F.length->(F.getD m dF).2.1=(F.getD n dF).2.1->m=n
theorem Inv.hd {L:List jW} {H:List Int} {F:List GY} {k:Int} (h:Inv L H F k): ∀m n,m<H.length->n<H.length->(H.getD m 0).toNat=(H.getD n 0).toNat->m=n:=fun m n d f e=>by
 have g:=(h.frm m d).1;have i:=(h.frm n f).1;rw[e,i]at g;exact(h.fd n m (by rw[<-h.len];exact f) (by rw[<-h.len];exact d) g).symm
theorem rQ {F:List GY} {n:Nat} (h:n<F.length:=by omega):(F.getD n dF).2.1=(F.map (·.2.1)).getD n 0:=by
 simp_all
theorem awh {f:Type} {d:f} {l e:List f} (h:l.length=e.length) (h2: ∀j,j<l.length->dD l d j=dD e d j):l=e:=by
 grind [List.ext_getElem,qi]
theorem acV {L:List jW} (d: ∀i j,i<L.length->j<L.length->(dD L dP i).2.1=(dD L dP j).2.1->i=j) {j:Nat} (e:j<L.length):ari (L.map (·.2.1)) (dD L dP j).2.1=(j:Int):=by
 have f: ∀i,i<L.length->(L.map (·.2.1))[i]? =some (dD L dP i).2.1:=fun i g=>by
  simp_all [qi]
 unfold ari
 grind
theorem atY {L:List jW} {H:List Int} {F g:List GY} {k:Int} (h:Inv L H F k) {c:Nat} (hc:c<=F.length)
  (hF:g.map (·.2.1)=(F.map (·.2.1)).take c\/g.map (·.2.1)=(F.map (·.2.1)).take c++[k]):
  (oQ g k H.length L H).2.length<=g.length/\g.length<=(oQ g k H.length L H).2.length+1/\
  (aba L H g k).1=N9 g k L/\Inv (aba L H g k).1 (aba L H g k).2 g (k+1):=by
 have aW:g.length=c\/g.length=c+1:=by
  have q:g.length=(g.map (·.2.1)).length:=(aI ..).symm;rcases hF with e|e<;>rw[q,e]<;>simp<;>omega
 have aH:c<=H.length:=by rw[h.len];exact hc
 have v: ∀m,m<c->m<g.length/\(g.getD m dF).2.1=(F.getD m dF).2.1:=fun m s=>by
  refine⟨by omega, ?_⟩;rw[rQ,rQ (F:=F) (by omega)];rcases hF with e|e
  .rw[e,getD_take s]
  .rw[e,List.getD_eq_getElem?_getD,List.getElem?_append_left (by simp;omega),<-List.getD_eq_getElem?_getD,getD_take s]
 have G:c<g.length->(g.getD c dF).2.1=k:=fun s=>by
  rcases hF with e|e
  .have:g.length=(g.map (·.2.1)).length:=(aI ..).symm;rw[e]at this;simp at this;omega
  .rw[rQ s,e,List.getD_eq_getElem?_getD,List.getElem?_append_right (by simp;omega)];simp[Nat.min_eq_left hc]
 have I: ∀m,m<F.length->(F.getD m dF).2.1<k:=fun m s=>by
  rw[<-(h.frm m (by rw[h.len];exact s)).1];exact h.lt _ (h.nn m (by rw[h.len];exact s)).2
 obtain⟨Z,s2,s3⟩:=Uk g k H c (fun n o=>(h.nn n o).1) H.length L aH (ae _) (fun m s=>(h.nn m s).2)
  (fun m s=>⟨(v m s).1,(v m s).2.trans (h.frm m (by omega)).1.symm⟩)
  (fun m aX O ⟨B,y⟩=>by
   have s:m=c:=by omega
   subst s;rw[G (by omega),(h.frm m O).1]at y;have:=I m (by rw[<-h.len];exact O);omega)
 rw[List.take_length]at Z s2 s3;have af:=(Nk g k H.length L H).1;have z:(H.take c).length=c:=by rw[List.length_take];omega
 have A: ∀m,m<c->(H.take c).getD m 0=H.getD m 0:=fun m s=>getD_take s;obtain⟨m1,m2⟩:=Tj g (H.take c) (fun m n s o e=>by
   rw[z]at s o;rw[A m s,A n o]at e;exact h.hd m n (by omega) (by omega) e) c 0 (oQ g k H.length L H).1 (by omega) (fun m s=>by
   rw[z]at s;rw[A m s,af];exact(h.nn m (by omega)).2)
 have ao:=MO g (H.take c) c 0 (oQ g k H.length L H).1;have aJ: ∀j,j<L.length->dD (AY g (H.take c) c 0 (oQ g k H.length L H).1) dP j=nH g k (dD L dP j):=fun j u=>by
  unfold nH;have W: ∀m n,m<g.length->n<g.length->(g.getD m dF).2.1=(g.getD n dF).2.1->m=n:=fun m n s o e=>by
   rcases az m c with q|q<;>rcases az n c with x|x
   .rw[(v m q).2,(v n x).2]at e;exact h.fd m n (by omega) (by omega) e
   .have:n=c:=by omega
    subst this;rw[(v m q).2,G o]at e;have:=I m (by omega);omega
   .have:m=c:=by omega
    subst this;rw[(v n x).2,G s]at e;have:=I n (by omega);omega
   .omega
  by_cases D:(dD L dP j).2.2.2.2.1=true
  .rw[am D];obtain⟨n,o,J⟩:=h.opn j D;have ag:=(h.frm n o).1;rw[J]at ag;rcases az n c with K|K
   .have e:=m1 n (by omega) (by omega);rw[A n K,J]at e;rw[e,s3 j (fun m s O S=>by have:=h.hd m n O o (S.trans J.symm);omega),ag,<-(v n K).2,RH W (v n K).1]
   .rw[m2 j (fun m _ s S=>by rw[A m (by omega)]at S;have:=h.hd m n (by omega) o (S.trans J.symm);omega),s2 j ⟨n,K,o,J⟩,Iq];intro m s e;rw[ag]at e;rcases az m c with q|q
    .rw[(v m q).2]at e;have:=h.fd m n (by omega) (by rw[<-h.len];exact o) e;omega
    .have:m=c:=by omega
     subst this;rw[G s]at e;have:=I n (by rw[<-h.len];exact o);omega
  .rw[aq D];have au: ∀m,m<H.length->(H.getD m 0).toNat≠j:=fun m s e=>D (by rw[<-e];exact(h.frm m s).2);rw[m2 j (fun m _ s S=>au m (by omega) (by rw[<-A m (by omega)];exact S)),s3 j (fun m _ s=>au m s)]
 have aK:AY g (H.take c) c 0 (oQ g k H.length L H).1=L.map (nH g k):=awh (d:=dP) (by rw[ao,af,aI]) fun j u=>by
  rw[ao,af]at u;rw[aJ j u,qi (l:=L.map _) (by rw[aI];exact u),List.getElem_map,qi u]
 have E: ∀p,(nH g k p).2.1=p.2.1:=fun p=>by
  unfold nH;split
  .split<;>rfl
  .rfl
 have av:(aba L H g k)=if g.length=c then(L.map (nH g k),H.take c)else
   (L.map (nH g k)++[(counts (g.getD c dF).1,((g.getD c dF).2.1,(0,((if c=0 then-1 else(H.take c).getD (c-1) 0),(true,())))))],H.take c++[(L.length:Int)]):=by
  unfold aba;simp only[Z,z,aK,aI]
 have aO: ∀p,(nH g k p).2.2.2.2.1=true->p.2.2.2.2.1=true/\ ∃m,GZ g p.2.1=some m:=fun p U=>by
  unfold nH at U;split at U
  .rename_i D
   split at U
   .rename_i m s;exact⟨D,m,s⟩
   .cases U
  .rename_i D;exact absurd U D
 have W: ∀m n,m<g.length->n<g.length->(g.getD m dF).2.1=(g.getD n dF).2.1->m=n:=fun m n s o e=>by
  rcases az m c with q|q<;>rcases az n c with x|x
  .rw[(v m q).2,(v n x).2]at e;exact h.fd m n (by omega) (by omega) e
  .have:n=c:=by omega
   subst this;rw[(v m q).2,G o]at e;have:=I m (by omega);omega
  .have:m=c:=by omega
   subst this;rw[(v n x).2,G s]at e;have:=I n (by omega);omega
  .omega
 have V: ∀j,j<L.length->dD (L.map (nH g k)) dP j=nH g k (dD L dP j):=fun j u=>by
  rw[qi (l:=L.map _) (by rw[aI];exact u),List.getElem_map,qi u]
 have aw:N9 g k L=L.map (nH g k)++if YQ g k=true then [zG g k (L.map (·.2.1))]else []:=rfl
 have ax: ∀n,n<c->(nH g k (dD L dP (H.getD n 0).toNat)).2.1=(g.getD n dF).2.1/\(nH g k (dD L dP (H.getD n 0).toNat)).2.2.2.2.1=true:=fun n o=>by
  have M:=h.frm n (by omega);refine⟨by rw[E,M.1,(v n o).2], ?_⟩;unfold nH;rw[am M.2,M.1,<-(v n o).2,RH W (v n o).1];exact M.2
 have ay: ∀j,j<L.length->(nH g k (dD L dP j)).2.2.2.2.1=true-> ∃n,n<c/\(H.getD n 0).toNat=j:=fun j u D=>by
  obtain⟨q,m,s⟩:=aO _ D;obtain⟨n,o,J⟩:=h.opn j q;have M:=(h.frm n o).1;rw[J]at M;rcases az n c with K|K
  .exact⟨n,K,J⟩
  .rw[M,Iq]at s
   .cases s
   .intro m O e;rcases az m c with q|q
    .rw[(v m q).2]at e;have:=h.fd m n (by omega) (by rw[<-h.len];exact o) e;omega
    .have:m=c:=by omega
     subst this;rw[G O]at e;have:=I n (by rw[<-h.len];exact o);omega
 have aA: ∀{l:List jW} {j:Nat},(dD l dP j).2.2.2.2.1=true->j<l.length:=fun {l j} u=>by
  rcases az j l.length with q|q
  .exact q
  .rw[ajr q]at u;cases u
 refine⟨by rw[Z,z];omega,by rw[Z,z];omega, ?_⟩;by_cases e:g.length=c
 .have ah:YQ g k=false:=by
   unfold YQ;cases B:g.getLast? with
   |none=>rfl
   |some f=>
    have aP:g≠[]:=by rintro rfl;cases B
    have U:0<g.length:=List.length_pos_iff.2 aP;have:g.getD (c-1) dF=f:=by
     rw[List.getLast?_eq_getElem?,e]at B;rw[List.getD_eq_getElem?_getD,B];rfl
    have x:=(v (c-1) (by omega)).2;rw[this]at x;have:=I (c-1) (by omega);exact decide_eq_false (by omega)
  rw[av,am e,aw,ah];refine⟨by simp, ?_⟩;exact {
   len:=by rw[z,e]
   nn:=fun n o=>by rw[z]at o;rw[A n o,aI];exact h.nn n (by omega)
   frm:=fun n o=>by
    rw[z]at o;rw[A n o,V _ (h.nn n (by omega)).2];exact ax n o
   opn:=fun j u=>by
    have B:=aA u;rw[aI]at B;rw[V j B]at u;obtain⟨n,o,y⟩:=ay j B u;exact⟨n,by rw[z];exact o,by rw[A n o];exact y⟩
   lt:=fun j u=>by
    rw[aI]at u;rw[V j u,E];have:=h.lt j u;omega
   inj:=fun i j X u y=>by
    rw[aI]at X u;rw[V i X,V j u,E,E]at y;exact h.inj i j X u y
   fd:=W}
 .have aB:g.length=c+1:=by omega
  have aF:g.getLast?=some (g.getD c dF):=by
   rw[List.getLast?_eq_getElem?,aB,List.getD_eq_getElem?_getD,show c+1-1=c by omega,List.getElem?_eq_getElem (by omega)];rfl
  have aQ:g.getLastD dF=g.getD c dF:=by rw[List.getLastD_eq_getLast?,aF];rfl
  have aj:=G (by omega);have ah:YQ g k=true:=by unfold YQ;rw[aF];exact decide_eq_true aj
  have aU:(if c=0 then-1 else(H.take c).getD (c-1) 0)=(if g.length=1 then-1 else ari (L.map (·.2.1)) (g.getD (g.length-2) dF).2.1):=by
   by_cases c0:c=0
   .rw[am c0,am (by omega)]
   .have o:=h.nn (c-1) (by omega);rw[aq c0,aq (by omega),A _ (by omega),show g.length-2=c-1 by omega,(v (c-1) (by omega)).2,<-(h.frm (c-1) (by omega)).1,acV h.inj o.2];omega
  have aV:(counts (g.getD c dF).1,((g.getD c dF).2.1,((0:Int),((if c=0 then-1 else(H.take c).getD (c-1) 0),(true,())))))=zG g k (L.map (·.2.1)):=by
   unfold zG;rw[aU,aQ,aj]
  rw[av,aq e,aw,ah,aV];refine⟨by simp, ?_⟩;have ab:(L.map (nH g k)++[zG g k (L.map (·.2.1))]).length=L.length+1:=by simp
  have N: ∀j,j<L.length->dD (L.map (nH g k)++[zG g k (L.map (·.2.1))]) dP j=nH g k (dD L dP j):=fun j u=>by
   rw[<-V j u];unfold dD;rw[List.getD_eq_getElem?_getD,List.getD_eq_getElem?_getD,List.getElem?_append_left (by rw[aI];exact u)]
  have ad:dD (L.map (nH g k)++[zG g k (L.map (·.2.1))]) dP L.length=zG g k (L.map (·.2.1)):=by
   unfold dD;rw[List.getD_eq_getElem?_getD,List.getElem?_append_right (by simp)];simp
  have ak: ∀n,n<c->(H.take c++[(L.length:Int)]).getD n 0=H.getD n 0:=fun n o=>by
   rw[<-A n o,List.getD_eq_getElem?_getD,List.getD_eq_getElem?_getD,List.getElem?_append_left (by rw[z];exact o)]
  have al:(H.take c++[(L.length:Int)]).getD c 0=L.length:=by
   rw[List.getD_eq_getElem?_getD,List.getElem?_append_right (by rw[z];omega)];simp[z]
  have Y:(H.take c++[(L.length:Int)]).length=c+1:=by rw[ai,z];rfl
  have aG: ∀n,n<c+1->n<c\/n=c:=fun n o=>by omega
  have an:(zG g k (L.map (·.2.1))).2.1=k:=rfl;exact {
   len:=by rw[Y,aB]
   nn:=fun n o=>by
    rw[Y]at o;rw[ab];rcases aG n o with q|rfl
    .rw[ak n q];have:=h.nn n (by omega);omega
    .rw[al];omega
   frm:=fun n o=>by
    rw[Y]at o;rcases aG n o with q|rfl
    .rw[ak n q,N _ (h.nn n (by omega)).2];exact ax n q
    .rw[al,aS,ad];exact⟨aj.symm,rfl⟩
   opn:=fun j u=>by
    have B:=aA u;rw[ab]at B;rcases az j L.length with q|q
    .rw[N j q]at u;obtain⟨n,o,y⟩:=ay j q u;exact⟨n,by rw[Y];omega,by rw[ak n o];exact y⟩
    .exact⟨c,by rw[Y];omega,by rw[al];omega⟩
   lt:=fun j u=>by
    rw[ab]at u;rcases az j L.length with q|q
    .rw[N j q,E];have:=h.lt j q;omega
    .rw[show j=L.length by omega,ad,an];omega
   inj:=fun i j X u y=>by
    rw[ab]at X u;rcases az i L.length with q|q<;>rcases az j L.length with x|x
    .rw[N i q,N j x,E,E]at y;exact h.inj i j q x y
    .rw[N i q,E,show j=L.length by omega,ad,an]at y;have:=h.lt i q;omega
    .rw[N j x,E,show i=L.length by omega,ad,an]at y;have:=h.lt j x;omega
    .omega
   fd:=W}
end
section
open Bool renaming and_true → ax
open List renaming drop_eq_getElem_cons → aF, length_map → aI, eq_nil_of_length_eq_zero → bz
open Go.RowKit
def sD:bW->Int->fQ×Bool->List jW->List jW
 |[],_,_,L=>L
 |b::l,a,x,L=>sD l (a+1) (fZ x.1 x.2 (jq b) a) (N9 (qg (fZ x.1 x.2 (jq b) a).1) a L)
def uz (s:bW) (p:jW):jW:=if p.1=12 then(p.1,p.2.1,p.2.1+1+((prl (s.drop (p.2.1+1).toNat):Nat):Int),p.2.2.2.1,false,())else if p.2.2.2.2.1=true then(p.1,p.2.1,(s.length:Int),p.2.2.2.1,true,())else p
def bQ (s:bW):List jW:=(sD s 0 fG []).map (uz s)
theorem amS (F:List GY) (a:Int) (L:List jW):(N9 F a L).length<=L.length+1:=by
 grind [N9]
theorem JL (s:fQ):(qg s).length<=s.length:=by simp[qg]
theorem avX {l:List GY} (h:l.length<1000000):oD l=some (l,()):=by
 grind [oD,rH,dV,jO]
theorem avA (s:bW) (u:s.length<=100000): ∀(N:Nat) (i:Int) (x:fQ×Bool) (L:List jW) (H:List Int),(s.length:Int)-i<N->0<=i->i<=s.length->iC x.1->(x.1.length:Int)<=i+1->Inv L H (qg x.1) i->(L.length:Int)<=i->
  ∃g o,SX N s (bG s) i x.2 i (lo x.1) H L=some (.inl ((s,()),(g,sD (s.drop i.toNat) i x L,(),())))/\Inv (sD (s.drop i.toNat) i x L) g o s.length/\(sD (s.drop i.toNat) i x L).length<=s.length
 |0,i,x,L,H,h,_,_,_,_,_,_=>by omega
 |N+1,i,x,L,H,h,f,B,l,D,m,E=>by
  rw[SX,aby];by_cases e:i<s.length
  .obtain⟨b,hd,G⟩:=drop_at f e;have d:=good_step l x.2 (bY s i) i;have I:(lo (fZ x.1 x.2 (bY s i) i).1).length≠0:=by
    rw[oW];intro e;rw[bz e]at d;exact d.1
   obtain⟨c,p,q⟩:=KJ l x.2 (bY s i) i;rw[<-tC,<-tC]at q;rw[<-tC,aI]at p;obtain⟨v,y,J,K⟩:=atY m p q;obtain⟨t,M⟩:=aBV d.1;have O:=JL (fZ x.1 x.2 (bY s i) i).1;have S:=JL x.1;have U:=m.len;have V:=aHM (t:=t) (L:=L) (H:=H) (F:=qg (fZ x.1 x.2 (bY s i) i).1) (a:=i) f (by omega) (by have:=d.2;omega) (by omega) (by omega)
    (fun j z=>by
     obtain⟨n,A,W⟩:=List.getElem_of_mem z;have:=m.nn n A
     grind) v y
   have X:=amS (qg (fZ x.1 x.2 (bY s i) i).1) i L;obtain⟨g,o,Y,Z,r3⟩:=avA s u N (i+1) (fZ x.1 x.2 (bY s i) i) (N9 (qg (fZ x.1 x.2 (bY s i) i).1) i L) (aba L H (qg (fZ x.1 x.2 (bY s i) i).1) i).2 (by omega) (by omega) (by omega) d.1 (by have:=d.2;omega) (by simp_all) (by omega);rw[bU (eQ (b:=bG s) e),bU (dU f e),afw l (by omega) x.2 (lS s i) f (by omega),bD];simp only[pst];rw[dG (dR (by rw[bI];omega)),avX (by grind),bD]
   grind [bD,dh,sD]
  .have ab:i=s.length:=by omega
   rw[dG (kW (b:=bG s) (by rw[bI];omega)),Jp,sD]
   grind
theorem azs (s:bW) (o:s.length<=100000) (H:List Int): ∀(N i:Nat) (L:List jW),L.length-i<N->i<=L.length->L.length<1000000->(∀j,j<L.length->0<=(dD L dP j).2.1/\(dD L dP j).2.1<s.length)->
  FZ N s (bG L) (i:Int) H L=some (.inl ((),(H,L.take i++(L.drop i).map (uz s),(),())))
 |0,i,L,h,_,_,_=>by omega
 |N+1,i,L,h,B,p,q=>by
  (rewrite [FZ,QH];delta fP jK eY)
  by_cases e:i<L.length
  .have D:ni (dw (i:Int)) L=true:=pJ (by assumption);have u:gm L (i:Int)=true:=dU;have v:dw (i:Int)=i:=by simp[dw]
   have iT: ∀x,dD (ik L i x) (0,(0,(0,(0,(false,()))))) i=x:=fun x=>F8 e;have y:ni i L=true:=by assumption
   have E:=q i e;have g:VY s (bZ .i64 (dD L (0,(0,(0,(0,(false,()))))) i).2.1 1)=some (((prl (s.drop ((dD L dP i).2.1+1).toNat):Nat):Int),()):=by
    grind [dh,dP,avK]
   have l:bZ .i64 (bZ .i64 (dD L (0,(0,(0,(0,(false,()))))) i).2.1 1) ((prl (s.drop ((dD L dP i).2.1+1).toNat):Nat):Int)=(dD L dP i).2.1+1+((prl (s.drop ((dD L dP i).2.1+1).toNat):Nat):Int):=by
    grind [agX,dP,dh]
   have z:bZ .i64 (i:Int) 1=((i+1:Nat):Int):=by grind [dh]
   have go: ∀x,x=uz s (dD L dP i)->FZ N s (bG L) ((i+1:Nat):Int) H (ik L i x)=some (.inl ((),(H,L.take i++(L.drop i).map (uz s),(),()))):=fun x G=>by
    have I:(uz s (dD L dP i)).2.1=(dD L dP i).2.1:=by
     grind [uz]
    have m:=azs s o H N (i+1) (ik L i x) (by rw[wH];omega) (by rw[wH];omega) (by rw[wH];exact p) (fun j J=>by
     grind [ik,F8,IG])
    have A:bG (ik L i x)=bG L:=by rw[bI,bI,wH]
    rw[A]at m;rw[m];congr 4;have K:(ik L i x).take (i+1)=L.take i++[x]:=by
     simp_all [ik,List.take_add_one,List.take_set_of_le]
    grind [ik,List.drop_set_of_lt,aF,qi]
   rw[bU (eQ (by rw[bI];omega))];simp only[v,u,y,ajo,iT,aeh,aa,acm,ax,z];by_cases ho:(dD L dP i).2.2.2.2.1=true
   .have f:(dD L (0,(0,(0,(0,(false,()))))) i).2.2.2.2.1=true:=ho;rw[f,aa];by_cases hm:(dD L dP i).1=12
    .have d:(dD L (0,(0,(0,(0,(false,()))))) i).1=12:=hm;rw[d,bU (fO rfl),g,bD];simp only[l];refine go _ ?_;unfold uz;rw[am hm,hm];rfl
    .have d: ¬(dD L (0,(0,(0,(0,(false,()))))) i).1=12:=hm;rw[dG (dR d)];refine go _ ?_;unfold uz;rw[aq hm,am ho];rfl
   .have f:(dD L (0,(0,(0,(0,(false,()))))) i).2.2.2.2.1=false:=Bool.eq_false_iff.2 ho;rw[f,ac];by_cases hm:(dD L dP i).1=12
    .have d:(dD L (0,(0,(0,(0,(false,()))))) i).1=12:=hm;rw[d,bU (fO rfl),g,bD];simp only[l];refine go _ ?_;unfold uz;rw[am hm,hm];rfl
    .have d: ¬(dD L (0,(0,(0,(0,(false,()))))) i).1=12:=hm;rw[dG (dR d)];simp_all [ik,qi,uz]
  .have M:i=L.length:=by omega
   simp_all [gK,bI]
theorem amT:Inv [] [] (qg fG.1) 0:={
 len:=rfl
 nn:=fun n e=>by cases e
 frm:=fun n e=>by cases e
 opn:=fun j d=>by rw[ajr (by simp)]at d;cases d
 lt:=fun j d=>by cases d
 inj:=fun i j f=>by cases f
 fd:=fun m n g=>by cases g}
theorem WO: ∀(l:bW) (a:Int) (x:fQ×Bool) (L:List jW),0<=a->(∀p∈L,0<=p.2.1)-> ∀p∈sD l a x L,0<=p.2.1
 |[],a,x,L,f,h,p,d=>h p d
 |b::l,a,x,L,f,h,p,d=>by
  rw[sD]at d;refine WO l (a+1) _ _ (by omega) (fun p d=> ?_) p d;unfold N9 at d;rcases List.mem_append.1 d with e|e
  .obtain⟨q,g,rfl⟩:=List.mem_map.1 e;have:(nH (qg (fZ x.1 x.2 (jq b) a).1) a q).2.1=q.2.1:=by
    unfold nH;split
    .split<;>rfl
    .rfl
   grind
  .split at e
   .rw[List.mem_singleton.1 e];exact f
   .cases e
theorem aIM (s:bW) (d:s.length<=100000):awt s=some (bQ s,()):=by
 obtain⟨f,m,g,e,h⟩:=avA s d bJ 0 fG [] [] (by have:=NS (n:=s.length) (by omega);omega) (by omega) (by omega) kC (by simp[fG]) amT (by simp);unfold awt;rw[show([(0,(0,()))]:List oz)=lo fG.1 from rfl,show(true:Bool)=fG.2 from rfl,g,bD];simp only[dL,Int.toNat_zero,List.drop_zero]at e h ⊢;have o:=WO s 0 fG [] (by omega) (fun p i=>by cases i);have q:=azs s d f bJ 0 (sD s 0 fG []) (NS) (by omega) (by omega) (fun j l=>by
  refine⟨?_,e.lt j l⟩
  grind [qi])
 grind [bD,bQ]
end
section
open Option renaming some → a6, none → a7
open List renaming append_assoc → ag, map_cons → ak, nil_append → aA, drop_eq_getElem_cons → aF, drop_of_length_le → aK, cons_append → aW, mem_of_mem_take → bn
open Go.RowKit
def xm:bW->Int->fQ×Bool->jW->jW
 |[],_,_,p=>p
 |b::l,a,x,p=>xm l (a+1) (fZ x.1 x.2 (jq b) a) (nH (qg (fZ x.1 x.2 (jq b) a).1) a p)
def um:bW->Int->fQ×Bool->List Int->List jW
 |[],_,_,_=>[]
 |b::l,a,x,d=>
  if YQ (qg (fZ x.1 x.2 (jq b) a).1) a=true then xm l (a+1) (fZ x.1 x.2 (jq b) a) (zG (qg (fZ x.1 x.2 (jq b) a).1) a d)::um l (a+1) (fZ x.1 x.2 (jq b) a) (d++[a])
  else um l (a+1) (fZ x.1 x.2 (jq b) a) d
theorem Xy (F:List GY) (a:Int) (p:jW):(nH F a p).2.1=p.2.1:=by
 unfold nH;split
 .split<;>rfl
 .rfl
theorem Fa: ∀(l:bW) (a:Int) (x:fQ×Bool) (p:jW),(xm l a x p).2.1=p.2.1
 |[],_,_,_=>rfl
 |b::l,a,x,p=>by rw[xm,Fa l,Xy]
theorem VU (s:bW) (p:jW):(uz s p).2.1=p.2.1:=by
 grind [uz]
theorem VT: ∀(l:bW) (a:Int) (x:fQ×Bool) (p:jW),p.2.2.2.2.1=false->xm l a x p=p
 |[],_,_,_,_=>rfl
 |b::l,a,x,p,h=>by
  rw[xm];have:nH (qg (fZ x.1 x.2 (jq b) a).1) a p=p:=by grind [nH]
  rw[this];exact VT l _ _ p h
theorem TN: ∀(l:bW) (a:Int) (x:fQ×Bool) (L:List jW),sD l a x L=L.map (xm l a x)++um l a x (L.map (·.2.1))
 |[],a,x,L=>by
  have:(xm [] a x)=id:=rfl;rw[sD,um,this];simp
 |b::l,a,x,L=>by
  rw[sD,TN l,um];have d:L.map (xm (b::l) a x)=(L.map (nH (qg (fZ x.1 x.2 (jq b) a).1) a)).map (xm l (a+1) (fZ x.1 x.2 (jq b) a)):=by
   rw[List.map_map];rfl
  have e:(L.map (nH (qg (fZ x.1 x.2 (jq b) a).1) a)).map (·.2.1)=L.map (·.2.1):=by
   simp_all [Xy]
  unfold N9;rw[d];split
  .rw[List.map_append,List.map_append,e];simp only[ak,List.map_nil,ag,aW,aA];rfl
  grind
theorem yQ (s:bW):bQ s=(um s 0 fG []).map (uz s):=by
 unfold bQ;rw[TN];rfl
structure PL (x:fQ) (i:Int):Prop where
 up:(Dt x).Pairwise (· < ·)
 lt: ∀v∈Dt x,v<i
theorem atl:PL fG.1 0:=⟨List.Pairwise.nil,fun v d=>by cases d⟩
theorem ayw {s:fQ} {i:Int} (g:iC s) (h:PL s i) (fr:Bool) (b:Int):PL (fZ s fr b i).1 (i+1):=by
 obtain⟨c,m,e|e⟩:=KJ g fr b i
 .refine⟨by rw[e];exact h.up.sublist (List.take_sublist ..),fun v d=> ?_⟩;rw[e]at d;have:=h.lt v (bn d);omega
 .refine⟨?_,fun v d=> ?_⟩
  .rw[e,List.pairwise_append];refine⟨h.up.sublist (List.take_sublist ..),List.pairwise_singleton ..,fun a j b l=> ?_⟩;rw[List.mem_singleton.1 l];exact h.lt a (bn j)
  .rw[e]at d;rcases List.mem_append.1 d with f|f
   .have:=h.lt v (bn f);omega
   grind
theorem abQ {l:List Int} (h:l.Pairwise (· < ·)) {m n:Nat} {v:Int} (d:l[m]? =a6 v) (e:l[n]? =a6 v):m=n:=by
 grind [List.pairwise_iff_getElem]
theorem awj {l:List Int} (h:l.Pairwise (· < ·)) {n:Nat} {v:Int} (d:l[n]? =a6 v):l.findIdx? (· ==v)=a6 n:=by
 obtain⟨e,f⟩:=List.getElem?_eq_some_iff.1 d;cases hf:l.findIdx? (· ==v)with
 |none=>
  simp_all
 |some m=>
  obtain⟨g,i,_⟩:=List.findIdx?_eq_some_iff_getElem.1 hf;have:l[m]? =a6 v:=by simp_all
  rw[abQ h this d]
theorem stay {s:fQ} {i v:Int} {n:Nat} (l:iC s) (h:PL s i) (f:(Dt s)[n]? =a6 v) (fr:Bool) (b:Int):(Dt (fZ s fr b i).1)[n]? =a6 v\/v∉Dt (fZ s fr b i).1:=by
 have p:=h.lt v (List.mem_of_getElem? f);obtain⟨c,q,e|e⟩:=KJ l fr b i<;>rw[e]
 .by_cases hnc:n<c
  .grind
  .right;intro g;obtain⟨m,d⟩:=List.getElem?_of_mem g;rw[List.getElem?_take]at d;split at d
   .rename_i o
    have:=abQ h.up d f;omega
   .cases d
 .have u:((Dt s).take c).length=c:=by simp_all
  by_cases hnc:n<c
  .grind
  .right;intro g;rcases List.mem_append.1 g with j|j
   .obtain⟨m,d⟩:=List.getElem?_of_mem j;rw[List.getElem?_take]at d;split at d
    .rename_i o
     have:=abQ h.up d f;omega
    .cases d
   simp_all
def atM (s:fQ) (v:Int):Int:=match(Dt s).findIdx? (· ==v)with
 |some n=>((n+1:Nat):Int)
 |none=>0
theorem atm {s:fQ} (d:iC s): ∃t,po s=t::Dt s:=by
 have e:s≠[]:=by rintro rfl;exact d
 grind [List.dropLast_concat_getLast,po,Dt]
theorem aD7 {s:fQ} (e:iC s): ∃t,so s=t::(qg s).map fun f=>letter f.1:=by
 have d:s≠[]:=by rintro rfl;exact e
 refine⟨letter (s.getLast d).1, ?_⟩
 conv=>lhs;rw[<-List.dropLast_concat_getLast d]
 simp[so,qg,List.map_reverse];rfl
theorem ahy (v:Int) (S:bW) (P:List Int) (fr:Bool) (d:P.length<1000000): ∀(N j:Nat),P.length-j<N->
  FQ N v (j:Int) S P fr=a6 (match(P.drop j).findIdx? (· ==v)with|some n=>.inr ((((j+n:Nat):Int),()),())|none=>.inl ((),()))
 |0,j,h=>by omega
 |N+1,j,h=>by
  rw[FQ,Qu];by_cases e:j<P.length
  .have f:eX P 0 (j:Int)=P[j]:=by simp_all [eX]
   rw[bU (eQ (by rw[bI];omega)),bU (dU),f,aF e,List.findIdx?_cons,gZ];by_cases e2:P[j]=v
   .simp[e2]
   .rw[dh,show(j:Int)+1=((j+1:Nat):Int) by omega,ahy v S P fr d N (j+1) (by omega)]
    grind
  simp_all [gK,bI,aK]
theorem aAU {s:fQ} (d:iC s) (hl:s.length<900000) (fr:Bool) (v:Int):acM (so s,(po s,(fr,()))) v=a6 (atM s v,()):=by
 unfold acM;obtain⟨t,e⟩:=atm d;have h:=ahy v (so s) (po s) fr (by rw[TW];omega) bJ 1 (dH (by rw[TW];omega));rw[show FQ bJ v 1 (so s) (po s) fr=_ from h,bD,e]
 grind [atM,dL]
theorem asK: ∀n:Fin 15,aik ((letter ((n.val:Nat):Int)).toNat:Int)=a6 (counts ((n.val:Nat):Int),()):=by decide+kernel
theorem aCU {m:Int} (d:0<=m) (e:m<=14):aik ((letter m).toNat:Int)=a6 (counts m,()):=by
 have:=asK ⟨m.toNat,by omega⟩
 grind
theorem Ir: ∀{s:fQ},iC s-> ∀f∈s,0<=f.1/\f.1<=14
 |[],h=>by cases h
 |[f],h=>by
  intro g d;rw[List.mem_singleton.1 d];have:f.1=0:=h;omega
 |f::g::r,h=>by
  intro q e;rcases List.mem_cons.1 e with rfl|i
  .have:=h.1;have:=h.2.1;omega
  .exact Ir h.2.2.2 q i
theorem amM {s:fQ} (e:iC s) {n:Nat} (h:n<(qg s).length):0<=((qg s).getD n dF).1/\((qg s).getD n dF).1<=14:=by
 have d:(qg s).getD n dF∈qg s:=by simp_all
 generalize (qg s).getD n dF=q at d;unfold qg at d;rw[List.mem_reverse,List.mem_map]at d;obtain⟨f,g,rfl⟩:=d;exact Ir e f (List.dropLast_subset s g)
theorem aHO {s:fQ} (d:iC s) {n:Nat} (e:n<(qg s).length):bY (so s) ((n+1:Nat):Int)=((letter ((qg s).getD n dF).1).toNat:Int)/\gm (so s) ((n+1:Nat):Int)=true:=by
 grind [aD7,dU,bY]
theorem N7 (s:fQ):(qg s).length=(Dt s).length:=by grind [tC]
theorem aq6 {s:fQ} {n:Nat} {v:Int} (h:(Dt s)[n]? =a6 v):((qg s).getD n dF).2.1=v/\n<(qg s).length:=by
 grind [tC]
theorem aBD {s:fQ} {i:Int} (h:PL s i): ∀m n,m<(qg s).length->n<(qg s).length->((qg s).getD m dF).2.1=((qg s).getD n dF).2.1->m=n:=fun m n d f e=>by
 rw[rQ d,rQ f,tC]at e;rw[N7]at d f;rw[List.getD_eq_getElem?_getD,List.getD_eq_getElem?_getD,List.getElem?_eq_getElem d,List.getElem?_eq_getElem f]at e;exact abQ h.up (List.getElem?_eq_getElem d) (by simp_all)
theorem aqW {s:fQ} {i v:Int} {n:Nat} (h:PL s i) (d:(Dt s)[n]? =a6 v):GZ (qg s) v=a6 ((qg s).getD n dF).1:=by
 grind [aq6,RH,aBD]
theorem aqV {s:fQ} {v:Int} (h:v∉Dt s):GZ (qg s) v=a7:=by
 grind [Iq,tC]
theorem aoL {s:fQ} {i v:Int} {n:Nat} (h:PL s i) (d:(Dt s)[n]? =a6 v):atM s v=((n+1:Nat):Int):=by
 unfold atM;rw[awj h.up d]
theorem aoM {s:fQ} {v:Int} (h:v∉Dt s):atM s v=0:=by
 grind [atM]
def iQ (s:bW) (k:Nat):fQ×Bool:=mY (s.take k) 0 fG
theorem ad6: ∀(l m:bW) (a:Int) (x:fQ×Bool),mY (l++m) a x=mY m (a+l.length) (mY l a x)
 |[],m,a,x=>by simp[mY]
 |b::l,m,a,x=>by
  rw[aW,mY,mY,ad6 l m]
  grind
theorem Gt {s:List UInt8} {k:Nat} (h:k<s.length):iQ s (k+1)=fZ (iQ s k).1 (iQ s k).2 (bY s k) k:=by
 unfold iQ;rw[List.take_add_one,List.getElem?_eq_getElem h,Option.toList_some,ad6,mY,mY,byte_at h,List.length_take,Nat.min_eq_left (by omega)];simp[jq]
theorem wU (s:bW) (k:Nat):iC (iQ s k).1/\(iQ s k).1.length<=k+1:=by
 have h:=D5 (s.take k) 0 fG kC;refine⟨h.1, ?_⟩;have d:=h.2;have:fG.1.length=1:=rfl
 grind [iQ]
theorem Lm (s:bW): ∀k,k<=s.length->PL (iQ s k).1 k
 |0,_=>atl
 |k+1,h=>by
  rw[Gt (by omega)];have:=ayw (wU s k).1 (Lm s k (by omega)) (iQ s k).2 (bY s k);simpa using this
end
section
open Option renaming some → a6, none → a7
open Bool renaming false_eq_true → ah
open List renaming append_assoc → ag, length_append → ai, map_cons → ak, nil_append → aA, drop_eq_getElem_cons → aF, length_cons → aH, length_map → aI, getElem_mem → aJ, drop_of_length_le → aK, length_drop → aQ, length_nil → aX, mem_of_mem_take → bn, mem_append_right → bu
open Nat renaming le_refl → ae, lt_or_ge → az
open Go.RowKit
abbrev RSt:=List UInt8×(List Int×uO)
def dS:RSt:=([],([],(false,())))
def uk (s:bW) (n:Nat):List RSt:=(List.range n).map fun k=>Ho (iQ s k)
theorem qO (s:bW) (n:Nat):(uk s n).length=n:=by simp[uk]
theorem Jd (s:bW) {n k:Nat} (h:k<n):dD (uk s n) dS k=Ho (iQ s k):=by
 simp_all [qi,uk]
theorem abX (s:bW) (d:s.length<=100000): ∀(N k:Nat),s.length-k<N->k<=s.length->
  FN N s (k:Int) (uk s (k+1))=a6 (.inl ((s,()),(uk s (s.length+1),())))
 |0,k,h,_=>by omega
 |N+1,k,h,hk=>by
  rw[FN,Qn];by_cases e:k<s.length
  .have j:=wU s k;have f:dD (uk s (k+1)) ([],([],(false,()))) (dw (k:Int))=Ho (iQ s k):=by
    rw[show dw (k:Int)=k from rfl];exact Jd s (by omega)
   have g:RQ (so (iQ s k).1,(po (iQ s k).1,((iQ s k).2,()))) (bY s (k:Int)) (k:Int)=a6 (Ho (iQ s (k+1)),()):=by
    grind [Gt,afx,lS]
   have i:bM (uk s (k+1)) [Ho (iQ s (k+1))]=uk s (k+2):=by
    simp_all [bM,uk,List.range_succ]
   rw[bU (eQ (by rw[bI];omega)),bU (dU (by omega) (by rw[qO];omega)),bU (dU),bU (pJ (by simp_all [qO,dw])),f];simp only[Ho];rw[g,bD];simp only;rw[i,bU (by grind [dV,qO,jO]),dh,show(k:Int)+1=((k+1:Nat):Int) by omega];exact abX s d N (k+1) (by omega) (by omega)
  .rw[dG (gK (by rw[bI];omega)),show k=s.length by omega]
theorem alj (s:bW) (A:List RSt) (out:List jW) (from_ n:Int) (P:List Int) (m f to_:Int) (d:Bool) (v:out.length<1000000) (x:n<1000000)
  (g:(dD A dS (dw (bZ .i64 from_ 1))).2.1=P) (i:gm A (bZ .i64 from_ 1)=true) (l:ni (dw (bZ .i64 from_ 1)) A=true) (o:1<n->gm P (eF .i64 n 1)=true)
  (j:Nat) (p:1<n->j<out.length/\(dD out dP j).2.1=eX P 0 (eF .i64 n 1)) (q: ∀a b,a<out.length->b<out.length->(dD out dP a).2.1=(dD out dP b).2.1->a=b):
  ∀(N k:Nat),out.length-k<N->k<=out.length->
  AU N s from_ n (k:Int) m f to_ (if 1<n/\j<k then(j:Int)else-1) d out A=a6 (.inl ((s,from_,n,()),((m,f,to_,(if 1<n then(j:Int)else-1),d,()),out,A,())))
 |0,k,h,_=>by omega
 |N+1,k,h,hk=>by
  rw[AU,La];by_cases e:k<out.length
  .have u:=alj s A out from_ n P m f to_ d v x g i l o j p q N (k+1) (by omega) (by omega);rw[bU (eQ (by rw[bI];omega)),dh (a:=(k:Int)) (by omega) (by omega),show(k:Int)+1=((k+1:Nat):Int) by omega];by_cases e1:1<n
   .obtain⟨y,z⟩:=p e1;have B:(dD A ([],([],(false,()))) (dw (bZ .i64 from_ 1))).2.1=P:=g;rw[bU (eQ e1),bU (dU),bU (pJ (by assumption)),i,l,B,o e1];simp only[aa];by_cases e2:k=j
    .simp_all [dD,dw,fO]
    .have: ¬(dD out (0,(0,(0,(0,(false,()))))) (dw (k:Int))).2.1=eX P 0 (eF .i64 n 1):=fun D=>e2 (q k j e y (D.trans z.symm));rw[dG (dR this)]
     grind
   .rw[aq (fun h=>e1 h.1)]at u ⊢;rw[dG (gK e1)];exact u
  .rw[dG (gK (by rw[bI];omega))]
   grind
theorem WY (s:bW) (A:s.length<=100000) (out:List jW) (f n:Nat) (d:Int): ∀(N k:Nat) (m:Int) (p:jW),s.length+1-k<N->f<k->k<=s.length->
  (Dt (iQ s k).1)[n]? =a6 (f:Int)->p.1=counts ((qg (iQ s k).1).getD n dF).1->p.2.1=f->p.2.2.2.2.1=true->p.2.2.2.1=d->
  xH N s (f:Int) ((n+1:Nat):Int) (k:Int) m f (s.length:Int) d true out (uk s (s.length+1))=
   a6 (.inl ((s,(f:Int),()),(((xm (s.drop k) k (iQ s k) p).1,(f:Int),(if(xm (s.drop k) k (iQ s k) p).2.2.2.2.1=true then(s.length:Int)else(xm (s.drop k) k (iQ s k) p).2.2.1),d,(xm (s.drop k) k (iQ s k) p).2.2.2.2.1,()),out,uk s (s.length+1),())))
   /\(xm (s.drop k) k (iQ s k) p).2.2.2.1=d
 |0,k,m,p,h,_,_,_,_,_,_,_=>by omega
 |N+1,k,m,p,h,X,hk,l,B,u,i,v=>by
  have j:=wU s k;have x:=Lm s k hk;obtain⟨Y,y⟩:=aq6 l;have D:dD (uk s (s.length+1)) ([],([],(false,()))) (dw (k:Int))=Ho (iQ s k):=by
   rw[show dw (k:Int)=k from rfl];exact Jd s (by omega)
  have E:gm (uk s (s.length+1)) (k:Int)=true:=dU (by omega) (by rw[qO];omega);have G:ni (dw (k:Int)) (uk s (s.length+1))=true:=pJ (by grind [qO,dw]);obtain⟨I,J⟩:=aHO j.1 y;have z:=amM j.1 y;rw[xH,Bj,bU (nK (by rw[bI];omega)),E,G,D];simp only[aa,Ho];rw[aAU j.1 (by omega),bD,aoL x l,dG (dR),J,I];simp only[aa];rw[aCU z.1 z.2,bD,dh,show(k:Int)+1=((k+1:Nat):Int) by omega];simp only;by_cases e:k<s.length
  .have hd:s.drop k=s[k]::s.drop (k+1):=aF e;have o:=Gt e;have K:bY s (k:Int)=jq s[k]:=byte_at e;rw[K]at o;have L:=wU s (k+1);have M:=Lm s (k+1) (by omega);have O:xm (s.drop k) k (iQ s k) p=xm (s.drop (k+1)) ((k+1:Nat):Int) (iQ s (k+1)) (nH (qg (iQ s (k+1)).1) k p):=by
    grind [xm]
   rw[O];rcases stay j.1 x l (iQ s k).2 (jq s[k])with h1|h1
   .rw[<-o]at h1;have q:nH (qg (iQ s (k+1)).1) k p=(counts ((qg (iQ s (k+1)).1).getD n dF).1,p.2):=by
     unfold nH;rw[am i,u,aqW M h1]
    rw[q];exact WY s A out f n d N (k+1) _ _ (by omega) (by omega) (by omega) h1 rfl u i v
   .rw[<-o]at h1;have q:nH (qg (iQ s (k+1)).1) k p=KW (k+1) p:=by
     simp_all [nH,aqV]
    have S:dD (uk s (s.length+1)) ([],([],(false,()))) (dw ((k+1:Nat):Int))=Ho (iQ s (k+1)):=by
     rw[show dw ((k+1:Nat):Int)=k+1 from rfl];exact Jd s (by omega)
    have U:gm (uk s (s.length+1)) ((k+1:Nat):Int)=true:=dU (by omega) (by rw[qO];omega);have V:ni (dw ((k+1:Nat):Int)) (uk s (s.length+1))=true:=pJ (by simp_all [qO,dw]);rw[q,VT _ _ _ _ rfl];obtain⟨g,rfl⟩: ∃g,N=g+1:=⟨N-1,by omega⟩;rw[xH,Bj,bU (nK (by rw[bI];omega)),U,V,S];simp only[aa,Ho];rw[aAU L.1 (by omega),bD,aoM h1,bU (fO rfl)];simp_all [KW]
  .have W:k=s.length:=by omega
   subst W;rw[List.drop_length,xm];obtain⟨g,rfl⟩: ∃g,N=g+1:=⟨N-1,by omega⟩;rw[xH,Bj,dG (Dq (by rw[bI];omega)),am i,i,B];exact⟨rfl,v⟩
theorem am7 (F:List GY) (a:Int):YQ F a=decide ((F.map (·.2.1)).getLast?=a6 a):=by
 grind [YQ]
theorem YU (s:bW) (G:s.length<=100000): ∀(N k:Nat) (out:List jW),s.length-k<N->k<=s.length->out.length<=k->
  (∀a b,a<out.length->b<out.length->(dD out dP a).2.1=(dD out dP b).2.1->a=b)->(∀p∈out,p.2.1<(k:Int))->(∀v∈Dt (iQ s k).1,v∈out.map (·.2.1))->
  Cb N s (k:Int) out (uk s (s.length+1))=a6 (.inl ((),(out++(um (s.drop k) k (iQ s k) (out.map (·.2.1))).map (uz s),())))
 |0,k,out,h,_,_,_,_,_=>by omega
 |N+1,k,out,h,hk,aY,y,I,aw=>by
  rw[Cb,Qo];by_cases e:k<s.length
  .have hd:s.drop k=s[k]::s.drop (k+1):=aF e;have J:=Gt e;have z:bY s (k:Int)=jq s[k]:=byte_at e;rw[z]at J;have hg:=wU s k;have ax:=Lm s k hk;have K:=wU s (k+1);have ay:=Lm s (k+1) (by omega);have i:bZ .i64 (k:Int) 1=((k+1:Nat):Int):=by rw[dh];omega
   have W:dD (uk s (s.length+1)) ([],([],(false,()))) (dw ((k+1:Nat):Int))=Ho (iQ s (k+1)):=by
    rw[show dw ((k+1:Nat):Int)=k+1 from rfl];exact Jd s (by omega)
   have X:gm (uk s (s.length+1)) ((k+1:Nat):Int)=true:=dU (by omega) (by rw[qO];omega);have Y:ni (dw ((k+1:Nat):Int)) (uk s (s.length+1))=true:=pJ (by rw[qO];simp only[dw];omega);rw[bU (eQ (by rw[bI];omega)),i,X,Y,W,hd,um,<-J];simp only[aa,Ho];rw[aAU K.1 (by omega),bD,am7,tC];obtain⟨c,hc,g⟩:=KJ hg.1 (iQ s k).2 (jq s[k]) k;rw[<-J]at g;have Z:((Dt (iQ s k).1).take c).length=c:=by rw[List.length_take];omega
   have L: ∀v∈(Dt (iQ s k).1).take c,v∈out.map (·.2.1):=fun v f=>aw v (bn f);rcases g with g|g
   .
    have ab:(k:Int)∉Dt (iQ s (k+1)).1:=fun f=>by
     rw[g]at f;have:=ax.lt _ (bn f);omega
    have M: ¬(Dt (iQ s (k+1)).1).getLast?=a6 (k:Int):=fun f=>ab (List.mem_of_getLast? f);rw[aoM ab,bU (fO rfl),decide_eq_false M];simp only[ah,if_false];exact YU s G N (k+1) out (by omega) (by omega) (by omega) y (fun p O=>by have:=I p O;omega) (fun v f=>by rw[g]at f;exact L v f)
   .have ad:(Dt (iQ s (k+1)).1)[c]? =a6 (k:Int):=by
     rw[g,List.getElem?_append_right (by omega),Z];simp
    have M:(Dt (iQ s (k+1)).1).getLast?=a6 (k:Int):=by rw[g];simp
    have af:(qg (iQ s (k+1)).1).length=c+1:=by rw[N7,g,ai,Z];rfl
    rw[aoL ay ad,dG (dR),decide_eq_true M];simp only[if_true];have aZ:=JL (iQ s (k+1)).1;have bd:=K.2;have aB:1<((c+1:Nat):Int)->gm (po (iQ s (k+1)).1) (eF .i64 ((c+1:Nat):Int) 1)=true:=fun d=>by
     rw[iy];refine dU (by omega) ?_;rw[TW];have:=JL (iQ s (k+1)).1;omega
    obtain⟨t,ht⟩:=atm K.1;have aG:1<((c+1:Nat):Int)->eX (po (iQ s (k+1)).1) 0 (eF .i64 ((c+1:Nat):Int) 1)=((qg (iQ s (k+1)).1).getD (c-1) dF).2.1:=fun d=>by
     rw[iy,ht,rQ,tC];unfold eX;rw[show(((c+1:Nat):Int)-1).toNat=(c-1)+1 by omega,List.getD_cons_succ]
    have aO: ∃j:Nat,1<((c+1:Nat):Int)->j<out.length/\(dD out dP j).2.1=((qg (iQ s (k+1)).1).getD (c-1) dF).2.1/\ari (out.map (·.2.1)) ((qg (iQ s (k+1)).1).getD (c-1) dF).2.1=(j:Int):=by
     by_cases d:1<((c+1:Nat):Int)
     .have aP:((qg (iQ s (k+1)).1).getD (c-1) dF).2.1∈out.map (·.2.1):=by
       refine L _ ?_;rw[rQ,tC,g,List.getD_eq_getElem?_getD,List.getElem?_append_left (by omega),List.getElem?_eq_getElem (by omega)];exact aJ _
      obtain⟨j,A,aj⟩:=List.getElem_of_mem aP;rw[aI]at A;rw[List.getElem_map]at aj;have al:(dD out dP j).2.1=((qg (iQ s (k+1)).1).getD (c-1) dF).2.1:=by rw[qi A];exact aj
      exact⟨j,fun _=>⟨A,al,by rw[<-al];exact acV y A⟩⟩
     .exact⟨0,fun l=>absurd l d⟩
    obtain⟨j,S⟩:=aO;have an:=alj s (uk s (s.length+1)) out (k:Int) ((c+1:Nat):Int) (po (iQ s (k+1)).1) 0 (k:Int) (s.length:Int) true (by omega) (by have:=JL (iQ s (k+1)).1;omega)
     (by rw[i];exact congrArg (·.2.1) W) (by rw[i];exact X) (by rw[i];exact Y) aB j (fun d=>⟨(S d).1,(S d).2.1.trans (aG d).symm⟩) y bJ 0 (dH) (by omega)
    rw[aq (by omega)]at an;rw[show AU bJ s (k:Int) ((c+1:Nat):Int) 0 0 (k:Int) (bG s) (-1) true out (uk s (s.length+1))=_ from an,bD];simp only[dL];have B:zG (qg (iQ s (k+1)).1) k (out.map (·.2.1))=(counts ((qg (iQ s (k+1)).1).getD c dF).1,(k:Int),0,(if 1<((c+1:Nat):Int)then(j:Int)else-1),true,()):=by
     unfold zG;have aS:(qg (iQ s (k+1)).1).getLastD dF=(qg (iQ s (k+1)).1).getD c dF:=by
      rw[List.getLastD_eq_getLast?,List.getLast?_eq_getElem?,af,List.getD_eq_getElem?_getD];rfl
     rw[aS,af];by_cases d:1<((c+1:Nat):Int)
     .rw[aq (by omega),am d,show c+1-2=c-1 by omega,(S d).2.2]
     .rw[am (by omega),aq d]
    obtain⟨aU,U⟩:=WY s G out k c (if 1<((c+1:Nat):Int)then(j:Int)else-1) bJ (k+1) 0 (zG (qg (iQ s (k+1)).1) k (out.map (·.2.1))) (dH) (by omega) (by omega) ad (by rw[B]) (by rw[B]) (by rw[B]) (by rw[B]);rw[i,aU,bD];simp only;have o:=Fa (s.drop (k+1)) ((k+1:Nat):Int) (iQ s (k+1)) (zG (qg (iQ s (k+1)).1) k (out.map (·.2.1)));have aV:(zG (qg (iQ s (k+1)).1) k (out.map (·.2.1))).2.1=(k:Int):=rfl;rw[aV]at o;rw[show((k:Int)+1)=((k+1:Nat):Int) by omega];generalize hq:xm (s.drop (k+1)) ((k+1:Nat):Int) (iQ s (k+1)) (zG (qg (iQ s (k+1)).1) k (out.map (·.2.1)))=q at*;have ao: ∀x:jW,dV (bM out [x]) 40=true:=fun x=>by
     unfold dV bM;exact decide_eq_true (by rw[ai];simp only[aH,aX];unfold jO;omega)
    have go:Cb N s ((k+1:Nat):Int) (out++[uz s q]) (uk s (s.length+1))=a6 (.inl ((),(out++(q::um (s.drop (k+1)) ((k+1:Nat):Int) (iQ s (k+1)) (out.map (·.2.1)++[(k:Int)])).map (uz s),()))):=by
     have u:(uz s q).2.1=(k:Int):=(VU s q).trans o;have D: ∀a,a<out.length->dD (out++[uz s q]) dP a=dD out dP a:=fun a m=>by
      unfold dD;rw[List.getD_eq_getElem?_getD,List.getD_eq_getElem?_getD,List.getElem?_append_left m]
     have au:dD (out++[uz s q]) dP out.length=uz s q:=by
      unfold dD;rw[List.getD_eq_getElem?_getD,List.getElem?_append_right (ae _)];simp
     have av: ∀a,a<out.length->(dD out dP a).2.1<(k:Int):=fun a m=>by rw[qi m];exact I _ (aJ m)
     have ih:=YU s G N (k+1) (out++[uz s q]) (by omega) (by omega) (by simp;omega)
      (fun a b m z E=>by
       rw[ai]at m z;simp only[aH,aX]at m z;rcases az a out.length with d|d<;>rcases az b out.length with l|l
       .rw[D a d,D b l]at E;exact y a b d l E
       .rw[D a d,show b=out.length by omega,au,u]at E;have:=av a d;omega
       .rw[D b l,show a=out.length by omega,au,u]at E;have:=av b l;omega
       .omega)
      (fun p O=>by
       rcases List.mem_append.1 O with d|d
       .have:=I p d;omega
       .rw[List.mem_singleton.1 d,u];omega)
      (fun v f=>by
       rw[g]at f;rw[List.map_append];rcases List.mem_append.1 f with d|d
       .exact List.mem_append_left _ (L v d)
       .rw[List.mem_singleton.1 d];exact bu _ (by simp[u]))
     rw[ih];rw[List.map_append,ag,ak];simp only[ak,List.map_nil,u];rfl
    by_cases e12:q.1=12
    .rw[bU (fO e12),i,avL (by omega) (by omega),bD,ao,aa];have aW:=agX (s.drop (k+1));rw[aQ]at aW;rw[dh];have V:uz s q=(q.1,(k:Int),((k+1:Nat):Int)+((prl (s.drop (k+1)):Nat):Int),(if 1<((c+1:Nat):Int)then(j:Int)else-1),false,()):=by
      unfold uz;rw[am e12,o,U,show((k:Int)+1).toNat=k+1 by omega,show(k:Int)+1=((k+1:Nat):Int) by omega]
     rw[<-V];exact go
    .rw[dG (dR e12),i,ao,aa];have V:uz s q=(q.1,(k:Int),(if q.2.2.2.2.1=true then(s.length:Int)else q.2.2.1),(if 1<((c+1:Nat):Int)then(j:Int)else-1),q.2.2.2.2.1,()):=by
      unfold uz;rw[aq e12];by_cases ho:q.2.2.2.2.1=true
      .rw[am ho,am ho,o,U,ho]
      .rw[aq ho,aq ho,<-o,<-U]
     rw[<-V];exact go
  .rw[dG (gK (by rw[bI];omega)),aK (by omega),um];simp
theorem aIN (s:bW) (d:s.length<=100000):aid s=a6 (bQ s,()):=by
 unfold aid;have e:=abX s d bJ 0 (NS) (by omega);have f:=YU s d bJ 0 [] (NS) (by omega) (by simp) (fun a b g=>by cases g) (fun p h=>by cases h) (fun v i=>by cases i);rw[show RP=a6 (Ho fG,()) from rfl,bD,show FN bJ s 0 [(Ho fG,()).1]=_ from e,bD];simp only[dL];rw[show Cb bJ s 0 [] (uk s (s.length+1))=_ from f,bD];simp only[aA,List.drop_zero];rw[yQ];rfl
end
section
open List renaming mem_cons_of_mem → au, length_drop → aQ
open Nat renaming le_refl → ae
open Go.RowKit
theorem af0 {g f:Int×Int} {r:fQ} (d:iC (f::g::r)):g.1≠13:=by
 have:=d.2.2.1
 grind [SH]
theorem E9 {m:Int} {f:Int×Int} {r:fQ} (hf:f.1=m\/m≠13/\f.1≠13) (e: ∀g d,r=g::d->g.1≠13) (q:r=[]->m≠13) (fr:Bool) (b i:Int):
  ∀g d,(ji m (f::r) fr b i).1=g::d->g.1=13->g.2=i:=by
 intro g d h j;have l: ∀{x:Int×Int} {y:fQ},x::y=g::d->x=g:=fun h=>(List.cons.inj h).1;have s:m≠13->f::r=g::d->False:=fun o h=>by
  simp_all
 have p:r=g::d->False:=fun h=>e g d h j;have u: ∀k,(k,i)::f::r=g::d->g.2=i:=fun k h=>by rw[<-l h]
 unfold ji at h;split at h
 .rename_i o
  have v:m≠13:=by omega
  unfold KL at h
  grind
 .split at h
  .exact(p h).elim
  grind [Iu]
theorem aqu {s:fQ} (j:iC s) (fr:Bool) (b i:Int): ∀g∈(fZ s fr b i).1,g.1=13->g.2=i:=by
 have o: ∀g d,(fZ s fr b i).1=g::d->g.1=13->g.2=i:=by
  cases s with
  |nil=>cases j
  |cons f r=>
  intro g d h l;have D: ∀{x:Int×Int} {y:fQ},x::y=g::d->x=g:=fun h=>(List.cons.inj h).1;have p: ∀g d,r=g::d->g.1≠13:=fun g d e=>by subst e;exact af0 j
  have A: ∀g u d,r=g::u::d->u.1≠13:=fun g u d e=>by subst e;exact af0 j.2.2.2
  have E: ∀k:Int,k≠13->(k,f.2)::r=g::d->False:=fun k hk h=>by
   grind
  simp only[fZ]at h;split at h
  .split at h
   .simp_all
   .split at h
    .grind
    .split at h
     .grind
     .cases r with
      |nil=>rename_i G _ _ _;have:f.1=0:=j;omega
      |cons q r=>
       exact E9 (.inl rfl) (fun g d e=>A q g d (by rw[e])) (fun _=>by simp_all) fr b i g d h l
  .split at h
   .split at h
    .simp_all
    .exact E9 (f:=(1,f.2)) (.inl rfl) p (fun _=>by omega) fr b i g d h l
   .split at h
    .split at h
     .grind
     .exact E9 (f:=(9,f.2)) (.inl rfl) p (fun _=>by omega) fr b i g d h l
    .refine E9 (.inl rfl) p (fun e=> ?_) fr b i g d h l;subst e;have:f.1=0:=j;omega
 have v:=(good_step j fr b i).1;revert o v;generalize (fZ s fr b i).1=y;intro o v g m l;cases y with
 |nil=>cases m
 |cons f r=>
  rcases List.mem_cons.1 m with e|m
  .simp_all
  .exfalso;clear o
   induction r generalizing f with
   |nil=>cases m
   |cons q r B=>
    rcases List.mem_cons.1 m with e|z
    .grind [af0]
    .exact B q v.2.2.2 (au _ z) z
def PI (p:jW) (a:Int):Prop:=0<=p.2.1/\p.2.1<a/\(p.2.2.2.2.1=true/\(p.1=13->p.2.1+1=a)\/p.2.2.2.2.1=false/\p.2.1+2<=p.2.2.1/\p.2.2.1<=a/\(p.1=13->p.2.2.1=p.2.1+2))
theorem alE {m:Int} (h:counts m=13):m=13:=by
 grind [counts]
theorem awv {s:fQ} {f:GY} (h:f∈qg s):(f.1,f.2.1)∈s:=by
 unfold qg at h;rw[List.mem_reverse,List.mem_map]at h;obtain⟨g,d,rfl⟩:=h
 grind [List.dropLast_sublist]
theorem amH {F:List GY} {v m:Int} (h:GZ F v=some m): ∃f∈F,f.2.1=v/\f.1=m:=by
 unfold GZ at h;obtain⟨f,d,rfl⟩:=Option.map_eq_some_iff.1 h
 grind
theorem aDp {s:fQ} (j:iC s) (fr:Bool) (b a:Int) {p:jW} (h:PI p a):PI (nH (qg (fZ s fr b a).1) a p) (a+1):=by
 obtain⟨g,v,l⟩:=h;unfold nH;rcases l with ⟨d,i⟩|⟨d,i,x,o⟩
 .rw[am d];split
  .rename_i m q
   refine⟨g,by simp only;omega,.inl ⟨d,fun h=> ?_⟩⟩;have y:m=13:=alE h;obtain⟨f,u,z,e⟩:=amH q;have:=aqu j fr b a _ (awv u) (by simp only;omega);omega
  .refine⟨g,by simp only[KW];omega,.inr ⟨rfl,by simp only[KW];omega,by simp[KW],fun h=> ?_⟩⟩
   grind [KW]
 .rw[aq (by rw[d];simp)];exact⟨g,by omega,.inr ⟨d,i,by omega,o⟩⟩
theorem aDo {s:fQ} (e:iC s) (fr:Bool) (b:Int) {a:Int} (d:0<=a) (l:List Int):PI (zG (qg (fZ s fr b a).1) a l) (a+1):=
 ⟨d,by simp only[zG];omega,.inl ⟨rfl,fun h=>by simp only[zG]⟩⟩
theorem ajQ: ∀(l:bW) (a:Int) (x:fQ×Bool) (p:jW),iC x.1->PI p a->PI (xm l a x p) (a+l.length)
 |[],a,x,p,_,h=>by simpa [xm] using h
 |b::l,a,x,p,d,h=>by
  rw[xm];have:=ajQ l (a+1) (fZ x.1 x.2 (jq b) a) _ (good_step d _ _ _).1 (aDp d x.2 (jq b) a h)
  grind
theorem aa1: ∀(l:bW) (a:Int) (x:fQ×Bool) (fr:List Int),0<=a->iC x.1-> ∀p∈um l a x fr,PI p (a+l.length)/\a<=p.2.1
 |[],a,x,fr,_,_,p,h=>by cases h
 |b::l,a,x,fr,j,f,p,h=>by
  have g:=(good_step f x.2 (jq b) a).1;have e: ∀d,p∈um l (a+1) (fZ x.1 x.2 (jq b) a) d->PI p (a+((b::l).length:Int))/\a<=p.2.1:=fun d i=>by
   have:=aa1 l (a+1) _ d (by omega) g p i
   grind
  rw[um]at h;split at h
  .rcases List.mem_cons.1 h with rfl|h
   .grind [ajQ,aDo,Fa,zG]
   .exact e _ h
  .exact e _ h
theorem XM: ∀(l:bW) (a:Int) (x:fQ×Bool) (fr:List Int),0<=a->iC x.1->(um l a x fr).Pairwise (fun p q=>p.2.1<q.2.1)
 |[],a,x,fr,_,_=>List.Pairwise.nil
 |b::l,a,x,fr,g,e=>by
  have d:=(good_step e x.2 (jq b) a).1;rw[um];split
  .refine List.Pairwise.cons (fun p f=> ?_) (XM l (a+1) _ _ (by omega) d);have:=(aa1 l (a+1) _ _ (by omega) d p f).2
   grind [Fa,zG]
  .exact XM l (a+1) _ _ (by omega) d
structure PF (s:bW) (p:jW):Prop where
 f0:0<=p.2.1
 f1:p.2.1<s.length
 t0:p.2.1<p.2.2.1
 t1:p.2.2.1<=s.length
 op:p.2.2.2.2.1=true->p.2.2.1=s.length/\p.1≠12
 sh:p.2.2.2.2.1=false->p.1≠12->p.2.1+2<=p.2.2.1
 es:p.1=13->p.2.2.1<=p.2.1+2
 dl:p.1=12->p.2.2.1=p.2.1+1+((prl (s.drop (p.2.1+1).toNat):Nat):Int)
theorem ane (s:bW): ∀p∈bQ s,PF s p:=by
 intro p i;rw[yQ]at i;obtain⟨q,m,rfl⟩:=List.mem_map.1 i;obtain⟨⟨f,d,j⟩,_⟩:=aa1 s 0 fG [] (by omega) kC q m;rw[Int.zero_add]at d j;have o:=agX (s.drop (q.2.1+1).toNat);rw[aQ]at o;unfold uz;split
 .rename_i e
  exact⟨f,d,by simp only;omega,by simp only;omega,fun h=>(by cases h),fun _ h=>absurd e h,fun h=>(by omega),fun _=>rfl⟩
 .rename_i e
  split
  .rename_i g
   refine⟨f,d,d,Int.le_refl _,fun _=>⟨rfl,e⟩,fun h=>(by cases h),fun h=> ?_,fun h=>absurd h e⟩
   grind
  .rename_i g
   rcases j with ⟨l,_⟩|⟨l,u,v,x⟩
   .exact absurd l g
   .exact⟨f,d,by omega,v,fun h=>absurd h g,fun _ _=>u,fun h=>by have:=x h;omega,fun h=>absurd h e⟩
theorem WN (s:bW):(bQ s).Pairwise (fun p q=>p.2.1<q.2.1):=by
 grind [yQ,XM,kC,VU]
theorem CP (s:bW):(bQ s).length<=s.length:=by
 have h: ∀(l:bW) (a:Int) (x:fQ×Bool) (d:List Int),(um l a x d).length<=l.length:=by
  intro l
  induction l with
  |nil=>intro a x d;exact ae 0
  |cons b l e=>
   grind [um]
 simp_all [yQ,fG]
end
section
open Nat renaming le_trans → aG
open Go.RowKit
def ve (L:List jW) (v:Int):Option jW:=L.find? fun p=>p.2.1==v
theorem RF {L:List jW} {v:Int} {p:jW} (h:ve L v=some p):p∈L/\p.2.1=v:=
 ⟨List.mem_of_find?_eq_some h,by simpa using List.find?_some h⟩
theorem xn {s:List UInt8} {v:Int} {p:jW} (h:ve (bQ s) v=some p):PF s p/\p.2.1=v:=
 ⟨ane s p (RF h).1,(RF h).2⟩
def lone (p:jW):Bool:=decide (p.1=12)&&decide (p.2.2.1=p.2.1+1)
def nT (s:bW) (p:jW):bW:=sub s p.2.1 p.2.2.1
def uU (p:jW):Int:=if p.2.2.2.2.1=true then p.2.2.1 else p.2.2.1-1
def U5 (s:bW) (p:jW):bW:=if p.2.2.1=p.2.1+2/\bY s (p.2.1+1)≠10 then sub s (p.2.1+1) p.2.2.1 else []
def U4 (s:bW) (p:jW):bW:=if p.2.2.1=p.2.1+2 then(if bY s (p.2.1+1)=36\/bY s (p.2.1+1)=96\/bY s (p.2.1+1)=34\/bY s (p.2.1+1)=92 then sub s (p.2.1+1) p.2.2.1 else if bY s (p.2.1+1)=10 then []else nT s p)else []
def gY (s:bW) (L:List jW) (at_:Int):Int×List UInt8×Bool:=
 match ve L at_ with
 |none=>(at_+1,sub s at_ (at_+1),false)
 |some p=>if lone p=true then(at_+1,sub s at_ (at_+1),false)
  else if p.1=13 then(p.2.2.1,U4 s p,false)
  else(p.2.2.1,nT s p,true)
def rO (s:bW) (L:List jW) (to_:Int):Nat->Int->bW
 |0,_=>[]
 |n+1,at_=>if at_<to_ then(gY s L at_).2.1++rO s L to_ n (gY s L at_).1 else []
def stepT (s:bW) (L:List jW) (at_:Int):Int×List UInt8:=
 match ve L at_ with
 |none=>(at_+1,sub s at_ (at_+1))
 |some p=>if lone p=true\/p.1=14 then(p.2.2.1,nT s p)
  else if p.1=13 then(p.2.2.1,U5 s p)
  else if p.1=4 then(p.2.2.1,sub s (p.2.1+1) (uU p))
  else if p.1=5 then(p.2.2.1,rO s L (uU p) s.length (p.2.1+1))
  else(p.2.2.1,nT s p)
def lC (s:bW) (L:List jW):Nat->Int->bW
 |0,_=>[]
 |n+1,at_=>if at_<s.length then(stepT s L at_).2++lC s L n (stepT s L at_).1 else []
def Jf (s:bW):bW:=lC s (bQ s) s.length 0
theorem Lp {s:List UInt8} {at_:Int}:at_<(gY s (bQ s) at_).1:=by
 unfold gY;split
 .simp only;omega
 .rename_i p d
  obtain⟨h,e⟩:=xn d;have:=h.t0
  grind
theorem Lr {s:List UInt8} {at_:Int}:at_<(stepT s (bQ s) at_).1:=by
 unfold stepT;split
 .simp only;omega
 .rename_i p d
  obtain⟨h,e⟩:=xn d;have:=h.t0
  grind
theorem aep {s:List UInt8} {at_:Int} (f:at_<s.length):(stepT s (bQ s) at_).1<=s.length:=by
 unfold stepT;split
 .simp only;omega
 .rename_i p d
  obtain⟨h,e⟩:=xn d;have:=h.t1
  grind
theorem LU (s:bW) (to_:Int): ∀(n m:Nat) (at_:Int),to_-at_<=n->to_-at_<=m->rO s (bQ s) to_ n at_=rO s (bQ s) to_ m at_
 |0,0,_,_,_=>rfl
 |0,m+1,at_,h,_=>by rw[rO,rO,aq (by omega)]
 |n+1,0,at_,_,h=>by rw[rO,rO,aq (by omega)]
 |n+1,m+1,at_,d,e=>by
  rw[rO,rO];split
  .have:= @Lp s at_;rw[LU s to_ n m _ (by omega) (by omega)]
  .rfl
theorem Ie (s:bW): ∀(n m:Nat) (at_:Int),(s.length:Int)-at_<=n->(s.length:Int)-at_<=m->lC s (bQ s) n at_=lC s (bQ s) m at_
 |0,0,_,_,_=>rfl
 |0,m+1,at_,h,_=>by rw[lC,lC,aq (by omega)]
 |n+1,0,at_,_,h=>by rw[lC,lC,aq (by omega)]
 |n+1,m+1,at_,d,e=>by
  rw[lC,lC];split
  .have:= @Lr s at_;rw[Ie s n m _ (by omega) (by omega)]
  .rfl
theorem IY {d:Type} (l:List d) (a b:Int):(sub l a b).length<=l.length:=by
 grind [sub]
theorem Nq (s:bW) (L:List jW) (at_:Int):(gY s L at_).2.1.length<=s.length:=by
 unfold gY;split
 .exact IY s _ _
 .split
  .exact IY s _ _
  .split
   .simp only;unfold U4 nT
    repeat' split
    all_goals simp_all [IY]
   .exact IY s _ _
theorem ace (s:bW) (L:List jW) (to_:Int): ∀(n:Nat) (at_:Int),(rO s L to_ n at_).length<=n*s.length
 |0,_=>by simp[rO]
 |n+1,at_=>by
  rw[rO];split
  .have:=Nq s L at_;have:=ace s L to_ n (gY s L at_).1
   grind
  simp
theorem Nr (s:bW) (L:List jW) (at_:Int):(stepT s L at_).2.length<=s.length*s.length+s.length:=by
 have h: ∀a b,(sub s a b).length<=s.length*s.length+s.length:=fun a b=>aG (IY s a b) (Nat.le_add_left _ _);unfold stepT;split
 .exact h _ _
 .split
  .exact h _ _
  .split
   .simp only;unfold U5
    grind
   .split
    .exact h _ _
    .split
     .exact aG (ace _ _ _ _ _) (Nat.le_add_right _ _)
     .exact h _ _
theorem VF (s:bW) (L:List jW): ∀(n:Nat) (at_:Int),(lC s L n at_).length<=n*(s.length*s.length+s.length)
 |0,_=>by simp[lC]
 |n+1,at_=>by
  rw[lC];split
  .have:=Nr s L at_;have:=VF s L n (stepT s L at_).1
   grind
  simp
end
section
open Option renaming some → a6, none → a7
open Tryz
open Go.RowKit
noncomputable def aAW:Code:=(f110.body).getD .skip
noncomputable def aoW:Code:=cA (cA (cA (cB (cB (cA (cA (cB (cA (cA (cB (cA (cB (cB (aAW))))))))))))))
noncomputable def aoV:Code:=cA (cA (cB (cA (cB (cB (aAW))))))
def ars:eG:=⟨[0,5,9,10,100007],[],[0,5,9,10],[],[6,7],[]⟩
def arq:eG:=⟨[0,5,8,9,100003],[],[0],[],[6,7],[]⟩
def Y6:SP:=⟨eD,cY⟩
def ZL:SP:=⟨eD,cY⟩
def aas:SP:=⟨us [.u,.u,.u,.u,.u,.u,bR,bR] 66,[]⟩
def P7 {i:Type} (l j:bW->Int->Int->bW->Bool->Option i) (m:Int->Int->Option i) (e:bW) (f d:Int) (h:bW) (g:Bool):Option i:=cond g (cond (iq d f) (cond (gm e d) (cond (bT (bY e d) 9) (l e f (bZ .i64 d 1) h g)<|j e f d h g) a7)<|j e f d h g)<|j e f d h g
def JW:Nat->bW->Int->Int->bW->Bool->Option (ZL.den⊕aas.den)
 |0,_,_,_,_,_=>a7
 |n+1,d,e,f,g,h=>P7 (JW n) (fun i j l m o=>a6 (.inl ((i,j,l,()),((m,o,()),())))) (fun p q=>a6 (.inr ((p,q,()),()))) d e f g h
def aw2 (n:Nat) (v:Y6.den):=JW n v.1.1 v.1.2.1 v.1.2.2.1 v.2.1.1 v.2.1.2.1
noncomputable def aiN:dA:=fH ars Y6 ZL aas (.exit 2) (aw2 bJ) 6
def Y5:SP:=⟨us [bS,.u,.u,.u,.u,cx,.u,.u,bR,bR] 64,cY⟩
def PN:SP:=⟨us [bS] 73,[]⟩
def PS:SP:=⟨us [.u,.u,.u,.u,.u,.u,bR,bR] 66,[]⟩
def qJ {e:Type} (h:bW) (i j:Int) (l:bW) (m:Bool) (f:Int->Int->Option e) (o:bW->Int->Int->bW->Bool->Option e):Option e:=bF (JW bJ h i j l m) fun p=>dL p (fun d=>cond (eU (bG d.1.1) d.1.2.2.1 d.1.2.1) (cond (gI (sub d.1.1 d.1.2.2.1 d.1.2.1) d.2.1.1) (cond (iq d.1.2.1 (bG d.1.1)) (f (bZ .i64 d.1.2.1 1) 1)<|f d.1.2.1 1)<|o d.1.1 (bZ .i64 d.1.2.1 1) (bZ .i64 d.1.2.1 1) d.2.1.1 d.2.1.2.1) a7) (fun g=>f g.1.1 g.1.2.1)
def Gl {j:Type} (g:bW->Int->Int->bW->Bool->Option j) (m:bW->Option j) (l:Int->Int->Option j) (e:bW) (f d:Int) (h:bW) (i:Bool):Option j:=cond (leI d (bG e)) (cond (iq d (bG e)) (cond (gm e d) (cond (!(bT (bY e d) 10)) (g e f (bZ .i64 d 1) h i)<|cond (bT d (bG e)) (cond (bT f d) (g e f (bZ .i64 d 1) h i)<|qJ e d f h i l g)<|qJ e d f h i l g) a7)<|cond (bT d (bG e)) (cond (bT f d) (g e f (bZ .i64 d 1) h i)<|qJ e d f h i l g)<|qJ e d f h i l g)<|m e
def vM:Nat->bW->Int->Int->bW->Bool->Option (PN.den⊕PS.den)
 |0,_,_,_,_,_=>a7
 |n+1,d,e,f,g,h=>Gl (vM n) (fun i=>a6 (.inl ((i,()),()))) (fun j l=>a6 (.inr ((j,l,()),()))) d e f g h
def aw1 (n:Nat) (v:Y5.den):=vM n v.1.1 v.1.2.1 v.1.2.2.1 v.2.1.1 v.2.1.2.1
noncomputable def aiM:dA:=fH arq Y5 PN PS (.exit 0) (aw1 bJ) 12
def ahV (g:bW) (d:Int) (e:bW×uO):Option oz:=bF (vM bJ g d d e.1 e.2.1) fun h=>dL h (fun i=>a6 ((bG i.1.1),(0,()))) (fun f=>a6 (f.1.1,(f.1.2.1,())))
def auq:Sum:=⟨[.str,di,EU],tzL,fun x=>ahV x.1 x.2.1 x.2.2.1⟩
noncomputable def X4:Env:=iU prog tt 110 [] [(7,ars),(3,arq)] [(7,aiN),(3,aiM)]
def aka {d:Type} (a:Y6.den->Option d) (b:ZL.den->Option d) (c:aas.den->Option d) (v:Y6.den):Option d:=P7 (fun e f g h i=>a ((e,f,g,()),((h,i,()),()))) (fun j l m o p=>b ((j,l,m,()),((o,p,()),()))) (aL c) v.1.1 v.1.2.1 v.1.2.2.1 v.2.1.1 v.2.1.2.1
theorem axP:dQ X4 110 aoW aiN:=vS (aka) (h2:=by intros;simp only[aka,aL,P7,cu,cO,bD,bV,cZ])
def aj9 {d:Type} (a:Y5.den->Option d) (b:PN.den->Option d) (c:PS.den->Option d) (v:Y5.den):Option d:=Gl (fun e f g h i=>a ((e,f,g,()),((h,i,()),()))) (aE b) (aL c) v.1.1 v.1.2.1 v.1.2.2.1 v.2.1.1 v.2.1.2.1
theorem axO:dQ X4 110 aoV aiM:=vS (aj9) (h2:=by intros;simp only[aj9,aE,aL,Gl,cu,cO,bD,bV,cZ,qJ])
theorem aBX:dO X4 110 aAW:=pI [aoW,aoV] (aD (fM (axP)) (aD (fM (axO)) aN))
theorem alK:eP X4:=eA f110 aN (aBX)
theorem anx:dK prog 110 auq:=sA alK
noncomputable def aFS:Code:=(f111.body).getD .skip
noncomputable def aoX:Code:=cA (cA (cA (cB (aFS))))
def Y7:SP:=⟨us [bS,bR] 40,[]⟩
def PO:SP:=⟨us [.u,bR] 40,[]⟩
def PT:SP:=⟨us cS 37,[]⟩
def P8 {g:Type} (h:bW->Int->Option g) (f i:Int->Option g) (e:bW) (d:Int):Option g:=cond (iq d (bG e)) (cond (gm e d) (cond (bT (bY e d) 32) (h e (bZ .i64 d 1))<|cond (gm e d) (cond (bT (bY e d) 9) (h e (bZ .i64 d 1))<|cond (gm e d) (cond (bT (bY e d) 92) (cond (iq (bZ .i64 d 1) (bG e)) (cond (gm e (bZ .i64 d 1)) (cond (bT (bY e (bZ .i64 d 1)) 10) (h e (bZ .i64 d 2))<|f d) a7)<|f d)<|f d) a7) a7) a7)<|f d
def FD:Nat->bW->Int->Option (PO.den⊕PT.den)
 |0,_,_=>a7
 |n+1,d,e=>P8 (FD n) (fun f=>a6 (.inl ((f,()),()))) (fun g=>a6 (.inr ((g,()),()))) d e
def aw3 (n:Nat) (v:Y7.den):=FD n v.1.1 v.1.2.1
noncomputable def aiO:dA:=fH YH Y7 PO PT (.exit 0) (aw3 bJ) 6
def ahW (d:bW) (e:Int):Option lW:=bF (FD bJ d e) fun f=>dL f (fun g=>a6 (g.1.1,())) (fun h=>a6 (h.1.1,()))
def aur:Sum:=⟨[.str,di],Vz,fun x=>ahW x.1 x.2.1⟩
noncomputable def aeY:Env:=iU prog tt 111 [] [(1,YH)] [(1,aiO)]
def akb {d:Type} (a:Y7.den->Option d) (b:PO.den->Option d) (c:PT.den->Option d) (v:Y7.den):Option d:=P8 (aL a) (aE b) (aE c) v.1.1 v.1.2.1
theorem axQ:dQ aeY 111 aoX aiO:=vS (akb) (h2:=by intros;simp only[akb,aL,aE,P8,cu,cO,bD,bV,cZ])
theorem aBY:dO aeY 111 aFS:=pI [aoX] (aD (fM (axQ)) aN)
theorem alL:eP aeY:=eA f111 aN (aBY)
theorem anz:dK prog 111 aur:=sA alL
noncomputable def b70:Code:=(f70.body).getD .skip
noncomputable def azi:Code:=cA (cA (cA (cB (cB (cB (b70))))))
def azI:eG:=⟨[3,100004],[],[3],[],[2],[]⟩
def ajI:SP:=⟨us [.u,.u,.u,bS] 29,[]⟩
def agu:SP:=⟨us [.u,.u,.u,bS] 29,[]⟩
def agO:SP:=⟨us eb 30,[]⟩
def ag9 {e:Type} (g f h:bW->Option e) (d:bW):Option e:=cond (iq 0 (bG d)) (cond (gm d (eF .i64 (bG d) 1)) (cond (bT (bY d (eF .i64 (bG d) 1)) 32) (cond (eU (bG d) 0 (eF .i64 (bG d) 1)) (g (sub d 0 (eF .i64 (bG d) 1))) a7)<|f d) a7)<|f d
def af2:Nat->bW->Option (agu.den⊕agO.den)
 |0,_=>a7
 |n+1,d=>ag9 (af2 n) (fun e=>a6 (.inl ((e,()),()))) (fun f=>a6 (.inr ((f,()),()))) d
def aCM (n:Nat) (v:ajI.den):=af2 n v.1.1
noncomputable def asD:dA:=fH azI ajI agu agO (.exit 0) (aCM bJ) 6
def Yr (d:Int):Option vC:=cond (iq d 1) (a6 ([],()))<|cond (iq 17 d) (a6 ([],()))<|cond (eU (bG [38,38,32,124,124,32,59,59,32,60,60,32,60,60,45,62,62,32,60,38,32,62,38,32,60,62,32,62,124,32,60,32,32,62,32,32,38,32,32,59,32,32,124,32,32,40,32,32,41,32,32]) (am6 .i64 3 (eF .i64 d 1)) (am6 .i64 3 d)) (bF (af2 bJ (sub [38,38,32,124,124,32,59,59,32,60,60,32,60,60,45,62,62,32,60,38,32,62,38,32,60,62,32,62,124,32,60,32,32,62,32,32,38,32,32,59,32,32,124,32,32,40,32,32,41,32,32] (am6 .i64 3 (eF .i64 d 1)) (am6 .i64 3 d))) fun e=>dL e (fun f=>a6 (f.1.1,())) (fun g=>a6 (g.1.1,()))) a7
def alf:Sum:=⟨[di],GX,fun x=>Yr x.1⟩
noncomputable def aqb:Env:=iU prog tt 70 [] [(4,azI)] [(4,asD)]
def atP {d:Type} (a:ajI.den->Option d) (b:agu.den->Option d) (c:agO.den->Option d) (v:ajI.den):Option d:=ag9 (aE a) (aE b) (aE c) v.1.1
theorem aDf:dQ aqb 70 azi asD:=vS (atP) (h2:=by intros;simp only[atP,aE,ag9,cu,cO,bD,bV,cZ])
theorem aHi:dO aqb 70 b70:=pI [azi] (aD (fM (aDf)) aN)
theorem aqc:eP aqb:=eA f70 aN (aHi)
theorem UD:dK prog 70 alf:=sA aqc
noncomputable def aFT:Code:=(f112.body).getD .skip
noncomputable def aoY:Code:=cA (cA (cB (cA (cB (cB (aFT))))))
def Y8:SP:=⟨us [bS,bR,.u,.u,.u,bR,bR] 35,[]⟩
def ZM:SP:=⟨us [.u,.u,.u,.u,.u,bR] 36,[]⟩
def aat:SP:=⟨us cS 37,[]⟩
def P9 {j:Type} (i:bW->Int->Int->Int->Option j) (l o:Int->Option j) (e:bW) (d g f:Int):Option j:=cond (leI f 17) (bF (Yr f) fun h=>cond (leI (bG h.1) (eF .i64 (bG e) d)) (cond (eU (bG e) d (bZ .i64 d (bG h.1))) (cond (gI (sub e d (bZ .i64 d (bG h.1))) h.1) (bF (Yr g) fun m=>cond (iq (bG m.1) (bG h.1)) (i e d f (bZ .i64 f 1))<|i e d g (bZ .i64 f 1))<|i e d g (bZ .i64 f 1)) a7)<|i e d g (bZ .i64 f 1))<|l g
def FH:Nat->bW->Int->Int->Int->Option (ZM.den⊕aat.den)
 |0,_,_,_,_=>a7
 |n+1,d,e,f,g=>P9 (FH n) (fun h=>a6 (.inl ((h,()),()))) (fun i=>a6 (.inr ((i,()),()))) d e f g
def aw4 (n:Nat) (v:Y8.den):=aR (FH n) v
noncomputable def aiP:dA:=fH YI Y8 ZM aat (.exit 0) (aw4 bJ) 6
def acv (d:bW) (e:Int):Option lW:=bF (FH bJ d e 0 1) fun f=>dL f (fun g=>a6 (g.1.1,())) (fun h=>a6 (h.1.1,()))
def aus:Sum:=⟨[.str,di],Vz,fun x=>acv x.1 x.2.1⟩
noncomputable def aeZ:Env:=iU prog tt 112 [(70,alf)] [(3,YI)] [(3,aiP)]
def akc {d:Type} (a:Y8.den->Option d) (b:ZM.den->Option d) (c:aat.den->Option d) (v:Y8.den):Option d:=aR (P9 (aM a) (aE b) (aE c)) v
theorem axR:dQ aeZ 112 aoY aiP:=vS (akc) (h2:=by intros;simp only[akc,aM,aE,aR,P9,cu,cO,bD,bV,cZ])
theorem aBZ:dO aeZ 112 aFT:=pI [aoY] (aD (fM (axR)) aN)
theorem alM:eP aeZ:=eA f112 (aD UD aN) (aBZ)
theorem anA:dK prog 112 aus:=sA alM
def RI (e:bW):Option uO:=bF (ah2 e) fun d=>cond (gI d.1.1 [84]) (a6 (true,()))<|some ((gI d.1.1 [84,76]),())
def auv:Sum:=⟨[.str],O7,fun x=>RI x.1⟩
theorem anD:dK prog 116 auv:=qA f116 [] (sE anQ aN)
end
section
open Option renaming some → a6, none → a7
open Bool renaming false_eq_true → ah, not_true → ay, not_eq_true → bg
open List renaming length_append → ai, drop_eq_getElem_cons → aF, length_map → aI, getElem_mem → aJ, drop_of_length_le → aK, length_drop → aQ
open Nat renaming le_refl → ae, lt_or_ge → az
open Go.RowKit
def qP (b:Int):Bool:=decide (b=32)||decide (b=9)
def He (b:Int):Bool:=decide (b=124)||decide (b=38)||decide (b=59)||decide (b=60)||decide (b=62)||decide (b=40)||decide (b=41)
theorem aC0: ∀n:Fin 256,(match JF ((n.val:Nat):Int)with|some (k,_)=>(bT k 1==qP ((n.val:Nat):Int))&&(bT k 3==He ((n.val:Nat):Int))|none=>false)=true:=by decide+kernel
theorem aCZ {b:Int} (h:isByte b): ∃k,JF b=a6 (k,())/\bT k 1=qP b/\bT k 3=He b:=by
 obtain⟨n,rfl⟩:=Q3 h;have:=aC0 n
 grind
def LJ:List bW:=[[38,38],[124,124],[59,59],[60,60],[60,60,45],[62,62],[60,38],[62,38],[60,62],[62,124],[60],[62],[38],[59],[124],[40],[41]]
def ofF (u:bW):Nat:=match LJ.findIdx? (· ==u)with
 |some j=>j+1
 |none=>0
theorem avt: ∀n:Fin 18,n.val≠0->awu ((n.val:Nat):Int)=a6 (LJ.getD (n.val-1) [],()):=by decide+kernel
theorem Yd {d:Type} (p:d->Bool) (l:List d) {k:Nat} (h:k<l.length):(l.drop k).findIdx? p=if p l[k]=true then a6 0 else((l.drop (k+1)).findIdx? p).map (· +1):=by
 grind [aF]
theorem WI (u:bW): ∀(d N k:Nat),k+d=17->d<N->
  IB N u ((k+1:Nat):Int)=a6 (match(LJ.drop k).findIdx? (· ==u)with
   |some j=>.inr ((((k+j+1:Nat):Int),()),())
   |none=>.inl ((),()))
 |d,0,k,_,h=>by omega
 |0,N+1,k,h,_=>by
  have hk:k=17:=by omega
  subst hk;rfl
 |d+1,N+1,k,h,i=>by
  have hk:k<LJ.length:=by show k<17;omega
  have f:=avt ⟨k+1,by omega⟩ (by simp);simp only[Nat.add_sub_cancel]at f;rw[IB,Uo,bU (nK),f,bD,Yd _ _ hk];have g:LJ.getD k []=LJ[k]:=by simp_all
  simp only[g,gI];by_cases e:(LJ[k]==u)=true
  .rw[e];simp
  .rw[bg]at e;rw[e,dh,show((k+1:Nat):Int)+1=((k+1+1:Nat):Int) by omega];simp only[ac];rw[WI u d N (k+1) (by omega) (by omega)]
   grind
theorem aCY (u:bW) (h:ofF u≠0):u∈LJ:=by
 unfold ofF at h
 grind
theorem asU (u:bW):acN u=a6 (((ofF u:Nat):Int),()):=by
 rw[acN];by_cases e:u=[]
 .subst e;rfl
 .rw[dG (by grind [gI])];have h:=WI u 17 bJ 0 rfl (dH)
  grind [bD,ofF,dL]
def O8 (t:bW):Nat->Nat×Nat
 |0=>(0,0)
 |n+1=>if ofF (t.take (n+1))≠0 then(ofF (t.take (n+1)),n+1)else O8 t n
theorem Bo (s:bW) (a n:Nat):sub s (a:Int) ((a+n:Nat):Int)=(s.drop a).take n:=by
 grind [sub,List.drop_take]
theorem ab1 (s:bW) (d:s.length<1000000) (a:Nat): ∀(n N:Nat),n<N->a+n<=s.length->
  J4 N s (a:Int) 0 (n:Int)=a6 (.inl (((((O8 (s.drop a) n).1:Nat):Int),(((O8 (s.drop a) n).2:Nat):Int),()),()))
 |n,0,h,_=>by omega
 |0,N+1,_,_=>by
  rfl
 |n+1,N+1,h,f=>by
  rw[J4,Qk,bU (eQ),dh,show(a:Int)+((n+1:Nat):Int)=((a+(n+1):Nat):Int) by omega,
   bU (fV (by omega) (by omega) (by rw[bI];omega)),Bo,asU,bD,O8]
  by_cases e:ofF ((s.drop a).take (n+1))=0
  .rw[e];simp only[show(!bT ((0:Nat):Int) 0)=false from rfl,ac,ne_eq,not_true_eq_false,if_false];rw[iy,show((n+1:Nat):Int)-1=(n:Int) by omega];exact ab1 s d a n N (by omega) (by omega)
  simp_all [dR]
def Ci (t:bW):Nat×Nat:=O8 t (min 3 t.length)
theorem ayq {c:UInt8} {t:List UInt8} (h:c::t∈LJ):He (c.toNat:Int)=true:=by
 have: ∀u∈LJ,(match u with|c::_=>He (c.toNat:Int)|[]=>true)=true:=by decide
 exact this _ h
theorem ahx {c:UInt8} {t:List UInt8} (h:He (c.toNat:Int)=false): ∀n,O8 (c::t) n=(0,0)
 |0=>rfl
 |n+1=>by
  rw[O8,aq,ahx h n]
  grind [ayq,aCY]
theorem aIJ {s:List UInt8} (e:s.length<1000000) {a:Nat} (d:a<s.length):aia s a=a6 ((((Ci (s.drop a)).1:Nat):Int),((((Ci (s.drop a)).2:Nat):Int),())):=by
 rw[aia,dG (kW),dG (D9 (by rw[bI];omega)),bU (dU)];obtain⟨k,f,_,g⟩:=aCZ (lS s a);rw[f,bD];simp only[g];have hd:=aF d;rw[byte_at d];cases hm:He (s[a].toNat:Int)with
 |false=>
  grind [Ci,ahx]
 |true=>
  simp only[ay,ac];have h:IC 3 (eF .i64 (bG s) (a:Int))=((min 3 (s.drop a).length:Nat):Int):=by
   grind [bI,iy,IC]
  rw[h,ab1 s e a _ bJ (dH) (by grind),bD];rfl
theorem Px (t:bW):(Ci t).2<=t.length/\((Ci t).2=0↔(Ci t).1=0)/\(Ci t).1<=17:=by
 have h: ∀n,(O8 t n).2<=n/\((O8 t n).2=0↔(O8 t n).1=0)/\(O8 t n).1<=17:=by
  intro n
  induction n with
  |zero=>exact⟨ae _,Iff.rfl,by simp[O8]⟩
  |succ n f=>
   rw[O8];split
   .rename_i e
    refine⟨ae _,⟨fun h=>absurd h (by simp),fun h=>absurd h e⟩, ?_⟩;unfold ofF;split
    .rename_i j d
     have:=(List.findIdx?_eq_some_iff_getElem.1 d).1
     assumption
    omega
   omega
 grind [Ci]
theorem arh (c:UInt8): ∀l:bW,Lib.indexByte l c=if(l.takeWhile (· !=c)).length<l.length then(((l.takeWhile (· !=c)).length:Nat):Int)else-1
 |[]=>rfl
 |b::l=>by
  unfold Lib.indexByte;rw[arh c l];by_cases e:b=c
  .subst e;simp
  .have d:(b==c)=false:=by simpa using e
   have f:(b !=c)=true:=by simpa using e
   have g:(b::l).takeWhile (fun x=>x !=c)=b::l.takeWhile (fun x=>x !=c):=by simp_all
   grind
def iV (s:bW) (a:Nat):Nat:=a+((s.drop a).takeWhile (· !=10)).length
theorem xE (s:bW) (a:Nat):a<=iV s a:=Nat.le_add_right _ _
theorem AP {s:List UInt8} {a:Nat} (h:a<=s.length):iV s a<=s.length:=by
 grind [LH,iV]
theorem ar8 {s:List UInt8} (g:s.length<1000000) {a:Nat} (d:a<=s.length):acF s a=a6 (((iV s a:Nat):Int),(decide (iV s a<s.length),())):=by
 have i:=AP d;have j:=xE s a;rw[acF,bU (fV (by omega) (by rw[bI];omega) (by omega)),acI,aii,bD,bD];have e:sub s (a:Int) (bG s)=s.drop a:=by simp[sub,bI]
 have f:ibW (sub s (a:Int) (bG s)) 10=if iV s a<s.length then((iV s a-a:Nat):Int)else-1:=by
  rw[e];unfold ibW;rw[show(10:Int).toNat.toUInt8=10 from rfl,arh,aQ];unfold iV at*;omega
 rw[f];by_cases h:iV s a<s.length
 .rw[am h,bU (nK),dh,decide_eq_true h];congr 2;omega
 .rw[aq h,dG (D9),decide_eq_false h,bI];congr 2;omega
def xf:bW->Nat
 |[]=>0
 |[c]=>if qP (c.toNat:Int)=true then 1 else 0
 |c::d::t=>if qP (c.toNat:Int)=true then xf (d::t)+1 else if c=92/\d=10 then xf t+2 else 0
theorem XL: ∀t:bW,xf t<=t.length
 |[]=>ae _
 |[c]=>by grind [xf]
 |c::d::t=>by
  have e:=XL (d::t);have f:=XL t
  grind [xf]
def Aj (t:bW):Bool:=match t with
 |c::d::_=>decide (c=92)&&decide (d=10)
 |_=>false
theorem aBF (t:bW):aie t [92,10]=a6 (Aj t,()):=by
 rw[aie,aq1];cases t with
 |nil=>rfl
 |cons c t=>
  cases t with
  |nil=>rfl
  |cons d t=>
   have e:leI (bG [(92:UInt8),10]) (bG (c::d::t))=true:=nK (by grind [bI]);have f:eU (bG (c::d::t)) 0 (bG [(92:UInt8),10])=true:=fV (by omega) (by rw[bI];simp) (by grind [bI]);simp_all [sub,bI,bD,Aj,gI,Bool.beq_eq_decide_eq]
theorem apD {s:List UInt8} {a:Nat} (d:a<=s.length):acD s a=a6 (Aj (s.drop a),()):=by
 rw[acD,bU (fV (by omega) (by rw[bI];omega) (by omega)),show sub s (a:Int) (bG s)=s.drop a by simp[sub,bI],aBF,bD]
theorem Jh {c:UInt8} {t:List UInt8}:xf (c::t)=if qP (c.toNat:Int)=true then xf t+1 else if Aj (c::t)=true then xf (t.drop 1)+2 else 0:=by
 cases t with
 |nil=>rfl
 |cons d t=>rw[xf];simp[Aj]
theorem Ih {s:List UInt8} (d:s.length<1000000): ∀(N a:Nat),s.length-a<N->a<=s.length->
  ∃o,J5 N s (a:Int)=a6 o/\dL o (fun f=>a6 (f.1.1,())) (fun g=>a6 (g.1.1,()))=a6 ((((a+xf (s.drop a):Nat):Int)),())
 |0,a,h,_=>by omega
 |N+1,a,h,q=>by
  rw[J5,Ql];by_cases e:a<s.length
  .obtain⟨k,i,j,_⟩:=aCZ (lS s a);have hd:=aF e;rw[bU (eQ (by rw[bI];omega)),bU (dU),i,bD];simp only[j];rw[byte_at e,hd,Jh];by_cases hb:qP (s[a].toNat:Int)=true
   .rw[hb,aa,am rfl,dh,show(a:Int)+1=((a+1:Nat):Int) by omega];obtain⟨o,l,m⟩:=Ih d N (a+1) (by omega) (by omega)
    grind
   .rw[bg]at hb;rw[hb,ac,aq (by simp),apD (by omega),bD,hd];cases hc:Aj (s[a]::s.drop (a+1))with
    |true=>
     have u:a+2<=s.length:=by
      rw[<-hd]at hc;rcases az s.length (a+2)with hl|hl
      .have:(s.drop a).length=1:=by grind
       obtain⟨x,p⟩:=List.length_eq_one_iff.1 this;rw[p]at hc;cases hc
      .exact hl
     simp only[aa,if_true];rw[dh,show(a:Int)+2=((a+2:Nat):Int) by omega,List.drop_drop,show a+1+1=a+2 from rfl];obtain⟨o,l,m⟩:=Ih d N (a+2) (by omega) (by omega)
     grind
    |false=>
     simp only[ac,ah,if_false,Nat.add_zero];exact⟨_,rfl,rfl⟩
  .rw[dG (gK (by rw[bI];omega)),aK (by omega)];exact⟨_,rfl,rfl⟩
theorem avR {s:List UInt8} (d:s.length<1000000) {a:Nat} (e:a<=s.length):acE s a=a6 ((((a+xf (s.drop a):Nat):Int)),()):=by
 rw[acE];obtain⟨o,f,g⟩:=Ih d bJ a (dH) e
 grind [bD]
def Cf (t:bW):Nat:=if kY t≠0/\(t.drop (kY t)).head?=a6 60\/kY t≠0/\(t.drop (kY t)).head?=a6 62 then kY t else 0
theorem P5 (t:bW):kY t<=t.length:=LH _ _
theorem asQ {s:List UInt8} (g:s.length<1000000) {a:Nat} (d:a<=s.length):acG s a=a6 ((((a+Cf (s.drop a):Nat):Int)),()):=by
 have e:=P5 (s.drop a);rw[aQ]at e;rw[acG,abV (s:=s) (by omega) d,bD];simp only;rw[dh,show(a:Int)+((kY (s.drop a):Nat):Int)=((a+kY (s.drop a):Nat):Int) by omega];unfold Cf;by_cases h0:kY (s.drop a)=0
 .simp_all [kW]
 .rw[bU (eQ)];by_cases h1:a+kY (s.drop a)<s.length
  .have hd:((s.drop a).drop (kY (s.drop a))).head?=a6 s[a+kY (s.drop a)]:=by
    simp
   rw[bU (eQ (by rw[bI];omega)),bU (dU),byte_at h1,hd];by_cases e1:s[a+kY (s.drop a)]=60
   .rw[e1,am (.inl ⟨h0,rfl⟩)];rfl
   .have f:((s[a+kY (s.drop a)].toNat:Nat):Int)≠60:=fun h=>e1 (UInt8.toNat_inj.1 (by grind));rw[dG (dR f),bU (dU)];by_cases e2:s[a+kY (s.drop a)]=62
    .rw[e2,am (.inr ⟨h0,rfl⟩)];rfl
    .have i:((s[a+kY (s.drop a)].toNat:Nat):Int)≠62:=fun h=>e2 (UInt8.toNat_inj.1 (by grind));simp_all [dR]
  .have hd:((s.drop a).drop (kY (s.drop a))).head?=a7:=by
    simp_all
   rw[dG (kW (by rw[bI];omega)),hd,aq (by simp)];simp
theorem aeW: ∀n:Fin 15,(match aig ((n.val:Nat):Int)with|some (t,_)=>(t==([]:bW))==(decide (n.val=0)||decide (n.val=12))&&decide (t.length<=2)|none=>false)=true:=by decide+kernel
theorem apC {m:Int} (d:0<=m) (e:m<=14): ∃t,aig m=a6 (t,())/\(t=[]↔m=0\/m=12)/\t.length<=2:=by
 have:=aeW ⟨m.toNat,by omega⟩
 grind
def KX (s:fQ):Bool:=s.all fun f=>decide (f.1=0)||decide (f.1=12)
theorem Jj (F:List GY) (hF:F.length<1000000) (d: ∀f∈F,0<=f.1/\f.1<=14): ∀(N k:Nat) (a b:bW) (t:List Int),k<N->k<=F.length->t.length<=2*(F.length-k)->
  ∃t',qG N ((k:Int)-1) a b F t=a6 (.inl ((),((a,()),(),(),()),((b,()),(F,()),(),t',())))/\(t'=[]↔t=[]/\ ∀f∈F.take k,f.1=0\/f.1=12)
 |0,k,a,b,t,h,_,_=>by omega
 |N+1,0,a,b,t,h,_,_=>by
  rw[qG,uK];refine⟨t,rfl, ?_⟩;simp
 |N+1,k+1,a,b,t,h,hk,p=>by
  rw[qG,uK];have e:k<F.length:=by omega
  have i:eX F (0,(0,())) (k:Int)=F[k]:=by
   simp_all [eX]
  have g:=d F[k] (aJ e);obtain⟨c,j,q,s⟩:=apC g.1 g.2;have l:dV (bM t (dn c)) 1=true:=by
   simp only[dV,bM,dn,ai,aI,decide_eq_true_eq,jO];omega
  rw[show((k+1:Nat):Int)-1=(k:Int) by omega,bU (nK),bU (dU),i,j,bD];simp only[l,eH,aa];rw[iy];obtain⟨t',m,o⟩:=Jj F hF d N k a b (bM t (dn c)) (by omega) (by omega) (by grind [bM,dn]);refine⟨t',m, ?_⟩;rw[o,List.take_add_one,List.getElem?_eq_getElem e];have:bM t (dn c)=[]↔t=[]/\(F[k].1=0\/F[k].1=12):=by
   simp_all [bM,dn]
  rw[this];simp only[Option.toList_some,List.mem_append,List.mem_singleton]
  grind
theorem alp (w:bW) (m:w.length<=100000): ∃t,aib w=a6 (t,())/\(!gI t [])= !KX (mY w 0 fG).1:=by
 have j:=D5 w 0 fG kC;have q:fG.1.length=1:=rfl;have s:=Ir j.1;rw[aib,aFQ w m,bD];obtain⟨l,o,d⟩:=Jj (lo (mY w 0 fG).1) (by rw[oW];omega) (fun f i=>by
  unfold lo at i
  grind) bJ (lo (mY w 0 fG).1).length [] [] [] (dH (by rw[oW];omega)) (ae _) (by simp)
 simp only;rw[bI,iy (by rw[oW];omega) (by rw[oW];omega),o,bD];refine⟨_,rfl, ?_⟩;congr 1;simp only;rw[List.take_length]at d;have p:(∀f∈lo (mY w 0 fG).1,f.1=0\/f.1=12)↔KX (mY w 0 fG).1=true:=by
  unfold KX lo;simp only[List.mem_reverse,List.mem_map,List.all_eq_true,Bool.or_eq_true,decide_eq_true_eq];exact⟨fun h f i=>h _ ⟨f,i,rfl⟩,fun h f ⟨g,j,e⟩=>by grind⟩
 rw[p]at d;unfold gI;cases hs:KX (mY w 0 fG).1 with
 |true=>rw[d.2 ⟨rfl,hs⟩];rfl
 |false=>
  have:l≠[]:=fun e=>by simp_all
  cases l with
  |nil=>simp_all
  |cons x y=>rfl
def xF (s:bW) (d:Bool) (a:Nat):bW:=if d=true then((s.take (iV s a)).drop a).dropWhile (· ==9)else(s.take (iV s a)).drop a
def oh (s:bW) (a:Nat):Nat:=if iV s a<s.length then iV s a+1 else iV s a
def pG (s w:bW) (d:Bool):Nat->Nat->Nat×Bool
 |0,a=>(a,false)
 |n+1,a=>if a<s.length then(if xF s d a=w then(oh s a,true)else pG s w d n (oh s a))else(a,false)
theorem adD {s:List UInt8} {a:Nat} (h:a<s.length):a<oh s a/\oh s a<=s.length:=by
 grind [xE,AP,oh]
theorem UO: ∀(l:bW) (N:Nat),l.length<N->J7 N l 9=a6 (.inl ((l.dropWhile (· ==9),()),()))
 |l,0,h=>by omega
 |[],N+1,_=>by rfl
 |c::l,N+1,h=>by
  rw[J7,Qw,bU (eQ (by simp_all [bI])),bU (dU (by omega) (by simp)),show bY (c::l) 0=(c.toNat:Int) from rfl];by_cases e:c=9
  .subst e;rw[show bT (((9:UInt8).toNat:Nat):Int) 9=true from rfl,aa,bU (fV (by omega) (by grind [bI]) (by omega))];rw[show sub ((9:UInt8)::l) 1 (bG ((9:UInt8)::l))=l by simp[sub,bI],UO l N (by simp at h;omega)];simp
  .rw[dG (dR (fun h=>e (UInt8.toNat_inj.1 (by grind)))),List.dropWhile_cons_of_neg (by simpa using e)]
theorem ayX (l:bW) (hl:l.length<1000000):aim l 9=a6 (l.dropWhile (· ==9),()):=by
 rw[aim,UO l bJ (dH),bD];rfl
theorem We {s w:List UInt8} (f:s.length<1000000) (d:Bool): ∀(N a:Nat),s.length-a<N->a<=s.length->
  BZ N s (a:Int) w d=a6 (if(pG s w d N a).2=true then .inr (((((pG s w d N a).1:Nat):Int),true,()),())else .inl (((((pG s w d N a).1:Nat):Int),()),()))
 |0,a,h,_=>by omega
 |N+1,a,h,o=>by
  (rewrite [BZ,Qj];delta Bi;rw[pG])
  by_cases e:a<s.length
  .have p:=xE s a;have q:=AP (s:=s) (a:=a) (by omega);have u:=adD e;have v:=We (w:=w) f d N (oh s a) (by omega) (by omega);have i:sub s (a:Int) ((iV s a:Nat):Int)=(s.take (iV s a)).drop a:=by simp[sub]
   have g: ∀(x:bW),x=xF s d a->
     (bif decide (iV s a<s.length)then
      bif gI x w then(a6 (.inr ((bZ .i64 ((iV s a:Nat):Int) 1,true,()),())):Option (PQ.den⊕PV.den))
      else BZ N s (bZ .i64 ((iV s a:Nat):Int) 1) w d
     else bif gI x w then a6 (.inr ((((iV s a:Nat):Int),true,()),()))
      else BZ N s ((iV s a:Nat):Int) w d)=
     a6 (if(if xF s d a=w then(oh s a,true)else pG s w d N (oh s a)).2=true
      then .inr (((((if xF s d a=w then(oh s a,true)else pG s w d N (oh s a)).1:Nat):Int),true,()),())
      else .inl (((((if xF s d a=w then(oh s a,true)else pG s w d N (oh s a)).1:Nat):Int),()),())):=by
    intro x j;subst j;have l:gI (xF s d a) w=decide (xF s d a=w):=by
     grind [gI]
    rw[l];by_cases hl:iV s a<s.length
    .have m:oh s a=iV s a+1:=by simp_all [oh]
     rw[decide_eq_true hl,aa,dh,show((iV s a:Nat):Int)+1=((oh s a:Nat):Int) by omega]
     grind
    .have m:oh s a=iV s a:=by simp_all [oh]
     grind
   rw[bU (eQ (by rw[bI];omega)),ar8 f (by omega),bD,am e];simp only;rw[bU (fV (by omega) (by omega) (by rw[bI];omega)),i];cases d with
   |false=>simp_all [xF]
   |true=>
    simp only[aa];by_cases e0:(s.take (iV s a)).drop a=[]
    .rw[e0,show gI ([]:bW) []=true from rfl,aa];exact g _ (by rw[xF,am rfl,e0];rfl)
    .rw[dG (by simp_all [gI])];refine(dG (by rfl)).trans ?_;refine(bU (by rfl)).trans ?_;refine(bU (by rfl)).trans ?_;refine(bU (by rfl)).trans ?_;refine(bU (by rfl)).trans ?_;rw[show bY [9] 0=9 from rfl];rw[ayX _ (by grind),bD];exact g _ (by rfl)
  simp_all [gK,bI,aq]
def Dp (s w:bW) (d:Bool) (a:Nat):Nat×Bool:=pG s w d bJ a
theorem aBG {s:List UInt8} (e:s.length<1000000) (d:bW×Bool×Unit) {a:Nat} (f:a<=s.length):ah9 s a d=a6 ((((Dp s d.1 d.2.1 a).1:Nat):Int),((Dp s d.1 d.2.1 a).2,())):=by
 rw[ah9,We e d.2.1 bJ a (dH) f,bD];unfold Dp;cases h:(pG s d.1 d.2.1 bJ a).2 with
 |true=>simp[dL]
 |false=>simp[dL]
end
end Go.Proofs.YtkichehglnecnaaGreatDoor
