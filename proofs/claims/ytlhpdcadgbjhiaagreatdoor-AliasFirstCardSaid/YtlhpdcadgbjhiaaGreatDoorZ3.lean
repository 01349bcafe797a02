/- Parts of the proof, joined and shortened by a program: the plain machine, the functions as it prints them, and the mathematics over them. -/
import Derived.Test.YtlhpdcadgbjhiaaGreatDoorProg
import Derived.KernelRfl
import Derived.Below
import Derived.WalkKit
import Derived.Lib.Walk
import Derived.Lib.SliceRun
import Derived.Lib.AppendZerosOnto
import Derived.Lib.Overlaps
import Derived.Laws.CopyRow
import Derived.Laws.NewBlocks
import Derived.Shelf.RegionOpenPlain
import Derived.Shelf.SlLaysF0
import Derived.Shelf.SlSortCmp.WholeK
import Derived.Sort.LotA
import Derived.ChangeArms
import Derived.WideShapes
import Derived.Shelf.Strings.Builder1
import Derived.Ground.NamesProg
import Derived.Shelf.Strings.Replace
import Derived.Test.YtlhpdcadgbjhiaaGreatDoorZ2
set_option linter.unusedVariables false
set_option linter.unusedSimpArgs false
set_option maxRecDepth 100000
set_option maxHeartbeats 4000000
namespace Go.Proofs.YtlhpdcadgbjhiaaGreatDoor
section
open Option renaming some → a6, none → a7
open Bool renaming and_eq_true → af, false_eq_true → ag
open List renaming mem_cons_of_mem → ak, mem_cons_self → aB
open Nat renaming eq_of_beq_eq_true → ah
open Go.RowKit
inductive FK where
 |u
 |v (t:Ty)
 |slc (id:Nat)
 |ptr (id off:Nat)
 |nils
 |slf (id:Nat)
 |yld (id:Nat)
 |nilp
 |e
 |fn (f:FuncId) (caps:List (Nat×Nat))
 |cp (t:Ty)
 |mpv (id:Nat)
 |mfn (f:FuncId) (fst:List (Nat×Nat))
 |kb (b:Bool)
def us (l:List FK) (n:Nat):List FK:=l++List.replicate n .u
def FKs.den:List FK->Ty
 |[]=>.unit
 |.v t::l=>.pair t (FKs.den l)
 |.u::l=>FKs.den l
 |.slc _::l=>FKs.den l
 |.ptr _ _::l=>FKs.den l
 |.nils::l=>FKs.den l
 |.slf _::l=>FKs.den l
 |.mpv _::l=>FKs.den l
 |.mfn _ _::l=>FKs.den l
 |.kb _::l=>FKs.den l
 |.yld _::l=>FKs.den l
 |.nilp::l=>FKs.den l
 |.e::l=>FKs.den l
 |.fn _ _::l=>FKs.den l
 |.cp t::l=>.pair t (FKs.den l)
def Ns:List (Nat×Nat)->List bU
 |[]=>[]
 |(i,o)::l=>.ptr i o::Ns l
def Vq:(l:List FK)->(FKs.den l).den->List bU
 |[],_=>[]
 |.v t::l,y=>.val t y.1::Vq l y.2
 |.u::l,y=>.undef::Vq l y
 |.slc id::l,y=>.slc id 0 a7::Vq l y
 |.ptr id d::l,y=>.ptr id d::Vq l y
 |.nils::l,y=>.nils::Vq l y
 |.slf id::l,y=>.slf id::Vq l y
 |.mpv id::l,y=>.mpv id::Vq l y
 |.mfn f c::l,y=>.mfn f (Ns c)::Vq l y
 |.kb b::l,y=>.val .bool b::Vq l y
 |.yld id::l,y=>.yld id::Vq l y
 |.nilp::l,y=>.nilp::Vq l y
 |.e::l,y=>.tup []::Vq l y
 |.fn f g::l,y=>.fn f (Ns g)::Vq l y
 |.cp t::l,y=>.cellp t y.1::Vq l y.2
def amW (t:Ty):bU->Option t.den
 |.val t' x=>jE t x
 |_=>a7
def ayI (t:Ty):bU->Option t.den
 |.cellp t' x=>jE t x
 |_=>a7
def azs (b:Bool):bU->Bool
 |.val .bool c=>bif b then c else !c
 |_=>false
def isU:bU->Bool
 |.undef=>true
 |_=>false
def isNils:bU->Bool
 |.nils=>true
 |_=>false
def Y6:bU->Bool
 |.nilp=>true
 |_=>false
def isE:bU->Bool
 |.tup l=>l.isEmpty
 |_=>false
def ajU (id:Nat):bU->Bool
 |.slf i=>Nat.beq i id
 |_=>false
def ajT (id:Nat):bU->Bool
 |.mpv i=>Nat.beq i id
 |_=>false
def ajV (id:Nat):bU->Bool
 |.yld i=>Nat.beq i id
 |_=>false
def ad5 (id:Nat):bU->Bool
 |.slc i v w=>Nat.beq i id&&(Nat.beq v 0&&(match w with|none=>true|some _=>false))
 |_=>false
def isPtr (id off:Nat):bU->Bool
 |.ptr i o=>Nat.beq i id&&Nat.beq o off
 |_=>false
def Iw:List (Nat×Nat)->List bU->Bool
 |[],[]=>true
 |(i,o)::c,v::l=>isPtr i o v&&Iw c l
 |_,_=>false
def atJ (f:FuncId) (c:List (Nat×Nat)):bU->Bool
 |.fn g l=>Nat.beq g f&&Iw c l
 |_=>false
def ad2 (f:FuncId) (c:List (Nat×Nat)):bU->Bool
 |.mfn g l=>Nat.beq g f&&Iw c l
 |_=>false
theorem aiM {t:Ty} {v:bU} {x:t.den} (h:amW t v=a6 x):v=.val t x:=by
 cases v with
 |val t' z=>
  grind [amW,iq,gp]
 |_=>simp[amW]at h
theorem anb {t:Ty} {v:bU} {x:t.den} (h:ayI t v=a6 x):v=.cellp t x:=by
 cases v with
 |cellp t' z=>
  grind [ayI,iq,gp]
 |_=>simp[ayI]at h
theorem atK {v:bU} (h:isU v=true):v=.undef:=by grind [isU]
theorem ad4 {v:bU} (h:isNils v=true):v=.nils:=by grind [isNils]
theorem D5: ∀{c:List (Nat×Nat)} {l:List bU},Iw c l=true->l=Ns c
 |[],[],_=>rfl
 |(i,o)::c,v::l,h=>by
  simp only[Iw,af]at h;have d:v=.ptr i o:=by
   have:=h.1;cases v<;>simp only[isPtr,ag]at this;simp_all
  rw[d,D5 h.2];rfl
 |[],_::_,h=>by simp[Iw]at h
 |_::_,[],h=>by simp[Iw]at h
theorem aov {f:FuncId} {c:List (Nat×Nat)} {v:bU} (h:atJ f c v=true):v=.fn f (Ns c):=by
 cases v with
 |fn g l=>
  simp only[atJ,af]at h;rw[ah h.1,D5 h.2]
 |_=>simp[atJ]at h
theorem aow {b:Bool} {v:bU} (h:azs b v=true):v=.val .bool b:=by
 unfold azs at h;split at h
 .rename_i c
  cases b<;>cases c<;>first|rfl|exact absurd h (by decide)
 .exact absurd h (by decide)
theorem ahb {f:FuncId} {c:List (Nat×Nat)} {v:bU} (h:ad2 f c v=true):v=.mfn f (Ns c):=by
 cases v with
 |mfn g l=>
  simp only[ad2,af]at h;rw[ah h.1,D5 h.2]
 |_=>simp[ad2]at h
theorem ad3 {v:bU} (h:Y6 v=true):v=.nilp:=by grind [Y6]
theorem atI {v:bU} (h:isE v=true):v=.tup []:=by
 cases v with
 |tup l=>simp_all [isE]
 |_=>simp[isE]at h
theorem ahf {id:Nat} {v:bU} (h:ajU id v=true):v=.slf id:=by
 cases v with
 |slf i=>rw[ah h]
 |_=>simp[ajU]at h
theorem ahc {id:Nat} {v:bU} (h:ajT id v=true):v=.mpv id:=by
 cases v with
 |mpv i=>rw[ah h]
 |_=>simp[ajT]at h
theorem ahg {id:Nat} {v:bU} (h:ajV id v=true):v=.yld id:=by
 cases v with
 |yld i=>rw[ah h]
 |_=>simp[ajV]at h
theorem ahd {id:Nat} {v:bU} (h:ad5 id v=true):v=.slc id 0 a7:=by
 cases v with
 |slc i k w=>
  simp only[ad5,af]at h;obtain rfl:i=id:=ah h.1;obtain rfl:k=0:=ah h.2.1
  grind
 |_=>simp[ad5]at h
theorem ahe {id off:Nat} {v:bU} (h:isPtr id off v=true):v=.ptr id off:=by
 cases v with
 |ptr i o=>
  simp_all [isPtr]
 |_=>simp[isPtr]at h
def kJ:(l:List FK)->List bU->Option (FKs.den l).den
 |[],d=>match d with
  |[]=>a6 ()
  |_=>a7
 |.v t::l,d=>match d with
  |v::d=>match amW t v,kJ l d with
   |some x,a6 y=>a6 (x,y)
   |_,_=>a7
  |[]=>a7
 |.u::l,d=>match d with
  |v::d=>bif isU v then kJ l d else a7
  |[]=>a7
 |.slc id::l,d=>match d with
  |v::d=>bif ad5 id v then kJ l d else a7
  |[]=>a7
 |.ptr id g::l,d=>match d with
  |v::d=>bif isPtr id g v then kJ l d else a7
  |[]=>a7
 |.nils::l,d=>match d with
  |v::d=>bif isNils v then kJ l d else a7
  |[]=>a7
 |.nilp::l,d=>match d with
  |v::d=>bif Y6 v then kJ l d else a7
  |[]=>a7
 |.e::l,d=>match d with
  |v::d=>bif isE v then kJ l d else a7
  |[]=>a7
 |.fn f c::l,d=>match d with
  |v::d=>bif atJ f c v then kJ l d else a7
  |[]=>a7
 |.mfn f c::l,d=>match d with
  |v::d=>bif ad2 f c v then kJ l d else a7
  |[]=>a7
 |.kb b::l,d=>match d with
  |v::d=>bif azs b v then kJ l d else a7
  |[]=>a7
 |.slf id::l,d=>match d with
  |v::d=>bif ajU id v then kJ l d else a7
  |[]=>a7
 |.mpv id::l,d=>match d with
  |v::d=>bif ajT id v then kJ l d else a7
  |[]=>a7
 |.yld id::l,d=>match d with
  |v::d=>bif ajV id v then kJ l d else a7
  |[]=>a7
 |.cp t::l,d=>match d with
  |v::d=>match ayI t v,kJ l d with
   |some x,a6 y=>a6 (x,y)
   |_,_=>a7
  |[]=>a7
theorem iT: ∀(l:List FK) (fr:List bU) (y:(FKs.den l).den),kJ l fr=a6 y->fr=Vq l y
 |[],fr,y,h=>by
  simp only[kJ]at h;split at h
  .rfl
  .cases h
 |.v t::l,fr,y,h=>by
  simp only[kJ]at h;split at h
  .split at h
   .rename_i x g i j
    cases h;rw[aiM i,iT l _ g j];rfl
   .cases h
  .cases h
 |.u::l,fr,y,h=>by
  simp only[kJ]at h;split at h
  .rename_i v fr
   obtain⟨d,h⟩:isU v=true/\kJ l fr=a6 y:=dG h;rw[atK d,iT l fr y h];rfl
  .cases h
 |.slc id::l,fr,y,h=>by
  simp only[kJ]at h;split at h
  .rename_i v fr
   obtain⟨d,h⟩:ad5 id v=true/\kJ l fr=a6 y:=dG h;rw[ahd d,iT l fr y h];rfl
  .cases h
 |.ptr id o::l,fr,y,h=>by
  simp only[kJ]at h;split at h
  .rename_i v fr
   obtain⟨d,h⟩:isPtr id o v=true/\kJ l fr=a6 y:=dG h;rw[ahe d,iT l fr y h];rfl
  .cases h
 |.nils::l,fr,y,h=>by
  simp only[kJ]at h;split at h
  .rename_i v fr
   obtain⟨d,h⟩:isNils v=true/\kJ l fr=a6 y:=dG h;rw[ad4 d,iT l fr y h];rfl
  .cases h
 |.nilp::l,fr,y,h=>by
  simp only[kJ]at h;split at h
  .rename_i v fr
   obtain⟨d,h⟩:Y6 v=true/\kJ l fr=a6 y:=dG h;rw[ad3 d,iT l fr y h];rfl
  .cases h
 |.e::l,fr,y,h=>by
  simp only[kJ]at h;split at h
  .rename_i v fr
   obtain⟨d,h⟩:isE v=true/\kJ l fr=a6 y:=dG h;rw[atI d,iT l fr y h];rfl
  .cases h
 |.fn f c::l,fr,y,h=>by
  simp only[kJ]at h;split at h
  .rename_i v fr
   obtain⟨d,h⟩:atJ f c v=true/\kJ l fr=a6 y:=dG h;rw[aov d,iT l fr y h];rfl
  .cases h
 |.mfn f c::l,fr,y,h=>by
  simp only[kJ]at h;split at h
  .rename_i v fr
   obtain⟨d,h⟩:ad2 f c v=true/\kJ l fr=a6 y:=dG h;rw[ahb d,iT l fr y h];rfl
  .cases h
 |.kb b::l,fr,y,h=>by
  simp only[kJ]at h;split at h
  .rename_i v fr
   obtain⟨d,h⟩:azs b v=true/\kJ l fr=a6 y:=dG h;rw[aow d,iT l fr y h];rfl
  .cases h
 |.slf id::l,fr,y,h=>by
  simp only[kJ]at h;split at h
  .rename_i v fr
   obtain⟨d,h⟩:ajU id v=true/\kJ l fr=a6 y:=dG h;rw[ahf d,iT l fr y h];rfl
  .cases h
 |.mpv id::l,fr,y,h=>by
  simp only[kJ]at h;split at h
  .rename_i v fr
   obtain⟨d,h⟩:ajT id v=true/\kJ l fr=a6 y:=dG h;rw[ahc d,iT l fr y h];rfl
  .cases h
 |.yld id::l,fr,y,h=>by
  simp only[kJ]at h;split at h
  .rename_i v fr
   obtain⟨d,h⟩:ajV id v=true/\kJ l fr=a6 y:=dG h;rw[ahg d,iT l fr y h];rfl
  .cases h
 |.cp t::l,fr,y,h=>by
  simp only[kJ]at h;split at h
  .split at h
   .rename_i x g i j
    cases h;rw[anb i,iT l _ g j];rfl
   .cases h
  .cases h
noncomputable def rfA (f:FuncId) (k:Nat):Code:=match qK f k with
 |some (a,_)=>a
 |none=>.skip
noncomputable def rfB (f:FuncId) (k:Nat):Code:=match qK f k with
 |some (_,b)=>b
 |none=>.skip
inductive HK where
 |arr (id:Nat) (e:Ty)
 |box (id:Nat) (t:TypeId) (cs:List FK)
 |mp (id:Nat) (kk vk:IntKind)
 |lp (id:Nat) (f:FuncId) (fr:List FK) (ps:List Nat) (key:Nat) (n:Nat) (p:Option Ex)
def HKs.den:List HK->Ty
 |[]=>.unit
 |.arr _ e::l=>.pair (.list e) (HKs.den l)
 |.mp _ kk d::l=>.pair (.list (.pair (.int kk) (.int d))) (HKs.den l)
 |.box _ _ cs::l=>.pair (FKs.den cs) (HKs.den l)
 |.lp _ _ fr _ _ _ _::l=>.pair (FKs.den fr) (HKs.den l)
noncomputable def mkH:(l:List HK)->(HKs.den l).den->gQ
 |[],_=>[]
 |.arr id e::l,y=>(id,.arr e 0 y.1)::mkH l y.2
 |.mp id kk d::l,y=>(id,.mp kk d y.1)::mkH l y.2
 |.box id t cs::l,y=>(id,.box t (Vq cs y.1))::mkH l y.2
 |.lp id f fr ps key n p::l,y=>(id,.lp f (Vq fr y.1) ps (rfA f key) (rfB f key) (a6 key) n p)::mkH l y.2
def aiP (e:Ty):dM->Option (List e.den)
 |.arr e' v xs=>bif Nat.beq v 0 then jE (.list e) (t':=.list e') xs else a7
 |_=>a7
def aAr (d e:IntKind):dM->Option (List (Int×Int))
 |.mp k v f=>bif decide (k=d)&&decide (v=e)then a6 f else a7
 |_=>a7
theorem aoO {d e:IntKind} {o:dM} {x:List (Int×Int)} (h:aAr d e o=a6 x):o=.mp d e x:=by
 cases o with
 |mp k v f=>
  simp only[aAr]at h
  grind
 |_=>simp[aAr]at h
def aiS (t:TypeId) (cs:List FK):dM->Option (FKs.den cs).den
 |.box t' l=>bif Nat.beq t' t then kJ cs l else a7
 |_=>a7
def aD4:Ex->Ex->Bool
 |.normal,.normal=>true
 |.exit i,.exit j=>Nat.beq i j
 |.goto i,.goto j=>Nat.beq i j
 |.ret,.ret=>true
 |_,_=>false
def avA:Option Ex->Option Ex->Bool
 |none,a7=>true
 |some a,a6 b=>aD4 a b
 |_,_=>false
def MS:List Nat->List Nat->Bool
 |[],[]=>true
 |a::l,b::m=>Nat.beq a b&&MS l m
 |_,_=>false
theorem an9 {a b:Ex} (h:aD4 a b=true):a=b:=by
 cases a<;>cases b<;>simp only[aD4,ag]at h<;>first|rfl|simp_all
theorem aim {a b:Option Ex} (h:avA a b=true):a=b:=by
 cases a<;>cases b<;>simp only[avA,ag]at h<;>first|rfl|rw[an9 h]
theorem OQ: ∀{l m:List Nat},MS l m=true->l=m
 |[],[],_=>rfl
 |a::l,b::m,h=>by
  simp only[MS,af]at h;rw[ah h.1,OQ h.2]
 |[],_::_,h=>by simp[MS]at h
 |_::_,[],h=>by simp[MS]at h
def auJ (f:FuncId) (fr:List FK) (d:List Nat) (key n:Nat) (p:Option Ex):dM->Option (FKs.den fr).den
 |.lp f' fr' ps' _ _ (a6 e) n' g=>bif Nat.beq f' f&&(MS ps' d&&(Nat.beq e key&&(Nat.beq n' n&&avA g p)))then kJ fr fr' else a7
 |_=>a7
theorem af8 {e:Ty} {o:dM} {x:List e.den} (h:aiP e o=a6 x):o=.arr e 0 x:=by
 cases o with
 |arr e' v xs=>
  simp only[aiP]at h;rw[cond_eq_ite]at h;split at h
  .rename_i d
   obtain rfl:v=0:=ah d
   grind [iq,gp]
  .cases h
 |_=>simp[aiP]at h
theorem agf {t:TypeId} {cs:List FK} {o:dM} {x:(FKs.den cs).den} (h:aiS t cs o=a6 x):o=.box t (Vq cs x):=by
 cases o with
 |box t' l=>
  simp only[aiS]at h;obtain⟨d,h⟩:=dG h;rw[iT cs l x h,ah d]
 |_=>simp[aiS]at h
theorem aoJ {f:FuncId} {fr:List FK} {q:List Nat} {key n:Nat} {p:Option Ex} {o:dM} {x:(FKs.den fr).den} (v:WfO o) (h:auJ f fr q key n p o=a6 x):o=.lp f (Vq fr x) q (rfA f key) (rfB f key) (a6 key) n p:=by
 cases o with
 |lp f' fr' ps' asg bd ky n' y=>
  cases ky with
  |none=>simp[auJ]at h
  |some d=>
   simp only[auJ]at h;replace h:=dG h;obtain⟨s,h⟩:=h;simp only[af]at s;obtain⟨e,g,i,j,l⟩:=s;have e:=ah e;have g:=OQ g;have i:=ah i;have j:=ah j;have l:=aim l;subst e g i j l;have u:qK f' d=a6 (asg,bd):=v;have z:rfA f' d=asg:=by unfold rfA;rw[u]
   have A:rfB f' d=bd:=by unfold rfB;rw[u]
   grind [iT]
 |_=>simp[auJ]at h
def Pz:(l:List HK)->gQ->Option (HKs.den l).den
 |[],d=>match d with
  |[]=>a6 ()
  |_=>a7
 |.arr id e::l,d=>match d with
  |(j,o)::d=>bif Nat.beq j id then(match aiP e o,Pz l d with
   |some x,a6 y=>a6 (x,y)
   |_,_=>a7)else a7
  |[]=>a7
 |.mp id kk g::l,d=>match d with
  |(j,o)::d=>bif Nat.beq j id then(match aAr kk g o,Pz l d with
   |some x,a6 y=>a6 (x,y)
   |_,_=>a7)else a7
  |[]=>a7
 |.box id t cs::l,d=>match d with
  |(j,o)::d=>bif Nat.beq j id then(match aiS t cs o,Pz l d with
   |some x,a6 y=>a6 (x,y)
   |_,_=>a7)else a7
  |[]=>a7
 |.lp id f fr ps key n p::l,d=>match d with
  |(j,o)::d=>bif Nat.beq j id then(match auJ f fr ps key n p o,Pz l d with
   |some x,a6 y=>a6 (x,y)
   |_,_=>a7)else a7
  |[]=>a7
theorem vF: ∀(l:List HK) (hp:gQ) (y:(HKs.den l).den),(∀e∈hp,WfO e.2)->Pz l hp=a6 y->hp=mkH l y
 |[],hp,y,_,h=>by
  simp only[Pz]at h;split at h
  .rfl
  .cases h
 |.arr id e::l,hp,y,d,h=>by
  simp only[Pz]at h;split at h
  .rw[cond_eq_ite]at h;split at h
   .rename_i g
    split at h
    .rename_i x i j o
     cases h;rw[af8 j,vF l _ i (fun e q=>d e (ak _ q)) o,ah g];rfl
    .cases h
   .cases h
  .cases h
 |.mp id kk u::l,hp,y,d,h=>by
  simp only[Pz]at h;split at h
  .rw[cond_eq_ite]at h;split at h
   .rename_i g
    split at h
    .rename_i x i j o
     cases h;rw[aoO j,vF l _ i (fun e q=>d e (ak _ q)) o,ah g];rfl
    .cases h
   .cases h
  .cases h
 |.box id t cs::l,hp,y,d,h=>by
  simp only[Pz]at h;split at h
  .rw[cond_eq_ite]at h;split at h
   .rename_i g
    split at h
    .rename_i x i j o
     cases h;rw[agf j,vF l _ i (fun e q=>d e (ak _ q)) o,ah g];rfl
    .cases h
   .cases h
  .cases h
 |.lp id f fr ps key n p::l,hp,y,d,h=>by
  simp only[Pz]at h;split at h
  .rw[cond_eq_ite]at h;split at h
   .rename_i g
    split at h
    .rename_i x i j o
     cases h;have s:=d _ aB;dsimp only at s;rw[aoJ s j,vF l _ i (fun e q=>d e (ak _ q)) o,ah g];rfl
    .cases h
   .cases h
  .cases h
structure SP where
 fr:List FK
 hp:List HK
def SP.den (p:SP):Type:=(FKs.den p.fr).den×(HKs.den p.hp).den
noncomputable def jV (p:SP) (y:p.den):St:=⟨Vq p.fr y.1,[[]],mkH p.hp y.2,0⟩
def atv (p:SP) (st:St):Option p.den:=
 match st.stk,st.nxt with
 |[[]],0=>match kJ p.fr st.fr,Pz p.hp st.hp with
  |some x,a6 y=>bif rP st.hp then a6 (x,y)else a7
  |_,_=>a7
 |_,_=>a7
theorem SN {p:SP} {st:St} {y:p.den} (d:WfH st.hp) (h:atv p st=a6 y):st=jV p y:=by
 obtain⟨l,o,hp,q⟩:=st;unfold atv at h;split at h
 .rename_i e f
  subst e f;split at h
  .rename_i x s g i
   replace h:=dG h;obtain⟨j,h⟩:=h;cases h;have u:=iT _ _ _ g;have v:=vF _ _ _ (N8 _ j d) i;simp_all [jV]
  .cases h
 .cases h
def xn {R:Type} (E:Env) (d:Nat) (f:FuncId) (c:Code):St->(Ex->St->Option R)->Option R:=run (E.at d) (kH E d) (Wx E d) f c
noncomputable def fU (k:eQ) (l d e:SP) (g:Ex) (i:l.den->Option (d.den⊕e.den)) (f:Nat:=0) (j:Ex:=.ret):dE:={
 V:=l.den
 A:=fun _=>d.den
 B:=fun _=>e.den
 get:=fun st=>match LC k.slots k.owns st with
  |some st=>atv l st
  |none=>a7
 spec:=i
 exA:=fun _=>g
 stA:=fun _ _ a=>jV d a
 stB:=fun _ _ b=>jV e b
 dep:=f
 exB:=fun _=>j}
theorem aoG {E:Env} {f:FuncId} {c:Code} {k:eQ} {l g i:SP} {q:Ex} {j:l.den->Option (g.den⊕i.den)} {s:Nat} {u:Ex} (hk:E.kp f (dH c)=a6 k)
  (h: ∀(R:Type) (d:Nat) (K:Ex->St->Option R) (v:l.den) o,j v=a6 o->
   ∃m,iter (a6 k) (xn E (d+s) f c) m (jV l v) K=dW o (fun a=>K q (jV g a)) fun b=>K u (jV i b)):dV E f c (fU k l g i q j s u):=by
 intro R d r st v K z p hr;simp only[fU]at p;split at p
 .rename_i B x
  have e:=SN (z _ _ _ x) p;subst e;simp only[fU]at hr;cases ho:j v with
  |none=>rw[ho]at hr;cases hr
  |some o=>
   rw[ho]at hr;obtain⟨m,A⟩:=h R d K v o ho;have y:(E.at (d+(fU k l g i q j s u).dep)).kp f (dH c)=a6 k:=hk;refine⟨m,jV l v,by rw[y];exact x, ?_⟩;rw[y];exact A.trans hr
 .cases p
theorem DI {E:Env} {f:FuncId} {c:Code} {k:eQ} {l g i:SP} {q:Ex} {j:l.den->Option (g.den⊕i.den)} {s:Nat} {u:Ex} (hk:E.kp f (800000+dH c)=a6 k)
  (h: ∀(R:Type) (d:Nat) (K:Ex->St->Option R) (v:l.den) o,j v=a6 o->
   ∃m,iter (a6 k) (Bg (xn E (d+s) f c)) m (jV l v) K=dW o (fun a=>K q (jV g a)) fun b=>K u (jV i b)):sH E f c (fU k l g i q j s u):=by
 intro R d r st v K z p hr;simp only[fU]at p;split at p
 .rename_i B x
  have e:=SN (z _ _ _ x) p;subst e;simp only[fU]at hr;cases ho:j v with
  |none=>rw[ho]at hr;cases hr
  |some o=>
   rw[ho]at hr;obtain⟨m,A⟩:=h R d K v o ho;have y:(E.at (d+(fU k l g i q j s u).dep)).kp f (800000+dH c)=a6 k:=hk;refine⟨m,jV l v,by rw[y];exact x, ?_⟩;rw[y];exact A.trans hr
 .cases p
def FKss.den:List (List FK)->Type
 |[]=>Unit
 |l::d=>(FKs.den l).den×FKss.den d
def mkK:(l:List (List FK))->FKss.den l->List (List bU)
 |[],_=>[]
 |l::d,y=>Vq l y.1::mkK d y.2
def atu:(l:List (List FK))->List (List bU)->Option (FKss.den l)
 |[],st=>match st with
  |[]=>a6 ()
  |_=>a7
 |l::d,st=>match st with
  |e::st=>match kJ l e,atu d st with
   |some x,a6 y=>a6 (x,y)
   |_,_=>a7
  |[]=>a7
theorem WP: ∀(l:List (List FK)) (st:List (List bU)) (y:FKss.den l),atu l st=a6 y->st=mkK l y
 |[],st,y,h=>by
  simp only[atu]at h;split at h
  .rfl
  .cases h
 |l::d,st,y,h=>by
  simp only[atu]at h;split at h
  .split at h
   .rename_i x e f g
    cases h;rw[iT _ _ _ f,WP d _ e g];rfl
   .cases h
  .cases h
structure SQ where
 fr:List FK
 stk:List (List FK)
 hp:List HK
def SQ.den (p:SQ):Type:=(FKs.den p.fr).den×(FKss.den p.stk×(HKs.den p.hp).den)
noncomputable def mF (p:SQ) (y:p.den):St:=⟨Vq p.fr y.1,mkK p.stk y.2.1,mkH p.hp y.2.2,0⟩
def aha (p:SQ) (st:St):Option p.den:=
 match st.nxt with
 |0=>match kJ p.fr st.fr,atu p.stk st.stk,Pz p.hp st.hp with
  |some x,a6 k,a6 y=>bif rP st.hp then a6 (x,k,y)else a7
  |_,_,_=>a7
 |_=>a7
theorem Ot {p:SQ} {st:St} {y:p.den} (d:WfH st.hp) (h:aha p st=a6 y):st=mF p y:=by
 obtain⟨j,l,hp,o⟩:=st;unfold aha at h;split at h
 .rename_i e
  subst e;split at h
  .rename_i x k q f hk g
   replace h:=dG h;obtain⟨i,h⟩:=h;cases h;have s:=iT _ _ _ f;have u:=vF _ _ _ (N8 _ i d) g
   grind [WP,mF]
  .cases h
 .cases h
noncomputable def fG (k:eQ) (l d e:SQ) (g:Ex) (i:l.den->Option (d.den⊕e.den)) (f:Nat:=0) (j:Ex:=.ret):dE:={
 V:=l.den
 A:=fun _=>d.den
 B:=fun _=>e.den
 get:=fun st=>match LC k.slots k.owns st with
  |some st=>aha l st
  |none=>a7
 spec:=i
 exA:=fun _=>g
 stA:=fun _ _ a=>mF d a
 stB:=fun _ _ b=>mF e b
 dep:=f
 exB:=fun _=>j}
theorem ahu {E:Env} {f:FuncId} {c:Code} {k:eQ} {l g i:SQ} {q:Ex} {j:l.den->Option (g.den⊕i.den)} {s:Nat} {u:Ex} (hk:E.kp f (dH c)=a6 k)
  (h: ∀(R:Type) (d:Nat) (K:Ex->St->Option R) (v:l.den) o,j v=a6 o->
   ∃m,iter (a6 k) (xn E (d+s) f c) m (mF l v) K=dW o (fun a=>K q (mF g a)) fun b=>K u (mF i b)):dV E f c (fG k l g i q j s u):=by
 intro R d r st v K z p hr;simp only[fG]at p;split at p
 .rename_i B x
  have e:=Ot (z _ _ _ x) p;subst e;simp only[fG]at hr;cases ho:j v with
  |none=>rw[ho]at hr;cases hr
  |some o=>
   rw[ho]at hr;obtain⟨m,A⟩:=h R d K v o ho;have y:(E.at (d+(fG k l g i q j s u).dep)).kp f (dH c)=a6 k:=hk;refine⟨m,mF l v,by rw[y];exact x, ?_⟩;rw[y];exact A.trans hr
 .cases p
theorem anc {E:Env} {f:FuncId} {c:Code} {k:eQ} {l g i:SQ} {q:Ex} {j:l.den->Option (g.den⊕i.den)} {s:Nat} {u:Ex} (hk:E.kp f (800000+dH c)=a6 k)
  (h: ∀(R:Type) (d:Nat) (K:Ex->St->Option R) (v:l.den) o,j v=a6 o->
   ∃m,iter (a6 k) (Bg (xn E (d+s) f c)) m (mF l v) K=dW o (fun a=>K q (mF g a)) fun b=>K u (mF i b)):sH E f c (fG k l g i q j s u):=by
 intro R d r st v K z p hr;simp only[fG]at p;split at p
 .rename_i B x
  have e:=Ot (z _ _ _ x) p;subst e;simp only[fG]at hr;cases ho:j v with
  |none=>rw[ho]at hr;cases hr
  |some o=>
   rw[ho]at hr;obtain⟨m,A⟩:=h R d K v o ho;have y:(E.at (d+(fG k l g i q j s u).dep)).kp f (800000+dH c)=a6 k:=hk;refine⟨m,mF l v,by rw[y];exact x, ?_⟩;rw[y];exact A.trans hr
 .cases p
def kU (L M:dE):dE:={
 V:=L.V⊕M.V
 A:=fun v=>match v with|.inl v=>L.A v|.inr v=>M.A v
 B:=fun v=>match v with|.inl v=>L.B v|.inr v=>M.B v
 get:=fun st=>match L.get st with
  |some v=>a6 (.inl v)
  |none=>match M.get st with
   |some v=>a6 (.inr v)
   |none=>a7
 spec:=fun v=>match v with|.inl v=>L.spec v|.inr v=>M.spec v
 exA:=fun v=>match v with|.inl v=>L.exA v|.inr v=>M.exA v
 stA:=fun st v=>match v with|.inl v=>L.stA st v|.inr v=>M.stA st v
 stB:=fun st v=>match v with|.inl v=>L.stB st v|.inr v=>M.stB st v
 dep:=L.dep+M.dep
 exB:=fun v=>match v with|.inl v=>L.exB v|.inr v=>M.exB v}
theorem qV {E:Env} {f:FuncId} {c:Code} {L M:dE} (l:dV E f c L) (h2:dV E f c M):dV E f c (kU L M):=fun R m r st v K j d hr=>by
 simp only[kU]at d;split at d
 .rename_i g i
  cases d;have e:m+(kU L M).dep=(m+M.dep)+L.dep:=by show m+(L.dep+M.dep)=_;omega
  rw[e];exact l R _ r st g K j i hr
 .split at d
  .rename_i g i
   cases d;have e:m+(kU L M).dep=(m+L.dep)+M.dep:=by show m+(L.dep+M.dep)=_;omega
   rw[e];exact h2 R _ r st g K j i hr
  .cases d
theorem aIB {E:Env} {f:FuncId} {c:Code} {L M:dE} (l:sH E f c L) (h2:sH E f c M):sH E f c (kU L M):=fun R m r st v K j d hr=>by
 simp only[kU]at d;split at d
 .rename_i g i
  cases d;have e:m+(kU L M).dep=(m+M.dep)+L.dep:=by show m+(L.dep+M.dep)=_;omega
  rw[e];exact l R _ r st g K j i hr
 .split at d
  .rename_i g i
   cases d;have e:m+(kU L M).dep=(m+L.dep)+M.dep:=by show m+(L.dep+M.dep)=_;omega
   rw[e];exact h2 R _ r st g K j i hr
  .cases d
end
section
open Option renaming some → a6, none → a7
open List renaming mem_cons_of_mem → ak, mem_cons_self → aB
open Nat renaming eq_of_beq_eq_true → ah
open Go.RowKit
def awp:List (FuncId×Sum)->FuncId->Option Sum
 |[],_=>a7
 |e::l,g=>bif Nat.beq g e.1 then a6 e.2 else awp l g
theorem ab5 {P:Program}: ∀(l:List (FuncId×Sum)),(∀e∈l,dR P e.1 e.2)-> ∀g s,awp l g=a6 s->dR P g s
 |[],_,g,s,h=>by cases h
 |e::l,hl,g,s,h=>by
  simp only[awp]at h;rw[cond_eq_ite]at h;split at h
  .simp_all
  .exact ab5 l (fun e d=>hl e (ak _ d)) g s h
def aLZ (f:FuncId) (l:List (Nat×eQ)) (g:FuncId) (id:Nat):Option eQ:=cond (Nat.beq g f) ((l.find? fun e=>Nat.beq id e.1).map (·.2)) a7
def aFc (f:FuncId) (l:List (Nat×dE)) (g:FuncId) (id:Nat):Option dE:=
 bif Nat.beq g f then(match l.find? fun e=>Nat.beq id e.1 with|some e=>a6 e.2|none=>a7)else a7
theorem ahA {f g:FuncId} (l:List (Nat×dE)) (h:g≠f) (id:Nat):aFc f l g id=a7:=by
 grind [ah,aFc]
def aIy:FuncId:=123
def Ha (g:FuncId):Bool:=Nat.beq g aIy&& !Nat.beq aIy 1000000
def aID:List (Nat×Nat×Nat):=[(1000000,2,5)]
def DZ (t o n:Nat):Bool:=aID.any fun e=>Nat.blt e.1 900000&&(Nat.beq e.1 t&&(Nat.beq e.2.1 o&&Nat.beq e.2.2 n))
def aop:FuncId:=37
def He (g:FuncId):Bool:=Nat.beq g aop&& !Nat.beq aop 1000000
def aca:FuncId:=26
def CV:FuncId:=27
def Hf (g:FuncId):Bool:=Nat.beq g aca&&(!Nat.beq aca 1000000&& !Nat.beq CV 1000000)
def ao8:List (FuncId×fF)->FuncId->Option fF
 |[],_=>a7
 |e::l,g=>bif Nat.beq g e.1 then a6 e.2 else ao8 l g
theorem Qp {P:Program}: ∀(l:List (FuncId×fF)),(∀e∈l,dL P e.1 e.2)-> ∀g s,ao8 l g=a6 s->dL P g s
 |[],_,g,s,h=>by cases h
 |e::l,hl,g,s,h=>by
  simp only[ao8]at h;cases hb:Nat.beq g e.1 with
  |true=>
   simp_all
  |false=>
   rw[hb]at h;exact Qp l (fun e d=>hl e (ak _ d)) g s h
def iO (P:Program) (T:TT) (f:FuncId) (sg:List (FuncId×Sum)) (kp:List (Nat×eQ)) (lp:List (Nat×dE)) (sb:List (FuncId×fF):=[]):Env:=
 {P:=P,T:=T,cl:=false,kp:=aLZ f kp,sg:=awp sg,lp:=aFc f lp,bf:=Ha,em:=DZ,il:=He,sl:=Hf,sc:=CV,sb:=ao8 sb}
theorem asM {P:Program} {T:TT} (hT:TOk P T) (i:P.follows .mixedOrders=true) (j:Jj P) {f:FuncId} {sg:List (FuncId×Sum)} {kp:List (Nat×eQ)} {lp:List (Nat×dE)} {sb:List (FuncId×fF)}
  (l: ∀e∈sg,dR P e.1 e.2) {fn:Func} {c:Code} (hf:P.funcs[f]? =a6 fn) (hb:fn.body=a6 c) (hl:dO (iO P T f sg kp lp sb) f c) (o: ∀E,rE P E->af5 E) (p: ∀g,(Ha g=true->xx P DZ g)/\(He g=true->Ji P g)/\(Hf g=true->Jl P g CV)) (hx: ∀e∈sb,dL P e.1 e.2:=by simp):eF (iO P T f sg kp lp sb):=by
 have d:rE P (iO P T f sg kp lp sb):= ?_;exact⟨hT,i,j,ab5 sg l,d,o _ d,p,Qp sb hx⟩;intro g s q u v;by_cases e:g=f
 .simp_all
 .exact iZ (fun id=>ahA lp e id) (fun _=>rfl) q
def aJC (l:List (FuncId×Nat×eQ)) (g:FuncId) (id:Nat):Option eQ:=match l.find? fun e=>Nat.beq g e.1&&Nat.beq id e.2.1 with
 |some e=>a6 e.2.2
 |none=>a7
def akf:List (FuncId×Nat×dE)->FuncId->Nat->Option dE
 |[],_,_=>a7
 |e::l,g,id=>bif Nat.beq g e.1&&Nat.beq id e.2.1 then a6 e.2.2 else akf l g id
theorem TM: ∀(l:List (FuncId×Nat×dE)) (g:FuncId),(∀e∈l,e.1≠g)-> ∀id,akf l g id=a7
 |[],g,_,id=>rfl
 |e::l,g,h,id=>by
  have d:Nat.beq g e.1=false:=by
   grind [ah]
  simp only[akf,d,Bool.false_and,ac];exact TM l g (fun e f=>h e (ak _ f)) id
def gz (P:Program) (T:TT) (sg:List (FuncId×Sum)) (kp:List (FuncId×Nat×eQ)) (lp:List (FuncId×Nat×dE)) (rf:List FuncId) (sb:List (FuncId×fF):=[]):Env:=
 {P:=P,T:=T,cl:=false,kp:=aJC kp,sg:=awp sg,lp:=akf lp,rf:=fun g _=>rf.any fun x=>Nat.beq g x,bf:=Ha,em:=DZ,il:=He,sl:=Hf,sc:=CV,sb:=ao8 sb}
theorem an5 {P:Program} {T:TT} (hT:TOk P T) (i:P.follows .mixedOrders=true) (j:Jj P) {sg:List (FuncId×Sum)} {kp:List (FuncId×Nat×eQ)} {lp:List (FuncId×Nat×dE)}
  {rf:List FuncId} {sb:List (FuncId×fF)} (l: ∀e∈sg,dR P e.1 e.2) (d:List FuncId) (s:(lp.all fun e=>d.any fun g=>Nat.beq e.1 g)=true) (u:(rf.all fun e=>d.any fun g=>Nat.beq e g)=true) (hl: ∀g∈d,∃fn c,P.funcs[g]? =a6 fn/\fn.body=a6 c/\dO (gz P T sg kp lp rf sb) g c)
  (o: ∀E,rE P E->af5 E) (p: ∀g,(Ha g=true->xx P DZ g)/\(He g=true->Ji P g)/\(Hf g=true->Jl P g CV)) (hx: ∀e∈sb,dL P e.1 e.2:=by simp):eF (gz P T sg kp lp rf sb):=by
 have f:rE P (gz P T sg kp lp rf sb):= ?_;exact⟨hT,i,j,ab5 sg l,f,o _ f,p,Qp sb hx⟩;intro g v q y z;by_cases e:g∈d
 .grind
 .refine iZ (fun id=>TM lp g (fun x hx A=>e ?_) id) (fun _=> ?_) q
  .grind [ah]
  .cases hr:rf.any fun x=>Nat.beq g x with
   |false=>exact hr
   |true=>
    simp_all
def bT {d:Type} (a b:List d):List d:=a++b
def dD (i:Int):Nat:=i.toNat
def dK {e:Type} (l:List e) (d:e) (i:Nat):e:=l.getD i d
def takeN {d:Type} (l:List d) (n:Nat):List d:=l.take n
def aNr {d:Type} (n:Nat) (x:d):List d:=List.replicate n x
def gV (a b:List UInt8):Bool:=decide (a.length+b.length<=kZ)
def mi {d:Type} (i:Nat) (l:List d):Bool:=PD i l.length
def aNq (a b:Int):Int:=a.tmod b
def Fe (k:IntKind) (n:Int):Int:=k.wrap n
def aMZ (a b:Int):Int:=a+b
def aNs (a b:Int):Int:=a-b
def aMW (c:Int) (n:Nat):Bool:=decide (c.toNat*n<=kZ)
def jA (a b:Bool):Bool:=a==b
def lZ (t:Ty) (x y:List t.den):Bool:=wB (YE t) x y
def ibW (s:List UInt8) (c:Int):Int:=Lib.indexByte s c.toNat.toUInt8
def am7 (a b:List UInt8):Int:=Lib.compareBytes a b
def cA:Code->Code
 |.seq a _=>a
 |.block _ c=>c
 |.loop c=>c
 |.scope c=>c
 |.cond _ a _=>a
 |.rangeFunc _ _ a _=>a
 |c=>c
def cB:Code->Code
 |.seq _ b=>b
 |.cond _ _ b=>b
 |.rangeFunc _ _ _ b=>b
 |c=>c
def jC:Code->List Code
 |.seq a b=>jC a++jC b
 |.cond _ a b=>jC a++jC b
 |.block _ c=>jC c
 |.scope c=>jC c
 |.loop c=>jC c++[c]
 |.rangeFunc _ _ a b=>jC a++jC b
 |_=>[]
def jU:Code->List (Code×Code)
 |.seq a b=>jU a++jU b
 |.cond _ a b=>jU a++jU b
 |.block _ c=>jU c
 |.scope c=>jU c
 |.loop c=>jU c
 |.rangeFunc _ _ a b=>(a,b)::(jU a++jU b)
 |_=>[]
def pg:Code->List Code
 |.seq a b=>pg a++(b::pg b)
 |.cond _ a b=>pg a++pg b
 |.block _ c=>pg c
 |.scope c=>pg c
 |.loop c=>pg c
 |.rangeFunc _ _ a b=>pg a++pg b
 |_=>[]
def ZB (E:Env) (f:FuncId) (c:Code):Bool:=(pg c).all fun d=>(E.lp f (800000+dH d)).isNone
theorem jX {R:Type} {E:Env} {x:mO R} {e:Ye} {f:FuncId}: ∀c:Code,(∀x∈jU c,E.rf f (dH x.2)=true->qK f (dH x.2)=a6 x)->(∀d∈jC c,∀L,E.lp f (dH d)=a6 L->L.dep.ble E.dp=true->Yc E x e f d L)->
  (∀d∈pg c,∀L,E.lp f (800000+dH d)=a6 L->L.dep.ble E.dp=true->af2 E x e f d L)->jv E x e f c
 |.seq a b,g,h,k=>⟨⟨jX a (fun d hd=>g d (List.mem_append.2 (.inl hd))) (fun d hd=>h d (List.mem_append.2 (.inl hd))) fun d hd=>k d (List.mem_append.2 (.inl hd)),k b (List.mem_append.2 (.inr aB))⟩,
   jX b (fun d hd=>g d (List.mem_append.2 (.inr hd))) (fun d hd=>h d (List.mem_append.2 (.inr hd))) fun d hd=>k d (List.mem_append.2 (.inr (ak _ hd)))⟩
 |.cond _ a b,g,h,k=>⟨jX a (fun d hd=>g d (List.mem_append.2 (.inl hd))) (fun d hd=>h d (List.mem_append.2 (.inl hd))) fun d hd=>k d (List.mem_append.2 (.inl hd)),jX b (fun d hd=>g d (List.mem_append.2 (.inr hd))) (fun d hd=>h d (List.mem_append.2 (.inr hd))) fun d hd=>k d (List.mem_append.2 (.inr hd))⟩
 |.block _ c,g,h,k=>jX (E:=E) c g h k
 |.scope c,g,h,k=>jX (E:=E) c g h k
 |.loop c,g,h,k=>⟨jX c g (fun d hd=>h d (List.mem_append.2 (.inl hd))) k,h c (List.mem_append.2 (.inr (List.mem_singleton.2 rfl)))⟩
 |.rangeFunc _ _ a b,g,h,k=>⟨jX a (fun d hd=>g d (ak _ (List.mem_append.2 (.inl hd)))) (fun d hd=>h d (List.mem_append.2 (.inl hd))) fun d hd=>k d (List.mem_append.2 (.inl hd)),
   jX b (fun d hd=>g d (ak _ (List.mem_append.2 (.inr hd)))) (fun d hd=>h d (List.mem_append.2 (.inr hd))) fun d hd=>k d (List.mem_append.2 (.inr hd)),g (a,b) aB⟩
 |.skip,_,_,_|.label _,_,_,_|.region _ _ _,_,_,_|.exit _,_,_,_|.goto _,_,_,_|.ret,_,_,_|.refuse _,_,_,_=>trivial
theorem xM {E:Env} {f:FuncId} (c:Code) (g: ∀x∈jU c,E.rf f (dH x.2)=true->qK f (dH x.2)=a6 x) (h: ∀d∈jC c,∀L,E.lp f (dH d)=a6 L->dV E f d L)
  (k: ∀d∈pg c,∀L,E.lp f (800000+dH d)=a6 L->sH E f d L):dO E f c:=fun R m=>
 jX (E:=E.at m) c g (fun d hd L i j=>by
  have e:=h d hd L i R (m-L.dep);rw[show m-L.dep+L.dep=m from Nat.sub_add_cancel (Nat.le_of_ble_eq_true (m:=m) j)]at e;exact e) fun d hd L i j=>by
  have e:=k d hd L i R (m-L.dep);rw[show m-L.dep+L.dep=m from Nat.sub_add_cancel (Nat.le_of_ble_eq_true (m:=m) j)]at e;exact e
theorem aoR {E:Env} {f:FuncId} {c:Code} (h:ZB E f c=true): ∀d∈pg c,∀L,E.lp f (800000+dH d)=a6 L->sH E f d L:=fun d hd L e=>by
 have:=List.all_eq_true.1 h d hd;simp_all
def FI (E:Env) (f:FuncId) (c:Code):List Code:=(pg c).filter fun d=>(E.lp f (800000+dH d)).isSome
theorem BH {E:Env} {f:FuncId} {c:Code} (h: ∀d∈FI E f c,∀L,E.lp f (800000+dH d)=a6 L->sH E f d L): ∀d∈pg c,∀L,E.lp f (800000+dH d)=a6 L->sH E f d L:=fun d hd L e=>
 h d (List.mem_filter.2 ⟨hd,by rw[e];rfl⟩) L e
theorem tK {E:Env} {f:FuncId} (c:Code) (g: ∀x∈jU c,E.rf f (dH x.2)=true->qK f (dH x.2)=a6 x) (h: ∀d∈jC c,∀L,E.lp f (dH d)=a6 L->dV E f d L) (k:ZB E f c=true:=by kernel_rfl):dO E f c:=
 xM c g h (aoR k)
theorem ahv {E:Env} {f:FuncId} (c:Code) (e: ∀id,E.rf f id=false) (h: ∀d∈jC c,∀L,E.lp f (dH d)=a6 L->dV E f d L) (k:ZB E f c=true:=by kernel_rfl):dO E f c:=
 tK c (fun x _ g=>by simp_all) h k
theorem dh {d e:Type} (b:Bool) (x y:Option d) (k:d->Option e):bJ (bif b then x else y) k=bif b then bJ x k else bJ y k:=by cases b<;>rfl
theorem di {d e:Type} (k:d->Option e):bJ a7 k=a7:=rfl
theorem bI {d e:Type} (x:d) (k:d->Option e):bJ (a6 x) k=k x:=rfl
theorem cZ {d e f:Type} (x:Option d) (k:d->Option e) (l:e->Option f):bJ (bJ x k) l=bJ x fun a=>bJ (k a) l:=by cases x<;>rfl
theorem avy {d i e:Type} (a:d) (f:d->e) (g:i->e):dW (.inl a) f g=f a:=rfl
theorem aKc {i d e:Type} (b:d) (f:i->e) (g:d->e):dW (.inr b) f g=g b:=rfl
theorem dm {e i d j:Type} (o:e⊕i) (f:e->Option d) (g:i->Option d) (k:d->Option j):bJ (dW o f g) k=dW o (fun a=>bJ (f a) k) fun b=>bJ (g b) k:=by cases o<;>rfl
end
section
open Option renaming some → a6, none → a7
open List renaming append_assoc → ai, map_cons → au, map_nil → aU
open Tryz
open Go.RowKit
theorem rV {P:Program} (w:World) (l q ty elem:TypeId) (g o e s:Nat) (a:Addr) (f u:Nat) (d:Array Value) (t:TypeId) (cs:List Value) (size:Nat)
  (x:P.underlying l=a6 (.slice elem)) (p:(P.info? elem).map (·.size)=a6 size)
  (y:w.heap[g]? =a6 (.cells d t (0,0))) (z:cs.length=Nat.min f e*size)
  (A: ∀j v,cs[j]? =a6 v->w.cell? (a.add j)=a6 v) (B:o+cs.length<=d.size) (D: ∀v∈cs,v.oneCell'=true):
  (Builtin.copy_ #[l,q] ty #[.slice (a6 ⟨g,o,a7⟩) e s,.slice (a6 a) f u]).run P w=
   .ok (goInt (Nat.min f e)) (w.setRow g (d.toList.take o++cs++d.toList.drop (o+cs.length)).toArray):=by
 have hl:=run_loadCells_list (P:=P) w a cs A;have E:=run_storeCells_at P g o t cs 0 d w y (by simpa using B) D;cases hq:P.info? elem with
 |none=>simp[hq]at p
 |some i=>
  have G:i.size=size:=by simpa [hq] using p
  rw[z]at hl;simp[Builtin.copy_,run_underlying x,Builtin.lenOf,Builtin.firstCells,sizeOf,typeInfo,hq,G,hl,E]
theorem H9 {P:Program} (w:World) {ops:Array Oper} {e:List Oper} {o:Oper} {a:Act} {Q:Exit->Act->World->Prop} (g:o.guard=a7) (d s:Operand) (t t':TypeId)
  (i:o.op=.call {callee:=.builtin .copy,args:= #[d,s],argTypes:= #[t,t']}) (v u:Value) (hd:a.eval d=v) (j:a.eval s=u) {f:Value} {w':World}
  (hr:(Builtin.copy_ #[t,t'] o.type #[v,u]).run P w=.ok f w') (h:wpList P ops Q e (a.put o.dst f) w'):wpList P ops Q (o::e) a w:=
 wpList_plain g fun _ l=>by
  unfold Oper.wp execOp;simp only[i,resolve,invoke,builtin,Sem.run_bind,Sem.run_pure,Result.andThen_ok,List.map_toArray,au,aU,hd,j,hr];exact l _ _ h
theorem Pn {P:Program} {ops:Array Oper} {o:Oper} {a:Act} {w:World} {K:Act->World->Prop} {Q:Exit->Act->World->Prop} {E:Prop}
  (i:o.guard=a7) (d x:Operand) (e f:TypeId) (j:o.op=Op.call {callee:=Callee.builtin Builtin.copy,args:= #[d,x],argTypes:= #[e,f]})
  (v u:Value) (hd:a.eval d=v) (hx:a.eval x=u) {g:Value} {w':World} (hr:(Builtin.copy_ #[e,f] o.type #[v,u]).run P w=.ok g w') (l:K (a.put o.dst g) w'):
  if Region.wanted o (yielded ops a.tmps)=true then Oper.wp P o a w K Q else E:=by
 have p:Region.wanted o (yielded ops a.tmps)=true:=by simp[Region.wanted,i]
 rw[am p];unfold Oper.wp;simp[execOp,j,resolve,invoke,builtin,hd,hx,hr,Result.andThen];exact l
theorem MC:(prog.info? 41).map (·.size)=a6 2:=by kernel_rfl
theorem azp:(prog.info? 41).map (fun i=>(i.size,i.bytes,i.zero.map (·.cells.size)))=a6 (2,32,a6 2):=by kernel_rfl
theorem atE: ∃d z,prog.info? 41=a6 d/\d.zero=a6 z/\d.size=2/\d.bytes=32/\z.cells.size=2:=by
 have h:=azp;cases hq:prog.info? 41 with
 |none=>simp[hq]at h
 |some i=>
  simp only[hq,Option.map_some,Option.some.injEq,Prod.mk.injEq,Option.map_eq_some_iff]at h;obtain⟨e,f,z,g,j⟩:=h;exact⟨i,z,rfl,g,e,f,j⟩
theorem aGg (w:World):(Go.sizeOf 41).run prog w=.ok 2 w:=by
 cases hq:prog.info? 41 with
 |none=>have:=MC;simp[hq]at this
 |some i=>have:=MC;simp[hq]at this;simp[sizeOf,typeInfo,hq,this]
theorem atH (g n c i l c2:Nat) (f:Array Value) (o e2:TypeId) (q s:Value) (I:List Value) (w:World) (hi:i<n) (ao:n+1<=c) (hc:c<=9223372036854775807) (J:w.heap[g]? =a6 (.cells f o (0,0))) (X:f.size=c*2)
  (K:w.heap[l]? =a6 (.cells (q::s::I).toArray e2 (0,0))) (Y:g≠l) (ae: ∀v∈f.toList.take (n*2),v.oneCell'=true) (h1:q.oneCell'=true) (h2:s.oneCell'=true):
  Calls prog 37 #[.slice (a6 ⟨g,0,a7⟩) n c,.int .i64 (i:Int),.slice (a6 ⟨l,0,a7⟩) 1 c2] w fun e w'=>
   e=.returned (.slice (a6 ⟨g,0,a7⟩) (n+1) c)/\ ∃R:Array Value,w.grownBy w' (a6 g)/\w'.heap[g]? =a6 (.cells R o (0,0))/\R.size=c*2/\
    R.toList.take ((n+1)*2)=(f.toList.take (n*2)).take (i*2)++[q,s]++(f.toList.take (n*2)).drop (i*2):=by
 have av: ¬((1:Int)=0):=by omega
 have aw: ¬((i:Int)=(n:Int)):=by omega
 have ax:IntKind.i64.wrap ((i:Int)+1)=(i:Int)+1:=by rw[IntKind.wrap_i64];omega
 have ay:IntKind.i64.wrap ((n:Int)+1)=(n:Int)+1:=by rw[IntKind.wrap_i64];omega
 have az: ¬((c:Int)<(n:Int)+1):=by omega
 have aA:(0:Int)<=(i:Int)+1:=by omega
 have aB:i<=n:=by omega
 have aF:((i:Int)+1).toNat=i+1:=by omega
 have aG:((n:Int)+1).toNat=n+1:=by omega
 have aH: ¬(c=i+1):=by omega
 have aI:(i:Int)<=(n:Int)+1:=by omega
 have aJ: ¬(c=i):=by omega
 have af: ∀N O,(callFunc 65 #[.slice (a6 ⟨l,0,a7⟩) 1 c2,.slice (a6 ⟨g,(i+1)*2,a7⟩) N O]).run prog w=.ok (.value (.bool false)) w:=fun N O=>by
  rw[run_callFunc_extern func65 (by kernel_rfl) (by kernel_rfl) (by kernel_rfl) (e:=Extern.SlicesOverlaps.overlaps #[22,22] #[4]) (by kernel_rfl),
   Lib.run_overlaps_apart w 22 4 41 underlying22 2 aGg ⟨l,0,a7⟩ ⟨g,(i+1)*2,a7⟩ 1 c2 N O (fun h=>Y h.symm) e2 o (q::s::I).toArray.size f.size (by simp[World.shape?,K]) (by simp[World.shape?,J]) (by omega) (by simp[World.frozen?,K]) (by simp[World.frozen?,K])]
  rfl
 have z:f.toList.length=c*2:=by simpa using X
 obtain⟨cs,A⟩: ∃cs,cs=(f.toList.take (n*2)).drop (i*2):=⟨_,rfl⟩;have B:cs.length=(n-i)*2:=by rw[A];simp[z];omega
 obtain⟨d,D⟩: ∃d:Array Value,d=(f.toList.take ((i+1)*2)++cs++f.toList.drop ((i+1)*2+cs.length)).toArray:=⟨_,rfl⟩;have S:d.size=c*2:=by rw[D];simp[z,B];omega
 have Z: ∀u x U,(Builtin.copy_ #[22,22] u #[.slice (a6 ⟨g,(i+1)*2,a7⟩) (n-i) x,.slice (a6 ⟨g,i*2,a7⟩) (n+1-i) U]).run prog w.drew=.ok (goInt (Nat.min (n+1-i) (n-i))) (w.drew.setRow g d):=fun u x U=>by
  rw[D];refine rV w.drew _ _ u 41 g ((i+1)*2) (n-i) x ⟨g,i*2,a7⟩ (n+1-i) U f o cs 2 underlying22 MC J ?_ ?_ ?_ ?_
  .rw[B,show Nat.min (n+1-i) (n-i)=n-i from by simp only[Nat.min_def];split<;>omega]
  .intro j v y;rw[Addr.add_lit,cell_of_row w.drew g (i*2+j) f o (0,0) J];rw[A,List.getElem?_drop,List.getElem?_take]at y;split at y
   .simpa using y
   .cases y
  .rw[B,X];omega
  .intro v L;exact ae v (List.mem_of_mem_drop (A▸L))
 obtain⟨p,M⟩: ∃p:Array Value,p=(d.toList.take (i*2)++[q,s]++d.toList.drop (i*2+2)).toArray:=⟨_,rfl⟩;have ag: ∀W:World,W.heap[g]? =a6 (.cells d o (0,0))->W.heap[l]? =a6 (.cells (q::s::I).toArray e2 (0,0))-> ∀u x,(Builtin.copy_ #[22,22] u #[.slice (a6 ⟨g,i*2,a7⟩) (n+1-i) x,.slice (a6 ⟨l,0,a7⟩) 1 c2]).run prog W=.ok (goInt (Nat.min 1 (n+1-i))) (W.setRow g p):=fun W E ah u x=>by
  rw[M];refine rV W _ _ u 41 g (i*2) (n+1-i) x ⟨l,0,a7⟩ 1 c2 d o [q,s] 2 underlying22 MC E ?_ ?_ ?_ ?_
  .rw[show Nat.min 1 (n+1-i)=1 from by simp only[Nat.min_def];split<;>omega];rfl
  .intro j v y;rw[Addr.add_lit,cell_of_row W l (0+j) _ e2 (0,0) ah,<-y]
   match j with
   |0=>rfl
   |1=>rfl
   |j+2=>simp at y
  .rw[S];simp;omega
  .intro v L;simp at L;rcases L with rfl|rfl<;>assumption
 have V:(w.drew.setRow g d).heap[g]? =a6 (.cells d o (0,0)):=setRow_heap w.drew g f d o _ J;have ab:(w.drew.setRow g d).heap[l]? =a6 (.cells (q::s::I).toArray e2 (0,0)):=(setRow_other w.drew g l d (fun e=>Y e.symm)).trans K;obtain⟨G,E⟩: ∃G,G=w.drew.setRow g d:=⟨_,rfl⟩;rw[<-E]at Z V ab;have aj:p.size=c*2:=by
  have:d.toList.length=c*2:=by simpa using S
  rw[M];simp[this];omega
 have ak:p.toList.take ((n+1)*2)=(f.toList.take (n*2)).take (i*2)++[q,s]++(f.toList.take (n*2)).drop (i*2):=by
  have e1:d.toList.take (i*2)=(f.toList.take (n*2)).take (i*2):=by
   rw[D,List.toList_toArray,ai,List.take_append_of_le_length (by simp[z];omega),List.take_take,List.take_take,show min (i*2) ((i+1)*2)=i*2 by omega,show min (i*2) (n*2)=i*2 by omega]
  have e2:d.toList.drop (i*2+2)=cs++f.toList.drop ((i+1)*2+cs.length):=by
   rw[D,List.toList_toArray,ai];exact List.drop_left' (by simp[z];omega)
  rw[M,List.toList_toArray,e1,e2,<-ai,List.take_left' (by simp[z,B];omega),A]
 have al:(G.setRow g p).heap[g]? =a6 (.cells p o (0,0)):=setRow_heap G g d p o _ V;have an:w.grownBy (G.setRow g p) (a6 g):=by
  rw[E];refine⟨rfl,rfl,rfl,by simp[World.setRow],fun k _ hk=> ?_⟩;have ad:k≠g:=fun e=>hk (by rw[e]);rw[setRow_other _ g k _ ad,setRow_other _ g k _ ad];rfl
 clear E D M A B S z;have mixed:prog.follows .mixedOrders=true:=by kernel_rfl
 go_enter func37,ntmps37
 go_wp2_with (simp only[af])
 go_region_law_o (refine Pn rfl _ _ 22 22 rfl _ _ (by simp[Act.eval,Act.put]) (by simp[Act.eval,Act.put]) (Z _ _ _) ?_)
 go_wp2_with (at_builtin;refine H9 _ rfl _ _ 22 22 rfl _ _ rfl rfl (ag _ V ab _ _) ?_)
 go_ret
 exact⟨rfl,p,an,al,aj,ak⟩
theorem atG (g n c i q c2:Nat) (d:Array Value) (B e2:TypeId) (y A:Value) (Z:List Value) (w:World) (hi:i<n) (aX:n<=c) (aG:c<n+1) (hn:n<=2199023255552) (hg:w.heap[g]? =a6 (.cells d B (0,0))) (aH:d.size=c*2)
  (ag:w.heap[q]? =a6 (.cells (y::A::Z).toArray e2 (0,0))) (aY:g≠q) (aI: ∀v∈d.toList.take (n*2),v.oneCell'=true) (h1:y.oneCell'=true) (h2:A.oneCell'=true):
  Calls prog 37 #[.slice (a6 ⟨g,0,a7⟩) n c,.int .i64 (i:Int),.slice (a6 ⟨q,0,a7⟩) 1 c2] w fun e w'=>
   ∃(G:Nat) (R:Array Value),e=.returned (.slice (a6 ⟨w.heap.size,0,a7⟩) (n+1) G)/\n+1<=G/\G<=maxLen/\w.grownBy w' a7/\w'.heap[w.heap.size]? =a6 (.cells R 41 (0,0))/\R.size=G*2/\
    R.toList.take ((n+1)*2)=(d.toList.take (n*2)).take (i*2)++[y,A]++(d.toList.take (n*2)).drop (i*2):=by
 have aZ: ¬((1:Int)=0):=by omega
 have bd: ¬((i:Int)=(n:Int)):=by omega
 have bf:IntKind.i64.wrap ((i:Int)+1)=(i:Int)+1:=by rw[IntKind.wrap_i64];omega
 have bg:IntKind.i64.wrap ((n:Int)+1)=(n:Int)+1:=by rw[IntKind.wrap_i64];omega
 have bi:(c:Int)<(n:Int)+1:=by omega
 have bn:(0:Int)<=(i:Int)+1:=by omega
 have bt:i<=n:=by omega
 have bu:((i:Int)+1).toNat=i+1:=by omega
 have bz:(i:Int)<=(n:Int):=by omega
 have bC: ¬(c=i):=by omega
 have ah:(n:Int)+1-(i:Int)=((n+1-i:Nat):Int):=by omega
 have ab:i+(n+1-i)=n+1:=by omega
 have D:d.toList.length=c*2:=by simpa using aH
 obtain⟨cs,K⟩: ∃cs,cs=(d.toList.take (n*2)).drop (i*2):=⟨_,rfl⟩;have L:cs.length=(n-i)*2:=by rw[K];simp[D];omega
 obtain⟨i0,z,aj,ak,al,ad,an⟩:=atE;have ao:(Builtin.firstCells i0.size i (.slice (a6 ⟨g,0,a7⟩) i c)).run prog w.drew=.ok (d.toList.take (i*2)).toArray w.drew:=by
  rw[al];exact run_firstCells_some w.drew 2 i ⟨g,0,a7⟩ i c (d.toList.take (i*2)) (by simp[D];omega) (fun j v o=>by
   rw[Addr.add_lit,cell_of_row w.drew g (0+j) d B (0,0) hg,Nat.zero_add];rw[List.getElem?_take]at o;split at o
   .simpa using o
   .cases o)
 have M: ∀s,(Builtin.append_ #[22,3] s #[.slice (a6 ⟨g,0,a7⟩) i c,.int .i64 ((n:Int)+1-(i:Int))]).run prog w=
   .ok (.slice (a6 ⟨w.heap.size,0,a7⟩) (n+1) (grownCap w (n+1) c 41)) (w.drew.alloc (.cells ((d.toList.take (i*2)).toArray++Builtin.zeroCells z.cells (n+1-i)++Builtin.zeroCells z.cells (grownCap w (n+1) c 41-(n+1))) 41)):=fun s=>by
  have h:=Lib.run_append_grow_zeros w 22 3 s 41 i0 z .i64 .i64 underlying22 underlying3 aj ak (a6 ⟨g,0,a7⟩) i c (d.toList.take (i*2)) ao (n+1-i) (by omega) (by omega) (by omega) (by omega) (by rw[ad];omega) (by rw[ad,ab];exact growslice_fits aG (by omega));rw[ab]at h;rw[ah];exact h
 obtain⟨G,O⟩: ∃G,G=grownCap w (n+1) c 41:=⟨_,rfl⟩;obtain⟨p,S⟩: ∃p:Array Value,p=(d.toList.take (i*2)).toArray++Builtin.zeroCells z.cells (n+1-i)++Builtin.zeroCells z.cells (G-(n+1)):=⟨_,rfl⟩;rw[<-O]at M;rw[<-S]at M;have aJ:n+1<=G:=by rw[O];exact grownCap_ge w _ _ _
 have av:G<=maxLen:=by rw[O];exact grownCap_le_maxLen w (n+1) c 41 (by unfold maxLen;omega)
 have bD:G<=9223372036854775807:=by unfold maxLen at av;omega
 have ae:p.size=G*2:=by
  rw[S];simp[size_zeroCells,an,D];omega
 have aw:p.toList.take (i*2)=d.toList.take (i*2):=by
  rw[S,Array.toList_append,Array.toList_append,ai,List.toList_toArray];exact List.take_left' (by simp[D];omega)
 have ax:g<w.heap.size:=(Array.getElem?_eq_some_iff.1 hg).1;have ay:q<w.heap.size:=(Array.getElem?_eq_some_iff.1 ag).1;obtain⟨N,U⟩: ∃N,N=w.heap.size:=⟨_,rfl⟩;rw[<-U]at M;obtain⟨u,x⟩: ∃u,u=w.drew.alloc (.cells p 41):=⟨_,rfl⟩;rw[<-x]at M;have a1:u.heap[N]? =a6 (.cells p 41 (0,0)):=by rw[x,U];exact heap_alloc_new w.drew _
 have a2:u.heap[q]? =a6 (.cells (y::A::Z).toArray e2 (0,0)):=by rw[x];exact(Below.heap_alloc w.drew _ q ay).trans ag
 have a3:u.heap[g]? =a6 (.cells d B (0,0)):=by rw[x];exact(Below.heap_alloc w.drew _ g ax).trans hg
 obtain⟨f,V⟩: ∃f:Array Value,f=(p.toList.take (i*2)++[y,A]++p.toList.drop (i*2+2)).toArray:=⟨_,rfl⟩;have az:p.toList.length=G*2:=by simpa using ae
 have af:f.size=G*2:=by rw[V];simp[az];omega
 have aA: ∀W:World,W.heap[N]? =a6 (.cells p 41 (0,0))->W.heap[q]? =a6 (.cells (y::A::Z).toArray e2 (0,0))-> ∀s E,(Builtin.copy_ #[22,22] s #[.slice (a6 ⟨N,i*2,a7⟩) (n+1-i) E,.slice (a6 ⟨q,0,a7⟩) 1 c2]).run prog W=.ok (goInt (Nat.min 1 (n+1-i))) (W.setRow N f):=fun W x I s E=>by
  rw[V];refine rV W _ _ s 41 N (i*2) (n+1-i) E ⟨q,0,a7⟩ 1 c2 p 41 [y,A] 2 underlying22 MC x ?_ ?_ ?_ ?_
  .rw[show Nat.min 1 (n+1-i)=1 from by simp only[Nat.min_def];split<;>omega];rfl
  .intro j v o;rw[Addr.add_lit,cell_of_row W q (0+j) _ e2 (0,0) I,<-o]
   match j with
   |0=>rfl
   |1=>rfl
   |j+2=>simp at o
  .rw[ae];simp;omega
  .intro v X;simp at X;rcases X with rfl|rfl<;>assumption
 obtain⟨l,Y⟩: ∃l:Array Value,l=(f.toList.take ((i+1)*2)++cs++f.toList.drop ((i+1)*2+cs.length)).toArray:=⟨_,rfl⟩;have aK: ∀W:World,W.heap[N]? =a6 (.cells f 41 (0,0))->W.heap[g]? =a6 (.cells d B (0,0))-> ∀s E sc,(Builtin.copy_ #[22,22] s #[.slice (a6 ⟨N,(i+1)*2,a7⟩) (n-i) E,.slice (a6 ⟨g,i*2,a7⟩) (n-i) sc]).run prog W=.ok (goInt (Nat.min (n-i) (n-i))) (W.setRow N l):=fun W x I s E sc=>by
  rw[Y];refine rV W _ _ s 41 N ((i+1)*2) (n-i) E ⟨g,i*2,a7⟩ (n-i) sc f 41 cs 2 underlying22 MC x ?_ ?_ ?_ ?_
  .rw[L,show Nat.min (n-i) (n-i)=n-i from by simp only[Nat.min_def];split<;>omega]
  .intro j v o;rw[Addr.add_lit,cell_of_row W g (i*2+j) d B (0,0) I];rw[K,List.getElem?_drop,List.getElem?_take]at o;split at o
   .simpa using o
   .cases o
  .rw[L,af];omega
  .intro v X;exact aI v (List.mem_of_mem_drop (K▸X))
 have aO:g≠N:=by omega
 have bF:q≠N:=by omega
 have b1:(u.setRow N f).heap[N]? =a6 (.cells f 41 (0,0)):=setRow_heap u N p f _ _ a1;have b2:(u.setRow N f).heap[g]? =a6 (.cells d B (0,0)):=(setRow_other u N g f aO).trans a3;obtain⟨J,I⟩: ∃J,J=u.setRow N f:=⟨_,rfl⟩;have aB:=aA u a1 a2;clear aA;rw[<-I]at aB b1 b2;have aP:l.size=G*2:=by
  have:f.toList.length=G*2:=by simpa using af
  rw[Y];simp[this,L];omega
 have aQ:l.toList.take ((n+1)*2)=(d.toList.take (n*2)).take (i*2)++[y,A]++(d.toList.take (n*2)).drop (i*2):=by
  have B:(d.toList.take (n*2)).take (i*2)=d.toList.take (i*2):=by rw[List.take_take,show min (i*2) (n*2)=i*2 by omega]
  have e1:f.toList.take ((i+1)*2)=d.toList.take (i*2)++[y,A]:=by
   rw[V,List.toList_toArray,aw];exact List.take_left' (by simp[D];omega)
  rw[Y,List.toList_toArray,e1,B,List.take_left' (by simp[D,L];omega),K]
 have aS: ∀W:World,W.heap[N]? =a6 (.cells f 41 (0,0))->(W.setRow N l).heap[N]? =a6 (.cells l 41 (0,0)):=fun W hW=>setRow_heap W N f l _ _ hW;have aV:w.grownBy (J.drew.setRow N l) a7:=by
  rw[I,x];refine⟨rfl,rfl,rfl,by simp[World.setRow,World.alloc],fun k hk _=> ?_⟩;have aF:k≠N:=by omega
  rw[setRow_other _ N k _ aF];show(((w.drew.alloc _).setRow N f).heap[k]?)=_;rw[setRow_other _ N k _ aF];exact Below.heap_alloc w.drew _ k hk
 have aW:(J.drew.setRow N l).heap[N]? =a6 (.cells l 41 (0,0)):=setRow_heap J.drew N f l _ _ b1;have bG: ¬(G=i):=by omega
 have bH: ¬(G=i+1):=by omega
 rw[<-U];clear I x V Y K L af D az aw ae S O U aS ao ah ab aj ak al ad an a3 ax ay;have mixed:prog.follows .mixedOrders=true:=by kernel_rfl
 go_enter func37,ntmps37
 go_wp2_with (first
  |(at_builtin;refine Lib.wpList_append_run _ rfl _ _ _ _ rfl _ _ rfl rfl _ _ (M _) ?_)
  |(at_builtin;refine H9 _ rfl _ _ 22 22 rfl _ _ rfl rfl (aB _ _) ?_))
 go_region_law_o (refine Pn rfl _ _ 22 22 rfl (.slice (a6 ⟨N,(i+1)*2,a7⟩) (n-i) (G-(i+1))) (.slice (a6 ⟨g,i*2,a7⟩) (n-i) (c-i)) (by simp[Act.eval,Act.put]) (by simp[Act.eval,Act.put]) (aK J.drew b1 b2 3 (G-(i+1)) (c-i)) ?_)
 go_wp2
 go_ret
 exact⟨G,l,rfl,aJ,av,aV,aW,aP,aQ⟩
end
section
open Option renaming some → a6, none → a7
open List renaming drop_eq_nil_of_le → bi, take_of_length_le → bD
open Nat renaming le_refl → ae
open Tryz
open Go.RowKit
theorem azq (w:World) (B:Nat) (x:TypeId) (v:Value) (n l c2:Nat) (o:List Value) (i j:Value) (V:B<=w.heap.size) (q:w.ownsRow B x 2 v n o) (hn:n<=2199023255552) (W:i.oneCell'=true) (h2:j.oneCell'=true)
  (X:gW w l 0 [i,j]):
  Calls prog aop #[v,.int .i64 (n:Int),.slice (a6 ⟨l,0,a7⟩) 1 c2] w fun e w'=> ∃d f,e=.returned d/\w'.ownsRow B f 2 d (n+1) (o++[i,j])/\w.grownBy w' v.ownBlock/\(d.ownBlock=v.ownBlock\/ ∃k,d.ownBlock=a6 k/\w.heap.size<=k)/\d.oneCell'=true:=by
 obtain⟨i0,z,y,A,D,E,G⟩:=atE;have I: ∀u,∃d w' f,(Builtin.append_ #[22,22] u #[v,.slice (a6 ⟨l,0,a7⟩) 1 c2]).run prog w=.ok d w'/\w'.ownsRow B f 2 d (n+1) (o++[i,j])/\w.grownBy w' v.ownBlock/\(d.ownBlock=v.ownBlock\/d.ownBlock=a6 w.heap.size)/\d.oneCell'=true/\(f=x\/f=41):=fun u=>
  Ie underlying22 y A D E G (by decide) q (a:=a6 ⟨l,0,a7⟩) (m:=1) (cp:=c2) (news:=[i,j]) rfl (by simp[W,h2]) (.inr ⟨l,0,rfl,X⟩) (by unfold maxLen;omega) (by omega) V u
 obtain⟨d,w',f,J,K,L,M,N,_⟩:=I 22;have af: ¬((1:Int)=0):=by omega
 have mixed:prog.follows .mixedOrders=true:=by kernel_rfl
 have O: ∃p f,Ending.returned d=.returned p/\w'.ownsRow B f 2 p (n+1) (o++[i,j])/\w.grownBy w' v.ownBlock/\(p.ownBlock=v.ownBlock\/ ∃k,p.ownBlock=a6 k/\w.heap.size<=k)/\p.oneCell'=true:=
  ⟨d,f,rfl,K,L,M.imp (fun h=>h) (fun h=>⟨_,h,ae _⟩),N⟩
 have Y:=show aop=37 from rfl
 rw[Y];generalize S:(fun(e:Ending) (w':World)=> ∃d f,e=.returned d/\w'.ownsRow B f 2 d (n+1) (o++[i,j])/\w.grownBy w' v.ownBlock/\(d.ownBlock=v.ownBlock\/ ∃k,d.ownBlock=a6 k/\w.heap.size<=k)/\d.oneCell'=true)=Post;have s:Post (.returned d) w':=by rw[<-S];exact O
 clear O;obtain⟨U,Z,rfl,ag,ah⟩:=Gh q;have ad:U=a7->n=0/\Z=0:=fun h=>by
  rcases q.2 with ⟨f,e2⟩|⟨g,ai,aj,f,_⟩
  .cases f;exact⟨e2,rfl⟩
  .cases f;cases h
 clear S K L M N I q y A D E G;cases U with
 |none=>
  obtain⟨rfl,rfl⟩:=ad rfl
  go_enter func37,ntmps37
  go_wp2_with (at_builtin;refine Lib.wpList_append_run _ rfl _ _ _ _ rfl _ _ rfl rfl _ _ J ?_)
  first|exact s|(go_ret;exact s)
 |some a=>
  obtain⟨ab,ao,ak⟩:=a
  go_enter func37,ntmps37
  go_wp2_with (at_builtin;refine Lib.wpList_append_run _ rfl _ _ _ _ rfl _ _ rfl rfl _ _ J ?_)
  all_goals first|exact s|(go_ret;exact s)
theorem Jp {P:Program} {f:FuncId} {fn:Func} {d:Code} (e:(fn.name== "runtime.NumGoroutine")=false) (hf:P.funcs[f]? =a6 fn) (hb:fn.body=a6 d) (args:Array Value) (w:World):(callFunc f args).run P w=.ok (.enter f args) w:=by
 simp_all [callFunc]
theorem aor:Ji prog aop:=by
 intro w B l v n i d s u f j E I af J o K hi W ag x y z X ah ai;refine⟨Jp (fn:=f37) (by kernel_rfl) (by kernel_rfl) (show _=a6 ((f37.body).getD .skip) by kernel_rfl) _ _, ?_⟩;have Y:gW w d 0 [f,j]:=by
  have:=(gW.of_block_cells z).sub 0 2;simpa using this
 by_cases p:i=n
 .subst p;refine(azq w B l v i d s u f j J o K x y Y).mono ?_;rintro e L ⟨Z,e1,g1,g2,g3,g4,g5⟩;refine⟨Z,e1,g1, ?_,g3,g4,g5⟩;have hl:=o.1;rw[bD (by omega),bi (by omega),List.append_nil];exact g2
 .have p:i<n:=by omega
  rcases o.2 with ⟨rfl,e⟩|⟨g,q,A,rfl,ab,M,ad,N,O,D⟩
  .omega
  .have S:g≠d:=fun e=>X (by rw[e];rfl);have U: ∀v∈A.toList.take (n*2),v.oneCell'=true:=by rw[D];exact W
   have V:(u.take (i*2)++[f,j]++u.drop (i*2)).length=(n+1)*2:=by
    have:=o.1;simp;omega
   by_cases hroom:n+1<=q
   .refine(atH g n q i d s A l E f j I w p hroom (by unfold maxLen at N;omega) M O z S U x y).mono ?_;rintro e L ⟨rfl,R,g1,g2,g3,g4⟩;refine⟨_,l,rfl,⟨V,.inr ⟨g,q,R,rfl,ab,g2,hroom,N,g3, ?_⟩⟩,g1,.inl rfl,rfl⟩;rw[g4,D]
   .refine(atG g n q i d s A l E f j I w p ad (by omega) K M O z S U x y).mono ?_;rintro e L ⟨G,R,rfl,g1,g2,g3,g4,g5,g6⟩;refine⟨_,41,rfl,⟨V,.inr ⟨w.heap.size,G,R,rfl,J,g4,g1,g2,g5, ?_⟩⟩,⟨g3.os,g3.tape,g3.output,g3.size,fun k hk _=>g3.block k hk (by simp)⟩,.inr ⟨_,rfl,ae _⟩,rfl⟩;rw[g6,D]
end
section
open Option renaming some → a6, none → a7
open Tryz
open Go.Shelf
def D6:Go.Shelf.Ren:=⟨fun|6=>26|15=>46|14=>45|28=>81|29=>82|20=>73|21=>74|22=>75|23=>76|24=>77|25=>78|26=>79|27=>80|46=>108|47=>109|48=>110|49=>111|50=>112|57=>149|n=>n,fun|22=>28|24=>32|25=>68|3=>3|39=>96|0=>0|53=>120|55=>122|4=>4|46=>114|45=>113|50=>80|5=>5|9=>9|66=>140|70=>144|76=>162|77=>146|n=>n,fun|n=>n⟩
theorem azD:Go.Proofs.SlLaysF0.n6 prog D6:={
 mixed:=by kernel_rfl
 f6:=⟨Tryz.f26.name,by decide,func26.trans (congrArg a6 (by kernel_rfl))⟩
 f14:=⟨f45.name,by decide,func45.trans (congrArg a6 (by kernel_rfl))⟩
 f15:=func46.trans (congrArg a6 (by kernel_rfl))
 f20:=⟨f73.name,by decide,func73.trans (congrArg a6 (by kernel_rfl))⟩
 f21:=⟨f74.name,by decide,func74.trans (congrArg a6 (by kernel_rfl))⟩
 f22:=⟨f75.name,by decide,func75.trans (congrArg a6 (by kernel_rfl))⟩
 f23:=⟨f76.name,by decide,func76.trans (congrArg a6 (by kernel_rfl))⟩
 f24:=⟨f77.name,by decide,func77.trans (congrArg a6 (by kernel_rfl))⟩
 f25:=⟨f78.name,by decide,func78.trans (congrArg a6 (by kernel_rfl))⟩
 f26:=⟨f79.name,by decide,func79.trans (congrArg a6 (by kernel_rfl))⟩
 f27:=⟨f80.name,by decide,func80.trans (congrArg a6 (by kernel_rfl))⟩
 f28:=func81.trans (congrArg a6 (by kernel_rfl))
 f29:=func82.trans (congrArg a6 (by kernel_rfl))
 f46:=⟨f108.name,by decide,func108.trans (congrArg a6 (by kernel_rfl))⟩
 f47:=func109.trans (congrArg a6 (by kernel_rfl))
 f48:=func110.trans (congrArg a6 (by kernel_rfl))
 f49:=⟨f111.name,by decide,func111.trans (congrArg a6 (by kernel_rfl))⟩
 f50:=⟨f112.name,by decide,func112.trans (congrArg a6 (by kernel_rfl))⟩
 f57:=⟨f149.name,by decide,func149.trans (congrArg a6 (by kernel_rfl))⟩
 t0:=underlying0
 a0:=isAgg0
 z0:=sizeOf0
 v0:=zeroValue0
 t3:=underlying3
 a3:=isAgg3
 z3:=sizeOf3
 v3:=zeroValue3
 t4:=underlying4
 a4:=isAgg4
 z4:=sizeOf4
 v4:=zeroValue4
 t5:=underlying5
 a5:=isAgg5
 z5:=sizeOf5
 v5:=zeroValue5
 t9:=underlying9
 a9:=isAgg9
 z9:=sizeOf9
 v9:=zeroValue9
 t22:=underlying28
 a22:=isAgg28
 z22:=sizeOf28
 v22:=zeroValue28
 t25:=underlying68
 a25:=isAgg68
 z25:=sizeOf68
 v25:=zeroValue68
 t39:=underlying96
 a39:=isAgg96
 z39:=sizeOf96
 v39:=zeroValue96
 t45:=underlying113
 a45:=isAgg113
 z45:=sizeOf113
 v45:=zeroValue113
 t46:=underlying114
 a46:=isAgg114
 z46:=sizeOf114
 v46:=zeroValue114
 t50:=underlying80
 a50:=isAgg80
 z50:=sizeOf80
 v50:=zeroValue80
 t53:=underlying120
 a53:=isAgg120
 z53:=sizeOf120
 v53:=zeroValue120
 t55:=underlying122
 a55:=isAgg122
 z55:=sizeOf122
 v55:=zeroValue122
 t66:=underlying140
 a66:=isAgg140
 z66:=sizeOf140
 v66:=zeroValue140
 t70:=underlying144
 a70:=isAgg144
 z70:=sizeOf144
 v70:=zeroValue144
 t76:=underlying162
 a76:=isAgg162
 z76:=sizeOf162
 v76:=zeroValue162
 t77:=underlying146
 a77:=isAgg146
 z77:=sizeOf146
 v77:=zeroValue146}
end
section
open Option renaming some → a6, none → a7
open Bool renaming and_eq_true → af
open Tryz
open Go.RowKit Go.Shelf Go.Lib Go.Sort
def N7 (x:wZ.den):List Value:=[.int .i64 x.1,.int .i64 x.2.1,.int .i64 x.2.2.1,.bool x.2.2.2.1]
theorem ax9 (x:wZ.den): ∀v∈N7 x,v.oneCell'=true:=by
 intro v d;simp[N7]at d;rcases d with rfl|rfl|rfl|rfl<;>rfl
theorem flat_get: ∀(xs:List wZ.den) (j:Nat) (h:j/4<xs.length),(xs.flatMap N7)[j]? =(N7 xs[j/4])[j %4]?
 |[],j,h=>by simp at h
 |x::xs,j,h=>by
  rw[List.flatMap_cons];by_cases hj:j<4
  .rw[List.getElem?_append_left (by simpa [N7] using hj)];have d:j/4=0:=by omega
   have e:j %4=j:=by omega
   simp only[d,e,List.getElem_cons_zero]
  .rw[List.getElem?_append_right (by simp[N7];omega)];have d:j/4=(j-4)/4+1:=by omega
   have e:j %4=(j-4) %4:=by omega
   have f:(j-4)/4<xs.length:=by simp at h;omega
   have g:=flat_get xs (j-4) f;simp only[show(N7 x).length=4 from rfl,g,d,e,List.getElem_cons_succ]
def frm (x:wZ.den):Int:=x.2.1
theorem KP: ∀(xs:List wZ.den) (n:Int),afj n xs=true-> ∀(i:Nat) (hi:i<xs.length),n<=frm xs[i]/\frm xs[i]<=4611686018427387904/\ ∀(j:Nat) (d:j<xs.length),i<j->frm xs[i]<frm xs[j]
 |[],_,_,i,hi=>by simp at hi
 |x::xs,n,h,i,hi=>by
  simp only[afj,af,leI,decide_eq_true_eq]at h;obtain⟨e,f,l⟩:=h;have e:n<=frm x:=e;have f:frm x<=4611686018427387904:=f;have g:=KP xs (frm x+1) l;cases i with
  |zero=>
   refine⟨e,f,fun j d o=> ?_⟩;obtain⟨j,rfl⟩: ∃k,j=k+1:=⟨j-1,by omega⟩;have:=(g j (by simpa using d)).1;simp only[List.getElem_cons_zero,List.getElem_cons_succ];omega
  |succ i=>
   obtain⟨g1,g2,g3⟩:=g i (by simpa using hi);refine⟨by simp only[List.getElem_cons_succ];omega,g2,fun j d o=> ?_⟩;obtain⟨j,rfl⟩: ∃k,j=k+1:=⟨j-1,by omega⟩;exact g3 j (by simpa using d) (by omega)
section
variable (m:Nat) (xs:List wZ.den) (hl:xs.length=m+1)
def agl (i:Fin (m+1)):List Value:=N7 (xs[i.val]'(by omega))
def Yw (i j:Fin (m+1)):Int:=frm (xs[i.val]'(by omega))-frm (xs[j.val]'(by omega))
variable (hr:ab8 xs=true)
include hr in
theorem avd (i j:Fin (m+1)):ltOf (Yw m xs hl) i j=decide (i.val<j.val):=by
 unfold ltOf Yw;have d:=(KP xs 0 hr i.val (by omega)).2.2 j.val (by omega);have f:=(KP xs 0 hr j.val (by omega)).2.2 i.val (by omega);by_cases h:i.val<j.val
 .have:=d h;simp[h];omega
 .by_cases h':j.val<i.val
  .have:=f h';simp[h];omega
  .have e:i=j:=Fin.ext (by omega);subst e;simp
include hr in
theorem aDb:SWO (ltOf (Yw m xs hl))where
 irrefl x:=by rw[avd m xs hl hr];simp
 trans x y z h1 h2:=by rw[avd m xs hl hr]at*;simp at*;omega
 ntrans x y z h1 h2:=by rw[avd m xs hl hr]at*;simp at*;omega
include hr in
theorem aIA (i j:Fin (m+1)) (W:World):Calls prog CV #[.agg (agl m xs hl i).toArray,.agg (agl m xs hl j).toArray] W fun e w'=>e=.returned (.int .i64 (Yw m xs hl i j))/\ ∃q l,w'=grow (W.drewN q) l:=by
 have d:=KP xs 0 hr i.val (by omega);have f:=KP xs 0 hr j.val (by omega);unfold agl Yw N7 frm at*;generalize xs[i.val]=x at*;generalize xs[j.val]=y at*;obtain⟨s,o,u,v,z⟩:=x;obtain⟨A,p,B,D,E⟩:=y;have g: ∀x y:Int,0<=x->x<=4611686018427387904->0<=y->y<=4611686018427387904->IntKind.i64.wrap (x-y)=x-y:=fun x y k1 k2 k3 k4=>by rw[IntKind.wrap_i64];omega
 have g:=g o p d.1 d.2.1 f.1 f.2.1;clear d f hr;show Calls prog 27 _ _ _
 go_enter func27,ntmps27
 go_wp2
 go_ret
 exact⟨rfl,0,_,by rw[alloc_eq_grow,alloc_eq_grow,grow_grow];rfl⟩
end
theorem atD:(prog.info? 32).map (·.size)=a6 4:=by kernel_rfl
theorem aGh (w:World):(Go.sizeOf (D6.t 24)).run prog w=.ok 4 w:=by
 show(Go.sizeOf 32).run prog w=_;cases hq:prog.info? 32 with
 |none=>have:=atD;simp[hq]at this
 |some i=>have:=atD;simp[hq]at this;simp[sizeOf,typeInfo,hq,this]
theorem azr (w:World):(isAgg (D6.t 24)).run prog w=.ok true w:=by
 show(isAgg 32).run prog w=_;simp[isAgg,run_underlying underlying32]
theorem afy (m:Nat) (xs:List wZ.den) (f:xs.length=m+1) (hr:ab8 xs=true) (d:Array (Fin (m+1))) (hd:d.toList.Pairwise fun i j=>i.val<=j.val) (u:d.size<4611686018427387904) (w:World) (g cap:Nat) (v:g<w.heap.size) (l:HoldsK (agl m xs f) 4 w g 0 d):
  Calls prog aca #[.slice (a6 ⟨g,0,a7⟩) d.size cap,.func (.func CV) #[] #[]] w fun e w'=>e=.returned (.tuple #[])/\ ∃q os,w'=grow (Sort.ahead w q) os:=by
 have hT: ∀x y,(ltOf (Yw m xs f)) x y=false->(ltOf (Yw m xs f)) y x=false->x=y:=fun x y o p=>by
  rw[avd m xs f hr]at o p;simp at o p;exact Fin.ext (by omega)
 have z:=AnyQ.slices_SortFunc azD 4 (fun w=>azr w) (fun w=>aGh w) (agl m xs f) (fun x=>rfl) (fun x=>ax9 _) (Yw m xs f) (aDb m xs f hr) CV #[] g 0 cap d w
  (enters_of (fn:=Tryz.f27) func27 (by kernel_rfl) (show _=a6 ((Tryz.f27.body).getD .skip) by kernel_rfl))
  (fun _ _ _ _ x y=>aIA m xs f hr x y _) l v u
 refine Calls.mono z ?_;rintro e w' ⟨A,s,q,os,B,D,E⟩;refine⟨A,q,os, ?_⟩;have G: ∀i j:Fin (m+1),i.val<=j.val->(!(ltOf (Yw m xs f)) j i)=true:=fun i j L=>by rw[avd m xs f hr];simp;omega
 have I:Holds id (Sort.ahead w q) g 0 (flatK (agl m xs f) 4 d):=fun j J=>l j J;have K:s=d:=Array.ext' ((sorted_unique_holds (aDb m xs f hr) hT d s B D).trans (List.mergeSort_of_pairwise (hd.imp fun h=>G _ _ h)));rw[E,K];unfold sortWorldK putRowK;rw[putRow_self _ _ _ _ _ I]
theorem apb (J: ∀w,Yd w->Calls prog aca #[.slice a7 0 0,.func (.func CV) #[] #[]] w fun e w'=>e=.returned (.tuple #[])/\w.grownBy w' a7):Jl prog aca CV:=by
 intro w B y v n K xs L hB z M ae hr N;refine⟨Jp (fn:=Tryz.f26) (by kernel_rfl) (by kernel_rfl) (show _=a6 ((Tryz.f26.body).getD .skip) by kernel_rfl) _ _, ?_⟩;subst M;rcases z.2 with ⟨rfl,O⟩|⟨g,f,l,rfl,S,p,U,V,W,E⟩
 .refine(J w L).mono ?_;rintro e w' ⟨X,o⟩;exact⟨X,⟨z.1,.inl ⟨rfl,O⟩⟩,⟨o.os,o.tape,o.output,o.size,fun k hk _=>o.block k hk (by simp)⟩⟩
 .have A:g<w.heap.size:=(Array.getElem?_eq_some_iff.1 p).1;have s: ∀e w',(e=Ending.returned (.tuple #[])/\ ∃q D,w'=grow (Sort.ahead w q) D)->e=.returned (.tuple #[])/\w'.ownsRow B y 4 (.slice (a6 ⟨g,0,a7⟩) xs.length f) xs.length K/\w.grownBy w' (Value.slice (a6 ⟨g,0,a7⟩) xs.length f).ownBlock:=by
   rintro e w' ⟨rfl,q,D,rfl⟩;have Y:(grow (Sort.ahead w q) D).heap[g]? =a6 (.cells l y (0,0)):=(Array.getElem?_append_left A).trans p;exact⟨rfl,⟨z.1,.inr ⟨g,f,l,rfl,S,Y,U,V,W,E⟩⟩,⟨rfl,rfl,rfl,by simp[grow,Sort.ahead],fun k hk _=>Array.getElem?_append_left hk⟩⟩
  cases hm:xs.length with
  |zero=>
   have Z:ab8 [((0:Int),((0:Int),((0:Int),(false,()))))]=true:=rfl;have u:=afy 0 [((0:Int),((0:Int),((0:Int),(false,()))))] rfl Z #[] List.Pairwise.nil (by decide) w g f A (fun j d=>by simp at d);rw[hm]at s;exact Calls.mono u s
  |succ m=>
   have x:(Array.ofFn (fun i:Fin (m+1)=>i)).size=m+1:=by simp
   have ab: ∀j (d:j<(m+1)*4),l[j]? =(N7 (xs[j/4]'(by omega)))[j %4]? :=by
    intro j d;rw[<-flat_get xs j (by omega)];have h6:l.toList.take (xs.length*4)=xs.flatMap N7:=E.trans N;rw[<-h6,List.getElem?_take,hm,am d];simp
   have hH:HoldsK (agl m xs hm) 4 w g 0 (Array.ofFn (fun i:Fin (m+1)=>i)):=by
    intro j d;rw[size_flatK,x]at d;refine⟨?_,by simp[World.frozen?,p]⟩;have G:j/4<m+1:=by omega
    have hd:(Array.ofFn (fun i:Fin (m+1)=>i))[j/4]! =⟨j/4,G⟩:=by
     simp[G]
    rw[get_flatK _ _ _ _ (by rw[x];exact d),Nat.zero_add,cell_of_row w g j l y (0,0) p,ab j d,hd];have I:j %4<(N7 (xs[j/4]'(by omega))).length:=by show _<4;omega
    rw[List.getElem?_eq_getElem I];show a6 _=a6 ((N7 (xs[j/4]'(by omega)))[j %4]!);rw[List.getElem!_eq_getElem?_getD,List.getElem?_eq_getElem I];rfl
   have ad:(Array.ofFn (fun i:Fin (m+1)=>i)).toList.Pairwise fun i j=>i.val<=j.val:=by
    rw[List.pairwise_iff_getElem];intro i j hi d ag;simp only[Array.getElem_toList,Array.getElem_ofFn];omega
   have u:=afy m xs hm hr _ ad (by rw[x];omega) w g f A hH;rw[x]at u;rw[hm]at s;exact Calls.mono u s
end
section
open Option renaming some → a6, none → a7
open Bool renaming and_eq_true → af, not_eq_true → bg
open List renaming mem_cons_of_mem → ak
open Nat renaming le_refl → ae
open Go.RowKit
def TT.allK:TT->Bool
 |.nil=>true
 |.node _ i l r=>i.known&&(l.allK&&r.allK)
theorem TT.allK_at: ∀(T:TT) (t:TypeId),T.allK=true->(T.at t).ty.isSome=true->(T.at t).known=true
 |.nil,t,_,h=>by assumption
 |.node k i l r,t,h,d=>by
  simp only[TT.allK,af]at h;simp only[TT.at]at d ⊢;by_cases e:Nat.beq k t=true
  .simp_all
  .have f:Nat.beq k t=false:=(bg _).mp e;simp only[f,ac]at d ⊢;by_cases e2:Nat.blt t k=true
   .simp only[e2,aa]at d ⊢;exact TT.allK_at l t h.2.1 d
   .have g:Nat.blt t k=false:=(bg _).mp e2;simp only[g,ac]at d ⊢;exact TT.allK_at r t h.2.2 d
def wfD:(t:Ty)->t.den->Prop
 |.unit,_=>True
 |.bool,_=>True
 |.int k,x=>(Lit.int k x).wf=true
 |.str,x=>x.length<=maxLen
 |.list e,xs=>xs.length<=maxLen/\ ∀x∈xs,wfD e x
 |.pair a b,x=>wfD a x.1/\wfD b x.2
section
variable {P:Program} {T:TT} {w:World} {H:Type} {enc:TypeId×Value->H} {spare:Nat->Bool} {held:Bool}
theorem aye {t:TypeId} {k:TK} (h:(P.underlying t).map kT=a6 (a6 k)): ∃d,P.underlying t=a6 d/\kT d=a6 k:=by
 simp_all
theorem Ij (hT:TOk P T) {t:TypeId} (hk:(T.at t).known=true):P.cellsOf t=(T.at t).size:=by
 obtain⟨h,_⟩:=hT t hk;unfold Program.cellsOf;cases hi:P.info? t with
 |none=>simp_all
 |some f=>
  simp_all
theorem ayC {a:Addr} {v:Value} (h:w.cell? a=a6 v):a.block<w.heap.size/\a.spot=a7:=by
 unfold World.cell? at h;split at h
 .rename_i d
  refine⟨(Array.getElem?_eq_some_iff.1 d).1, ?_⟩;simp_all
 .cases h
theorem addr_add_add (a:Addr) (x m:Nat):(a.add x).add m=a.add (x+m):=by
 grind [Addr.add]
theorem afk {e:Ty} {size:Nat} (p:e.size=size) {a:Addr} {len:Nat} {F:List Value->Option (DataW H×List MemPlace)} (hF: ∀cs y,F cs=a6 y-> ∃x:e.den,eY w (fun b=>b<w.heap.size) e x cs/\wfD e x)
  (h: ∀i,i<len-> ∃y,(w.cells? 0 (a.add (i*size)) size).bind F=a6 y): ∀(k j:Nat),j+k<=len->
  ∃(xs:List e.den) (d:List Value),xs.length=k/\fQ (eY w (fun b=>b<w.heap.size) e) e.size xs d/\(∀m (f:m<d.length),w.cell? (a.add (j*size+m))=a6 d[m])/\ ∀x∈xs,wfD e x
 |0,j,_=>⟨[],[],rfl,rfl,fun m f=>absurd f (by simp),fun x g=>by cases g⟩
 |k+1,j,v=>by
  obtain⟨xs,d,q,s,A,B⟩:=afk p hF h k (j+1) (by omega);obtain⟨y,l⟩:=h j (by omega);obtain⟨c,o,l⟩:=Option.bind_eq_some_iff.1 l;obtain⟨x,g,D⟩:=hF c y l;have u:c.length=e.size:=eY.length e x c g;have E: ∀m (f:m<c.length),w.cell? (a.add (j*size+m))=a6 c[m]:=fun m f=>by
   simp only[World.cells?,Nat.zero_le,if_true]at o;have:=mapM_some_get o m m (by simp_all);simp_all [addr_add_add]
  refine⟨x::xs,c++d,by simp[q],⟨c,d,rfl,u,g,s⟩,fun m f=> ?_,fun z G=> ?_⟩
  all_goals grind
theorem Sj (hT:TOk P T) {n:Nat} {cs:List Value} (e: ∀(t:TypeId) (cs:List Value) (y:DataW H×List MemPlace) (ty:Ty),(T.at t).known=true->(T.at t).ty=a6 ty->DataW.trod enc P w 0 spare held n t cs=a6 y-> ∃x:ty.den,eY w (fun b=>b<w.heap.size) ty x cs/\wfD ty x):
  ∀(f:List (Nat×TypeId)) (off:Nat) (ty:Ty),jJ T off f=a6 ty->(∀p∈f,∃y,DataW.trod enc P w 0 spare held n p.2 ((cs.drop p.1).take (P.cellsOf p.2))=a6 y)->
   ∃x:ty.den,eY w (fun b=>b<w.heap.size) ty x ((cs.drop off).take ty.size)/\wfD ty x
 |[],off,ty,h,_=>by
  simp only[jJ,Option.some.injEq]at h;subst h;exact⟨(),by simp[eY,Ty.size],trivial⟩
 |(o,g)::l,off,ty,h,i=>by
  simp only[jJ]at h;split at h
  .rename_i q
   split at h
   .rename_i a s
    split at h
    .rename_i d
     split at h
     .rename_i b u
      simp only[Option.some.injEq]at h;subst h q;obtain⟨y,j⟩:=i (o,g) (by simp);simp only[Ij hT d.2,<-d.1]at j;obtain⟨v,z,A⟩:=e g _ y a d.2 s j;obtain⟨B,D,E⟩:=Sj hT e l _ b u fun p G=>i p (ak _ G);refine⟨(v,B),⟨_,_, ?_,z,D⟩,A,E⟩;simp_all [Ty.size,List.take_add]
     .cases h
    .cases h
   .cases h
  .cases h
theorem Vj (hT:TOk P T) (u:T.allK=true): ∀(o:Nat) (t:TypeId) (cs:List Value) (y:DataW H×List MemPlace) (ty:Ty),(T.at t).known=true->(T.at t).ty=a6 ty->DataW.trod enc P w 0 spare held o t cs=a6 y->
  ∃x:ty.den,eY w (fun b=>b<w.heap.size) ty x cs/\wfD ty x
 |0,t,cs,y,ty,_,_,h=>by simp[DataW.trod]at h
 |o+1,t,cs,y,ty,hk,L,h=>by
  obtain⟨ag,M,ah,N,-,-,-,-⟩:=hT t hk;obtain⟨d,hd,l⟩:=aye M;have g:lw T (T.at t).k=a6 ty:=by
   simp_all
  have hc:=Ij hT hk;have ai:=N ty L;cases d with
  |bool=>
   simp only[kT,Option.some.injEq]at l;rw[<-l]at g;simp only[lw,Option.some.injEq]at g;subst g;obtain⟨b,rfl,_⟩:=DataW.trod_bool hd h;exact⟨b,rfl,trivial⟩
  |int k=>
   simp only[kT,Option.some.injEq]at l;rw[<-l]at g;simp only[lw,Option.some.injEq]at g;subst g;obtain⟨b,rfl,_,B⟩:=DataW.trod_int hd h;exact⟨b,rfl,B⟩
  |string=>
   simp only[kT,Option.some.injEq]at l;rw[<-l]at g;simp only[lw,Option.some.injEq]at g;subst g;obtain⟨s,rfl,_,B⟩:=DataW.trod_string hd h;exact⟨s.data.toList,by simp[eY],(show s.data.toList.length<=maxLen from by assumption)⟩
  |slice e=>
   simp only[kT,Option.some.injEq]at l;rw[<-l]at g;simp only[lw,Option.map_eq_some_iff]at g;obtain⟨q,v,rfl⟩:=g;have z:=TT.allK_at T e u (by rw[v];rfl);have O:q.size=(T.at e).size:=(hT e z).2.2.2.1 q v;have S:=Ij hT z;rcases DataW.trod_slice hd h with ⟨rfl,_⟩|⟨a,D,U,aj,al,n,V,rfl,_,_,hl,hm,W,an,_,_⟩
   .exact⟨[],⟨a7,0,[],rfl,ae _,rfl,.inl rfl⟩,Nat.zero_le _,fun x X=>by cases X⟩
   .obtain rfl:n=o:=by omega
    have Y: ∀i,i<D-> ∃y,(w.cells? 0 (a.add (i*P.cellsOf e)) (P.cellsOf e)).bind (DataW.trod enc P w 0 spare held n e)=a6 y:=fun i Z=>by
     simp_all
    obtain⟨xs,E,A,G,h3,h4⟩:=afk (w:=w) (e:=q) (O.trans S.symm) (fun cs y hy=>Vj hT u n e cs y q z v hy) Y D 0 (by omega);refine⟨xs,⟨a6 a,U,E,by rw[A],by omega,G, ?_⟩,by rw[A];omega,h4⟩;by_cases hz:E=[]
    .exact .inl hz
    .have I:=h3 0 (List.length_pos_iff.2 hz);rw[show a.add (0*P.cellsOf e+0)=a by simp[Addr.add]]at I;obtain⟨J,K⟩:=ayC I;obtain⟨ab,ao,au⟩:=a;simp only at J K;subst K;refine .inr ⟨ab,ao,rfl,J,fun j hj=> ?_⟩;simp_all [kC]
  |struct fs=>
   simp only[kT,Option.some.injEq]at l;rw[<-l]at g;simp only[lw]at g;obtain⟨xs,n,V,_,W,av,hf⟩:=DataW.trod_struct hd h;obtain rfl:n=o:=by omega
   obtain⟨x,A,G⟩:=Sj (P:=P) (T:=T) (w:=w) (enc:=enc) (spare:=spare) (held:=held) (cs:=cs) hT (fun t cs y ty a b c=>Vj hT u n t cs y ty a b c) _ 0 ty g (fun p hp=>by
    obtain⟨f,ad,rfl⟩:=List.mem_map.1 hp;obtain⟨i,Z⟩:=List.getElem?_of_mem ad
    grind)
   grind
  |func a b c=>
   grind [kT,lw]
  |array a b=>simp[kT]at l
  |_=>
   grind [kT,lw]
theorem Ub (hT:TOk P T) (z:T.allK=true) {t:TypeId} {v:Value} {d:DataW H} {D:List MemPlace} {r:Reach} {b0:Nat} {ty:Ty} (q:(T.at t).ty=a6 ty) (s:Value.okWide P w r b0 t v) (h:DataW.Trod enc P w 0 spare held t v d D):
  ∃x:ty.den,VD (jS w fun _=>False) ty x v/\wfD ty x:=by
 have hk:=TT.allK_at T t z (by rw[q];rfl);obtain⟨E,G⟩:=h;obtain⟨x,u,I⟩:=Vj hT z E t _ _ ty hk q G;have y:eY w (jS w fun _=>False).free ty x v.cells.toList:=eY.mono (fun b J=>⟨⟨J,(by rintro ⟨i,o,h,_⟩;simp[jS,dQ]at h),by simp[jS],fun h=>h⟩,rfl⟩) ty x _ u;refine⟨x, ?_,I⟩;obtain⟨N,K,L,-⟩:=hT t hk;obtain⟨A,hd,j⟩:=aye K;have g:lw T (T.at t).k=a6 ty:=by
  rcases L with u|u
  .rw[u]at q;cases q
  .rw[<-u,q]
 cases ha:ty.isAgg with
 |true=>
  cases A with
  |struct B=>
   obtain⟨cs,rfl,_⟩:=Go.WideShapes.okWide_struct hd s;exact(VD.agg ha).2 ⟨cs,rfl,y⟩
  |array a b=>simp[kT]at j
  |slice e=>
   simp only[kT,Option.some.injEq]at j;rw[<-j]at g;simp only[lw,Option.map_eq_some_iff]at g;obtain⟨O,_,rfl⟩:=g;cases ha
  |_=>
   simp only[kT,Option.some.injEq]at j;rw[<-j]at g;simp[lw]at g
   all_goals (subst g;cases ha)
 |false=>
  rw[VD.leaf ha];have M:v.cells= #[v]:=by
   cases A with
   |struct B=>
    simp only[kT,Option.some.injEq]at j;rw[<-j]at g;simp only[lw]at g;exfalso;cases hfs:(B.toList.map fun f=>(f.offset,f.type))with
    |nil=>rw[hfs]at g;simp only[jJ,Option.some.injEq]at g;subst g;cases ha
    |cons p l=>
     rw[hfs]at g;simp only[jJ]at g;split at g
     .split at g
      .split at g
       .split at g
        .simp only[Option.some.injEq]at g;subst g;cases ha
        .cases g
       .cases g
      .cases g
     .cases g
   |array a b=>simp[kT]at j
   |bool=>obtain⟨b,rfl⟩:=Go.WideShapes.okWide_bool hd s;rfl
   |int k=>obtain⟨b,rfl⟩:=Go.WideShapes.okWide_int hd s;rfl
   |string=>obtain⟨b,rfl⟩:=Go.WideShapes.okWide_string hd s;rfl
   |slice e=>obtain⟨a,b,c,rfl⟩:=Go.WideShapes.okWide_slice hd s;rfl
   |_=>
    simp only[kT,Option.some.injEq]at j;rw[<-j]at g;simp[lw]at g
  rw[M]at y;exact y
end
abbrev dC:Ty:=.int .i64
abbrev gm:Type:=Int×(List UInt8)×(Int×Int×Unit)
abbrev bZ:Type:=List UInt8
abbrev gJ:Type:=Int×Int×Int×Int×Unit
abbrev Vr:Ty:=.pair dC (.pair dC .unit)
abbrev je:Type:=Int×Int×Int×Int×Bool×Unit
abbrev Vk:Ty:=.pair dC (.pair .str Vr)
abbrev nO:Ty:=.pair dC (.pair dC Vr)
abbrev VY:Ty:=.pair dC (.pair dC (.pair dC (.pair .bool .unit)))
abbrev sD:Type:=((List gm)×Int×(List gJ)×Int×Int×Unit)×(Unit)
abbrev taF:Type:=(List gm)×bZ×(List gJ)×Int×Int×Int×Unit
abbrev qG:Type:=Bool×Unit
abbrev nN:Type:=Int×Int×Unit
abbrev Du:Type:=Int×Int×Int×Bool×Unit
abbrev tyF:Ty:=.pair .bool .unit
abbrev jg:Type:=List (Int)
abbrev uk:Type:=bZ×(bZ×(Unit))
abbrev GH:Type:=Bool×Bool×bZ×(Unit)
abbrev VZ:Ty:=.pair .bool (.pair .bool (.pair .str .unit))
abbrev Py:Ty:=.pair .str (.pair .str .unit)
abbrev taM:Type:=((List gm)×Int×(List gJ)×Int×Int×Unit)×qG
abbrev Dx:Type:=List (bZ×qG)
abbrev taO:Type:=(List nN)×Bool×Int×Unit
abbrev Jf:Ty:=.pair dC VY
abbrev Dy:Ty:=.pair .str tyF
abbrev H8:Type:=bZ×(jg×qG)
abbrev oH:Type:=Int×Int
abbrev oI:Ty:=.list Vk
abbrev tyL:Ty:=.pair (.list dC) tyF
abbrev Dv:Type:=taF×(Unit)
abbrev Dc:Type:=Int×Unit
abbrev taT:Type:=Du×(Int×Dx×qG)×Unit
abbrev tyM:Ty:=.pair (.list Dy) tyF
abbrev taU:Type:=bZ×Unit
abbrev V3:Ty:=.list Jf
abbrev taV:Type:=H8×Unit
abbrev xf:List (Ty×Bool):=[(.list Vk,false),(.int .i64,false),(.list nO,true),(.int .i64,false),(.int .i64,false)]
abbrev Ja:List (Ty×Bool):=[(.list Vk,false),(.str,false),(.list nO,true),(.int .i64,false),(.int .i64,false),(.int .i64,false)]
abbrev tzC:List (Ty×Bool):=[(.list Vr,true),(.bool,false),(.int .i64,false)]
abbrev Vl:List (Ty×Bool):=[(.int .i64,false)]
abbrev LG:List (Ty×Bool):=[(.bool,false)]
abbrev tzF:List (Ty×Bool):=[(.str,false)]
abbrev tzG:List (Ty×Bool):=[(.int .i64,false),(.list Py,true)]
abbrev tzH:List (Ty×Bool):=[(.pair .str tyL,false)]
abbrev tzI:List (Ty×Bool):=[(.pair dC (.pair dC (.pair dC tyF)),false),(.pair dC tyM,false)]
abbrev tzJ:List (Ty×Bool):=[(.int .i64,false),(.int .i64,false)]
end
section
open Option renaming some → a6, none → a7
open Bool renaming and_eq_true → af, not_true → ax, not_eq_true' → aY
open Nat renaming eq_of_beq_eq_true → ah
open Tryz
open Go.RowKit
def iR:TI:=⟨true,.fn,1,8,a7,[.nilfn],false,false,true⟩
def ti2:TI:=⟨true,(.int .i64),1,8,a6 (.int .i64),[.val (.int .i64) 0],false,false,true⟩
def ti4:TI:=⟨true,.bool,1,1,a6 .bool,[.val .bool false],false,false,true⟩
def ti5:TI:=⟨true,(.int .u8),1,1,a6 (.int .u8),[.val (.int .u8) 0],false,false,true⟩
def ti7:TI:=⟨true,(.struct [(0,2),(1,3),(2,4),(3,6)]),4,24,a7,[.val (.int .i64) 0,.val (.int .i64) 0,.val .bool false,.val (.int .u8) 0],false,false,true⟩
def ti9:TI:=⟨true,.str,1,16,a6 .str,[.val .str []],false,false,true⟩
def aBx:TI:=⟨true,(.int .u64),1,8,a6 (.int .u64),[.val (.int .u64) 0],false,false,true⟩
def aKR:TI:=⟨true,(.struct [(0,9),(1,12)]),2,24,a6 (.pair .str (.pair (.int .u64) .unit)),[.val .str [],.val (.int .u64) 0],false,false,true⟩
def aL8:TI:=⟨true,(.ptr 253),1,8,a7,[.nilp],false,false,true⟩
def aL9:TI:=⟨true,(.ptr 256),1,8,a7,[.nilp],false,false,true⟩
def aMa:TI:=⟨true,(.ptr 263),1,8,a7,[.nilp],false,false,true⟩
def aK2:TI:=⟨true,(.struct [(0,17)]),1,8,a7,[.nilp],false,false,true⟩
def aHm:TI:=⟨true,(.int .i32),1,4,a6 (.int .i32),[.val (.int .i32) 0],false,false,true⟩
def aMb:TI:=⟨true,(.slice 41),1,24,a6 (.list (.pair .str (.pair .str .unit))),[.nils],false,false,true⟩
def aMc:TI:=⟨true,(.ptr 79),1,8,a7,[.nilp],false,false,true⟩
def aMd:TI:=⟨true,(.slice 32),1,24,a6 (.list (.pair (.int .i64) (.pair (.int .i64) (.pair (.int .i64) (.pair .bool .unit))))),[.nils],false,false,true⟩
def aMe:TI:=⟨true,(.struct [(0,3),(1,3),(2,3),(3,4)]),4,32,a6 (.pair (.int .i64) (.pair (.int .i64) (.pair (.int .i64) (.pair .bool .unit)))),[.val (.int .i64) 0,.val (.int .i64) 0,.val (.int .i64) 0,.val .bool false],false,false,true⟩
def aMf:TI:=⟨true,(.struct [(0,3),(1,3),(2,3),(3,4)]),4,32,a6 (.pair (.int .i64) (.pair (.int .i64) (.pair (.int .i64) (.pair .bool .unit)))),[.val (.int .i64) 0,.val (.int .i64) 0,.val (.int .i64) 0,.val .bool false],true,false,true⟩
def aMg:TI:=⟨true,(.struct [(0,9),(1,9)]),2,32,a6 (.pair .str (.pair .str .unit)),[.val .str [],.val .str []],false,false,true⟩
def aMh:TI:=⟨true,(.struct [(0,9),(1,9)]),2,32,a6 (.pair .str (.pair .str .unit)),[.val .str [],.val .str []],true,false,true⟩
def aMi:TI:=⟨true,(.slice 149),1,24,a6 (.list (.pair .str (.pair .bool .unit))),[.nils],false,false,true⟩
def aMj:TI:=⟨true,(.struct [(0,3),(1,48),(2,4)]),3,40,a6 (.pair (.int .i64) (.pair (.list (.pair .str (.pair .bool .unit))) (.pair .bool .unit))),[.val (.int .i64) 0,.nils,.val .bool false],false,false,true⟩
def aMk:TI:=⟨true,(.struct [(0,3),(1,48),(2,4)]),3,40,a6 (.pair (.int .i64) (.pair (.list (.pair .str (.pair .bool .unit))) (.pair .bool .unit))),[.val (.int .i64) 0,.nils,.val .bool false],false,false,false⟩
def aMl:TI:=⟨true,(.slice 66),1,24,a6 (.list (.pair (.int .i64) (.pair .str (.pair (.int .i64) (.pair (.int .i64) .unit))))),[.nils],false,false,true⟩
def aMm:TI:=⟨true,(.map 3 3),1,8,a7,[.undef],false,false,true⟩
def aMn:TI:=⟨true,(.slice 62),1,24,a6 (.list (.pair (.int .i64) (.pair (.int .i64) (.pair (.int .i64) (.pair (.int .i64) .unit))))),[.nils],false,false,true⟩
def aMo:TI:=⟨true,(.struct [(0,3),(1,3),(2,3),(3,3)]),4,32,a6 (.pair (.int .i64) (.pair (.int .i64) (.pair (.int .i64) (.pair (.int .i64) .unit)))),[.val (.int .i64) 0,.val (.int .i64) 0,.val (.int .i64) 0,.val (.int .i64) 0],false,false,true⟩
def aMp:TI:=⟨true,(.struct [(0,3),(1,3),(2,3),(3,3)]),4,32,a6 (.pair (.int .i64) (.pair (.int .i64) (.pair (.int .i64) (.pair (.int .i64) .unit)))),[.val (.int .i64) 0,.val (.int .i64) 0,.val (.int .i64) 0,.val (.int .i64) 0],true,false,true⟩
def aMq:TI:=⟨true,(.struct [(0,3),(1,9),(2,3),(3,3)]),4,40,a6 (.pair (.int .i64) (.pair .str (.pair (.int .i64) (.pair (.int .i64) .unit)))),[.val (.int .i64) 0,.val .str [],.val (.int .i64) 0,.val (.int .i64) 0],false,false,true⟩
def aMr:TI:=⟨true,(.struct [(0,3),(1,9),(2,3),(3,3)]),4,40,a6 (.pair (.int .i64) (.pair .str (.pair (.int .i64) (.pair (.int .i64) .unit)))),[.val (.int .i64) 0,.val .str [],.val (.int .i64) 0,.val (.int .i64) 0],true,false,true⟩
def aMs:TI:=⟨true,(.slice 4),1,24,a6 (.list .bool),[.nils],false,false,true⟩
def aMt:TI:=⟨true,(.slice 5),1,24,a6 (.list (.int .u8)),[.nils],false,false,true⟩
def aMu:TI:=⟨true,(.slice 3),1,24,a6 (.list (.int .i64)),[.nils],false,false,true⟩
def aLe:TI:=⟨true,(.struct [(0,3),(1,22)]),2,32,a6 (.pair (.int .i64) (.pair (.list (.pair .str (.pair .str .unit))) .unit)),[.val (.int .i64) 0,.nils],false,false,true⟩
def aMv:TI:=⟨true,(.ptr 90),1,8,a7,[.nilp],false,false,true⟩
def aLf:TI:=⟨true,(.struct [(0,53),(1,3),(2,59),(3,3),(4,3)]),5,72,a6 (.pair (.list (.pair (.int .i64) (.pair .str (.pair (.int .i64) (.pair (.int .i64) .unit))))) (.pair (.int .i64) (.pair (.list (.pair (.int .i64) (.pair (.int .i64) (.pair (.int .i64) (.pair (.int .i64) .unit))))) (.pair (.int .i64) (.pair (.int .i64) .unit))))),[.nils,.val (.int .i64) 0,.nils,.val (.int .i64) 0,.val (.int .i64) 0],false,false,true⟩
def aMx:TI:=⟨true,(.ptr 100),1,8,a7,[.nilp],false,false,true⟩
def aLg:TI:=⟨true,(.struct [(0,53),(1,9),(2,59),(3,3),(4,3),(5,3)]),6,88,a6 (.pair (.list (.pair (.int .i64) (.pair .str (.pair (.int .i64) (.pair (.int .i64) .unit))))) (.pair .str (.pair (.list (.pair (.int .i64) (.pair (.int .i64) (.pair (.int .i64) (.pair (.int .i64) .unit))))) (.pair (.int .i64) (.pair (.int .i64) (.pair (.int .i64) .unit)))))),[.nils,.val .str [],.nils,.val (.int .i64) 0,.val (.int .i64) 0,.val (.int .i64) 0],false,false,true⟩
def aKN:TI:=⟨true,(.int .u32),1,4,a6 (.int .u32),[.val (.int .u32) 0],false,false,true⟩
def aKO:TI:=⟨true,(.ptr 128),1,8,a7,[.nilp],false,false,true⟩
def aKP:TI:=⟨true,(.struct [(0,126),(1,74)]),2,32,a7,[.nilp,.nils],false,false,true⟩
def aKQ:TI:=⟨true,(.struct [(0,126),(1,74)]),2,32,a7,[.nilp,.nils],false,true,true⟩
def aKS:TI:=⟨true,(.ptr 3),1,8,a7,[.nilp],false,false,true⟩
def aKT:TI:=⟨true,(.struct [(0,9),(1,4)]),2,24,a6 (.pair .str (.pair .bool .unit)),[.val .str [],.val .bool false],false,false,true⟩
def aKU:TI:=⟨true,(.struct [(0,9),(1,4)]),2,24,a6 (.pair .str (.pair .bool .unit)),[.val .str [],.val .bool false],true,false,true⟩
def aKV:TI:=⟨true,(.ptr 5),1,8,a7,[.nilp],false,false,true⟩
def aKW:TI:=⟨true,(.ptr 140),1,8,a7,[.nilp],false,false,true⟩
def aDd:TI:=⟨true,(.struct [(0,9),(1,76),(2,4)]),3,48,a6 (.pair .str (.pair (.list (.int .i64)) (.pair .bool .unit))),[.val .str [],.nils,.val .bool false],false,false,true⟩
def aKX:TI:=⟨true,(.slice 171),1,24,a6 (.list (.pair .bool (.pair .bool (.pair .str .unit)))),[.nils],false,false,true⟩
def aKY:TI:=⟨true,(.struct [(0,4),(1,4),(2,9)]),3,24,a6 (.pair .bool (.pair .bool (.pair .str .unit))),[.val .bool false,.val .bool false,.val .str []],false,false,true⟩
def aKZ:TI:=⟨true,(.struct [(0,4),(1,4),(2,9)]),3,24,a6 (.pair .bool (.pair .bool (.pair .str .unit))),[.val .bool false,.val .bool false,.val .str []],true,false,true⟩
def aK1:TI:=⟨true,(.ptr 216),1,8,a7,[.nilp],false,false,true⟩
def aK3:TI:=⟨true,(.slice 214),1,24,a6 (.list (.pair (.int .i64) (.pair (.int .i64) .unit))),[.nils],false,false,true⟩
def aK4:TI:=⟨true,(.ptr 220),1,8,a7,[.nilp],false,false,true⟩
def aK5:TI:=⟨true,(.slice 200),1,24,a6 (.list (.pair (.int .i64) (.pair (.int .i64) (.pair (.int .i64) (.pair (.int .i64) (.pair .bool .unit)))))),[.nils],false,false,true⟩
def aK6:TI:=⟨true,(.struct [(0,3),(1,3),(2,3),(3,3),(4,4)]),5,40,a6 (.pair (.int .i64) (.pair (.int .i64) (.pair (.int .i64) (.pair (.int .i64) (.pair .bool .unit))))),[.val (.int .i64) 0,.val (.int .i64) 0,.val (.int .i64) 0,.val (.int .i64) 0,.val .bool false],false,false,true⟩
def aK7:TI:=⟨true,(.struct [(0,3),(1,3),(2,3),(3,3),(4,4)]),5,40,a6 (.pair (.int .i64) (.pair (.int .i64) (.pair (.int .i64) (.pair (.int .i64) (.pair .bool .unit))))),[.val (.int .i64) 0,.val (.int .i64) 0,.val (.int .i64) 0,.val (.int .i64) 0,.val .bool false],true,false,true⟩
def aK8:TI:=⟨true,(.ptr 208),1,8,a7,[.nilp],false,false,true⟩
def aK9:TI:=⟨true,(.struct [(0,3),(1,3)]),2,16,a6 (.pair (.int .i64) (.pair (.int .i64) .unit)),[.val (.int .i64) 0,.val (.int .i64) 0],false,false,true⟩
def aLa:TI:=⟨true,(.struct [(0,3),(1,3)]),2,16,a6 (.pair (.int .i64) (.pair (.int .i64) .unit)),[.val (.int .i64) 0,.val (.int .i64) 0],true,false,true⟩
def aDe:TI:=⟨true,(.struct [(0,181),(1,4),(2,3)]),3,40,a6 (.pair (.list (.pair (.int .i64) (.pair (.int .i64) .unit))) (.pair .bool (.pair (.int .i64) .unit))),[.nils,.val .bool false,.val (.int .i64) 0],false,false,true⟩
def aDf:TI:=⟨true,(.struct [(0,9),(1,197),(2,55)]),3,48,a7,[.val .str [],.nils,.undef],false,false,true⟩
def aLb:TI:=⟨true,(.slice 165),1,24,a6 (.list (.pair .str (.pair (.list (.int .i64)) (.pair .bool .unit)))),[.nils],false,false,true⟩
def aDg:TI:=⟨true,(.struct [(0,5),(1,5)]),2,2,a6 (.pair (.int .u8) (.pair (.int .u8) .unit)),[.val (.int .u8) 0,.val (.int .u8) 0],false,false,true⟩
def aLc:TI:=⟨true,(.ptr 241),1,8,a7,[.nilp],false,false,true⟩
def aDh:TI:=⟨true,(.struct [(0,197),(1,76)]),2,48,a6 (.pair (.list (.pair (.int .i64) (.pair (.int .i64) (.pair (.int .i64) (.pair (.int .i64) (.pair .bool .unit)))))) (.pair (.list (.int .i64)) .unit)),[.nils,.nils],false,false,true⟩
def aLd:TI:=⟨true,(.ptr 200),1,8,a7,[.nilp],false,false,true⟩
def aDi:TI:=⟨true,(.struct [(0,17),(1,17),(2,17),(3,9)]),4,40,a7,[.nilp,.nilp,.nilp,.val .str []],false,false,true⟩
def aDj:TI:=⟨true,(.struct [(0,12),(1,12),(2,120),(3,257),(4,5),(5,5),(6,258),(7,259),(8,150),(9,260),(10,261)]),11,48,a7,[.val (.int .u64) 0,.val (.int .u64) 0,.val (.int .u32) 0,.val (.int .u8) 0,.val (.int .u8) 0,.val (.int .u8) 0,.val (.int .u8) 0,.nilfn,.nilp,.val (.int .i32) 0,.val (.int .i32) 0],false,false,true⟩
def tt:TT:=(.node 126 aKO (.node 64 iR (.node 31 aMe (.node 16 aL9 (.node 9 ti9 (.node 4 ti4 (.node 2 ti2 (.node 1 iR .nil .nil) (.node 3 ti2 .nil .nil)) (.node 7 ti7 (.node 5 ti5 .nil .nil) (.node 8 ti7 .nil .nil))) (.node 13 aKR (.node 11 ti9 (.node 10 ti9 .nil .nil) (.node 12 aBx .nil .nil)) (.node 15 aL8 (.node 14 aKR .nil .nil) .nil))) (.node 24 iR (.node 21 aHm (.node 18 aK2 (.node 17 aMa .nil .nil) (.node 19 aK2 .nil .nil)) (.node 23 iR (.node 22 aMb .nil .nil) .nil)) (.node 28 aMd (.node 26 iR (.node 25 aMc .nil .nil) (.node 27 iR .nil .nil)) (.node 30 iR (.node 29 iR .nil .nil) .nil)))) (.node 48 aMi (.node 40 aMg (.node 36 iR (.node 33 ti2 (.node 32 aMf .nil .nil) (.node 35 iR .nil .nil)) (.node 38 iR (.node 37 iR .nil .nil) (.node 39 iR .nil .nil))) (.node 44 iR (.node 42 iR (.node 41 aMh .nil .nil) (.node 43 iR .nil .nil)) (.node 47 iR (.node 45 iR .nil .nil) .nil))) (.node 56 iR (.node 53 aMl (.node 50 aMk (.node 49 aMj .nil .nil) (.node 52 iR .nil .nil)) (.node 55 aMm (.node 54 iR .nil .nil) .nil)) (.node 60 iR (.node 58 iR (.node 57 iR .nil .nil) (.node 59 aMn .nil .nil)) (.node 62 aMp (.node 61 aMo .nil .nil) .nil))))) (.node 95 iR (.node 81 iR (.node 73 iR (.node 68 iR (.node 66 aMr (.node 65 aMq .nil .nil) (.node 67 iR .nil .nil)) (.node 70 aMs (.node 69 iR .nil .nil) (.node 71 iR .nil .nil))) (.node 77 iR (.node 75 iR (.node 74 aMt .nil .nil) (.node 76 aMu .nil .nil)) (.node 79 aLe (.node 78 aLe .nil .nil) .nil))) (.node 88 aMv (.node 85 iR (.node 83 iR (.node 82 iR .nil .nil) (.node 84 iR .nil .nil)) (.node 87 iR (.node 86 iR .nil .nil) .nil)) (.node 92 iR (.node 90 aLf (.node 89 aLf .nil .nil) (.node 91 iR .nil .nil)) (.node 94 iR (.node 93 iR .nil .nil) .nil)))) (.node 111 iR (.node 103 iR (.node 99 aLg (.node 97 iR (.node 96 aBx .nil .nil) (.node 98 aMx .nil .nil)) (.node 101 iR (.node 100 aLg .nil .nil) (.node 102 iR .nil .nil))) (.node 107 iR (.node 105 iR (.node 104 iR .nil .nil) (.node 106 iR .nil .nil)) (.node 109 iR (.node 108 iR .nil .nil) .nil))) (.node 119 iR (.node 116 iR (.node 113 ti2 (.node 112 iR .nil .nil) (.node 115 iR .nil .nil)) (.node 118 iR (.node 117 iR .nil .nil) .nil)) (.node 123 iR (.node 121 iR (.node 120 aKN .nil .nil) (.node 122 aBx .nil .nil)) (.node 125 iR (.node 124 iR .nil .nil) .nil)))))) (.node 191 iR (.node 159 iR (.node 144 aKS (.node 137 iR (.node 133 iR (.node 128 aKQ (.node 127 aKP .nil .nil) (.node 132 iR .nil .nil)) (.node 135 iR (.node 134 iR .nil .nil) (.node 136 iR .nil .nil))) (.node 141 iR (.node 139 iR (.node 138 iR .nil .nil) (.node 140 aBx .nil .nil)) (.node 143 iR (.node 142 iR .nil .nil) .nil))) (.node 152 iR (.node 149 aKU (.node 147 iR (.node 145 iR .nil .nil) (.node 148 aKT .nil .nil)) (.node 151 iR (.node 150 aKV .nil .nil) .nil)) (.node 156 iR (.node 154 iR (.node 153 iR .nil .nil) (.node 155 iR .nil .nil)) (.node 158 iR (.node 157 iR .nil .nil) .nil)))) (.node 176 iR (.node 167 iR (.node 163 iR (.node 161 iR (.node 160 iR .nil .nil) (.node 162 aKW .nil .nil)) (.node 165 aDd (.node 164 aDd .nil .nil) (.node 166 iR .nil .nil))) (.node 171 aKZ (.node 169 iR (.node 168 aKX .nil .nil) (.node 170 aKY .nil .nil)) (.node 174 iR (.node 172 iR .nil .nil) .nil))) (.node 184 iR (.node 180 iR (.node 178 aK1 (.node 177 iR .nil .nil) (.node 179 iR .nil .nil)) (.node 183 iR (.node 181 aK3 .nil .nil) .nil)) (.node 188 iR (.node 186 iR (.node 185 iR .nil .nil) (.node 187 iR .nil .nil)) (.node 190 iR (.node 189 aK4 .nil .nil) .nil))))) (.node 226 iR (.node 210 iR (.node 199 aK6 (.node 195 iR (.node 193 iR (.node 192 iR .nil .nil) (.node 194 iR .nil .nil)) (.node 197 aK5 (.node 196 iR .nil .nil) (.node 198 iR .nil .nil))) (.node 204 iR (.node 202 iR (.node 200 aK7 .nil .nil) (.node 203 iR .nil .nil)) (.node 206 iR (.node 205 iR .nil .nil) .nil))) (.node 217 iR (.node 214 aLa (.node 212 aK8 (.node 211 iR .nil .nil) (.node 213 aK9 .nil .nil)) (.node 216 aDe (.node 215 aDe .nil .nil) .nil)) (.node 221 iR (.node 219 aDf (.node 218 iR .nil .nil) (.node 220 aDf .nil .nil)) (.node 224 iR (.node 223 iR .nil .nil) .nil)))) (.node 243 aLd (.node 235 aDg (.node 230 aLb (.node 228 iR (.node 227 iR .nil .nil) (.node 229 iR .nil .nil)) (.node 232 iR (.node 231 iR .nil .nil) (.node 234 aDg .nil .nil))) (.node 240 aDh (.node 238 iR (.node 237 iR .nil .nil) (.node 239 aLc .nil .nil)) (.node 242 iR (.node 241 aDh .nil .nil) .nil))) (.node 252 aDi (.node 248 iR (.node 245 iR (.node 244 iR .nil .nil) (.node 247 iR .nil .nil)) (.node 251 iR (.node 250 iR .nil .nil) .nil)) (.node 261 aHm (.node 259 iR (.node 253 aDi .nil .nil) (.node 260 aHm .nil .nil)) (.node 263 aDj (.node 262 aDj .nil .nil) .nil)))))))
theorem aBF {P:Program} {t:TypeId} {j:TypeInfo} {k:IntKind} (h:(P.info? t).map (·.zero)=a6 (a6 (.int k 0))) (d:P.info? t=a6 j):j.zero=a6 (.int k 0):=by rw[d]at h;simpa using h
theorem tkN {P:Program} {T:TT} {t:TypeId} {i:TI} (v:(P.info? t).map (fun f=>(f.size,f.bytes,f.zero.map fun z=>(z.cells.toList.map vZ,z.cells.toList.all Value.oneCell')))=a6 (i.size,i.bytes,a6 (i.zero,true)):=by kernel_rfl)
  (h2:(P.underlying t).map kT=a6 (a6 i.k):=by kernel_rfl) (g:(match i.ty with|none=>a7|some _=>i.ty)=(match i.ty with|none=>a7|some _=>lw T i.k):=by kernel_rfl) (l:(match i.ty with|none=>true|some y=>Nat.beq y.size i.size)=true:=by kernel_rfl) (p:(i.isAgg||Nat.beq i.size 1)=true:=by kernel_rfl)
  (e:(!i.eq||(!P.eqGuardType P.depth t&&(!P.stoodInHeld t&&((P.underlying t).map (fun d=>match d with|.struct fs=>fs.toList.all fun f=>f.name != "_" |_=>false)).getD false)))=true:=by kernel_rfl)
  (x:(P.underlying t).map (fun d=>match d with|.struct fs=>fs.toList.all fun f=>(P.info? f.type).isSome|_=>true)=a6 true:=by kernel_rfl) (A:Nat.beq i.zero.length i.size=true:=by kernel_rfl)
  (q:(match i.ty with|some (.int .u8)=>Nat.beq t mP|_=>true)=true:=by kernel_rfl) (s:(!i.bld||Nat.beq t Wh)=true:=by kernel_rfl)
  (u:(match i.k with|.int _=>(P.info? t).map (fun j:TypeInfo=>j.zero)|_=>a7)=(match i.k with|.int k=>a6 (a6 (Value.int k 0))|_=>a7):=by kernel_rfl):aDw P T t i:=fun _=>by
 refine⟨v,h2, ?_,fun y B=> ?_, ?_,fun D=> ?_,x,ah A,fun E=> ?_,fun G=> ?_,fun k hk j I=> ?_⟩
 .cases hi:i.ty with
  |none=>exact .inl rfl
  |some y=>rw[hi]at g;exact .inr g
 .rw[B]at l;exact ah l
 .rw[Bool.or_eq_true]at p;exact p.imp id ah
 .rw[D]at e;simp only[ax,Bool.false_or,af,aY]at e;refine⟨e.1,e.2.1, ?_⟩;have h:=e.2.2;generalize (P.underlying t).map _=o at h ⊢;cases o with
  |none=>cases h
  |some b=>exact congrArg a6 h
 .rw[E]at q;exact ah q
 .rw[G]at s;exact ah s
 .rw[hk]at u;exact aBF u I
theorem tok:TOk prog tt:=TOk.of_all (by repeat' first|exact trivial|refine⟨tkN, ?_, ?_⟩)
def aFE (P:Program):Bool:=P.funcs.toList.all fun fn=>fn.body.isNone|| !(fn.name== "runtime.NumGoroutine")
theorem avi {P:Program} (h:aFE P=true):Jj P:=fun f fn c d e=>by
 have g:=List.all_eq_true.1 h fn (by have:=Array.mem_of_getElem? d;simpa using this);simpa [e] using g
theorem OU:Jj prog:=avi (by kernel_rfl)
theorem mixed:prog.follows .mixedOrders=true:=by kernel_rfl
noncomputable def sg0 (g:FuncId):Option Sum:=cond (Nat.beq g 216) (a6 ax2)<|cond (Nat.beq g 131) (a6 acM) a7
theorem awo: ∀g s,sg0 g=a6 s->dR prog g s:=fun g s h=>by
 unfold sg0 at h;rw[cond_eq_ite]at h;split at h
 .rename_i d
  obtain rfl:g=216:=ah d;cases h;exact(afM func216 (by kernel_rfl) (by kernel_rfl) (by kernel_rfl) (by kernel_rfl))
 rw[cond_eq_ite]at h;split at h
 .rename_i d
  obtain rfl:g=131:=ah d;cases h;exact(X3 func131 (by kernel_rfl) (by kernel_rfl) (by kernel_rfl) (by kernel_rfl))
 cases h
def art:Go.Shelf.Ren:=⟨fun|240=>123|276=>156|n=>n,fun|0=>0|4=>4|9=>9|20=>20|37=>74|70=>126|72=>128|164=>173|n=>n,fun n=>n⟩
theorem ai0:Go.Proofs.Lays.n240 prog art:={
 mixed:=mixed,
 f240:=(func123).trans (by kernel_rfl),
 f276:=(func156).trans (by kernel_rfl),
 t0:=underlying0,a0:=isAgg0,z0:=sizeOf0,v0:=zeroValue0,
 t4:=underlying4,a4:=isAgg4,z4:=sizeOf4,v4:=zeroValue4,
 t9:=underlying9,a9:=isAgg9,z9:=sizeOf9,v9:=zeroValue9,
 t20:=underlying20,a20:=isAgg20,z20:=sizeOf20,v20:=zeroValue20,
 t70:=underlying126,a70:=isAgg126,z70:=sizeOf126,v70:=zeroValue126,
 t72:=underlying128,a72:=isAgg128,z72:=sizeOf128,v72:=zeroValue128,
 t164:=underlying173,a164:=isAgg173,z164:=sizeOf173,v164:=zeroValue173}
theorem aIz:Go.Proofs.Builder.X72 prog art:={sizeBuilder:=by kernel_rfl,liesBuilder:=by kernel_rfl}
theorem ayD:QV prog DZ 123:=by
 intro w b t o n e d;simp[DZ,aID]at d
theorem ayE (g:FuncId) (h:Ha g=true):xx prog DZ g:=by
 simp only[Ha,af]at h;obtain rfl:g=123:=ah h.1;exact⟨fun w b e f=>⟨Bd OU func123 (show f123.body=a6 ((f123.body).getD .skip) by kernel_rfl) _ _,fun d=>Any.Builder_copyCheck_used ai0 aIz b w d,fun d=>Any.Builder_copyCheck_fresh ai0 aIz b w d e f⟩,ayD⟩
theorem aEj (g:FuncId) (h:He g=true):Ji prog g:=by
 simp only[He,af]at h;obtain rfl:g=aop:=ah h.1;exact aor
noncomputable def aIQ:Env:={P:=prog,T:=tt,cl:=true,kp:=fun _ _=>a7,sg:=fun _=>a7,lp:=fun _ _=>a7}
theorem ayO:eF aIQ:=⟨tok,mixed,OU,(fun _ _ h=>by cases h),(fun f fn c _ _=>iZ (fun _=>rfl) (fun _=>rfl) c),(fun f k asg d hr=>alB (fun f fn c _ _=>iZ (fun _=>rfl) (fun _=>rfl) c) f k asg d hr),(fun g=>⟨(fun h=>by cases h),(fun h=>by cases h),(fun h=>by cases h)⟩),(fun _ _ h=>by cases h)⟩
theorem awF:kH aIQ 1000000 (.call aca [.nils,.fn CV []]) ⟨[],[],[],0⟩ (fun v st=>match v with|.tup []=>a6 ()|_=>a7)=a6 ():=by kernel_rfl
theorem aBu (w:World) (g:Yd w):Calls prog aca #[.slice a7 0 0,.func (.func CV) #[] #[]] w fun e w'=>e=.returned (.tuple #[])/\w.grownBy w' a7:=by
 refine(wz ayO 1000000 _ w aca [.nils,.fn CV []] _ _ () awF 0 a7 (jS w fun _=>False) ⟨#[],[]⟩ [] #[.slice a7 0 0,.func (.func CV) #[] #[]] (qL g (fun b h=>h.elim)) (by simp[bK,bW]) (fun e w'=>e=.returned (.tuple #[])/\w.grownBy w' a7) fun l z u o k1 k2 k3 k4=> ?_).2;split at k1
 .simp only[bW]at k3;obtain⟨f,rfl,i⟩:=k3;have j:f= #[]:=by
   obtain⟨f⟩:=f;cases f with
   |nil=>rfl
   |cons _ _=>simp[bK]at i
  have d:=k2.ok.bel;exact⟨by rw[j],⟨d.os,d.tape,d.output,d.size,fun k hk _=>d.block k hk⟩⟩
 .cases k1
theorem aGj (g:FuncId) (h:Hf g=true):Jl prog g CV:=by
 simp only[Hf,af]at h;obtain rfl:g=aca:=ah h.1;exact apb aBu
theorem RF (g:FuncId):(Ha g=true->xx prog DZ g)/\(He g=true->Ji prog g)/\(Hf g=true->Jl prog g CV):=⟨ayE g,aEj g,aGj g⟩
noncomputable def arI:Env:={P:=prog,T:=tt,cl:=true,kp:=fun _ _=>a7,sg:=sg0,lp:=fun _ _=>a7,bf:=Ha,em:=DZ,il:=He,sl:=Hf,sc:=CV}
theorem afi: ∀E,rE prog E->af5 E:=fun E h f k asg d hr=>alB h f k asg d hr
theorem ai8:eF arI:=⟨tok,mixed,OU,awo,fun f fn c _ _=>iZ (fun _=>rfl) (fun _=>rfl) c,afi _ fun f fn c _ _=>iZ (fun _=>rfl) (fun _=>rfl) c,RF,fun _ _ h=>by cases h⟩
abbrev xq:Ty:=(.pair .str (.pair .bool .unit))
def vC (l:List xq.den):Option (List xq.den):=cond (dY l 24) (a6 l) a7
theorem Yr (xs:List xq.den):kH arI 1000000 (.call 134 [.lst xq xs false]) ⟨[],[],[],0⟩ (fun v st=>jc true [(.list xq,true)] (zo 1 v) st.hp)=(bif dY xs 24 then a6 (xs,())else a7):=by kernel_rfl
theorem Yu:kH arI 1000000 (.call 134 [.lst xq [] true]) ⟨[],[],[],0⟩ (fun v st=>match v,st.hp with|.nils,[]=>a6 ()|_,_=>a7)=a6 ():=by kernel_rfl
def qN (l:List xq.den):Option (List xq.den×Unit):=match vC l with|some y=>a6 (y,())|none=>a7
def Px:Sum:=⟨[.list xq],[(.list xq,true)],fun x=>qN x.1⟩
theorem wX:dR prog 134 Px:=by
 have base:=Dt ai8 (e:=xq) (e2:=xq) (g:=134) (f:=vC) (show 0<xq.size by decide) (show 0<xq.size by decide) (fun xs y h=>by
  unfold vC at h;rw[Yr];cases hf:dY xs 24 with
  |true=>rw[hf]at h;cases h;rfl
  |false=>rw[hf]at h;cases h) fun y h=>by
  have e:vC []=a6 []:=rfl;rw[e]at h;cases h;exact⟨rfl,Yu⟩
 intro w i j x y l o hd d;refine base w i j x y l o hd ?_;have d:qN x.1=a6 y:=d;unfold qN at d;cases hc:vC x.1 with
 |none=>rw[hc]at d;cases d
 |some z=>rw[hc]at d;simp only[hc];exact d
abbrev xu:Ty:=(.pair (.int .i64) (.pair (.int .i64) .unit))
def qM (l:List xu.den):Option (List xu.den):=cond (dY l 16) (a6 l) a7
theorem Yt (xs:List xu.den):kH arI 1000000 (.call 246 [.lst xu xs false]) ⟨[],[],[],0⟩ (fun v st=>jc true [(.list xu,true)] (zo 1 v) st.hp)=(bif dY xs 16 then a6 (xs,())else a7):=by kernel_rfl
theorem Yv:kH arI 1000000 (.call 246 [.lst xu [] true]) ⟨[],[],[],0⟩ (fun v st=>match v,st.hp with|.nils,[]=>a6 ()|_,_=>a7)=a6 ():=by kernel_rfl
def nR (l:List xu.den):Option (List xu.den×Unit):=match qM l with|some y=>a6 (y,())|none=>a7
def yz:Sum:=⟨[.list xu],[(.list xu,true)],fun x=>nR x.1⟩
theorem wY:dR prog 246 yz:=by
 have base:=Dt ai8 (e:=xu) (e2:=xu) (g:=246) (f:=qM) (show 0<xu.size by decide) (show 0<xu.size by decide) (fun xs y h=>by
  unfold qM at h;rw[Yt];cases hf:dY xs 16 with
  |true=>rw[hf]at h;cases h;rfl
  |false=>rw[hf]at h;cases h) fun y h=>by
  have e:qM []=a6 []:=rfl;rw[e]at h;cases h;exact⟨rfl,Yv⟩
 intro w i j x y l o hd d;refine base w i j x y l o hd ?_;have d:nR x.1=a6 y:=d;unfold nR at d;cases hc:qM x.1 with
 |none=>rw[hc]at d;cases d
 |some z=>rw[hc]at d;simp only[hc];exact d
noncomputable def sg1 (g:FuncId):Option Sum:=cond (Nat.beq g 134) (a6 Px)<|cond (Nat.beq g 246) (a6 yz)<|sg0 g
theorem aiv: ∀g s,sg1 g=a6 s->dR prog g s:=fun g s h=>by
 unfold sg1 at h;rw[cond_eq_ite]at h;split at h
 .rename_i d
  obtain rfl:g=134:=ah d;cases h;exact wX
 rw[cond_eq_ite]at h;split at h
 .rename_i d
  obtain rfl:g=246:=ah d;cases h;exact wY
 exact awo g s h
noncomputable def aLS:Env:={P:=prog,T:=tt,cl:=true,kp:=fun _ _=>a7,sg:=sg1,lp:=fun _ _=>a7,bf:=Ha,em:=DZ,il:=He,sl:=Hf,sc:=CV}
theorem aLm:eF aLS:=⟨tok,mixed,OU,aiv,fun f fn c _ _=>iZ (fun _=>rfl) (fun _=>rfl) c,afi _ fun f fn c _ _=>iZ (fun _=>rfl) (fun _=>rfl) c,RF,fun _ _ h=>by cases h⟩
end
section
open Go.ChangeShapes Go.WideShapes Go.RowKit
theorem aCx {P:Program} {w:World} {H:Type} {enc:TypeId×Value->H} {base:Nat} {spare:Nat->Bool} {held:Bool} {c:Cx} {f:Ty} {x:List f.den} {t e:TypeId} {v:Value} {d:DataW H} {o:List MemPlace}
  (p:P.underlying t=some (.slice e)) (hx:VD c (.list f) x v) (h:DataW.Trod enc P w base spare held t v d o):x.length=0\/ ∃g q,d=.slice g q/\g.length=x.length:=by
 have i:=(VD.leaf rfl).1 hx;simp only[eY]at i;obtain⟨a,k,z,j,A,B,D⟩:=i;simp only[List.cons.injEq,and_true]at j;obtain⟨E,l⟩:=h;subst j;have s:(Value.slice a x.length k).cells.toList=[.slice a x.length k]:=rfl;rw[s]at l;rcases DataW.trod_slice p l with ⟨u,y⟩|⟨G,I,J,K,L,n,u,y,M,N,O,S,U,V⟩
 all_goals simp_all
end
section
open Option renaming some → a6, none → a7
open Tryz
open Go.RowKit
theorem xh {E:Env} {f:FuncId} {c:Code} {k:eQ} {l i j:SP} {p q:Ex} {D:Nat} {lp:Nat->l.den->Option (i.den⊕j.den)}
  (st:{g:Type}->(l.den->Option g)->(i.den->Option g)->(j.den->Option g)->l.den->Option g)
  (hk:E.kp f (dH c)=a6 k:=by kernel_rfl) (s: ∀v,lp 0 v=a7:=by intro _;rfl) (u: ∀n v,lp (n+1) v=st (lp n) (fun e=>a6 (.inl e)) (fun r=>a6 (.inr r)) v:=by intro _ _;rfl)
  (A: ∀{R:Type} (d n:Nat) (K:Ex->St->Option R) (v:l.den),iter (a6 k) (xn E (d+D) f c) (n+1) (jV l v) K=st (fun v=>iter (a6 k) (xn E (d+D) f c) n (jV l v) K) (fun e=>K p (jV i e)) (fun r=>K q (jV j r)) v:=by intro _ d n K v;kernel_rfl)
  (h2: ∀{g B:Type} (x:l.den->Option g) (y:i.den->Option g) (z:j.den->Option g) (v:l.den) (K:g->Option B),bJ (st x y z v) K=st (fun v=>bJ (x v) K) (fun e=>bJ (y e) K) (fun r=>bJ (z r) K) v):
  dV E f c (fU k l i j p (fun v=>lp bQ v) D q):=by
 refine aoG hk fun R d K v o h=>⟨bQ, ?_⟩;have G: ∀(n:Nat) (v:l.den),iter (a6 k) (xn E (d+D) f c) n (jV l v) K=bJ (lp n v) fun o=>dW o (fun a=>K p (jV i a)) fun b=>K q (jV j b):=by
  intro n
  induction n with
  |zero=>intro v;rw[s];rfl
  |succ n I=>intro v;rw[A,u,h2,funext I];rfl
 exact(G bQ v).trans (congrArg (fun o=>bJ o _) h)
theorem lg {E:Env} {f:FuncId} {c:Code} {k:eQ} {l i j:SQ} {p q:Ex} {D:Nat} {lp:Nat->l.den->Option (i.den⊕j.den)}
  (st:{g:Type}->(l.den->Option g)->(i.den->Option g)->(j.den->Option g)->l.den->Option g)
  (hk:E.kp f (dH c)=a6 k:=by kernel_rfl) (s: ∀v,lp 0 v=a7:=by intro _;rfl) (u: ∀n v,lp (n+1) v=st (lp n) (fun e=>a6 (.inl e)) (fun r=>a6 (.inr r)) v:=by intro _ _;rfl)
  (A: ∀{R:Type} (d n:Nat) (K:Ex->St->Option R) (v:l.den),iter (a6 k) (xn E (d+D) f c) (n+1) (mF l v) K=st (fun v=>iter (a6 k) (xn E (d+D) f c) n (mF l v) K) (fun e=>K p (mF i e)) (fun r=>K q (mF j r)) v:=by intro _ d n K v;kernel_rfl)
  (h2: ∀{g B:Type} (x:l.den->Option g) (y:i.den->Option g) (z:j.den->Option g) (v:l.den) (K:g->Option B),bJ (st x y z v) K=st (fun v=>bJ (x v) K) (fun e=>bJ (y e) K) (fun r=>bJ (z r) K) v):
  dV E f c (fG k l i j p (fun v=>lp bQ v) D q):=by
 refine ahu hk fun R d K v o h=>⟨bQ, ?_⟩;have G: ∀(n:Nat) (v:l.den),iter (a6 k) (xn E (d+D) f c) n (mF l v) K=bJ (lp n v) fun o=>dW o (fun a=>K p (mF i a)) fun b=>K q (mF j b):=by
  intro n
  induction n with
  |zero=>intro v;rw[s];rfl
  |succ n I=>intro v;rw[A,u,h2,funext I];rfl
 exact(G bQ v).trans (congrArg (fun o=>bJ o _) h)
theorem aHk {E:Env} (d:eF E) {g:FuncId} {s:Sum} (e:news s.rs<=1) (h: ∀x,UB E g s.ps s.rs x=s.f x):dR E.P g s:=
 U8 d e fun x y i=>(h x).trans i
theorem fL {E:Env} {f:FuncId} {c:Code} {L:dE} (e:E.lp f (dH c)=a6 L) (h2:dV E f c L): ∀d,E.lp f (dH c)=a6 d->dV E f c d:=fun d h=>by
 simp_all
theorem fC {E:Env} {f:FuncId} {c:Code} {L:dE} (e:E.lp f (800000+dH c)=a6 L) (h2:sH E f c L): ∀d,E.lp f (800000+dH c)=a6 d->sH E f c d:=fun d h=>by
 simp_all
theorem aC {d:Type} {p:d->Prop} {a:d} {l:List d} (h:p a/\ ∀x∈l,p x): ∀x∈a::l,p x:=List.forall_mem_cons.2 h
theorem aN {d:Type} {p:d->Prop}: ∀x∈([]:List d),p x:=fun _ h=>absurd h List.not_mem_nil
theorem aDa {E:Env} (d:eF E) {g:FuncId} {s:fF} (h: ∀x y,avT E g s.bt s.cs s.ps s.rs x y=s.f x y):dL E.P g s:=afL d fun x y _ e=>(h x y).trans e
theorem mY {P:Program} {g:FuncId} {s:fF} (h: ∀x y,s.f x y=a7):dL P g s:=fun W0 c x y z _ _ _ _ e _ d=>nomatch (show(a7:Option _)=a6 z from(h x y).symm.trans d)
theorem aD {d:Type} {p:d->Prop} {a:d} {l:List d} (h:p a) (h2: ∀x∈l,p x): ∀x∈a::l,p x:=aC ⟨h,h2⟩
theorem fM {E:Env} {f:FuncId} {c:Code} {L:dE} (h2:dV E f c L) (e:E.lp f (dH c)=a6 L:=by kernel_rfl): ∀d,E.lp f (dH c)=a6 d->dV E f c d:=fL e h2
theorem sA {E:Env} (d:eF E) {g:FuncId} {s:Sum} (e:news s.rs<=1:=by decide) (h: ∀x,UB E g s.ps s.rs x=s.f x:=by intro x;kernel_rfl):dR E.P g s:=aHk d e h
theorem sB {E:Env} (d:eF E) {g:FuncId} {s:fF} (h: ∀x y,avT E g s.bt s.cs s.ps s.rs x y=s.f x y:=by intro x y;kernel_rfl):dL E.P g s:=aDa d h
theorem nM {E:Env} {f:FuncId} {c:Code} (l:List Code) (h: ∀d∈l,∀L,E.lp f (dH d)=a6 L->dV E f d L) (hl:jC c=l:=by kernel_rfl) (k:ZB E f c=true:=by kernel_rfl) (e: ∀id,E.rf f id=false:=by intro _;rfl):dO E f c:=ahv c e (by rw[hl];exact h) k
theorem eA {f:FuncId} {sg:List (FuncId×Sum)} {kp:List (Nat×eQ)} {lp:List (Nat×dE)} {sb:List (FuncId×fF)} (fn:Func) (d: ∀e∈sg,dR prog e.1 e.2) (hl:dO (iO prog tt f sg kp lp sb) f (fn.body.getD .skip):=by exact iZ (fun _=>rfl) (fun _=>rfl) _) (hf:prog.funcs[f]? =a6 fn:=by kernel_rfl) (hb:fn.body=a6 (fn.body.getD .skip):=by kernel_rfl) (hx: ∀e∈sb,dL prog e.1 e.2:=by simp):eF (iO prog tt f sg kp lp sb):=asM tok mixed OU d hf hb hl afi RF hx
theorem eB {sg:List (FuncId×Sum)} {kp:List (FuncId×Nat×eQ)} {lp:List (FuncId×Nat×dE)} {rf:List FuncId} {sb:List (FuncId×fF)} (f: ∀e∈sg,dR prog e.1 e.2) (d:List FuncId) (hl: ∀g∈d,∃fn c,prog.funcs[g]? =a6 fn/\fn.body=a6 c/\dO (gz prog tt sg kp lp rf sb) g c) (hx: ∀e∈sb,dL prog e.1 e.2:=by simp) (i:(lp.all fun e=>d.any fun g=>Nat.beq e.1 g)=true:=by kernel_rfl) (j:(rf.all fun e=>d.any fun g=>Nat.beq e g)=true:=by kernel_rfl):eF (gz prog tt sg kp lp rf sb):=an5 tok mixed OU f d i j hl afi RF hx
theorem sE {g:FuncId} {s:Sum} {l:List (FuncId×Sum)} (h:dR prog g s) (h2: ∀e∈l,dR prog e.1 e.2): ∀e∈(g,s)::l,dR prog e.1 e.2:=aD (p:=fun e:FuncId×Sum=>dR prog e.1 e.2) h h2
theorem sF {g:FuncId} {s:fF} {l:List (FuncId×fF)} (h:dL prog g s) (h2: ∀e∈l,dL prog e.1 e.2): ∀e∈(g,s)::l,dL prog e.1 e.2:=aD (p:=fun e:FuncId×fF=>dL prog e.1 e.2) h h2
theorem qA {g:FuncId} {s:Sum} {sg:List (FuncId×Sum)} {sb:List (FuncId×fF)} (fn:Func) (kp:List (Nat×eQ)) (d: ∀e∈sg,dR prog e.1 e.2) (hx: ∀e∈sb,dL prog e.1 e.2:=by exact aN) (hf:prog.funcs[g]? =a6 fn:=by kernel_rfl) (hb:fn.body=a6 (fn.body.getD .skip):=by kernel_rfl) (h: ∀x,UB (iO prog tt g sg kp [] sb) g s.ps s.rs x=s.f x:=by intro x;kernel_rfl) (i:news s.rs<=1:=by decide):dR prog g s:=aHk (eA fn d (hl:=iZ (fun _=>by show(bif Nat.beq g g then a7 else a7)=a7;cases Nat.beq g g<;>rfl) (fun _=>rfl) _) (hf:=hf) (hb:=hb) (hx:=hx)) i h
theorem qC {g:FuncId} {s:Sum} {sg:List (FuncId×Sum)} {sb:List (FuncId×fF)} (kp:List (FuncId×Nat×eQ)) (d: ∀e∈sg,dR prog e.1 e.2) (hx: ∀e∈sb,dL prog e.1 e.2:=by exact aN) (h: ∀x,UB (gz prog tt sg kp [] [] sb) g s.ps s.rs x=s.f x:=by intro x;kernel_rfl) (i:news s.rs<=1:=by decide):dR prog g s:=aHk (eB d [] aN hx) i h
theorem qB {g:FuncId} {s:fF} {sg:List (FuncId×Sum)} {sb:List (FuncId×fF)} (kp:List (FuncId×Nat×eQ)) (d: ∀e∈sg,dR prog e.1 e.2) (hx: ∀e∈sb,dL prog e.1 e.2:=by exact aN) (h: ∀x y,avT (gz prog tt sg kp [] [] sb) g s.bt s.cs s.ps s.rs x y=s.f x y:=by intro x y;kernel_rfl):dL prog g s:=aDa (eB d [] aN hx) h
end
section
open Option renaming some → a6, none → a7
open Tryz
open Go.RowKit
def uz (d:List nN) (e:Bool) (f g:Int):Option (taO×(Unit)):=cond (fV d (eU .i64 (bM d) 1)) (cond (mi (dD (eU .i64 (bM d) 1)) d) (a6 (((iw d (dD (eU .i64 (bM d) 1)) (g,((dK d (0,(0,())) (dD (eU .i64 (bM d) 1))).2.1,()))),(e,(f,()))),())) a7) a7
def axg:fF:=⟨216,tzC,[dC],[],fun x y=>uz x.1 x.2.1 x.2.2.1 y.1⟩
theorem NW:dL prog 202 axg:=qB [] aN
def wG (d:List nN) (e:Bool) (f:Int):Option (taO×(Unit)):=cond (gY 1 (bM d)) (cond (fH (bM d) 0 (eU .i64 (bM d) 1)) (a6 (((takeN d (dD (eU .i64 (bM d) 1))),(e,(f,()))),())) a7)<|some ((d,(e,(f,()))),())
def axh:fF:=⟨216,tzC,[],[],fun x y=>wG x.1 x.2.1 x.2.2.1⟩
theorem vV:dL prog 203 axh:=qB [] aN
def ajG (d:List nN) (e:Bool) (f:Int):Option (taO×Dc):=cond (fV d (BX (eU .i64 (bM d) 2) 0)) (cond (mi (dD (BX (eU .i64 (bM d) 2) 0)) d) (a6 ((d,(e,(f,()))),((dK d (0,(0,())) (dD (BX (eU .i64 (bM d) 2) 0))).1,()))) a7) a7
def aG1:fF:=⟨216,tzC,[],[dC],fun x y=>ajG x.1 x.2.1 x.2.2.1⟩
theorem ap2:dL prog 241 aG1:=qB [] aN
def Oj (f:List nN) (g:Bool) (i j:Int):Option (taO×qG):=cond (bV j 40) (bJ (uz f g i 3) fun d=>a6 ((d.1.1,(true,(d.1.2.2.1,()))),(true,())))<|cond (bV j 123) (bJ (ajG f g i) fun d=>cond (bV d.2.1 5) (cond (bV d.2.1 5) (bJ (uz d.1.1 d.1.2.1 d.1.2.2.1 8) fun e=>a6 ((e.1.1,(e.1.2.1,(e.1.2.2.1,()))),(true,())))<|bJ (uz d.1.1 d.1.2.1 d.1.2.2.1 7) fun e=>a6 ((e.1.1,(e.1.2.1,(e.1.2.2.1,()))),(true,())))<|cond (bV d.2.1 8) (bJ (uz d.1.1 d.1.2.1 d.1.2.2.1 8) fun e=>a6 ((e.1.1,(e.1.2.1,(e.1.2.2.1,()))),(true,())))<|bJ (uz d.1.1 d.1.2.1 d.1.2.2.1 7) fun e=>a6 ((e.1.1,(e.1.2.1,(e.1.2.2.1,()))),(true,())))<|cond (bV j 36) (bJ (wG f g i) fun d=>a6 ((d.1.1,(d.1.2.1,(d.1.2.2.1,()))),(true,())))<|bJ (wG f g i) fun d=>a6 ((d.1.1,(d.1.2.1,(d.1.2.2.1,()))),(false,()))
def axf:fF:=⟨216,tzC,[.int .u8],[.bool],fun x y=>Oj x.1 x.2.1 x.2.2.1 y.1⟩
theorem apP:dL prog 201 axf:=qB [] aN (sF NW (sF vV (sF ap2 aN)))
noncomputable def b44:Code:=(f44.body).getD .skip
noncomputable def AZ:Code:=cB (cB (cB (cB (cB (cB (cB (cA (cA (cB (b44))))))))))
noncomputable def A7:Code:=cB (cB (b44))
noncomputable def A8:Code:=cB (cA (cB (cA (cB (cB (b44))))))
noncomputable def Ba:Code:=cB (cB (cB (cA (cB (cA (cB (cB (b44))))))))
def BB:eQ:=⟨[0,18,900011],[],[0],[],[2],[]⟩
def BC:eQ:=⟨[0,900012],[],[2],[],[2],[]⟩
def BD:eQ:=⟨[33,34,900020],[],[],[],[2],[]⟩
def BF:eQ:=⟨[42,900026],[],[],[],[2],[]⟩
def ar {a b c d e g h R:Type} (f:a->b->c->d->e->g->h->R) (v:((a×b×c×Unit)×((d×e×g×h×Unit)×Unit×Unit)×Unit)):R:=f v.1.1 v.1.2.1 v.1.2.2.1 v.2.1.1.1 v.2.1.1.2.1 v.2.1.1.2.2.1 v.2.1.1.2.2.2.1
def aE {a R:Type} (f:((a×Unit)×Unit)->R):a->R:=fun a=>f ((a,()),())
def aL {a b R:Type} (f:((a×b×Unit)×Unit)->R):a->b->R:=fun a b=>f ((a,b,()),())
def aM {a b c d R:Type} (f:a->b->c->d->R) (v:((a×b×c×d×Unit)×Unit)):R:=f v.1.1 v.1.2.1 v.1.2.2.1 v.1.2.2.2.1
def aR {a b c R:Type} (f:a->b->c->R) (v:((a×b×c×Unit)×Unit)):R:=f v.1.1 v.1.2.1 v.1.2.2.1
def ba {a b c d e g h i j k l R:Type} (f:a->b->c->d->e->g->h->i->j->k->l->R) (v:((a×b×c×d×Unit)×((e×g×h×i×j×Unit)×k×l×Unit))):R:=f v.1.1 v.1.2.1 v.1.2.2.1 v.1.2.2.2.1 v.2.1.1 v.2.1.2.1 v.2.1.2.2.1 v.2.1.2.2.2.1 v.2.1.2.2.2.2.1 v.2.2.1 v.2.2.2.1
def bb {a b c d e g R:Type} (f:(Unit×((a×Unit)×Unit×Unit×Unit)×((b×c×Unit)×d×Unit×(e×Unit)×g×Unit×Unit))->R):a->b->c->d->e->g->R:=fun a b c d e g=>f ((),((a,()),(),(),()),((b,c,()),d,(),(e,()),g,(),()))
def bc {a b c d e g h i j k l m n o p q r s t u R:Type} (f:a->b->c->d->e->g->h->i->j->k->l->m->n->o->p->q->r->s->t->u->R) (v:((a×b×c×Unit)×((d×e×g×h×Unit)×(i×Unit)×Unit×Unit×Unit)×(j×(k×l×m×n×o×Unit)×p×Unit×Unit×(q×r×Unit)×s×Unit×(t×Unit)×u×Unit×Unit))):R:=f v.1.1 v.1.2.1 v.1.2.2.1 v.2.1.1.1 v.2.1.1.2.1 v.2.1.1.2.2.1 v.2.1.1.2.2.2.1 v.2.1.2.1.1 v.2.2.1 v.2.2.2.1.1 v.2.2.2.1.2.1 v.2.2.2.1.2.2.1 v.2.2.2.1.2.2.2.1 v.2.2.2.1.2.2.2.2.1 v.2.2.2.2.1 v.2.2.2.2.2.2.2.1.1 v.2.2.2.2.2.2.2.1.2.1 v.2.2.2.2.2.2.2.2.1 v.2.2.2.2.2.2.2.2.2.2.1.1 v.2.2.2.2.2.2.2.2.2.2.2.1
def be {a b c d e g h i j k l m n o p R:Type} (f:a->b->c->d->e->g->h->i->j->k->l->m->n->o->p->R) (v:((a×Unit)×(Unit×Unit×Unit×Unit)×((b×c×d×e×Unit)×(g×h×i×Unit)×(j×Unit)×Unit×k×(l×m×n×Unit)×Unit×(o×p×Unit)×Unit))):R:=f v.1.1 v.2.2.1.1 v.2.2.1.2.1 v.2.2.1.2.2.1 v.2.2.1.2.2.2.1 v.2.2.2.1.1 v.2.2.2.1.2.1 v.2.2.2.1.2.2.1 v.2.2.2.2.1.1 v.2.2.2.2.2.2.1 v.2.2.2.2.2.2.2.1.1 v.2.2.2.2.2.2.2.1.2.1 v.2.2.2.2.2.2.2.1.2.2.1 v.2.2.2.2.2.2.2.2.2.1.1 v.2.2.2.2.2.2.2.2.2.1.2.1
def bh {a b c d e R:Type} (f:a->b->c->d->e->R) (v:((a×b×c×d×Unit)×(e×Unit))):R:=f v.1.1 v.1.2.1 v.1.2.2.1 v.1.2.2.2.1 v.2.1
def bj {a b c d e g R:Type} (f:((a×Unit)×(Unit×Unit)×((b×c×d×e×Unit)×g×Unit))->R):a->b->c->d->e->g->R:=fun a b c d e g=>f ((a,()),((),()),((b,c,d,e,()),g,()))
def bk {a b c d e g R:Type} (f:a->b->c->d->e->g->R) (v:((a×Unit)×(Unit×Unit)×((b×c×d×e×Unit)×g×Unit))):R:=f v.1.1 v.2.2.1.1 v.2.2.1.2.1 v.2.2.1.2.2.1 v.2.2.1.2.2.2.1 v.2.2.2.1
def bl {a b c d e R:Type} (f:(Unit×(Unit×Unit)×((a×b×c×d×Unit)×e×Unit))->R):a->b->c->d->e->R:=fun a b c d e=>f ((),((),()),((a,b,c,d,()),e,()))
def bm {a b c d e R:Type} (f:a->b->c->d->e->R) (v:(Unit×(Unit×Unit)×((a×b×c×d×Unit)×e×Unit))):R:=f v.2.2.1.1 v.2.2.1.2.1 v.2.2.1.2.2.1 v.2.2.1.2.2.2.1 v.2.2.2.1
def bo {a b c d e g h i j k l R:Type} (f:(Unit×((a×b×Unit)×(c×d×Unit)×(e×g×Unit)×Unit×Unit)×(Unit×Unit×h×(i×j×k×l×Unit)×Unit))->R):a->b->c->d->e->g->h->i->j->k->l->R:=fun a b c d e g h i j k l=>f ((),((a,b,()),(c,d,()),(e,g,()),(),()),((),(),h,(i,j,k,l,()),()))
def bp {a b c d e g R:Type} (f:(Unit×((a×b×Unit)×(c×d×Unit)×(e×g×Unit)×Unit×Unit)×Unit)->R):a->b->c->d->e->g->R:=fun a b c d e g=>f ((),((a,b,()),(c,d,()),(e,g,()),(),()),())
def bq {a b c d e g h i j k l R:Type} (f:a->b->c->d->e->g->h->i->j->k->l->R) (v:(Unit×((a×b×Unit)×(c×d×Unit)×(e×g×Unit)×Unit×Unit)×(Unit×Unit×h×(i×j×k×l×Unit)×Unit))):R:=f v.2.1.1.1 v.2.1.1.2.1 v.2.1.2.1.1 v.2.1.2.1.2.1 v.2.1.2.2.1.1 v.2.1.2.2.1.2.1 v.2.2.2.2.1 v.2.2.2.2.2.1.1 v.2.2.2.2.2.1.2.1 v.2.2.2.2.2.1.2.2.1 v.2.2.2.2.2.1.2.2.2.1
def br {a b c d e g h R:Type} (f:((a×Unit)×(Unit×Unit)×((b×c×d×e×g×Unit)×h×Unit))->R):a->b->c->d->e->g->h->R:=fun a b c d e g h=>f ((a,()),((),()),((b,c,d,e,g,()),h,()))
def bs {a b c d e g h R:Type} (f:a->b->c->d->e->g->h->R) (v:((a×Unit)×(Unit×Unit)×((b×c×d×e×g×Unit)×h×Unit))):R:=f v.1.1 v.2.2.1.1 v.2.2.1.2.1 v.2.2.1.2.2.1 v.2.2.1.2.2.2.1 v.2.2.1.2.2.2.2.1 v.2.2.2.1
def bv {a b c d e g R:Type} (f:a->b->c->d->e->g->R) (v:((a×b×c×d×e×Unit)×(g×Unit))):R:=f v.1.1 v.1.2.1 v.1.2.2.1 v.1.2.2.2.1 v.1.2.2.2.2.1 v.2.1
def bw {a b c d e g h i j k l m R:Type} (f:a->b->c->d->e->g->h->i->j->k->l->m->R) (v:((a×b×c×Unit)×((d×e×g×Unit)×(h×i×Unit)×(j×k×l×m×Unit)×Unit))):R:=f v.1.1 v.1.2.1 v.1.2.2.1 v.2.1.1 v.2.1.2.1 v.2.1.2.2.1 v.2.2.1.1 v.2.2.1.2.1 v.2.2.2.1.1 v.2.2.2.1.2.1 v.2.2.2.1.2.2.1 v.2.2.2.1.2.2.2.1
def bx {a b c d e g h i j k l m n o p R:Type} (f:a->b->c->d->e->g->h->i->j->k->l->m->n->o->p->R) (v:((a×b×c×Unit)×((d×e×g×Unit)×(h×i×Unit)×(j×k×l×m×Unit)×(n×o×p×Unit)×Unit))):R:=f v.1.1 v.1.2.1 v.1.2.2.1 v.2.1.1 v.2.1.2.1 v.2.1.2.2.1 v.2.2.1.1 v.2.2.1.2.1 v.2.2.2.1.1 v.2.2.2.1.2.1 v.2.2.2.1.2.2.1 v.2.2.2.1.2.2.2.1 v.2.2.2.2.1.1 v.2.2.2.2.1.2.1 v.2.2.2.2.1.2.2.1
def bA {a b c d e g h i j k l m n R:Type} (f:a->b->c->d->e->g->h->i->j->k->l->m->n->R) (v:((a×b×c×Unit)×(Unit×Unit×Unit×Unit)×(Unit×(d×Unit)×Unit×e×(g×Unit)×h×(i×j×k×Unit)×Unit×l×Unit×(m×Unit)×n×Unit))):R:=f v.1.1 v.1.2.1 v.1.2.2.1 v.2.2.2.1.1 v.2.2.2.2.2.1 v.2.2.2.2.2.2.1.1 v.2.2.2.2.2.2.2.1 v.2.2.2.2.2.2.2.2.1.1 v.2.2.2.2.2.2.2.2.1.2.1 v.2.2.2.2.2.2.2.2.1.2.2.1 v.2.2.2.2.2.2.2.2.2.2.1 v.2.2.2.2.2.2.2.2.2.2.2.2.1.1 v.2.2.2.2.2.2.2.2.2.2.2.2.2.1
def co:FK:=.ptr 0 0
def cH:FK:=.fn 257 [(1000001,0),(2000003,0)]
def bR:FK:=.v dC
def cJ:FK:=.ptr 1000001 0
def bN:List FK:=[co]
def bB:List (List FK):=[us [co,.u,cH,.u,.u,.u,bR,bR,.u,.u,.u,.u,.u,.u,.u,.u,.u,.u,.u,.u,.u,.u,.u,.u,.u,.u,.u,.u,.u,.u,.u,.u,.u,.u,.u,.u,.u,cH] 16,us [co,bR,cH,.u,.u,.u,.u,.u,.u,.u,.u,.u,.u,co,bR,cH] 8,[.u,cJ,bR,.ptr 2000003 0,.u,.u,.u,.u,.u,.u,.u,.u,.u,.u,.u,.u,.u,.u,.u,.u,.u,.u,.u,.u,.u,.u,.u,.u,co,bR,cH,.u],bN]
def bO:FK:=.v .str
def cx:HK:=.arr 1 nO
def bE:List HK:=[.box 0 100 [.v oI,bO,.slc 1,bR,bR,bR],cx]
def bL:HK:=.box 0 90 [.v oI,bR,.slc 1,bR,bR]
def bS:HK:=.box 1000003 128 [.slf 1000003,.slc 1500003]
def d7:FK:=.ptr 2000001 0
def cN:FK:=.fn 211 [(3000003,0),(3000002,0)]
def b9:FK:=.v .bool
def cY:FK:=.ptr 2000011 0
def bX:List FK:=[.u,d7,.ptr 3000002 0,.ptr 3000003 0,cN,bR,.ptr 3000006 0,.u,.u,.u,.u,.u,.u,.u,.u,.u,.u,.u,.u,.u,.u,.u,.u,.u,.u,.u,.u,.u,.u,.u,.u,.u,.u,.u,.u,.u,.u,.u,.u,.u,.u,.u,.u,.u,.u,.u,.u,.u,.u,.u,.u,.u,.u,.u,.u,.u,.u,.u,.u,.u,.u,.u,.u,.u,.u,.u,.u,.u,.u,.u,.u,.u,.u,.u,.u,.u,.u,.u,.u,.u,.u,.u,.u,.u,.u,.u,.u,.u,.u,.u,.u,.u,.u,.u,.u,.u,.u,.u,.u,.u,.u,cN,b9,b9,cY,.v Jf,.yld 1700008,.u,.u,.u,.u,.u]
def er:FK:=.fn 176 [(1000001,0)]
def b8:List (List FK):=[us [co,.u,er,.u,.u,.u,bR,bR,.u,.u,.u,.u,.u,.u,.u,.u,.u,.u,.u,.u,.u,.u,.u,.u,.u,.u,.u,.u,.u,.u,.u,.u,.u,.u,.u,.u,.u,er] 16,[.u,cJ,.u,.u,.u,.u,.u,co,er,.u],bN]
def eD:FK:=.ptr 1000002 0
def d9:FK:=.ptr 1000004 0
def eE:FK:=.ptr 1000007 0
def d8:FK:=.ptr 1000008 0
def ck:List FK:=us [.u,.u,eD,.u,d9,.u,.u,eE,d8] 60
def eR:FK:=.v (.list nO)
def ct:List FK:=[bR,.v (.list Dy),b9]
def dv:HK:=.box 1000004 28 [.slc 1500004]
def cP:HK:=.box 0 79 [bR,.slc 1]
def eS:HK:=.arr 1 Py
def ca:List HK:=[.lp 1700025 10 (ck) [25,26] 7 0 a7,.box 2000001 59 [eR],.box 1000008 55 [.mpv 1000021],.mp 1000021 .i64 .i64,.box 1000007 53 [.v oI],.arr 1500007 Vk,.box 1000006 50 ct,dv,.arr 1500004 VY,.box 1000002 25 bN,cP,eS]
def cz:HK:=.box 2000011 220 [bO,.v V3,.mpv 2000009]
def cW:HK:=.mp 2000009 .i64 .i64
def ev:HK:=.box 2000001 189 [cY]
def cg:FK:=.ptr 1000003 0
def cG:List FK:=us [.u,.u,bO,cg] 9
def cy:HK:=.arr 1500003 (.int .u8)
def ce:List HK:=[cz,cW,ev,.lp 1700008 143 (cG) [8] 4 0 a7,cy,bS]
def cQ:List FK:=[.yld 1700008]
def cf:List HK:=[.arr 4800009 (.int .u8),.box 3000006 200 [bR,bR,bR,bR,b9],.arr 3500003 (.int .u8),.box 3000003 74 [.nils],.box 3000002 221 cQ,cz,cW,ev,.lp 1700008 143 (cG) [8] 4 0 a7,cy,bS]
def ci:List HK:=[.arr 3500003 (.int .u8),.box 3000003 74 [.slc 3500003],.box 3000002 221 cQ,cz,cW,ev,.lp 1700008 143 (cG) [8] 4 0 a7,cy,bS]
def cj:List (List FK):=[us [bO,bO,.u,.u,.u,.u,.u,.u,.u,.u,.u,.u,.u,.u,.u,.u,.u,.u,.u,.u,.u,.u,.u,.u,.u,.u,.u,.u,.u,.u,.u,bO,bO,.v Py,.slc 1000034] 49,[]]
def cS:HK:=.arr 1000012 (.pair .str tyL)
def cm:List HK:=[.box 1000008 200 [bR,bR,bR,bR,b9],.arr 1800005 Jf,cS]
def cq:FK:=.ptr 1000005 0
def cr:HK:=.box 1000001 88 bN
def eb:HK:=.box 1000009 241 [.slc 1500009,.slc 1502009]
def cC:List HK:=[.arr 1502009 dC,.arr 1500009 Jf,eb]
def cD:List FK:=us [.u,.u,.nils,cg,d9,cq] 13
def ec:FK:=.v (.list Vr)
def cE:List HK:=[.lp 1700014 141 (us [.u,.u,bO,.u,.u,cq] 15) [14] 5 0 a7,.box 2000001 181 [ec],.box 1000005 74 [.slc 1500005],.arr 1500005 (.int .u8)]
def cF:List HK:=[.box 0 241 [.slc 1,.slc 2],.arr 1 Jf,.arr 2 dC]
def cI:HK:=.box 2000004 216 [.slc 2000002,b9,bR]
def cK:List FK:=[co,bO,.u,.u,.u,.u,co,co,.ptr 0 1,.slc 1,bO,.u,.u,.u]
def dk:HK:=.box 1000005 50 ct
def cL:List HK:=[.box 1000011 50 ct,.box 1000007 50 [bR,.nils,b9],.box 1000006 32 [bR,bR,bR,b9],dk]
def cM:FK:=.v (.int .u8)
def cR:List FK:=us [bO,bR,.u,.u,.u,cq,.ptr 1000006 0,eE,.u,.u,.u,.ptr 1000011 0,.u,.u,bR] 171
def cT:HK:=.box 1000003 50 [bR,.nils,b9]
def cU:List FK:=[.u,.u,.u,.u,bR]
def cV:List (List FK):=[us [.u,.u,bO,.u,.u,cq] 15,[.yld 1700014],[]]
def cX:List HK:=[.box 1000011 50 ct,.box 1000007 50 [bR,.nils,b9],.box 1000006 32 [bR,bR,bR,b9]]
def c6:List (List FK):=[bN]
def c7:List HK:=[.box 1000005 149 [bO,b9]]
def c8:List FK:=us [co,.u,.u,.u,.u,bR] 102
def c9:List FK:=[bO,bR,.u,.u,.u,.u,.u,.u,.u,bO,bR,.u]
def da:List FK:=[bO,bR,.u,.u,.u,bO,bR,.u,.u,.u,.u,.u]
def db:FK:=.slc 1800005
def eJ:List FK:=[bO,.v (.list dC),b9]
def de:List HK:=[.box 1000003 165 eJ,.box 1000002 165 [bO,.nils,b9]]
def dg:List HK:=[bL,cx]
def dj:HK:=.arr 2000002 Vr
def dq:HK:=.box 1000004 200 [bR,bR,bR,bR,b9]
def dr:List HK:=[.arr 1200482 nO,.box 1000024 100 [.v oI,bO,.slc 1200482,bR,bR,bR]]
def dt:List HK:=[.arr 3502011 Py,.box 3000011 79 [bR,.slc 3502011],.arr 1000034 Py]
def du:FK:=.slc 1000012
def dx:List FK:=us [.u,.u,.u,.u,.u,.u,.u,bR] 25
def dy:List FK:=us [] 13
def dz:List FK:=us [.u,.u,.v V3] 119
def d5:FK:=.slc 1800004
def d6:List FK:=[.u,.u,bR]
def ef:List FK:=[bO,bR,.u,.u,.u,bO,bR,.u]
def eg:List HK:=[dj,.box 0 216 [.slc 2000002,b9,bR],.arr 1 Vr]
def eh:List HK:=[.box 2000003 1 [.mfn 252 [(0,0)]],cr,cx,bL]
def ei:List HK:=[.box 2000003 1 [.mfn 253 [(0,0)]],cr,cx,bL]
def ej:List HK:=[.box 2000003 1 [.mfn 254 [(0,0)]],cr,cx,bL]
def ek:List HK:=[.box 2000003 1 [.mfn 255 [(0,0)]],cr,cx,bL]
def en:List HK:=[.box 2000003 1 [.mfn 256 [(0,0)]],cr,cx,bL]
def eo:List HK:=[.box 2000003 1 [.mfn 251 [(0,0)]],cr,cx,bL]
def ey:List FK:=[co,.u,.u,bR]
def ez:FK:=.ptr 1000009 0
def eC:FK:=.ptr 2000004 0
def eI:List FK:=us [bO,.u,.u,.u,.u,cq,.u,.u,.u,bR,bR] 63
def eK:List FK:=[.u,.u,bO]
def eM:FK:=.v (.list VY)
def eN:List FK:=us [cJ] 12
def eO:List FK:=[co,.u,bR]
def eT:List HK:=[.box 0 216 [.slc 1,b9,bR],.arr 1 Vr]
def II:SP:=⟨us [cM,.u,.u,.u,.u,.u,.u,.u,.u,.u,.u,.u,.u,.u,.u,.u,.u,.u,b9] 29,[]⟩
def tV:SP:=⟨us [cM] 47,[]⟩
def tX:SP:=⟨us d6 45,[]⟩
def EJ {d:Type} (e f:Int->Option d) (g:Int) (i:Bool):Option d:=cond i (f 5)<|e g
def lQ (d:Int) (e:Bool):Option (tV.den⊕tX.den):=EJ (fun f=>a6 (.inl ((f,()),()))) (fun g=>a6 (.inr ((g,()),()))) d e
noncomputable def OJ:dE:=fU BB II tV tX (.exit 999999) (fun v=>lQ v.1.1 v.1.2.1) 6
def IL:SP:=⟨[.u,.u,.u,.u,.u,.u,.u,.u,.u,.u,.u,.u,.u,.u,.u,.u,.u,.u,.u,.u,.u,.u,.u,.u,.u,.u,.u,.u,.u,.u,.u,.u,.u,.u,.u,.u,.u,.u,.u,.u,.u,.u,b9,.u,.u,.u,.u,.u],[]⟩
def xY:SP:=⟨us [] 48,[]⟩
def yf:SP:=⟨us d6 45,[]⟩
def EM {d:Type} (e:Option d) (f:Int->Option d) (g:Bool):Option d:=cond g (f 4) e
def lS (d:Bool):Option (xY.den⊕yf.den):=EM (a6 (.inl ((),()))) (fun e=>a6 (.inr ((e,()),()))) d
noncomputable def OO:dE:=fU BF IL xY yf (.exit 999999) (fun v=>lS v.1.1) 12
def IK:SP:=⟨us [.u,.u,.u,.u,.u,.u,.u,.u,.u,.u,.u,.u,.u,.u,.u,.u,.u,.u,.u,.u,.u,.u,.u,.u,.u,.u,.u,.u,.u,.u,.u,.u,.u,cM,b9] 13,[]⟩
def xX:SP:=⟨us [] 48,[]⟩
def yc:SP:=⟨us d6 45,[]⟩
def EL {l:Type} (i:Option l) (g:Int->Option l) (d:Int) (o:Bool):Option l:=cond o (g 3)<|cond (bV d 92) (bJ (lS (bV d 92)) fun e=>dW e (fun j=>i) (fun f=>g f.1.1))<|cond (bV d 39) (bJ (lS (bV d 39)) fun e=>dW e (fun j=>i) (fun f=>g f.1.1))<|cond (bV d 34) (bJ (lS (bV d 34)) fun e=>dW e (fun j=>i) (fun f=>g f.1.1))<|cond (bV d 96) (bJ (lS (bV d 96)) fun e=>dW e (fun j=>i) (fun f=>g f.1.1))<|bJ (lS (bV d 36)) fun e=>dW e (fun j=>i) (fun f=>g f.1.1)
def jY (d:Int) (e:Bool):Option (xX.den⊕yc.den):=EL (a6 (.inl ((),()))) (fun f=>a6 (.inr ((f,()),()))) d e
noncomputable def OM:dE:=fU BD IK xX yc (.exit 999999) (fun v=>jY v.1.1 v.1.2.1) 18
def IJ:SP:=⟨us [cM] 47,[]⟩
def xW:SP:=⟨[],[]⟩
def x9:SP:=⟨us d6 45,[]⟩
def EK {j:Type} (l:Option j) (e:Int->Option j) (d:Int):Option j:=cond (bV d 124) (bJ (jY d (bV d 124)) fun f=>dW f (fun i=>e 0) (fun g=>e g.1.1))<|cond (bV d 38) (bJ (jY d (bV d 38)) fun f=>dW f (fun i=>e 0) (fun g=>e g.1.1))<|cond (bV d 59) (bJ (jY d (bV d 59)) fun f=>dW f (fun i=>e 0) (fun g=>e g.1.1))<|cond (bV d 60) (bJ (jY d (bV d 60)) fun f=>dW f (fun i=>e 0) (fun g=>e g.1.1))<|cond (bV d 62) (bJ (jY d (bV d 62)) fun f=>dW f (fun i=>e 0) (fun g=>e g.1.1))<|cond (bV d 40) (bJ (jY d (bV d 40)) fun f=>dW f (fun i=>e 0) (fun g=>e g.1.1))<|bJ (jY d (bV d 41)) fun f=>dW f (fun i=>e 0) (fun g=>e g.1.1)
def xN (d:Int):Option (xW.den⊕x9.den):=EK (a6 (.inl ((),()))) (fun e=>a6 (.inr ((e,()),()))) d
noncomputable def OL:dE:=fU BC IJ xW x9 (.exit 0) (fun v=>xN v.1.1) 24
def SG (d:tV.den⊕tX.den):Option Dc:=dW d (fun e=>bJ (xN e.1.1) fun f=>dW f (fun j=>a7) (fun g=>a6 (g.1.1,()))) (fun i=>a6 (i.1.1,()))
def YV (d:Int):Option Dc:=cond (leI 65 d) (cond (leI d 90) (bJ (lQ d (leI d 90)) fun e=>SG e)<|bJ (lQ d (bV d 95)) fun e=>SG e)<|bJ (lQ d (bV d 95)) fun e=>SG e
def ati (d:Int):Option Dc:=cond (bV d 10) (a6 (2,()))<|cond (leI 48 d) (cond (leI d 57) (a6 (6,()))<|cond (leI 97 d) (cond (leI d 122) (bJ (lQ d (leI d 122)) fun e=>SG e)<|YV d)<|YV d)<|cond (leI 97 d) (cond (leI d 122) (bJ (lQ d (leI d 122)) fun e=>SG e)<|YV d)<|YV d
def SE (d:Int):Option Dc:=cond (bV d 32) (cond (bV d 32) (a6 (1,()))<|ati d)<|cond (bV d 9) (a6 (1,()))<|ati d
def amQ:Sum:=⟨[.int .u8],Vl,fun x=>SE x.1⟩
noncomputable def ww:Env:=iO prog tt 44 [] [(800011,BB),(800012,BC),(800020,BD),(800026,BF)] [(800011,OJ),(800026,OO),(800020,OM),(800012,OL)]
theorem VS {R:Type} (d:Nat) (K:Ex->St->Option R) (e:Int) (f:Bool):
  iter (a6 BB) (Bg (xn ww (d+6) 44 AZ)) 1 (jV II ((e,f,()),())) K=
   EJ (fun g=>K (.exit 999999) (jV tV ((g,()),()))) (fun i=>K .ret (jV tX ((i,()),()))) e f:=by kernel_rfl
theorem ad8 {R:Type} (d:Nat) (K:Ex->St->Option R) (e:Int) (f:Bool):
  iter (a6 BB) (Bg (xn ww (d+6) 44 AZ)) 1 (jV II ((e,f,()),())) K=bJ (lQ e f) fun o=>dW o (fun a=>K (.exit 999999) (jV tV a)) fun b=>K .ret (jV tX b):=by
  rw[VS];simp only[lQ,EJ,dh,di,bI,cZ,dm]
  try simp only[dW]
theorem aeV:sH ww 44 AZ OJ:=DI (by kernel_rfl) fun R d K v o h=>⟨1,(ad8 d K (v.1.1) (v.1.2.1)).trans (congrArg (fun o=>bJ o _) h)⟩
theorem VV {R:Type} (d:Nat) (K:Ex->St->Option R) (e:Bool):
  iter (a6 BF) (Bg (xn ww (d+12) 44 Ba)) 1 (jV IL ((e,()),())) K=
   EM (K (.exit 999999) (jV xY ((),()))) (fun f=>K .ret (jV yf ((f,()),()))) e:=by kernel_rfl
theorem aeb {R:Type} (d:Nat) (K:Ex->St->Option R) (e:Bool):
  iter (a6 BF) (Bg (xn ww (d+12) 44 Ba)) 1 (jV IL ((e,()),())) K=bJ (lS e) fun o=>dW o (fun a=>K (.exit 999999) (jV xY a)) fun b=>K .ret (jV yf b):=by
  rw[VV];simp only[lS,EM,dh,di,bI,cZ,dm]
  try simp only[dW]
theorem aeY:sH ww 44 Ba OO:=DI (by kernel_rfl) fun R d K v o h=>⟨1,(aeb d K (v.1.1)).trans (congrArg (fun o=>bJ o _) h)⟩
theorem VU {R:Type} (d:Nat) (K:Ex->St->Option R) (e:Int) (f:Bool):
  iter (a6 BD) (Bg (xn ww (d+18) 44 A8)) 1 (jV IK ((e,f,()),())) K=
   EL (K (.exit 999999) (jV xX ((),()))) (fun g=>K .ret (jV yc ((g,()),()))) e f:=by kernel_rfl
theorem aea {R:Type} (d:Nat) (K:Ex->St->Option R) (e:Int) (f:Bool):
  iter (a6 BD) (Bg (xn ww (d+18) 44 A8)) 1 (jV IK ((e,f,()),())) K=bJ (jY e f) fun o=>dW o (fun a=>K (.exit 999999) (jV xX a)) fun b=>K .ret (jV yc b):=by
  rw[VU];simp only[jY,EL,dh,di,bI,cZ,dm]
  try simp only[dW]
theorem aeX:sH ww 44 A8 OM:=DI (by kernel_rfl) fun R d K v o h=>⟨1,(aea d K (v.1.1) (v.1.2.1)).trans (congrArg (fun o=>bJ o _) h)⟩
theorem VT {R:Type} (d:Nat) (K:Ex->St->Option R) (e:Int):
  iter (a6 BC) (Bg (xn ww (d+24) 44 A7)) 1 (jV IJ ((e,()),())) K=
   EK (K (.exit 0) (jV xW ((),()))) (fun f=>K .ret (jV x9 ((f,()),()))) e:=by kernel_rfl
theorem ad9 {R:Type} (d:Nat) (K:Ex->St->Option R) (e:Int):
  iter (a6 BC) (Bg (xn ww (d+24) 44 A7)) 1 (jV IJ ((e,()),())) K=bJ (xN e) fun o=>dW o (fun a=>K (.exit 0) (jV xW a)) fun b=>K .ret (jV x9 b):=by
  rw[VT];simp only[xN,EK,dh,di,bI,cZ,dm]
  try simp only[dW]
theorem aeW:sH ww 44 A7 OL:=DI (by kernel_rfl) fun R d K v o h=>⟨1,(ad9 d K (v.1.1)).trans (congrArg (fun o=>bJ o _) h)⟩
theorem aJG:jC b44=[]:=by kernel_rfl
theorem aIx:FI ww 44 b44=[AZ,A7,A8,Ba]:=by kernel_rfl
theorem aJW:dO ww 44 b44:=xM b44 (fun x _ d=>absurd (show false=true from d) (by decide)) (by rw[aJG];exact aN) (BH (by rw[aIx];exact(aD (fC (by kernel_rfl) (aeV)) (aD (fC (by kernel_rfl) (aeW)) (aD (fC (by kernel_rfl) (aeX)) (aD (fC (by kernel_rfl) (aeY)) aN))))))
theorem asf:eF ww:=eA f44 aN (aJW)
theorem uj:dR prog 44 amQ:=sA asf
def G8 (e:Int):Option qG:=bJ (SE e) fun d=>cond (bV d.1 1) (cond (bV d.1 1) (a6 (true,()))<|some (false,()))<|cond (bV d.1 2) (cond (bV d.1 2) (a6 (true,()))<|some (false,()))<|cond (bV d.1 3) (a6 (true,()))<|some (false,())
def aGP:Sum:=⟨[.int .u8],LG,fun x=>G8 x.1⟩
theorem XT:dR prog 200 aGP:=qA f200 [] (sE uj aN)
def wI (f:List nN) (g:Bool) (d e:Int):Option (taO×(Unit)):=cond (bV e e) (cond (bV d d) (cond (dY (bT f [(e,(d,()))]) 16) (cond (bV e e) (cond (bV d d) (cond ((bV e e)&&((bV d d)&&true)) (a6 (((bT f [(e,(d,()))]),(g,(d,()))),())) a7) a7) a7) a7) a7) a7
def aG3:fF:=⟨216,tzC,[dC],[],fun x y=>wI x.1 x.2.1 x.2.2.1 y.1⟩
theorem AP:dL prog 243 aG3:=qB [] aN
def SC (e:List nN) (f:Bool) (g i:Int):Option (taO×qG):=cond (bV i 92) (bJ (wI e f g 13) fun d=>a6 ((d.1.1,(d.1.2.1,(d.1.2.2.1,()))),(true,())))<|cond (bV i 36) (bJ (wI e f g 12) fun d=>a6 ((d.1.1,(d.1.2.1,(d.1.2.2.1,()))),(true,())))<|cond (bV i 96) (bJ (wI e f g 6) fun d=>a6 ((d.1.1,(d.1.2.1,(d.1.2.2.1,()))),(true,())))<|some ((e,(f,(g,()))),(false,()))
def aHc:fF:=⟨216,tzC,[.int .u8],[.bool],fun x y=>SC x.1 x.2.1 x.2.2.1 y.1⟩
theorem NY:dL prog 266 aHc:=qB [] aN (sF AP aN)
def JL (d:Int) (e:List nN) (f:Int):Option (taO×(Unit)):=bJ (G8 d) fun g=>a6 ((e,(g.1,(f,()))),())
def WM (f:List nN) (i:Bool) (g l e:Int):Option (taO×(Unit)):=cond (bV e 92) (bJ (wI f i g 13) fun d=>a6 ((d.1.1,(d.1.2.1,(d.1.2.2.1,()))),()))<|cond (bV e 35) (cond i (bJ (wI f i g 14) fun d=>a6 ((d.1.1,(d.1.2.1,(d.1.2.2.1,()))),()))<|JL e f g)<|cond (bV e 40) (cond (!(bV l 0)) (bJ (wI f i g 2) fun d=>bJ (G8 e) fun j=>a6 ((d.1.1,(j.1,(d.1.2.2.1,()))),()))<|JL e f g)<|cond (bV e 41) (cond (!(bV l 0)) (bJ (wG f i g) fun d=>a6 ((d.1.1,((!(bV l 1)),(d.1.2.2.1,()))),()))<|some ((f,((!(bV l 1)),(g,()))),()))<|cond (bV e 39) (bJ (wI f i g 4) fun d=>bJ (G8 e) fun j=>a6 ((d.1.1,(j.1,(d.1.2.2.1,()))),()))<|cond (bV e 34) (bJ (wI f i g 5) fun d=>bJ (G8 e) fun j=>a6 ((d.1.1,(j.1,(d.1.2.2.1,()))),()))<|cond (bV e 36) (cond (bV e 36) (bJ (SC f i g e) fun d=>bJ (G8 e) fun j=>a6 ((d.1.1,(j.1,(d.1.2.2.1,()))),()))<|JL e f g)<|cond (bV e 96) (bJ (SC f i g e) fun d=>bJ (G8 e) fun j=>a6 ((d.1.1,(j.1,(d.1.2.2.1,()))),()))<|JL e f g
def aG2:fF:=⟨216,tzC,[dC,.int .u8],[],fun x y=>WM x.1 x.2.1 x.2.2.1 y.1 y.2.1⟩
theorem ap3:dL prog 242 aG2:=qB [] (sE XT aN) (sF vV (sF AP (sF NY aN)))
def ajH (g:List nN) (i:Bool) (j l f:Int):Option (taO×(Unit)):=bJ (SC g i j f) fun d=>cond d.2.1 (a6 ((d.1.1,(d.1.2.1,(d.1.2.2.1,()))),()))<|cond (bV f 40) (bJ (wI d.1.1 d.1.2.1 d.1.2.2.1 10) fun e=>a6 ((e.1.1,(e.1.2.1,(e.1.2.2.1,()))),()))<|cond (bV f 41) (cond (bV l 10) (bJ (wG d.1.1 d.1.2.1 d.1.2.2.1) fun e=>a6 ((e.1.1,(e.1.2.1,(e.1.2.2.1,()))),()))<|cond (bV f 41) (bJ (uz d.1.1 d.1.2.1 d.1.2.2.1 11) fun e=>a6 ((e.1.1,(e.1.2.1,(e.1.2.2.1,()))),()))<|some ((d.1.1,(d.1.2.1,(d.1.2.2.1,()))),()))<|cond (bV f 41) (bJ (uz d.1.1 d.1.2.1 d.1.2.2.1 11) fun e=>a6 ((e.1.1,(e.1.2.1,(e.1.2.2.1,()))),()))<|some ((d.1.1,(d.1.2.1,(d.1.2.2.1,()))),())
def aG4:fF:=⟨216,tzC,[dC,.int .u8],[],fun x y=>ajH x.1 x.2.1 x.2.2.1 y.1 y.2.1⟩
theorem ap4:dL prog 244 aG4:=qB [] aN (sF NW (sF vV (sF AP (sF NY aN))))
def YQ (f g:Int) (d:(taO×qG)):Option (taO×(Unit)):=cond (bV f 39) (cond (bV g 7) (bJ (wI d.1.1 d.1.2.1 d.1.2.2.1 4) fun e=>a6 ((e.1.1,(e.1.2.1,(e.1.2.2.1,()))),()))<|some ((d.1.1,(d.1.2.1,(d.1.2.2.1,()))),()))<|some ((d.1.1,(d.1.2.1,(d.1.2.2.1,()))),())
def YR (f:Int) (d:(taO×qG)) (g:Int):Option (taO×(Unit)):=cond (bV f 34) (bJ (wI d.1.1 d.1.2.1 d.1.2.2.1 5) fun e=>a6 ((e.1.1,(e.1.2.1,(e.1.2.2.1,()))),()))<|cond (bV f 125) (cond (!(bV g 5)) (bJ (wG d.1.1 d.1.2.1 d.1.2.2.1) fun e=>a6 ((e.1.1,(e.1.2.1,(e.1.2.2.1,()))),()))<|YQ f g d)<|YQ f g d
def ajI (i:List nN) (j:Bool) (l f e:Int):Option (taO×(Unit)):=bJ (SC i j l e) fun d=>cond d.2.1 (a6 ((d.1.1,(d.1.2.1,(d.1.2.2.1,()))),()))<|cond (bV e 34) (cond (bV f 5) (bJ (wG d.1.1 d.1.2.1 d.1.2.2.1) fun g=>a6 ((g.1.1,(g.1.2.1,(g.1.2.2.1,()))),()))<|YR e d f)<|YR e d f
def aG5:fF:=⟨216,tzC,[dC,.int .u8],[],fun x y=>ajI x.1 x.2.1 x.2.2.1 y.1 y.2.1⟩
theorem ap5:dL prog 245 aG5:=qB [] aN (sF vV (sF AP (sF NY aN)))
def Bq (i:Int) (e:List nN) (f:Bool) (g j:Int):Option (taO×(Unit)):=cond (bV i 13) (bJ (wG e f g) fun d=>cond d.1.2.1 (a6 ((d.1.1,((bV j 10),(d.1.2.2.1,()))),()))<|some ((d.1.1,(false,(d.1.2.2.1,()))),()))<|cond (bV i 4) (cond (bV j 39) (bJ (wG e f g) fun d=>a6 ((d.1.1,(d.1.2.1,(d.1.2.2.1,()))),()))<|some ((e,(f,(g,()))),()))<|cond (bV i 14) (cond (bV j 10) (bJ (wG e f g) fun d=>a6 ((d.1.1,(true,(d.1.2.2.1,()))),()))<|some ((e,(f,(g,()))),()))<|cond (bV i 6) (cond (bV j 96) (bJ (wG e f g) fun d=>a6 ((d.1.1,(d.1.2.1,(d.1.2.2.1,()))),()))<|cond (bV j 92) (bJ (wI e f g 13) fun d=>a6 ((d.1.1,(d.1.2.1,(d.1.2.2.1,()))),()))<|some ((e,(f,(g,()))),()))<|cond (bV i 9) (cond (bV i 9) (bJ (ajH e f g i j) fun d=>a6 ((d.1.1,(d.1.2.1,(d.1.2.2.1,()))),()))<|bJ (ajI e f g i j) fun d=>a6 ((d.1.1,(d.1.2.1,(d.1.2.2.1,()))),()))<|cond (bV i 10) (bJ (ajH e f g i j) fun d=>a6 ((d.1.1,(d.1.2.1,(d.1.2.2.1,()))),()))<|bJ (ajI e f g i j) fun d=>a6 ((d.1.1,(d.1.2.1,(d.1.2.2.1,()))),())
def Ol (f:List nN) (g:Bool) (i d j:Int):Option (taO×(Unit)):=cond (bV d 0) (cond (bV d 0) (bJ (WM f g i d j) fun e=>a6 ((e.1.1,(e.1.2.1,(e.1.2.2.1,()))),()))<|Bq d f g i j)<|cond (bV d 1) (cond (bV d 1) (bJ (WM f g i d j) fun e=>a6 ((e.1.1,(e.1.2.1,(e.1.2.2.1,()))),()))<|Bq d f g i j)<|cond (bV d 2) (bJ (WM f g i d j) fun e=>a6 ((e.1.1,(e.1.2.1,(e.1.2.2.1,()))),()))<|Bq d f g i j
def axi:fF:=⟨216,tzC,[dC,.int .u8],[],fun x y=>Ol x.1 x.2.1 x.2.2.1 y.1 y.2.1⟩
theorem apQ:dL prog 204 axi:=qB [] aN (sF vV (sF ap3 (sF AP (sF ap4 (sF ap5 aN)))))
noncomputable def aDG:Code:=(Tryz.f165.body).getD .skip
noncomputable def Yo:Code:=cA (cA (cA (cB (cB (cA (aDG))))))
def ahh:eQ:=⟨[0,1,100002],[],[0],[],[],[]⟩
def rH:eQ:=⟨[0,1],[],[],[],[],[]⟩
def Z7:SQ:=⟨us [co,cM] 63,c6,eg⟩
def aaK:SQ:=⟨us bN 64,c6,eg⟩
def abo:SQ:=⟨us [] 65,c6,[]⟩
def ace {l:Type} (p:Int->(List nN)->Bool->Int->(List nN)->Option l) (o:(List nN)->Bool->Int->(List nN)->Option l) (q:Option l) (f:Int) (e:List nN) (i:Bool) (j:Int) (g:List nN):Option l:=cond (fV e (eU .i64 (bM e) 1)) (cond (mi (dD (eU .i64 (bM e) 1)) e) (cond (bV (dK e (0,(0,())) (dD (eU .i64 (bM e) 1))).1 12) (bJ (Oj e i j f) fun d=>cond d.2.1 (o d.1.1 d.1.2.1 d.1.2.2.1 g)<|p f d.1.1 d.1.2.1 d.1.2.2.1 g)<|cond (bV (dK e (0,(0,())) (dD (eU .i64 (bM e) 1))).1 3) (cond (bV f 40) (bJ (uz e i j 9) fun d=>o d.1.1 false d.1.2.2.1 g)<|bJ (uz e i j 1) fun d=>p f d.1.1 d.1.2.1 d.1.2.2.1 g)<|cond (bV (dK e (0,(0,())) (dD (eU .i64 (bM e) 1))).1 11) (cond (bV f 41) (bJ (wG e i j) fun d=>o d.1.1 d.1.2.1 d.1.2.2.1 g)<|bJ (uz e i j 9) fun d=>p f d.1.1 d.1.2.1 d.1.2.2.1 g)<|bJ (Ol e i j (dK e (0,(0,())) (dD (eU .i64 (bM e) 1))).1 f) fun d=>o d.1.1 d.1.2.1 d.1.2.2.1 g) a7) a7
def Zk:Nat->Int->(List nN)->Bool->Int->(List nN)->Option (aaK.den⊕abo.den)
 |0,_,_,_,_,_=>a7
 |n+1,d,e,f,g,i=>ace (Zk n) (fun j l o p=>a6 (.inl ((),((),()),(j,(l,o,()),p,())))) (a6 (.inr ((),((),()),()))) d e f g i
def azV (n:Nat) (v:Z7.den):=Zk n v.1.1 v.2.2.1 v.2.2.2.1.1 v.2.2.2.1.2.1 v.2.2.2.2.1
noncomputable def Zv:dE:=fG ahh Z7 aaK abo (.exit 0) (azV bQ) 6
def KA:SQ:=⟨us [co,cM] 63,c6,eT⟩
def Nc:SQ:=⟨us bN 64,c6,eT⟩
def Nl:SQ:=⟨us [] 65,c6,[]⟩
def Au {j:Type} (o:Int->Bool->Int->(List nN)->Option j) (l:Bool->Int->(List nN)->Option j) (p:Option j) (f:Int) (g:Bool) (i:Int) (e:List nN):Option j:=cond (fV e (eU .i64 (bM e) 1)) (cond (mi (dD (eU .i64 (bM e) 1)) e) (cond (bV (dK e (0,(0,())) (dD (eU .i64 (bM e) 1))).1 12) (bJ (Oj e g i f) fun d=>cond d.2.1 (l d.1.2.1 d.1.2.2.1 d.1.1)<|o f d.1.2.1 d.1.2.2.1 d.1.1)<|cond (bV (dK e (0,(0,())) (dD (eU .i64 (bM e) 1))).1 3) (cond (bV f 40) (bJ (uz e g i 9) fun d=>l false d.1.2.2.1 d.1.1)<|bJ (uz e g i 1) fun d=>o f d.1.2.1 d.1.2.2.1 d.1.1)<|cond (bV (dK e (0,(0,())) (dD (eU .i64 (bM e) 1))).1 11) (cond (bV f 41) (bJ (wG e g i) fun d=>l d.1.2.1 d.1.2.2.1 d.1.1)<|bJ (uz e g i 9) fun d=>o f d.1.2.1 d.1.2.2.1 d.1.1)<|bJ (Ol e g i (dK e (0,(0,())) (dD (eU .i64 (bM e) 1))).1 f) fun d=>l d.1.2.1 d.1.2.2.1 d.1.1) a7) a7
def vH:Nat->Int->Bool->Int->(List nN)->Option (Nc.den⊕Nl.den)
 |0,_,_,_,_=>a7
 |n+1,d,e,f,g=>Au (vH n) (fun i j l=>a6 (.inl ((),((),()),((i,j,()),l,())))) (a6 (.inr ((),((),()),()))) d e f g
def aoL (n:Nat) (v:KA.den):=vH n v.1.1 v.2.2.1.1 v.2.2.1.2.1 v.2.2.2.1
noncomputable def MM:dE:=fG ahh KA Nc Nl (.exit 0) (aoL bQ) 12
def WH (e:List nN) (i:Bool) (j g:Int):Option (taO×(Unit)):=cond (bV (bM e) 0) (bJ (Zk bQ g [(0,(0,()))] true 0 e) fun f=>dW f (fun d=>a6 ((d.2.2.1,(d.2.2.2.1.1,((dw .i64 d.2.2.2.1.2.1 1),()))),())) (fun l=>a7))<|bJ (vH bQ g i j e) fun f=>dW f (fun d=>a6 ((d.2.2.2.1,(d.2.2.1.1,((dw .i64 d.2.2.1.2.1 1),()))),())) (fun l=>a7)
def acF:fF:=⟨216,tzC,[.int .u8],[],fun x y=>WH x.1 x.2.1 x.2.2.1 y.1⟩
noncomputable def RS:Env:=gz prog tt [] [(165,2,ahh),(165,600001,rH)] [(165,2,kU Zv MM)] [] [(201,axf),(202,axg),(203,axh),(204,axi)]
def alW {d:Type} (a:Z7.den->Option d) (b:aaK.den->Option d) (c:abo.den->Option d) (v:Z7.den):Option d:=ace (fun e f g i j=>a ((e,()),((),()),(f,(g,i,()),j,()))) (fun l o p q=>b ((),((),()),(l,(o,p,()),q,()))) (c ((),((),()),())) v.1.1 v.2.2.1 v.2.2.2.1.1 v.2.2.2.1.2.1 v.2.2.2.2.1
theorem aAM:dV RS 165 Yo Zv:=lg (alW) (h2:=by intros;simp only[alW,ace,dh,di,bI,cZ,dm])
def XA {d:Type} (a:KA.den->Option d) (b:Nc.den->Option d) (c:Nl.den->Option d) (v:KA.den):Option d:=Au (fun e f g i=>a ((e,()),((),()),((f,g,()),i,()))) (fun j l o=>b ((),((),()),((j,l,()),o,()))) (c ((),((),()),())) v.1.1 v.2.2.1.1 v.2.2.1.2.1 v.2.2.2.1
theorem aoT:dV RS 165 Yo MM:=lg (XA) (h2:=by intros;simp only[XA,Au,dh,di,bI,cZ,dm])
theorem aER:dO RS 165 aDG:=nM [Yo] (aD (fun L h=>by rw[show(RS).lp 165 (dH Yo)=a6 (kU Zv MM) by kernel_rfl]at h;cases h;exact qV aAM aoT) aN)
theorem anB:eF RS:=eB aN [165] (aD ⟨Tryz.f165,aDG,by kernel_rfl,by kernel_rfl,aER⟩ aN) (hx:=(aD apP (aD NW (aD vV (aD apQ aN)))))
theorem NS:dL prog 165 acF:=sB anB
def WO (d:Int):Option Dc:=cond (bV d 3) (a6 (1,()))<|cond (bV d 11) (a6 (9,()))<|some (d,())
def axA:Sum:=⟨[dC],Vl,fun x=>WO x.1⟩
theorem aqb:dR prog 267 axA:=qA Tryz.f267 [] aN
noncomputable def ayx:Code:=(f247.body).getD .skip
noncomputable def arh:Code:=cA (cA (cB (cA (cB (ayx)))))
noncomputable def ari:Code:=cA (cA (cB (cB (cB (ayx)))))
def aul:eQ:=⟨[0,1,2,6,100002],[],[0,1],[],[],[]⟩
def aum:eQ:=⟨[0,77,78,79,100009],[],[],[],[],[]⟩
def aao:SQ:=⟨us [co,ec,bR,.u,.u,.u,bR] 141,c6,cF⟩
def aa0:SQ:=⟨us [co,ec] 146,c6,cF⟩
def abG:SQ:=⟨us [] 148,c6,[]⟩
def jo (d:jg) (e:Int):=dK d 0 (dD (eU .i64 e 1))
def vN (d:List je) (e:jg) (f g:Int):=iw d (dD (jo e f)) ((dK d (0,(0,(0,(0,(false,()))))) (dD (jo e f))).1,((dK d (0,(0,(0,(0,(false,()))))) (dD (jo e f))).2.1,((dw .i64 g 1),((dK d (0,(0,(0,(0,(false,()))))) (dD (jo e f))).2.2.2.1,((dK d (0,(0,(0,(0,(false,()))))) (dD (jo e f))).2.2.2.2.1,())))))
def vO (f:List je) (d:jg) (e g:Int):=dK (vN f d e g) (0,(0,(0,(0,(false,()))))) (dD (jo d e))
def Gu {i:Type} (f:List je) (e:jg) (d g:Int) (j:(List nN)->Int->Int->(List je)->jg->Option i) (l:List nN):Option i:=cond (fV f (jo e d)) (cond (mi (dD (jo e d)) f) (cond (fV (vN f e d g) (jo e d)) (cond (mi (dD (jo e d)) (vN f e d g)) (cond (fH (bM e) 0 (eU .i64 d 1)) (j l g (eU .i64 d 1) (iw (vN f e d g) (dD (jo e d)) ((vO f e d g).1,((vO f e d g).2.1,((vO f e d g).2.2.1,((vO f e d g).2.2.2.1,(false,())))))) (takeN e (dD (eU .i64 d 1)))) a7) a7) a7) a7) a7
def QO {i:Type} (j:(List nN)->Int->Int->(List je)->jg->Option i) (l:(List nN)->(List je)->jg->Option i) (p:Option i) (f:List nN) (o d:Int) (g:List je) (e:jg):Option i:=cond (gY 0 d) (cond (fV e (eU .i64 d 1)) (cond (mi (dD (eU .i64 d 1)) e) (cond (leI d (bM f)) (cond (fV f (eU .i64 d 1)) (cond (fV g (jo e d)) (cond (mi (dD (jo e d)) g) (cond (bV (dJ f (0,(0,())) (eU .i64 d 1)).2.1 (dK g (0,(0,(0,(0,(false,()))))) (dD (jo e d))).2.1) (l f g e)<|Gu g e d o j f) a7) a7) a7)<|Gu g e d o j f) a7) a7)<|l f g e
def J9:Nat->(List nN)->Int->Int->(List je)->jg->Option (aa0.den⊕abG.den)
 |0,_,_,_,_,_=>a7
 |n+1,d,e,f,g,i=>QO (J9 n) (fun j l o=>a6 (.inl ((j,()),((),()),((),l,o,())))) (a6 (.inr ((),((),()),()))) d e f g i
def aAb (n:Nat) (v:aao.den):=J9 n v.1.1 v.1.2.1 v.1.2.2.1 v.2.2.2.1 v.2.2.2.2.1
noncomputable def akL:dE:=fG aul aao aa0 abG (.exit 0) (aAb bQ) 6
def aap:SQ:=⟨us [co,.u,.u,.u,.u,.u,.u,.u,.u,.u,.u,.u,.u,.u,.u,.u,.u,.u,.u,.u,.u,.u,.u,.u,.u,.u,.u,.u,.u,.u,.u,.u,.u,.u,.u,.u,.u,.u,.u,.u,.u,.u,.u,.u,.u,.u,.u,.u,.u,.u,.u,.u,.u,.u,.u,.u,.u,.u,.u,.u,.u,.u,.u,.u,.u,.u,.u,.u,.u,.u,.u,.u,.u,.u,.u,.u,.u,ec,bR,bR] 68,c6,cF⟩
def aa1:SQ:=⟨us [] 148,c6,cF⟩
def abH:SQ:=⟨us [] 148,c6,[]⟩
def kG (d:List je) (e:jg) (f:Int):=dK d (0,(0,(0,(0,(false,()))))) (dD (dK e 0 (dD f)))
def lJ (d:List nN) (e:Int):=bV (dJ d (0,(0,())) e).2.1 (dJ d (0,(0,())) e).2.1
def lK (d:List nN) (e:Int):=bV (dJ d (0,(0,())) e).1 (dJ d (0,(0,())) e).1
def CY {j:Type} (o:(List nN)->Int->Int->(List je)->jg->Option j) (p:(List je)->jg->Option j) (q:Option j) (g:List nN) (l d:Int) (f:List je) (e:jg):Option j:=cond (gY d l) (cond (fV g d) (cond (gY d (bM e)) (cond (fV e d) (cond (mi (dD d) e) (bJ (WO (dJ g (0,(0,())) d).1) fun i=>cond (fV f (dK e 0 (dD d))) (cond (mi (dD (dK e 0 (dD d))) f) (cond (fV (iw f (dD (dK e 0 (dD d))) (i.1,((kG f e d).2.1,((kG f e d).2.2.1,((kG f e d).2.2.2.1,((kG f e d).2.2.2.2.1,())))))) (dK e 0 (dD d))) (cond ((eqN (dD (dK e 0 (dD d))) (dD (dK e 0 (dD d))))&&true) (o g l (dw .i64 d 1) (iw f (dD (dK e 0 (dD d))) (i.1,((kG f e d).2.1,((kG f e d).2.2.1,((kG f e d).2.2.2.1,((kG f e d).2.2.2.2.1,())))))) e) a7) a7) a7) a7) a7) a7)<|cond (gY 0 d) (cond (fV e (eU .i64 d 1)) (cond (mi (dD (eU .i64 d 1)) e) (cond (dY (bT e [(bM f)]) 8) (cond (bV (bM f) (bM f)) (bJ (WO (dJ g (0,(0,())) d).1) fun i=>cond (lK g d) (cond (lJ g d) (cond (bV (dK e 0 (dD (eU .i64 d 1))) (dK e 0 (dD (eU .i64 d 1)))) (cond (((lK g d)&&true)&&((bV i.1 i.1)&&true)) (cond (dY (bT f [(i.1,((dJ g (0,(0,())) d).2.1,(0,((dK e 0 (dD (eU .i64 d 1))),(true,())))))]) 40) (cond (lK g d) (cond (lJ g d) (cond (bV (dK e 0 (dD (eU .i64 d 1))) (dK e 0 (dD (eU .i64 d 1)))) (cond ((bV i.1 i.1)&&((lJ g d)&&((bV 0 0)&&((bV (dK e 0 (dD (eU .i64 d 1))) (dK e 0 (dD (eU .i64 d 1))))&&((jA true true)&&true))))) (o g l (dw .i64 d 1) (bT f [(i.1,((dJ g (0,(0,())) d).2.1,(0,((dK e 0 (dD (eU .i64 d 1))),(true,())))))]) (bT e [(bM f)])) a7) a7) a7) a7) a7) a7) a7) a7) a7) a7) a7) a7) a7)<|cond (dY (bT e [(bM f)]) 8) (cond (bV (bM f) (bM f)) (bJ (WO (dJ g (0,(0,())) d).1) fun i=>cond (lK g d) (cond (lJ g d) (cond (bV (-1) (-1)) (cond (((lK g d)&&true)&&((bV i.1 i.1)&&true)) (cond (dY (bT f [(i.1,((dJ g (0,(0,())) d).2.1,(0,((-1),(true,())))))]) 40) (cond (lK g d) (cond (lJ g d) (cond (bV (-1) (-1)) (cond ((bV i.1 i.1)&&((lJ g d)&&((bV 0 0)&&((bV (-1) (-1))&&((jA true true)&&true))))) (o g l (dw .i64 d 1) (bT f [(i.1,((dJ g (0,(0,())) d).2.1,(0,((-1),(true,())))))]) (bT e [(bM f)])) a7) a7) a7) a7) a7) a7) a7) a7) a7) a7) a7) a7)<|p f e
def rO:Nat->(List nN)->Int->Int->(List je)->jg->Option (aa1.den⊕abH.den)
 |0,_,_,_,_,_=>a7
 |n+1,d,e,f,g,i=>CY (rO n) (fun j l=>a6 (.inl ((),((),()),((),j,l,())))) (a6 (.inr ((),((),()),()))) d e f g i
def aAc (n:Nat) (v:aap.den):=rO n v.1.1 v.1.2.1 v.1.2.2.1 v.2.2.2.1 v.2.2.2.2.1
noncomputable def akM:dE:=fG aum aap aa1 abH (.exit 2) (aAc bQ) 12
def adK (i:List je) (f:jg) (d:List nN) (j:Int):Option (((List je)×jg×Unit)×(Unit)):=cond (fH (bM d) 1 (bM d)) (bJ (J9 bQ (sub d 1 (bM d)) j (bM f) i f) fun l=>dW l (fun e=>bJ (rO bQ e.1.1 (bM e.1.1) 0 e.2.2.2.1 e.2.2.2.2.1) fun o=>dW o (fun g=>a6 ((g.2.2.2.1,(g.2.2.2.2.1,())),())) (fun p=>a7)) (fun q=>a7)) a7
def axv:fF:=⟨241,[(.list Jf,true),(.list dC,true)],[.list Vr,dC],[],fun x y=>adK x.1 x.2.1 y.1 y.2.1⟩
noncomputable def YD:Env:=gz prog tt [(267,axA)] [(247,2,aul),(247,9,aum)] [(247,2,akL),(247,9,akM)] []
def amc {d:Type} (a:aao.den->Option d) (b:aa0.den->Option d) (c:abG.den->Option d) (v:aao.den):Option d:=QO (fun e f g i j=>a ((e,f,g,()),((),()),((),i,j,()))) (fun l o p=>b ((l,()),((),()),((),o,p,()))) (c ((),((),()),())) v.1.1 v.1.2.1 v.1.2.2.1 v.2.2.2.1 v.2.2.2.2.1
theorem aA2:dV YD 247 arh akL:=lg (amc) (h2:=by intros;simp only[amc,QO,dh,di,bI,cZ,dm,jo,vN,vO,Gu])
def amd {d:Type} (a:aap.den->Option d) (b:aa1.den->Option d) (c:abH.den->Option d) (v:aap.den):Option d:=CY (fun e f g i j=>a ((e,f,g,()),((),()),((),i,j,()))) (fun l o=>b ((),((),()),((),l,o,()))) (c ((),((),()),())) v.1.1 v.1.2.1 v.1.2.2.1 v.2.2.2.1 v.2.2.2.2.1
theorem aA3:dV YD 247 ari akM:=lg (amd) (h2:=by intros;simp only[amd,CY,dh,di,bI,cZ,dm,kG,lJ,lK])
theorem aE5:dO YD 247 ayx:=nM [arh,ari] (aD (fM (aA2)) (aD (fM (aA3)) aN))
theorem anU:eF YD:=eB (aD aqb aN) [247] (aD ⟨f247,ayx,by kernel_rfl,by kernel_rfl,aE5⟩ aN)
theorem ap6:dL prog 247 axv:=sB anU
def adt (d:Int):Option qG:=bJ (SE d) fun e=>a6 ((bV e.1 5),())
def awV:Sum:=⟨[.int .u8],LG,fun x=>adt x.1⟩
theorem apn:dR prog 128 awV:=qA f128 [] (sE uj aN)
def adu (d:Int):Option qG:=bJ (SE d) fun e=>a6 ((bV e.1 6),())
def aiD:Sum:=⟨[.int .u8],LG,fun x=>adu x.1⟩
theorem XJ:dR prog 130 aiD:=qA f130 [] (sE uj aN)
noncomputable def Yk:Code:=(f127.body).getD .skip
noncomputable def Fh:Code:=cA (cA (cA (cB (cB (cB (cA (cB (Yk))))))))
def zT:eQ:=⟨[0,1,2,7,128000004],[],[7],[],[6],[]⟩
def Tm:eQ:=⟨[0,1,2,7],[],[],[],[],[]⟩
def F8:SQ:=⟨us [bO,bR,.fn 129 [],.u,.u,.u,.u,bR] 25,[c9,[]],[]⟩
def IM:SQ:=⟨dx,[c9,[]],[]⟩
def IQ:SQ:=⟨us [] 33,[c9,[]],[]⟩
def CZ {g:Type} (p:bZ->Int->Int->bZ->Int->bZ->Int->Option g) (q:Int->bZ->Int->bZ->Int->Option g) (v:bZ->Int->bZ->Int->Option g) (e:bZ) (f d:Int) (i:bZ) (j:Int) (l:bZ) (o:Int):Option g:=cond (gY (dw .i64 f d) (bM e)) (cond (fV e (dw .i64 f d)) (bJ (adt (bY e (dw .i64 f d))) fun s=>cond s.1 (p e f (dw .i64 d 1) i j l o)<|bJ (adu (bY e (dw .i64 f d))) fun u=>cond (!u.1) (q d i j l o)<|p e f (dw .i64 d 1) i j l o) a7)<|q d i j l o
def pz:Nat->bZ->Int->Int->bZ->Int->bZ->Int->Option (IM.den⊕IQ.den)
 |0,_,_,_,_,_,_,_=>a7
 |n+1,d,e,f,g,i,j,l=>CZ (pz n) (fun o p q s u=>a6 (.inl ((o,()),((p,q,s,u,()),(),()),()))) (fun v x y z=>a6 (.inr ((),((v,x,y,z,()),(),()),()))) d e f g i j l
def ahB (n:Nat) (v:F8.den):=ar (pz n) v
noncomputable def IB:dE:=fG zT F8 IM IQ (.exit 0) (ahB bQ) 6
def xR:SQ:=⟨us [bO,bR,.fn 128 [],.u,.u,.u,.u,bR] 25,[da,[]],[]⟩
def CB:SQ:=⟨dx,[da,[]],[]⟩
def CG:SQ:=⟨us [] 33,[da,[]],[]⟩
def vg {e:Type} (q:bZ->Int->Int->bZ->Int->bZ->Int->Option e) (p:Int->bZ->Int->bZ->Int->Option e) (u:bZ->Int->bZ->Int->Option e) (f:bZ) (g d:Int) (i:bZ) (j:Int) (l:bZ) (o:Int):Option e:=cond (gY (dw .i64 g d) (bM f)) (cond (fV f (dw .i64 g d)) (bJ (adt (bY f (dw .i64 g d))) fun s=>cond (!s.1) (p d i j l o)<|q f g (dw .i64 d 1) i j l o) a7)<|p d i j l o
def nU:Nat->bZ->Int->Int->bZ->Int->bZ->Int->Option (CB.den⊕CG.den)
 |0,_,_,_,_,_,_,_=>a7
 |n+1,d,e,f,g,i,j,l=>vg (nU n) (fun o p q s u=>a6 (.inl ((o,()),((p,q,s,u,()),(),()),()))) (fun v x y z=>a6 (.inr ((),((v,x,y,z,()),(),()),()))) d e f g i j l
def Zu (n:Nat) (v:xR.den):=ar (nU n) v
noncomputable def BV:dE:=fG zT xR CB CG (.exit 0) (Zu bQ) 12
def ag6 (d:Int) (e:bZ):Option Dc:=cond (bV 0 0) (a6 (0,()))<|cond (gY d 0) (a6 (0,()))<|cond (leI (bM e) d) (a6 (0,()))<|bJ (pz bQ e d 0 e d e d) fun f=>dW f (fun g=>a6 (g.1.1,())) (fun i=>a7)
def ag5 (f:bZ) (e:Int):Option Dc:=cond (gY e 0) (ag6 e f)<|cond (leI (bM f) e) (ag6 e f)<|bJ (nU bQ f e 0 f e f e) fun g=>dW g (fun d=>cond (bV d.1.1 0) (a6 (0,()))<|cond (gY d.2.1.1.2.1 0) (a6 (0,()))<|cond (leI (bM d.2.1.1.1) d.2.1.1.2.1) (a6 (0,()))<|bJ (pz bQ d.2.1.1.1 d.2.1.1.2.1 0 d.2.1.1.1 d.2.1.1.2.1 d.2.1.1.1 d.2.1.1.2.1) fun i=>dW i (fun j=>a6 (j.1.1,())) (fun l=>a7)) (fun o=>a7)
def aKJ:Sum:=⟨[.str,dC],Vl,fun x=>ag5 x.1 x.2.1⟩
noncomputable def adh:Env:=gz prog tt [(128,awV),(130,aiD)] [(127,4,zT),(96,600001,rH),(96,600003,rH),(127,600006,Tm)] [(127,4,kU IB BV)] []
def UF {d:Type} (a:F8.den->Option d) (b:IM.den->Option d) (c:IQ.den->Option d) (v:F8.den):Option d:=ar (CZ (fun e f g i j l o=>a ((e,f,g,()),((i,j,l,o,()),(),()),())) (fun p q s u x=>b ((p,()),((q,s,u,x,()),(),()),())) (fun y z A B=>c ((),((y,z,A,B,()),(),()),()))) v
theorem ahE:dV adh 127 Fh IB:=lg (UF) (h2:=by intros;simp only[UF,ar,CZ,dh,di,bI,cZ,dm])
def KU {d:Type} (a:xR.den->Option d) (b:CB.den->Option d) (c:CG.den->Option d) (v:xR.den):Option d:=ar (vg (fun e f g i j l o=>a ((e,f,g,()),((i,j,l,o,()),(),()),())) (fun p q s u x=>b ((p,()),((q,s,u,x,()),(),()),())) (fun y z A B=>c ((),((y,z,A,B,()),(),()),()))) v
theorem ZH:dV adh 127 Fh BV:=lg (KU) (h2:=by intros;simp only[KU,ar,vg,dh,di,bI,cZ,dm])
theorem aoF:dO adh 127 Yk:=nM [Fh] (aD (fun L h=>by rw[show(adh).lp 127 (dH Fh)=a6 (kU IB BV) by kernel_rfl]at h;cases h;exact qV ahE ZH) aN)
theorem asK:eF adh:=eB (aD apn (aD XJ aN)) [127] (aD ⟨f127,Yk,by kernel_rfl,by kernel_rfl,aoF⟩ aN)
theorem U6:dR prog 96 aKJ:=sA asK
noncomputable def Q8:Code:=(f127.body).getD .skip
noncomputable def Rt:Code:=cA (cA (cA (cB (cB (cB (cA (cB (Q8))))))))
def Cb:SQ:=⟨us [bO,bR,.fn 130 [],.u,.u,.u,.u,bR] 25,[ef,[]],[]⟩
def Ej:SQ:=⟨dx,[ef,[]],[]⟩
def Et:SQ:=⟨us [] 33,[ef,[]],[]⟩
def yl {e:Type} (q:bZ->Int->Int->bZ->Int->bZ->Int->Option e) (p:Int->bZ->Int->bZ->Int->Option e) (u:bZ->Int->bZ->Int->Option e) (f:bZ) (g d:Int) (i:bZ) (j:Int) (l:bZ) (o:Int):Option e:=cond (gY (dw .i64 g d) (bM f)) (cond (fV f (dw .i64 g d)) (bJ (adu (bY f (dw .i64 g d))) fun s=>cond (!s.1) (p d i j l o)<|q f g (dw .i64 d 1) i j l o) a7)<|p d i j l o
def pK:Nat->bZ->Int->Int->bZ->Int->bZ->Int->Option (Ej.den⊕Et.den)
 |0,_,_,_,_,_,_,_=>a7
 |n+1,d,e,f,g,i,j,l=>yl (pK n) (fun o p q s u=>a6 (.inl ((o,()),((p,q,s,u,()),(),()),()))) (fun v x y z=>a6 (.inr ((),((v,x,y,z,()),(),()),()))) d e f g i j l
def aes (n:Nat) (v:Cb.den):=ar (pK n) v
noncomputable def OC:dE:=fG zT Cb Ej Et (.exit 0) (aes bQ) 6
def zO (e:bZ) (d:Int):Option Dc:=cond (gY d 0) (a6 (0,()))<|cond (leI (bM e) d) (a6 (0,()))<|bJ (pK bQ e d 0 e d e d) fun f=>dW f (fun g=>a6 (g.1.1,())) (fun i=>a7)
def aGq:Sum:=⟨[.str,dC],Vl,fun x=>zO x.1 x.2.1⟩
noncomputable def agv:Env:=gz prog tt [(130,aiD)] [(127,4,zT),(125,600001,rH),(127,600006,Tm)] [(127,4,OC)] []
def O6 {d:Type} (a:Cb.den->Option d) (b:Ej.den->Option d) (c:Et.den->Option d) (v:Cb.den):Option d:=ar (yl (fun e f g i j l o=>a ((e,f,g,()),((i,j,l,o,()),(),()),())) (fun p q s u x=>b ((p,()),((q,s,u,x,()),(),()),())) (fun y z A B=>c ((),((y,z,A,B,()),(),()),()))) v
theorem aeO:dV agv 127 Rt OC:=lg (O6) (h2:=by intros;simp only[O6,ar,yl,dh,di,bI,cZ,dm])
theorem ahn:dO agv 127 Q8:=nM [Rt] (aD (fM (aeO)) aN)
theorem ann:eF agv:=eB (aD XJ aN) [127] (aD ⟨f127,Q8,by kernel_rfl,by kernel_rfl,ahn⟩ aN)
theorem NL:dR prog 125 aGq:=sA ann
def WN (e:bZ) (d:Int):Option Dc:=bJ (ag5 e d) fun g=>cond (gY 0 g.1) (a6 (g.1,()))<|cond (gY d 0) (a6 (0,()))<|cond (leI (bM e) d) (a6 (0,()))<|cond (fV e d) (cond (bV (bY e d) 64) (cond (bV (bY e d) 64) (a6 (1,()))<|bJ (zO e d) fun f=>a6 ((IC f.1 1),()))<|cond (bV (bY e d) 42) (cond (bV (bY e d) 42) (a6 (1,()))<|bJ (zO e d) fun f=>a6 ((IC f.1 1),()))<|cond (bV (bY e d) 35) (cond (bV (bY e d) 35) (a6 (1,()))<|bJ (zO e d) fun f=>a6 ((IC f.1 1),()))<|cond (bV (bY e d) 63) (cond (bV (bY e d) 63) (a6 (1,()))<|bJ (zO e d) fun f=>a6 ((IC f.1 1),()))<|cond (bV (bY e d) 45) (cond (bV (bY e d) 45) (a6 (1,()))<|bJ (zO e d) fun f=>a6 ((IC f.1 1),()))<|cond (bV (bY e d) 36) (cond (bV (bY e d) 36) (a6 (1,()))<|bJ (zO e d) fun f=>a6 ((IC f.1 1),()))<|cond (bV (bY e d) 33) (a6 (1,()))<|bJ (zO e d) fun f=>a6 ((IC f.1 1),())) a7
def axw:Sum:=⟨[.str,dC],Vl,fun x=>WN x.1 x.2.1⟩
theorem ap7:dR prog 248 axw:=qA f248 [] (sE NL (sE U6 aN))
noncomputable def ayv:Code:=(f209.body).getD .skip
noncomputable def aq9:Code:=cA (cA (cB (cA (cB (cB (cB (ayv)))))))
noncomputable def aiY:Code:=cA (cA (cB (cA (cB (cB (cB (cB (ayv))))))))
def auf:eQ:=⟨[0,3,4,12,13,100004],[(100000900,.pair (.list .unit) Jf),(100000901,.pair (.list .unit) dC)],[0,3],[],[2],[(2,Jf)]⟩
def aj1:eQ:=⟨[0,3,31,32,100010],[],[3],[],[2],[(2,Jf)]⟩
def aj7:eQ:=⟨[0,3],[],[],[],[],[]⟩
def azx:eQ:=⟨[0,3,4,5,12,13],[],[],[],[],[]⟩
def aai:SP:=⟨us [bO,.u,.u,ez,eC,.u,.u,.u,.u,.u,.u,.u,bR,bR] 65,[cI,dj,.arr 1502009 dC,.arr 1500009 Jf,eb]⟩
def aaU:SP:=⟨us [bO,.u,.u,ez] 75,cC⟩
def abz:SP:=⟨us [.u,.u,.v V3] 76,[]⟩
def QM {g:Type} (p:bZ->Int->Int->Bool->Int->(List nN)->jg->(List je)->Option g) (s:bZ->jg->(List je)->Option g) (y:(List je)->Option g) (f:bZ) (j e:Int) (u:Bool) (v:Int) (x:List nN) (l:jg) (o:List je):Option g:=cond (gY e j) (cond (fV f e) (bJ (WH x u v (bY f e)) fun d=>cond (bV (bM d.1.1) 0) (bJ (adK o l [(0,(0,()))] e) fun i=>p f j (dw .i64 e 1) d.1.2.1 d.1.2.2.1 d.1.1 i.1.2.1 i.1.1)<|bJ (nR d.1.1) fun i=>bJ (adK o l i.1 e) fun q=>p f j (dw .i64 e 1) d.1.2.1 d.1.2.2.1 d.1.1 q.1.2.1 q.1.1) a7)<|s f l o
def J8:Nat->bZ->Int->Int->Bool->Int->(List nN)->jg->(List je)->Option (aaU.den⊕abz.den)
 |0,_,_,_,_,_,_,_,_=>a7
 |n+1,d,e,f,g,i,j,l,o=>QM (J8 n) (fun p q s=>a6 (.inl ((p,()),(q,s,(),())))) (fun u=>a6 (.inr ((u,()),()))) d e f g i j l o
def az5 (n:Nat) (v:aai.den):=J8 n v.1.1 v.1.2.1 v.1.2.2.1 v.2.1.1 v.2.1.2.1 v.2.2.1 v.2.2.2.1 v.2.2.2.2.1
noncomputable def akF:dE:=fU auf aai aaU abz (.exit 0) (az5 bQ) 6
def P7:SP:=⟨us [bO,.u,.u,ez,.u,.u,.u,.u,.u,.u,.u,.u,.u,.u,.u,.u,.u,.u,.u,.u,.u,.u,.u,.u,.u,.u,.u,.u,.u,.u,.u,bR,bR] 46,cC⟩
def Ui:SP:=⟨us [.u,.u,.u,ez] 75,cC⟩
def Ur:SP:=⟨us [.u,.u,.v V3] 76,[]⟩
def eP (d:List je) (e:Int):=dK d (0,(0,(0,(0,(false,()))))) (dD e)
def jl (d:List je) (e:Int) (f:bZ):=iw d (dD e) ((eP d e).1,((eP d e).2.1,((bM f),((eP d e).2.2.2.1,((eP d e).2.2.2.2.1,())))))
def fD (e:List je) (d:Int) (f:bZ):=dK (jl e d f) (0,(0,(0,(0,(false,()))))) (dD d)
def Lm {l:Type} (o:bZ->Int->Int->jg->(List je)->Option l) (p:jg->(List je)->Option l) (q:(List je)->Option l) (f:bZ) (i d:Int) (j:jg) (e:List je):Option l:=cond (gY d i) (cond (fV e d) (cond (mi (dD d) e) (cond ((eP e d).2.2.2.2.1) (cond (mi (dD d) e) (cond (mi (dD d) (jl e d f)) (cond (bV (fD e d f).1 12) (cond (mi (dD d) (jl e d f)) (cond (mi (dD d) (jl e d f)) (bJ (WN f (dw .i64 (fD e d f).2.1 1)) fun g=>cond (mi (dD d) (jl e d f)) (cond ((eqN (dD d) (dD d))&&true) (cond ((eqN (dD d) (dD d))&&true) (cond (mi (dD d) (iw (jl e d f) (dD d) ((fD e d f).1,((fD e d f).2.1,((dw .i64 (dw .i64 (fD e d f).2.1 1) g.1),((fD e d f).2.2.2.1,((fD e d f).2.2.2.2.1,()))))))) (cond ((eqN (dD d) (dD d))&&true) (o f i (dw .i64 d 1) j (iw (iw (jl e d f) (dD d) ((fD e d f).1,((fD e d f).2.1,((dw .i64 (dw .i64 (fD e d f).2.1 1) g.1),((fD e d f).2.2.2.1,((fD e d f).2.2.2.2.1,())))))) (dD d) ((dK (iw (jl e d f) (dD d) ((fD e d f).1,((fD e d f).2.1,((dw .i64 (dw .i64 (fD e d f).2.1 1) g.1),((fD e d f).2.2.2.1,((fD e d f).2.2.2.2.1,())))))) (0,(0,(0,(0,(false,()))))) (dD d)).1,((dK (iw (jl e d f) (dD d) ((fD e d f).1,((fD e d f).2.1,((dw .i64 (dw .i64 (fD e d f).2.1 1) g.1),((fD e d f).2.2.2.1,((fD e d f).2.2.2.2.1,())))))) (0,(0,(0,(0,(false,()))))) (dD d)).2.1,((dK (iw (jl e d f) (dD d) ((fD e d f).1,((fD e d f).2.1,((dw .i64 (dw .i64 (fD e d f).2.1 1) g.1),((fD e d f).2.2.2.1,((fD e d f).2.2.2.2.1,())))))) (0,(0,(0,(0,(false,()))))) (dD d)).2.2.1,((dK (iw (jl e d f) (dD d) ((fD e d f).1,((fD e d f).2.1,((dw .i64 (dw .i64 (fD e d f).2.1 1) g.1),((fD e d f).2.2.2.1,((fD e d f).2.2.2.2.1,())))))) (0,(0,(0,(0,(false,()))))) (dD d)).2.2.2.1,(false,()))))))) a7) a7) a7) a7) a7) a7) a7)<|o f i (dw .i64 d 1) j (jl e d f)) a7) a7)<|cond (mi (dD d) e) (cond (bV (eP e d).1 12) (cond (mi (dD d) e) (cond (mi (dD d) e) (bJ (WN f (dw .i64 (eP e d).2.1 1)) fun g=>cond (mi (dD d) e) (cond ((eqN (dD d) (dD d))&&true) (cond ((eqN (dD d) (dD d))&&true) (cond (mi (dD d) (iw e (dD d) ((eP e d).1,((eP e d).2.1,((dw .i64 (dw .i64 (eP e d).2.1 1) g.1),((eP e d).2.2.2.1,((eP e d).2.2.2.2.1,()))))))) (cond ((eqN (dD d) (dD d))&&true) (o f i (dw .i64 d 1) j (iw (iw e (dD d) ((eP e d).1,((eP e d).2.1,((dw .i64 (dw .i64 (eP e d).2.1 1) g.1),((eP e d).2.2.2.1,((eP e d).2.2.2.2.1,())))))) (dD d) ((dK (iw e (dD d) ((eP e d).1,((eP e d).2.1,((dw .i64 (dw .i64 (eP e d).2.1 1) g.1),((eP e d).2.2.2.1,((eP e d).2.2.2.2.1,())))))) (0,(0,(0,(0,(false,()))))) (dD d)).1,((dK (iw e (dD d) ((eP e d).1,((eP e d).2.1,((dw .i64 (dw .i64 (eP e d).2.1 1) g.1),((eP e d).2.2.2.1,((eP e d).2.2.2.2.1,())))))) (0,(0,(0,(0,(false,()))))) (dD d)).2.1,((dK (iw e (dD d) ((eP e d).1,((eP e d).2.1,((dw .i64 (dw .i64 (eP e d).2.1 1) g.1),((eP e d).2.2.2.1,((eP e d).2.2.2.2.1,())))))) (0,(0,(0,(0,(false,()))))) (dD d)).2.2.1,((dK (iw e (dD d) ((eP e d).1,((eP e d).2.1,((dw .i64 (dw .i64 (eP e d).2.1 1) g.1),((eP e d).2.2.2.1,((eP e d).2.2.2.2.1,())))))) (0,(0,(0,(0,(false,()))))) (dD d)).2.2.2.1,(false,()))))))) a7) a7) a7) a7) a7) a7) a7)<|o f i (dw .i64 d 1) j e) a7) a7) a7)<|p j e
def zZ:Nat->bZ->Int->Int->jg->(List je)->Option (Ui.den⊕Ur.den)
 |0,_,_,_,_,_=>a7
 |n+1,d,e,f,g,i=>Lm (zZ n) (fun j l=>a6 (.inl ((),(j,l,(),())))) (fun o=>a6 (.inr ((o,()),()))) d e f g i
def auP (n:Nat) (v:P7.den):=zZ n v.1.1 v.1.2.1 v.1.2.2.1 v.2.1 v.2.2.1
noncomputable def aeE:dE:=fU aj1 P7 Ui Ur (.exit 2) (auP bQ) 12
def ajB (e:bZ):Option ((List je)×Unit):=bJ (J8 bQ e (bM e) 0 true 0 [(0,(0,()))] [] []) fun f=>dW f (fun d=>bJ (zZ bQ d.1.1 (bM d.2.2.1) 0 d.2.1 d.2.2.1) fun g=>dW g (fun i=>a6 (i.2.2.1,())) (fun j=>a6 (j.1.1,()))) (fun l=>a6 (l.1.1,()))
def axk:Sum:=⟨[.str],[(.list Jf,false)],fun x=>ajB x.1⟩
noncomputable def YB:Env:=gz prog tt [(246,yz),(248,axw)] [(209,4,auf),(209,10,aj1),(209,600002,aj7),(209,600007,azx)] [(209,4,akF),(209,10,aeE)] [] [(165,acF),(247,axv)]
def al6 {d:Type} (a:aai.den->Option d) (b:aaU.den->Option d) (c:abz.den->Option d) (v:aai.den):Option d:=QM (fun e f g i j l o p=>a ((e,f,g,()),((i,j,()),l,o,p,(),()))) (fun q s u=>b ((q,()),(s,u,(),()))) (aE c) v.1.1 v.1.2.1 v.1.2.2.1 v.2.1.1 v.2.1.2.1 v.2.2.1 v.2.2.2.1 v.2.2.2.2.1
theorem aAW:dV YB 209 aq9 akF:=xh (al6) (h2:=by intros;simp only[al6,aE,QM,dh,di,bI,cZ,dm])
def afq {d:Type} (a:P7.den->Option d) (b:Ui.den->Option d) (c:Ur.den->Option d) (v:P7.den):Option d:=Lm (fun e f g i j=>a ((e,f,g,()),(i,j,(),()))) (fun l o=>b ((),(l,o,(),()))) (aE c) v.1.1 v.1.2.1 v.1.2.2.1 v.2.1 v.2.2.1
theorem avs:dV YB 209 aiY aeE:=xh (afq) (h2:=by intros;simp only[afq,aE,Lm,dh,di,bI,cZ,dm,eP,jl,fD])
theorem aEZ:dO YB 209 ayv:=nM [aq9,aiY] (aD (fM (aAW)) (aD (fM (avs)) aN))
theorem anK:eF YB:=eB (aD wY (aD ap7 aN)) [209] (aD ⟨f209,ayv,by kernel_rfl,by kernel_rfl,aEZ⟩ aN) (hx:=(aD NS (aD ap6 aN)))
theorem apT:dR prog 209 axk:=sA anK
def adG (d:List nN) (e:Bool) (f:Int):Option (taO×qG):=cond e (a6 ((d,(e,(f,()))),(true,())))<|some ((d,(e,(f,()))),((bV (bM d) 0),()))
def axj:fF:=⟨216,tzC,[],[.bool],fun x y=>adG x.1 x.2.1 x.2.2.1⟩
theorem apR:dL prog 206 axj:=qB [] aN
noncomputable def aDH:Code:=(Tryz.f166.body).getD .skip
noncomputable def aq0:Code:=cA (cA (cB (cA (cB (cB (aDH))))))
def atZ:eQ:=⟨[0,4,8,9,100003],[],[4],[],[2,3],[(2,Vr)]⟩
def uI:eQ:=⟨[0],[],[],[],[],[]⟩
def aj6:eQ:=⟨[4],[],[],[],[],[]⟩
def Z8:SP:=⟨us [bO,.u,.u,.u,eC,.u,.u,.u,bR,bR] 12,[cI,dj]⟩
def aaL:SP:=⟨us [.u,.u,.u,.u,eC] 17,[cI,dj]⟩
def abp:SP:=⟨us [.u,.u,ec,b9] 18,[]⟩
def QF {d:Type} (p:bZ->Int->Int->Bool->Int->(List nN)->Option d) (q:Bool->Int->(List nN)->Option d) (s:(List nN)->Bool->Option d) (f:bZ) (i e:Int) (j:Bool) (l:Int) (o:List nN):Option d:=cond (gY e i) (cond (fV f e) (bJ (WH o j l (bY f e)) fun g=>p f i (dw .i64 e 1) g.1.2.1 g.1.2.2.1 g.1.1) a7)<|q j l o
def J6:Nat->bZ->Int->Int->Bool->Int->(List nN)->Option (aaL.den⊕abp.den)
 |0,_,_,_,_,_,_=>a7
 |n+1,d,e,f,g,i,j=>QF (J6 n) (fun l o p=>a6 (.inl ((),((l,o,()),p,())))) (fun q s=>a6 (.inr ((q,s,()),()))) d e f g i j
def azW (n:Nat) (v:Z8.den):=J6 n v.1.1 v.1.2.1 v.1.2.2.1 v.2.1.1 v.2.1.2.1 v.2.2.1
noncomputable def akw:dE:=fU atZ Z8 aaL abp (.exit 0) (azW bQ) 6
def ajs (f:bZ):Option ((List nN)×Bool×Unit):=bJ (J6 bQ f (bM f) 0 true 0 [(0,(0,()))]) fun i=>dW i (fun d=>cond (bV (bM d.2.2.1) 0) (bJ (adG d.2.2.1 d.2.1.1 d.2.1.2.1) fun e=>a6 ([(0,(0,()))],(e.2.1,())))<|bJ (nR d.2.2.1) fun e=>bJ (adG d.2.2.1 d.2.1.1 d.2.1.2.1) fun j=>a6 (e.1,(j.2.1,()))) (fun g=>a6 (g.1.1,(g.1.2.1,())))
def aw4:Sum:=⟨[.str],[(.list Vr,false),(.bool,false)],fun x=>ajs x.1⟩
noncomputable def agE:Env:=gz prog tt [(246,yz)] [(166,3,atZ),(166,600001,uI),(166,600007,aj6)] [(166,3,akw)] [] [(165,acF),(206,axj)]
def alX {d:Type} (a:Z8.den->Option d) (b:aaL.den->Option d) (c:abp.den->Option d) (v:Z8.den):Option d:=QF (fun e f g i j l=>a ((e,f,g,()),((i,j,()),l,()))) (fun o p q=>b ((),((o,p,()),q,()))) (aL c) v.1.1 v.1.2.1 v.1.2.2.1 v.2.1.1 v.2.1.2.1 v.2.2.1
theorem aAN:dV agE 166 aq0 akw:=xh (alX) (h2:=by intros;simp only[alX,aL,QF,dh,di,bI,cZ,dm])
theorem aES:dO agE 166 aDH:=nM [aq0] (aD (fM (aAN)) aN)
theorem anC:eF agE:=eB (aD wY aN) [166] (aD ⟨Tryz.f166,aDH,by kernel_rfl,by kernel_rfl,aES⟩ aN) (hx:=(aD NS (aD apR aN)))
theorem apC:dR prog 166 aw4:=sA anC
def ajr (d:List nN) (e:Bool) (f g:Int):Option (taO×qG):=bJ (G8 g) fun i=>cond (!i.1) (a6 ((d,(e,(f,()))),(false,())))<|cond (bV (bM d) 1) (a6 ((d,(e,(f,()))),(true,())))<|cond (bV (bM d) 2) (cond (fV d 1) (cond (mi (dD 1) d) (cond (bV (dK d (0,(0,())) (dD 1)).1 12) (a6 ((d,(e,(f,()))),((!(bV g 40)),())))<|some ((d,(e,(f,()))),(false,()))) a7) a7)<|some ((d,(e,(f,()))),(false,()))
def aw3:fF:=⟨216,tzC,[.int .u8],[.bool],fun x y=>ajr x.1 x.2.1 x.2.2.1 y.1⟩
theorem apB:dL prog 164 aw3:=qB [] (sE XT aN)
noncomputable def aDF:Code:=(f140.body).getD .skip
noncomputable def aqW:Code:=cA (cA (cA (cB (cB (cB (aDF))))))
def atW:eQ:=⟨[0,1,5,100004],[],[1],[],[4],[]⟩
def ZY:SP:=⟨us [bO,bR,.u,.u,.u,eC] 27,[cI,dj]⟩
def aaG:SP:=⟨us [.u,bR] 31,[]⟩
def abk:SP:=⟨us cU 28,[]⟩
def QC {g:Type} (j:bZ->Int->Bool->Int->(List nN)->Option g) (l o:Int->Option g) (e:bZ) (d:Int) (p:Bool) (q:Int) (s:List nN):Option g:=cond (gY d (bM e)) (cond (fV e d) (bJ (ajr s p q (bY e d)) fun f=>cond f.2.1 (o d)<|cond (fV e d) (bJ (WH f.1.1 f.1.2.1 f.1.2.2.1 (bY e d)) fun i=>j e (dw .i64 d 1) i.1.2.1 i.1.2.2.1 i.1.1) a7) a7)<|l d
def J4:Nat->bZ->Int->Bool->Int->(List nN)->Option (aaG.den⊕abk.den)
 |0,_,_,_,_,_=>a7
 |n+1,d,e,f,g,i=>QC (J4 n) (fun j=>a6 (.inl ((j,()),()))) (fun l=>a6 (.inr ((l,()),()))) d e f g i
def azR (n:Nat) (v:ZY.den):=J4 n v.1.1 v.1.2.1 v.2.1.1 v.2.1.2.1 v.2.2.1
noncomputable def aks:dE:=fU atW ZY aaG abk (.exit 0) (azR bQ) 6
def adA (e:bZ) (d:Int):Option Dc:=cond (gY d 0) (a6 ((-1),()))<|cond (gY (bM e) d) (a6 ((-1),()))<|bJ (J4 bQ e d true 0 [(0,(0,()))]) fun f=>dW f (fun g=>a6 (g.1.1,())) (fun i=>a6 (i.1.1,()))
def aGv:Sum:=⟨[.str,dC],Vl,fun x=>adA x.1 x.2.1⟩
noncomputable def agz:Env:=gz prog tt [] [(140,4,atW),(140,600003,rH)] [(140,4,aks)] [] [(164,aw3),(165,acF)]
def alS {d:Type} (a:ZY.den->Option d) (b:aaG.den->Option d) (c:abk.den->Option d) (v:ZY.den):Option d:=QC (fun e f g i j=>a ((e,f,()),((g,i,()),j,()))) (aE b) (aE c) v.1.1 v.1.2.1 v.2.1.1 v.2.1.2.1 v.2.2.1
theorem aAI:dV agz 140 aqW aks:=xh (alS) (h2:=by intros;simp only[alS,aE,QC,dh,di,bI,cZ,dm])
theorem aEK:dO agz 140 aDF:=nM [aqW] (aD (fM (aAI)) aN)
theorem anr:eF agz:=eB aN [140] (aD ⟨f140,aDF,by kernel_rfl,by kernel_rfl,aEK⟩ aN) (hx:=(aD apB (aD NS aN)))
theorem apt:dR prog 140 aGv:=sA anr
def JJ (d:Int):Option taU:=cond (bV d 9) (a6 ([41,41],()))<|cond (bV d 13) (cond (bV d 13) (a6 ([10],()))<|some ([],()))<|cond (bV d 14) (a6 ([10],()))<|some ([],())
def aju (d:Int):Option taU:=cond (bV d 1) (cond (bV d 1) (a6 ([41],()))<|JJ d)<|cond (bV d 3) (cond (bV d 3) (a6 ([41],()))<|JJ d)<|cond (bV d 2) (cond (bV d 2) (a6 ([41],()))<|JJ d)<|cond (bV d 10) (cond (bV d 10) (a6 ([41],()))<|JJ d)<|cond (bV d 11) (a6 ([41],()))<|JJ d
def ajt (d:Int):Option taU:=cond (bV d 4) (a6 ([39],()))<|cond (bV d 5) (a6 ([34],()))<|cond (bV d 6) (a6 ([96],()))<|cond (bV d 7) (cond (bV d 7) (a6 ([125],()))<|aju d)<|cond (bV d 8) (a6 ([125],()))<|aju d
def aw5:Sum:=⟨[dC],tzF,fun x=>ajt x.1⟩
theorem apD:dR prog 168 aw5:=qA f168 [] aN
noncomputable def Yi:Code:=(f141.body).getD .skip
noncomputable def Q9:Code:=(f207.body).getD .skip
noncomputable def Ru:Code:=cA (cA (cB (Q9)))
def Tc:eQ:=⟨[0,1,3,173000001],[],[],[],[],[]⟩
def azz:eQ:=⟨[2,5],[],[],[],[],[]⟩
def azu:eQ:=⟨[2,3,5],[],[],[],[],[]⟩
def aef:eQ:=⟨[0,1,3],[],[],[],[],[]⟩
def Cc:SQ:=⟨us [.yld 1700014,d7,.u,bR] 15,cV,cE⟩
def Em:SQ:=⟨us [] 19,cV,cE⟩
def Eu:SQ:=⟨us [] 19,cV,[]⟩
def ug {f:Type} (o:Int->bZ->bZ->(List nN)->jg->Option f) (p:bZ->bZ->(List nN)->jg->Option f) (q:bZ->Option f) (d:Int) (i j:bZ) (e:List nN) (g:jg):Option f:=cond (leI 0 d) (cond (fV e d) (bJ (ajt (dJ e (0,(0,())) d).1) fun l=>cond (dY (bT g (dA l.1)) 1) (cond (bV (dJ e (0,(0,())) d).1 (dJ e (0,(0,())) d).1) (o (eU .i64 d 1) i j e (bT g (dA l.1))) a7) a7) a7)<|p i j e g
def pM:Nat->Int->bZ->bZ->(List nN)->jg->Option (Em.den⊕Eu.den)
 |0,_,_,_,_,_=>a7
 |n+1,d,e,f,g,i=>ug (pM n) (fun j l o p=>a6 (.inl ((),((j,()),(),(),()),((l,()),(o,()),(),p,())))) (fun q=>a6 (.inr ((),((q,()),(),(),()),()))) d e f g i
def aet (n:Nat) (v:Cc.den):=pM n v.1.1 v.2.1.1.1 v.2.2.1.1 v.2.2.2.1.1 v.2.2.2.2.2.1
noncomputable def OD:dE:=fG Tc Cc Em Eu (.exit 0) (aet bQ) 6
def ajm (e:bZ):Option taU:=bJ (ajs e) fun d=>bJ (pM bQ (eU .i64 (bM d.1) 1) [] [] d.1 []) fun f=>dW f (fun g=>a6 ((ofBytes g.2.2.2.2.2.1),())) (fun i=>a7)
def aGw:Sum:=⟨[.str],tzF,fun x=>ajm x.1⟩
noncomputable def YA:Env:=gz prog tt [(166,aw4),(168,aw5)] [(207,1,Tc),(141,500005,azz),(141,600003,azu),(207,600003,aef)] [(207,1,OD)] [141]
def O7 {d:Type} (a:Cc.den->Option d) (b:Em.den->Option d) (c:Eu.den->Option d) (v:Cc.den):Option d:=ug (fun e f g i j=>a ((e,()),((f,()),(),(),()),((g,()),(i,()),(),j,()))) (fun l o p q=>b ((),((l,()),(),(),()),((o,()),(p,()),(),q,()))) (fun s=>c ((),((s,()),(),(),()),())) v.1.1 v.2.1.1.1 v.2.2.1.1 v.2.2.2.1.1 v.2.2.2.2.2.1
theorem aeP:dV YA 207 Ru OD:=lg (O7) (h2:=by intros;simp only[O7,ug,dh,di,bI,cZ,dm])
theorem aEt:jC Yi=[]:=by kernel_rfl
theorem aGa:jU Yi=[(cA (cA (cB (cA (cB (cB (cB (Yi))))))),cB (cA (cB (cA (cB (cB (cB (Yi))))))))]:=by kernel_rfl
theorem aEL:dO YA 141 Yi:=tK Yi (by rw[aGa];exact(aD (fun _=>(show qK 141 5=a6 (cA (cA (cB (cA (cB (cB (cB (Yi))))))),cB (cA (cB (cA (cB (cB (cB (Yi)))))))) by kernel_rfl)) aN)) (by rw[aEt];exact aN)
theorem aho:dO YA 207 Q9:=nM [Ru] (aD (fM (aeP)) aN)
theorem ant:eF YA:=eB (aD apC (aD apD aN)) [141,207] (aD ⟨f141,Yi,by kernel_rfl,by kernel_rfl,aEL⟩ (aD ⟨f207,Q9,by kernel_rfl,by kernel_rfl,aho⟩ aN))
theorem apu:dR prog 141 aGw:=sA ant
def aCc (d:Int):Option taU:=cond (bV d 10) (a6 ([62,124],()))<|cond (bV d 11) (a6 ([60],()))<|cond (bV d 12) (a6 ([62],()))<|cond (bV d 13) (a6 ([38],()))<|cond (bV d 14) (a6 ([59],()))<|cond (bV d 15) (a6 ([124],()))<|cond (bV d 16) (a6 ([40],()))<|cond (bV d 17) (a6 ([41],()))<|some ([],())
def aGQ:Sum:=⟨[dC],tzF,fun x=>aCc x.1⟩
theorem apS:dR prog 208 aGQ:=qA f208 [] aN
def ajv (d:Int):Option taU:=cond (bV d 1) (a6 ([38,38],()))<|cond (bV d 2) (a6 ([124,124],()))<|cond (bV d 3) (a6 ([59,59],()))<|cond (bV d 4) (a6 ([60,60],()))<|cond (bV d 5) (a6 ([60,60,45],()))<|cond (bV d 6) (a6 ([62,62],()))<|cond (bV d 7) (a6 ([60,38],()))<|cond (bV d 8) (a6 ([62,38],()))<|cond (bV d 9) (a6 ([60,62],()))<|bJ (aCc d) fun e=>a6 (e.1,())
def aw6:Sum:=⟨[dC],tzF,fun x=>ajv x.1⟩
theorem apE:dR prog 169 aw6:=qA Tryz.f169 [] (sE apS aN)
noncomputable def aIn:Code:=(f142.body).getD .skip
noncomputable def aqX:Code:=cA (cA (cB (cA (cB (cB (aIn))))))
def Zc:eQ:=⟨[0,3,100004],[],[],[],[2],[]⟩
def ZZ:SP:=⟨us [bO,.u,.u,bR] 11,[]⟩
def aaH:SP:=⟨us [] 15,[]⟩
def abl:SP:=⟨us d6 12,[]⟩
def Lc {d:Type} (g:bZ->Int->Option d) (i:Option d) (j:Int->Option d) (f:bZ) (e:Int):Option d:=cond (leI e 17) (bJ (ajv e) fun l=>cond (fP l.1 f) (j e)<|g f (dw .i64 e 1)) i
def BN:Nat->bZ->Int->Option (aaH.den⊕abl.den)
 |0,_,_=>a7
 |n+1,d,e=>Lc (BN n) (a6 (.inl ((),()))) (fun f=>a6 (.inr ((f,()),()))) d e
def azS (n:Nat) (v:ZZ.den):=BN n v.1.1 v.1.2.1
noncomputable def akt:dE:=fU Zc ZZ aaH abl (.exit 0) (azS bQ) 6
def Oh (d:bZ):Option Dc:=cond (fP d []) (a6 (0,()))<|bJ (BN bQ d 1) fun e=>dW e (fun g=>a6 (0,())) (fun f=>a6 (f.1.1,()))
def awZ:Sum:=⟨[.str],Vl,fun x=>Oh x.1⟩
noncomputable def agA:Env:=iO prog tt 142 [(169,aw6)] [(4,Zc)] [(4,akt)]
def alT {d:Type} (a:ZZ.den->Option d) (b:aaH.den->Option d) (c:abl.den->Option d) (v:ZZ.den):Option d:=Lc (aL a) (b ((),())) (aE c) v.1.1 v.1.2.1
theorem aAJ:dV agA 142 aqX akt:=xh (alT) (h2:=by intros;simp only[alT,aL,aE,Lc,dh,di,bI,cZ,dm])
theorem aEM:dO agA 142 aIn:=nM [aqX] (aD (fM (aAJ)) aN)
theorem anu:eF agA:=eA f142 (aD apE aN) (aEM)
theorem NM:dR prog 142 awZ:=sA anu
noncomputable def aIl:Code:=(f135.body).getD .skip
noncomputable def aqU:Code:=cA (cA (cA (cB (cB (cB (cA (cB (aIl))))))))
def atV:eQ:=⟨[0,1,4,5,100004],[],[4,5],[],[4,5],[]⟩
def ZW:SP:=⟨us [bO,bR,.u,.u,bR,bR] 35,[]⟩
def aaE:SP:=⟨us [.u,.u,.u,.u,bR,bR] 35,[]⟩
def abh:SP:=⟨us [.u,.u,.u,.u,bR,bR] 35,[]⟩
def QA {f:Type} (l:bZ->Int->Int->Int->Option f) (j p:Int->Int->Option f) (g:bZ) (e o d:Int):Option f:=cond (gY 0 d) (cond (fH (bM g) e (dw .i64 e d)) (bJ (Oh (sub g e (dw .i64 e d))) fun i=>cond (!(bV i.1 0)) (j i.1 d)<|l g e i.1 (eU .i64 d 1)) a7)<|j o d
def JZ:Nat->bZ->Int->Int->Int->Option (aaE.den⊕abh.den)
 |0,_,_,_,_=>a7
 |n+1,d,e,f,g=>QA (JZ n) (fun i j=>a6 (.inl ((i,j,()),()))) (fun l o=>a6 (.inr ((l,o,()),()))) d e f g
def azP (n:Nat) (v:ZW.den):=aM (JZ n) v
noncomputable def akq:dE:=fU atV ZW aaE abh (.exit 0) (azP bQ) 6
def ajl (e:bZ) (d:Int):Option nN:=cond (gY d 0) (a6 (0,(0,())))<|cond (leI (bM e) d) (a6 (0,(0,())))<|cond (fV e d) (bJ (SE (bY e d)) fun i=>cond (!(bV i.1 3)) (a6 (0,(0,())))<|bJ (JZ bQ e d 0 (IC 3 (eU .i64 (bM e) d))) fun j=>dW j (fun f=>a6 (f.1.1,(f.1.2.1,()))) (fun g=>a6 (g.1.1,(g.1.2.1,())))) a7
def aGs:Sum:=⟨[.str,dC],tzJ,fun x=>ajl x.1 x.2.1⟩
noncomputable def agx:Env:=iO prog tt 135 [(44,amQ),(142,awZ)] [(4,atV)] [(4,akq)]
def alQ {d:Type} (a:ZW.den->Option d) (b:aaE.den->Option d) (c:abh.den->Option d) (v:ZW.den):Option d:=aM (QA (fun e f g i=>a ((e,f,g,i,()),())) (aL b) (aL c)) v
theorem aAG:dV agx 135 aqU akq:=xh (alQ) (h2:=by intros;simp only[alQ,aL,aM,QA,dh,di,bI,cZ,dm])
theorem aEI:dO agx 135 aIl:=nM [aqU] (aD (fM (aAG)) aN)
theorem anp:eF agx:=eA f135 (aD uj (aD NM aN)) (aEI)
theorem apq:dR prog 135 aGs:=sA anp
def ate (e d:bZ):Option qG:=cond (leI (bM d) (bM e)) (cond (fH (bM e) 0 (bM d)) (a6 ((fP (sub e 0 (bM d)) d),())) a7)<|some (false,())
def aGO:Sum:=⟨[.str,.str],LG,fun x=>ate x.1 x.2.1⟩
theorem apO:dR prog 199 aGO:=qA f199 [] aN
def ajq (d e:bZ):Option qG:=bJ (ate d e) fun f=>a6 (f.1,())
def aGE:Sum:=⟨[.str,.str],LG,fun x=>ajq x.1 x.2.1⟩
theorem apz:dR prog 162 aGE:=qA f162 [] (sE apO aN)
def adw (d:bZ) (e:Int):Option qG:=cond (fH (bM d) e (bM d)) (bJ (ajq (sub d e (bM d)) [92,10]) fun f=>a6 (f.1,())) a7
def awW:Sum:=⟨[.str,dC],LG,fun x=>adw x.1 x.2.1⟩
theorem XK:dR prog 136 awW:=qA f136 [] (sE apz aN)
noncomputable def aIm:Code:=(f137.body).getD .skip
noncomputable def aqV:Code:=cA (cA (cA (cB (aIm))))
def Zb:eQ:=⟨[0,1,100001],[],[1],[],[4],[]⟩
def ZX:SP:=⟨us [bO,bR] 23,[]⟩
def aaF:SP:=⟨us [.u,bR] 23,[]⟩
def abj:SP:=⟨us cU 20,[]⟩
def QB {f:Type} (g:bZ->Int->Option f) (i j:Int->Option f) (e:bZ) (d:Int):Option f:=cond (gY d (bM e)) (cond (fV e d) (bJ (SE (bY e d)) fun l=>cond (bV l.1 1) (g e (dw .i64 d 1))<|bJ (adw e d) fun o=>cond o.1 (g e (dw .i64 d 2))<|j d) a7)<|i d
def J3:Nat->bZ->Int->Option (aaF.den⊕abj.den)
 |0,_,_=>a7
 |n+1,d,e=>QB (J3 n) (fun f=>a6 (.inl ((f,()),()))) (fun g=>a6 (.inr ((g,()),()))) d e
def azQ (n:Nat) (v:ZX.den):=J3 n v.1.1 v.1.2.1
noncomputable def akr:dE:=fU Zb ZX aaF abj (.exit 0) (azQ bQ) 6
def adx (d:bZ) (e:Int):Option Dc:=bJ (J3 bQ d e) fun f=>dW f (fun g=>a6 (g.1.1,())) (fun i=>a6 (i.1.1,()))
def aGt:Sum:=⟨[.str,dC],Vl,fun x=>adx x.1 x.2.1⟩
noncomputable def agy:Env:=iO prog tt 137 [(44,amQ),(136,awW)] [(1,Zb)] [(1,akr)]
def alR {d:Type} (a:ZX.den->Option d) (b:aaF.den->Option d) (c:abj.den->Option d) (v:ZX.den):Option d:=QB (aL a) (aE b) (aE c) v.1.1 v.1.2.1
theorem aAH:dV agy 137 aqV akr:=xh (alR) (h2:=by intros;simp only[alR,aL,aE,QB,dh,di,bI,cZ,dm])
theorem aEJ:dO agy 137 aIm:=nM [aqV] (aD (fM (aAH)) aN)
theorem anq:eF agy:=eA f137 (aD uj (aD XK aN)) (aEJ)
theorem apr:dR prog 137 aGt:=sA anq
def ajw (d:bZ) (e:Int):Option Dc:=a6 ((ibW d e),())
def aGF:Sum:=⟨[.str,.int .u8],Vl,fun x=>ajw x.1 x.2.1⟩
theorem apF:dR prog 172 aGF:=qA f172 [] (sE (afM func216 (by kernel_rfl) (by kernel_rfl) (by kernel_rfl) (by kernel_rfl)) aN)
def adB (d:bZ) (e:Int):Option Dc:=bJ (ajw d e) fun f=>a6 (f.1,())
def aGy:Sum:=⟨[.str,.int .u8],Vl,fun x=>adB x.1 x.2.1⟩
theorem XM:dR prog 144 aGy:=qA f144 [] (sE apF aN)
def ady (d:bZ) (e:Int):Option (Int×Bool×Unit):=cond (fH (bM d) e (bM d)) (bJ (adB (sub d e (bM d)) 10) fun f=>cond (leI 0 f.1) (a6 ((dw .i64 e f.1),(true,())))<|some ((bM d),(false,()))) a7
def awX:Sum:=⟨[.str,dC],[(.int .i64,false),(.bool,false)],fun x=>ady x.1 x.2.1⟩
theorem XL:dR prog 138 awX:=qA Tryz.f138 [] (sE XM aN)
def adz (f:bZ) (d:Int):Option Dc:=bJ (zO f d) fun e=>cond (gY d (dw .i64 d e.1)) (cond (gY (dw .i64 d e.1) (bM f)) (cond (fV f (dw .i64 d e.1)) (cond (bV (bY f (dw .i64 d e.1)) 60) (a6 ((dw .i64 d e.1),()))<|cond (fV f (dw .i64 d e.1)) (cond (bV (bY f (dw .i64 d e.1)) 62) (a6 ((dw .i64 d e.1),()))<|some (d,())) a7) a7)<|some (d,()))<|some (d,())
def aGu:Sum:=⟨[.str,dC],Vl,fun x=>adz x.1 x.2.1⟩
theorem aps:dR prog 139 aGu:=qA f139 [] (sE NL aN)
def YL (e:bZ) (d:Int) (i:nN):Option (Du×Unit):=cond (fV e d) (cond (bV (bY e d) 10) (a6 ((2,(d,((dw .i64 d 1),(false,())))),()))<|cond (fV e d) (cond (bV (bY e d) 35) (bJ (ady e d) fun g=>a6 ((3,(d,(g.1,(false,())))),()))<|cond (gY 0 i.2.1) (a6 ((4,(d,((dw .i64 d i.2.1),(false,())))),()))<|bJ (adz e d) fun g=>cond (gY d g.1) (bJ (adz e d) fun f=>a6 ((5,(d,(f.1,(false,())))),()))<|bJ (adA e d) fun f=>cond (fH (bM e) d f.1) (bJ (ajm (sub e d f.1)) fun j=>a6 ((6,(d,(f.1,((!(fP j.1 [])),())))),())) a7) a7) a7
def ajf (e:bZ) (d:Int):Option (Du×Unit):=bJ (ajl e d) fun g=>cond (fV e d) (bJ (SE (bY e d)) fun i=>cond (bV i.1 1) (cond (bV i.1 1) (bJ (adx e d) fun f=>a6 ((1,(d,(f.1,(false,())))),()))<|YL e d g)<|bJ (adw e d) fun f=>cond f.1 (bJ (adx e d) fun j=>a6 ((1,(d,(j.1,(false,())))),()))<|YL e d g) a7
def aGl:Sum:=⟨[.str,dC],[(.pair dC (.pair dC (.pair dC tyF)),false)],fun x=>ajf x.1 x.2.1⟩
theorem apd:dR prog 100 aGl:=qA f100 [] (sE apq (sE uj (sE XK (sE apr (sE XL (sE aps (sE apt (sE apu aN))))))))
noncomputable def aIt:Code:=(Tryz.f195.body).getD .skip
noncomputable def aq7:Code:=cA (cA (cA (cB (aIt))))
def aud:eQ:=⟨[0,1,100001],[],[0],[],[4],[]⟩
def aag:SP:=⟨us [bO,cM] 15,[]⟩
def aaS:SP:=⟨us [bO] 16,[]⟩
def abx:SP:=⟨us [.u,.u,.u,.u,bO] 12,[]⟩
def QL {e:Type} (i:bZ->Int->Option e) (f j:bZ->Option e) (d:bZ) (g:Int):Option e:=cond (gY 0 (bM d)) (cond (fV d 0) (cond (bV (bY d 0) g) (cond (fH (bM d) 1 (bM d)) (i (sub d 1 (bM d)) g) a7)<|f d) a7)<|f d
def J7:Nat->bZ->Int->Option (aaS.den⊕abx.den)
 |0,_,_=>a7
 |n+1,d,e=>QL (J7 n) (fun f=>a6 (.inl ((f,()),()))) (fun g=>a6 (.inr ((g,()),()))) d e
def az3 (n:Nat) (v:aag.den):=J7 n v.1.1 v.1.2.1
noncomputable def akD:dE:=fU aud aag aaS abx (.exit 0) (az3 bQ) 6
def ajA (d:bZ) (e:Int):Option taU:=bJ (J7 bQ d e) fun f=>dW f (fun g=>a6 (g.1.1,())) (fun i=>a6 (i.1.1,()))
def axd:Sum:=⟨[.str,.int .u8],tzF,fun x=>ajA x.1 x.2.1⟩
noncomputable def agI:Env:=iO prog tt 195 [] [(1,aud)] [(1,akD)]
def al4 {d:Type} (a:aag.den->Option d) (b:aaS.den->Option d) (c:abx.den->Option d) (v:aag.den):Option d:=QL (aL a) (aE b) (aE c) v.1.1 v.1.2.1
theorem aAU:dV agI 195 aq7 akD:=xh (al4) (h2:=by intros;simp only[al4,aL,aE,QL,dh,di,bI,cZ,dm])
theorem aEY:dO agI 195 aIt:=nM [aq7] (aD (fM (aAU)) aN)
theorem anJ:eF agI:=eA Tryz.f195 aN (aEY)
theorem apN:dR prog 195 axd:=sA anJ
noncomputable def aDE:Code:=(f133.body).getD .skip
noncomputable def aqT:Code:=cA (cA (cA (cB (cA (cB (aDE))))))
def atU:eQ:=⟨[0,1,5,100001],[],[1],[],[6,7],[]⟩
def azt:eQ:=⟨[0,5,8,9,10],[],[],[],[],[]⟩
def ZV:SP:=⟨us [bO,bR,.u,.u,.u,cq] 33,c7⟩
def Qc:SP:=⟨us [.u,bR] 37,[]⟩
def Qh:SP:=⟨us [.u,.u,.u,.u,.u,.u,bR,b9] 31,[]⟩
def Aq {g:Type} (d:(Int×Bool×Unit)) (e:bZ) (i:Int) (f:bZ) (j:Int->Bool->Option g) (l:bZ->Int->bZ->Bool->Option g) (o:Bool):Option g:=cond d.2.1 (cond (fP (sub e i d.1) f) (j (dw .i64 d.1 1) true)<|l e (dw .i64 d.1 1) f o)<|cond (fP (sub e i d.1) f) (j d.1 true)<|l e d.1 f o
def Qz {o:Type} (j:bZ->Int->bZ->Bool->Option o) (q:Int->Option o) (l:Int->Bool->Option o) (e:bZ) (f:Int) (g:bZ) (i:Bool):Option o:=cond (gY f (bM e)) (bJ (ady e f) fun d=>cond (fH (bM e) f d.1) (cond i (cond (fP (sub e f d.1) []) (Aq d e f g l j i)<|cond (fP [9] []) (Aq d e f g l j i)<|cond (bV (bM [9]) 1) (cond (fV [9] 0) (cond (gY (bY [9] 0) 128) (cond (fV [9] 0) (bJ (ajA (sub e f d.1) (bY [9] 0)) fun p=>cond d.2.1 (cond (fP p.1 g) (l (dw .i64 d.1 1) true)<|j e (dw .i64 d.1 1) g i)<|cond (fP p.1 g) (l d.1 true)<|j e d.1 g i) a7) a7) a7) a7)<|Aq d e f g l j i) a7)<|q f
def BM:Nat->bZ->Int->bZ->Bool->Option (Qc.den⊕Qh.den)
 |0,_,_,_,_=>a7
 |n+1,d,e,f,g=>Qz (BM n) (fun i=>a6 (.inl ((i,()),()))) (fun j l=>a6 (.inr ((j,l,()),()))) d e f g
def azO (n:Nat) (v:ZV.den):=BM n v.1.1 v.1.2.1 v.2.1.1 v.2.1.2.1
noncomputable def akp:dE:=fU atU ZV Qc Qh (.exit 0) (azO bQ) 6
def ajk (f:bZ) (g:Int) (d:bZ×qG):Option (Int×Bool×Unit):=bJ (BM bQ f g d.1 d.2.1) fun i=>dW i (fun j=>a6 (j.1.1,(false,()))) (fun e=>a6 (e.1.1,(e.1.2.1,())))
def aGr:Sum:=⟨[.str,dC,Dy],[(.int .i64,false),(.bool,false)],fun x=>ajk x.1 x.2.1 x.2.2.1⟩
noncomputable def agw:Env:=gz prog tt [(138,awX),(195,axd)] [(133,1,atU),(133,600005,azt)] [(133,1,akp)] []
def alP {d:Type} (a:ZV.den->Option d) (b:Qc.den->Option d) (c:Qh.den->Option d) (v:ZV.den):Option d:=Qz (fun e f g i=>a ((e,f,()),((g,i,()),()))) (aE b) (aL c) v.1.1 v.1.2.1 v.2.1.1 v.2.1.2.1
theorem aAF:dV agw 133 aqT akp:=xh (alP) (h2:=by intros;simp only[alP,aE,aL,Qz,dh,di,bI,cZ,dm,Aq])
theorem aEH:dO agw 133 aDE:=nM [aqT] (aD (fM (aAF)) aN)
theorem ano:eF agw:=eB (aD XL (aD apN aN)) [133] (aD ⟨f133,aDE,by kernel_rfl,by kernel_rfl,aEH⟩ aN)
theorem apo:dR prog 133 aGr:=sA ano
def SA:Option taV:=a6 (([84],([0],(true,()))),())
def acD:Sum:=⟨[],tzH,fun x=>SA⟩
theorem NQ:dR prog 150 acD:=qA f150 [] aN
def xI (d:H8) (e:Bool):Option taV:=a6 ((d.1,(d.2.1,(e,()))),())
def aGJ:Sum:=⟨[.pair .str tyL,.bool],tzH,fun x=>xI x.1 x.2.1⟩
theorem NU:dR prog 178 aGJ:=qA f178 [] aN
def DR (d:H8) (e:bZ):Option taV:=cond (fH (bM d.1) 0 (eU .i64 (bM d.1) 1)) (cond (gV (sub d.1 0 (eU .i64 (bM d.1) 1)) e) (a6 (((bT (sub d.1 0 (eU .i64 (bM d.1) 1)) e),(d.2.1,(d.2.2.1,()))),())) a7) a7
def aGK:Sum:=⟨[.pair .str tyL,.str],tzH,fun x=>DR x.1 x.2.1⟩
theorem XP:dR prog 179 aGK:=qA f179 [] aN
def JK (d:H8):Option taV:=cond (fH (bM d.1) 0 (eU .i64 (bM d.1) 1)) (cond (fH (bM d.2.1) 0 (eU .i64 (bM d.1) 1)) (a6 (((sub d.1 0 (eU .i64 (bM d.1) 1)),((sub d.2.1 0 (eU .i64 (bM d.1) 1)),(d.2.2.1,()))),())) a7) a7
def aGL:Sum:=⟨[.pair .str tyL],tzH,fun x=>JK x.1⟩
theorem NV:dR prog 180 aGL:=qA f180 [] aN
noncomputable def b56:Code:=(f56.body).getD .skip
noncomputable def aBZ:Code:=cA (cA (cB (cA (cB (b56)))))
def aCq:eQ:=⟨[0,1,5,100002],[],[],[],[4],[]⟩
def alg:SP:=⟨us [cM,bO,.u,.u,.u,bR] 11,[]⟩
def ahS:SP:=⟨us [] 17,[]⟩
def aid:SP:=⟨us [.u,.u,.u,.u,b9] 12,[]⟩
def UT {d:Type} (i:Int->bZ->Int->Option d) (j:Option d) (l:Bool->Option d) (g:Int) (e:bZ) (f:Int):Option d:=cond (gY f (bM e)) (cond (fV e f) (cond (bV (bY e f) g) (l true)<|i g e (dw .i64 f 1)) a7) j
def BQ:Nat->Int->bZ->Int->Option (ahS.den⊕aid.den)
 |0,_,_,_=>a7
 |n+1,d,e,f=>UT (BQ n) (a6 (.inl ((),()))) (fun g=>a6 (.inr ((g,()),()))) d e f
def aFq (n:Nat) (v:alg.den):=aR (BQ n) v
noncomputable def au4:dE:=fU aCq alg ahS aid (.exit 0) (aFq bQ) 6
def GN (d:Int) (e:bZ):Option qG:=bJ (BQ bQ d e 0) fun f=>dW f (fun i=>a6 (false,())) (fun g=>a6 (g.1.1,()))
def aC0:Sum:=⟨[.int .u8,.str],LG,fun x=>GN x.1 x.2.1⟩
noncomputable def asq:Env:=iO prog tt 56 [] [(2,aCq)] [(2,au4)]
def av9 {d:Type} (a:alg.den->Option d) (b:ahS.den->Option d) (c:aid.den->Option d) (v:alg.den):Option d:=aR (UT (fun e f g=>a ((e,f,g,()),())) (b ((),())) (aE c)) v
theorem aFU:dV asq 56 aBZ au4:=xh (av9) (h2:=by intros;simp only[av9,aE,aR,UT,dh,di,bI,cZ,dm])
theorem aJ0:dO asq 56 b56:=nM [aBZ] (aD (fM (aFU)) aN)
theorem asr:eF asq:=eA f56 aN (aJ0)
theorem ET:dR prog 56 aC0:=sA asr
def SH (d:Int):Option Dc:=cond (bV d 32) (a6 (1,()))<|cond (bV d 9) (a6 (1,()))<|cond (bV d 10) (a6 (2,()))<|bJ (GN d [124,38,59,60,62,40,41]) fun e=>cond e.1 (a6 (3,()))<|bJ (GN d [92,39,34,96,36]) fun f=>cond f.1 (a6 (4,()))<|bJ (GN d [65,66,67,68,69,70,71,72,73,74,75,76,77,78,79,80,81,82,83,84,85,86,87,88,89,90,97,98,99,100,101,102,103,104,105,106,107,108,109,110,111,112,113,114,115,116,117,118,119,120,121,122,95]) fun g=>cond g.1 (a6 (5,()))<|bJ (GN d [48,49,50,51,52,53,54,55,56,57]) fun i=>cond i.1 (a6 (6,()))<|some (0,())
def axM:Sum:=⟨[.int .u8],Vl,fun x=>SH x.1⟩
theorem ES:dR prog 55 axM:=qA f55 [] (sE ET aN)
def adD (e:Int):Option qG:=bJ (SH e) fun d=>cond (bV d.1 1) (a6 (true,()))<|cond (bV d.1 2) (a6 (true,()))<|some ((bV d.1 3),())
def aw0:Sum:=⟨[.int .u8],LG,fun x=>adD x.1⟩
theorem XO:dR prog 151 aw0:=qA f151 [] (sE ES aN)
def kS (d:H8) (e:bZ):=fP (bT d.1 e) (bT d.1 e)
def mf (d:H8):=lZ dC d.2.1 d.2.1
def wH (d:H8) (e:bZ) (f:Int):Option taV:=cond (gV d.1 e) (cond (fP d.1 d.1) (cond (fP e e) (cond (gV d.1 e) (cond (kS d e) (cond (mf d) (cond (bV f f) (cond (jA d.2.2.1 d.2.2.1) (cond (dY (bT [] d.2.1) 8) (cond (fP d.1 d.1) (cond (fP e e) (cond (gV d.1 e) (cond (kS d e) (cond (bV f f) (cond (jA d.2.2.1 d.2.2.1) (cond (fP d.1 d.1) (cond (fP e e) (cond (gV d.1 e) (cond (kS d e) (cond (mf d) (cond (jA d.2.2.1 d.2.2.1) (cond (dY (bT (bT [] d.2.1) [f]) 8) (cond (fP d.1 d.1) (cond (fP e e) (cond (gV d.1 e) (cond (kS d e) (cond (mf d) (cond (bV f f) (cond (jA d.2.2.1 d.2.2.1) (bJ (cond (fP d.1 d.1) (cond (fP e e) (cond (gV d.1 e) (cond (kS d e) (cond (mf d) (cond (jA d.2.2.1 d.2.2.1) (cond (dY (bT [] d.2.1) 8) (cond (fP d.1 d.1) (cond (fP e e) (cond (gV d.1 e) (cond (kS d e) (cond (bV f f) (cond (jA d.2.2.1 d.2.2.1) (cond (dY (bT (bT [] d.2.1) [f]) 8) (cond (fP d.1 d.1) (cond (fP e e) (cond (gV d.1 e) (cond (kS d e) (cond (mf d) (cond (bV f f) (cond (jA d.2.2.1 d.2.2.1) (cond (((((fP d.1 d.1)&&((mf d)&&((jA d.2.2.1 d.2.2.1)&&true)))&&((fP e e)&&((bV f f)&&((fP d.1 d.1)&&((fP e e)&&((kS d e)&&((mf d)&&((bV f f)&&((jA d.2.2.1 d.2.2.1)&&(((kS d e)&&((jA d.2.2.1 d.2.2.1)&&true))&&true))))))))))&&(((lZ dC [f] [f])&&((lZ dC (bT (bT [] d.2.1) [f]) (bT (bT [] d.2.1) [f]))&&(((kS d e)&&((jA d.2.2.1 d.2.2.1)&&true))&&(((fP d.1 d.1)&&((mf d)&&((jA d.2.2.1 d.2.2.1)&&true)))&&true))))&&true))&&true) (a6 ()) (a7)) (a7)) (a7)) (a7)) (a7)) (a7)) (a7)) (a7)) (a7)) (a7)) (a7)) (a7)) (a7)) (a7)) (a7)) (a7)) (a7)) (a7)) (a7)) (a7)) (a7)) (a7)) fun g=>bJ (cond (fP d.1 d.1) (cond (fP e e) (cond (gV d.1 e) (cond (kS d e) (cond (mf d) (cond (jA d.2.2.1 d.2.2.1) (cond (fP d.1 d.1) (cond (fP e e) (cond (gV d.1 e) (cond (kS d e) (cond (mf d) (cond (bV f f) (cond (jA d.2.2.1 d.2.2.1) (cond (dY (bT [] d.2.1) 8) (cond (fP d.1 d.1) (cond (fP e e) (cond (gV d.1 e) (cond (kS d e) (cond (bV f f) (cond (jA d.2.2.1 d.2.2.1) (cond (dY (bT (bT [] d.2.1) [f]) 8) (cond (fP d.1 d.1) (cond (fP e e) (cond (gV d.1 e) (cond (kS d e) (cond (mf d) (cond (bV f f) (cond (jA d.2.2.1 d.2.2.1) (cond (((((fP d.1 d.1)&&((mf d)&&((jA d.2.2.1 d.2.2.1)&&true)))&&((fP e e)&&((bV f f)&&((fP d.1 d.1)&&((fP e e)&&((kS d e)&&((mf d)&&((bV f f)&&((jA d.2.2.1 d.2.2.1)&&(((kS d e)&&((jA d.2.2.1 d.2.2.1)&&true))&&true))))))))))&&(((lZ dC [f] [f])&&((lZ dC (bT (bT [] d.2.1) [f]) (bT (bT [] d.2.1) [f]))&&(((kS d e)&&((jA d.2.2.1 d.2.2.1)&&true))&&(((fP d.1 d.1)&&((mf d)&&((jA d.2.2.1 d.2.2.1)&&true)))&&true))))&&true))&&true) (a6 ()) (a7)) (a7)) (a7)) (a7)) (a7)) (a7)) (a7)) (a7)) (a7)) (a7)) (a7)) (a7)) (a7)) (a7)) (a7)) (a7)) (a7)) (a7)) (a7)) (a7)) (a7)) (a7)) (a7)) (a7)) (a7)) (a7)) (a7)) (a7)) (a7)) fun i=>a6 (((bT d.1 e),((bT (bT [] d.2.1) [f]),(d.2.2.1,()))),())) a7) a7) a7) a7) a7) a7) a7) a7) a7) a7) a7) a7) a7) a7) a7) a7) a7) a7) a7) a7) a7) a7) a7) a7) a7) a7) a7) a7) a7
def aGV:Sum:=⟨[.pair .str tyL,.str,dC],tzH,fun x=>wH x.1 x.2.1 x.2.2.1⟩
theorem XU:dR prog 225 aGV:=qA Tryz.f225 [] aN
def WL (d:Int):Option taU:=cond (bV d 92) (a6 ([88],()))<|cond (bV d 36) (a6 ([76],()))<|cond (bV d 96) (a6 ([66],()))<|some ([],())
def aGW:Sum:=⟨[.int .u8],tzF,fun x=>WL x.1⟩
theorem XV:dR prog 226 aGW:=qA f226 [] aN
def YO (e:Int) (d:H8) (f:Int):Option taV:=bJ (WL e) fun g=>bJ (wH (d.1,(d.2.1,(d.2.2.1,()))) g.1 f) fun j=>cond (bV e e) (bJ (xI j.1 false) fun i=>cond ((fP d.1 d.1)&&((lZ dC d.2.1 d.2.1)&&((jA d.2.2.1 d.2.2.1)&&true))) (cond (bV e e) (cond (bV f f) (cond (((bV e e)&&true)&&((fP g.1 g.1)&&true)) (a6 ((i.1.1,(i.1.2.1,(i.1.2.2.1,()))),())) a7) a7) a7) a7) a7
def YP (g i:Int) (d:H8) (j:Int):Option taV:=cond (bV g 40) (cond (bV i 84) (bJ (xI (d.1,(d.2.1,(d.2.2.1,()))) true) fun e=>a6 ((e.1.1,(e.1.2.1,(e.1.2.2.1,()))),()))<|bJ (wH (d.1,(d.2.1,(d.2.2.1,()))) [80] j) fun e=>bJ (xI e.1 true) fun f=>a6 ((f.1.1,(f.1.2.1,(f.1.2.2.1,()))),()))<|cond (bV g 41) (cond (bV i 84) (bJ (xI (d.1,(d.2.1,(d.2.2.1,()))) true) fun e=>a6 ((e.1.1,(e.1.2.1,(e.1.2.2.1,()))),()))<|bJ (JK (d.1,(d.2.1,(d.2.2.1,())))) fun e=>bJ (xI e.1 (bV i 80)) fun f=>a6 ((f.1.1,(f.1.2.1,(f.1.2.2.1,()))),()))<|bJ (adD g) fun e=>bJ (xI (d.1,(d.2.1,(d.2.2.1,()))) e.1) fun f=>cond (bV g g) (a6 ((f.1.1,(f.1.2.1,(f.1.2.2.1,()))),())) a7
def ajD (d:H8) (j f g:Int):Option taV:=cond (bV f 92) (bJ (wH (d.1,(d.2.1,(d.2.2.1,()))) [88] g) fun e=>a6 ((e.1.1,(e.1.2.1,(e.1.2.2.1,()))),()))<|cond (bV f 39) (bJ (wH (d.1,(d.2.1,(d.2.2.1,()))) [83] g) fun e=>bJ (xI e.1 false) fun i=>a6 ((i.1.1,(i.1.2.1,(i.1.2.2.1,()))),()))<|cond (bV f 34) (bJ (wH (d.1,(d.2.1,(d.2.2.1,()))) [68] g) fun e=>bJ (xI e.1 false) fun i=>a6 ((i.1.1,(i.1.2.1,(i.1.2.2.1,()))),()))<|cond (bV f 96) (YO f d g)<|cond (bV f 36) (YO f d g)<|cond (bV f 35) (cond d.2.2.1 (bJ (wH (d.1,(d.2.1,(d.2.2.1,()))) [35] g) fun e=>a6 ((e.1.1,(e.1.2.1,(e.1.2.2.1,()))),()))<|YP f j d g)<|YP f j d g
def aGU:Sum:=⟨[.pair .str tyL,.int .u8,.int .u8,dC],tzH,fun x=>ajD x.1 x.2.1 x.2.2.1 x.2.2.2.1⟩
theorem apY:dR prog 224 aGU:=qA Tryz.f224 [] (sE XO (sE NU (sE NV (sE XU (sE XV aN)))))
def Bo (d:H8) (f g i:Int):Option taV:=bJ (ajD (d.1,(d.2.1,(d.2.2.1,()))) f g i) fun e=>a6 ((e.1.1,(e.1.2.1,(e.1.2.2.1,()))),())
def uD (d:H8):Option taV:=bJ (JK (d.1,(d.2.1,(d.2.2.1,())))) fun e=>a6 ((e.1.1,(e.1.2.1,(e.1.2.2.1,()))),())
def Fv (f:Int) (d:H8):Option taV:=cond (bV f 41) (bJ (DR (d.1,(d.2.1,(d.2.2.1,()))) [69]) fun e=>a6 ((e.1.1,(e.1.2.1,(e.1.2.2.1,()))),()))<|some ((d.1,(d.2.1,(d.2.2.1,()))),())
def Fz (e:Int) (d:H8) (g i:Int):Option taV:=cond (bV e 40) (bJ (wH (d.1,(d.2.1,(d.2.2.1,()))) [82] g) fun f=>a6 ((f.1.1,(f.1.2.1,(f.1.2.2.1,()))),()))<|cond (bV e 41) (cond (bV i 82) (uD d)<|Fv e d)<|Fv e d
def G7 (d:H8) (g e j:Int):Option taV:=cond (bV g 84) (Bo d g e j)<|cond (bV g 67) (Bo d g e j)<|cond (bV g 80) (Bo d g e j)<|cond (bV g 88) (bJ (JK (d.1,(d.2.1,(d.2.2.1,())))) fun i=>cond (!(bV e 10)) (bJ (xI (i.1.1,(i.1.2.1,(i.1.2.2.1,()))) false) fun f=>a6 ((f.1.1,(f.1.2.1,(f.1.2.2.1,()))),()))<|some ((i.1.1,(i.1.2.1,(i.1.2.2.1,()))),()))<|cond (bV g 83) (cond (bV e 39) (uD d)<|some ((d.1,(d.2.1,(d.2.2.1,()))),()))<|cond (bV g 35) (cond (bV e 10) (bJ (JK (d.1,(d.2.1,(d.2.2.1,())))) fun i=>bJ (xI i.1 true) fun f=>a6 ((f.1.1,(f.1.2.1,(f.1.2.2.1,()))),()))<|some ((d.1,(d.2.1,(d.2.2.1,()))),()))<|cond (bV g 66) (cond (bV e 96) (uD d)<|cond (bV e 92) (bJ (wH (d.1,(d.2.1,(d.2.2.1,()))) [88] j) fun i=>a6 ((i.1.1,(i.1.2.1,(i.1.2.2.1,()))),()))<|some ((d.1,(d.2.1,(d.2.2.1,()))),()))<|bJ (WL e) fun i=>cond (!(fP i.1 [])) (bJ (WL e) fun f=>bJ (wH (d.1,(d.2.1,(d.2.2.1,()))) f.1 j) fun l=>cond (bV e e) (a6 ((l.1.1,(l.1.2.1,(l.1.2.2.1,()))),())) a7)<|cond (bV g 65) (Fz e d j g)<|cond (bV g 82) (Fz e d j g)<|cond (bV g 68) (cond (bV e 34) (uD d)<|some ((d.1,(d.2.1,(d.2.2.1,()))),()))<|cond (bV e 34) (bJ (wH (d.1,(d.2.1,(d.2.2.1,()))) [68] j) fun f=>a6 ((f.1.1,(f.1.2.1,(f.1.2.2.1,()))),()))<|cond (bV e 125) (uD d)<|cond (bV e 39) (cond (bV g 86) (bJ (wH (d.1,(d.2.1,(d.2.2.1,()))) [83] j) fun f=>a6 ((f.1.1,(f.1.2.1,(f.1.2.2.1,()))),()))<|some ((d.1,(d.2.1,(d.2.2.1,()))),()))<|some ((d.1,(d.2.1,(d.2.2.1,()))),())
def aGM:Sum:=⟨[.pair .str tyL,.int .u8,.int .u8,dC],tzH,fun x=>G7 x.1 x.2.1 x.2.2.1 x.2.2.2.1⟩
theorem apI:dR prog 181 aGM:=qA f181 [] (sE NU (sE XP (sE NV (sE apY (sE XU (sE XV aN))))))
def SB (d:H8) (g i:Int):Option taV:=cond (fV d.1 (eU .i64 (bM d.1) 1)) (cond (bV (bY d.1 (eU .i64 (bM d.1) 1)) 76) (cond (bV g 40) (bJ (DR (d.1,(d.2.1,(d.2.2.1,()))) [79]) fun e=>bJ (xI e.1 true) fun f=>a6 ((f.1.1,(f.1.2.1,(f.1.2.2.1,()))),()))<|cond (bV g 123) (cond (fV d.1 (eU .i64 (bM d.1) 2)) (cond (bV (bY d.1 (eU .i64 (bM d.1) 2)) 68) (bJ (DR (d.1,(d.2.1,(d.2.2.1,()))) [73]) fun e=>a6 ((e.1.1,(e.1.2.1,(e.1.2.2.1,()))),()))<|cond (fV d.1 (eU .i64 (bM d.1) 2)) (cond (bV (bY d.1 (eU .i64 (bM d.1) 2)) 73) (bJ (DR (d.1,(d.2.1,(d.2.2.1,()))) [73]) fun e=>a6 ((e.1.1,(e.1.2.1,(e.1.2.2.1,()))),()))<|bJ (DR (d.1,(d.2.1,(d.2.2.1,()))) [86]) fun e=>a6 ((e.1.1,(e.1.2.1,(e.1.2.2.1,()))),())) a7) a7)<|bJ (JK (d.1,(d.2.1,(d.2.2.1,())))) fun e=>cond (bV g 36) (a6 ((e.1.1,(e.1.2.1,(e.1.2.2.1,()))),()))<|cond (fV e.1.1 (eU .i64 (bM e.1.1) 1)) (bJ (G7 (e.1.1,(e.1.2.1,(e.1.2.2.1,()))) (bY e.1.1 (eU .i64 (bM e.1.1) 1)) g i) fun f=>a6 ((f.1.1,(f.1.2.1,(f.1.2.2.1,()))),())) a7)<|cond (bV (bY d.1 (eU .i64 (bM d.1) 1)) 79) (cond (bV g 40) (bJ (DR (d.1,(d.2.1,(d.2.2.1,()))) [65]) fun e=>bJ (xI e.1 false) fun f=>a6 ((f.1.1,(f.1.2.1,(f.1.2.2.1,()))),()))<|bJ (DR (d.1,(d.2.1,(d.2.2.1,()))) [67]) fun e=>bJ (G7 (e.1.1,(e.1.2.1,(e.1.2.2.1,()))) 67 g i) fun f=>a6 ((f.1.1,(f.1.2.1,(f.1.2.2.1,()))),()))<|cond (bV (bY d.1 (eU .i64 (bM d.1) 1)) 69) (cond (bV g 41) (bJ (JK (d.1,(d.2.1,(d.2.2.1,())))) fun e=>a6 ((e.1.1,(e.1.2.1,(e.1.2.2.1,()))),()))<|bJ (DR (d.1,(d.2.1,(d.2.2.1,()))) [65]) fun e=>bJ (G7 (e.1.1,(e.1.2.1,(e.1.2.2.1,()))) 65 g i) fun f=>a6 ((f.1.1,(f.1.2.1,(f.1.2.2.1,()))),()))<|bJ (G7 (d.1,(d.2.1,(d.2.2.1,()))) (bY d.1 (eU .i64 (bM d.1) 1)) g i) fun e=>a6 ((e.1.1,(e.1.2.1,(e.1.2.2.1,()))),())) a7
def acE:Sum:=⟨[.pair .str tyL,.int .u8,dC],tzH,fun x=>SB x.1 x.2.1 x.2.2.1⟩
theorem NR:dR prog 152 acE:=qA f152 [] (sE NU (sE XP (sE NV (sE apI aN))))
noncomputable def aIu:Code:=(f227.body).getD .skip
noncomputable def arb:Code:=cA (cA (cB (cA (cB (aIu)))))
def auh:eQ:=⟨[1,2,5,100002],[],[],[],[4],[]⟩
def aak:SP:=⟨us [.u,bR,eD,.u,.u,bR] 15,[.box 1000002 165 eJ]⟩
def aaW:SP:=⟨us [] 21,[]⟩
def abB:SP:=⟨us cU 16,[]⟩
def QN {e:Type} (i:Int->Int->bZ->jg->Bool->Option e) (j:Option e) (l:Int->Option e) (g d:Int) (o:bZ) (f:jg) (p:Bool):Option e:=cond (gY d (bM f)) (cond (fV f d) (cond (bV (dJ f 0 d) g) (l d)<|i g (dw .i64 d 1) o f p) a7) j
def FX:Nat->Int->Int->bZ->jg->Bool->Option (aaW.den⊕abB.den)
 |0,_,_,_,_,_=>a7
 |n+1,d,e,f,g,i=>QN (FX n) (a6 (.inl ((),()))) (fun j=>a6 (.inr ((j,()),()))) d e f g i
def az7 (n:Nat) (v:aak.den):=FX n v.1.1 v.1.2.1 v.2.1.1 v.2.1.2.1 v.2.1.2.2.1
noncomputable def akH:dE:=fU auh aak aaW abB (.exit 0) (az7 bQ) 6
def adJ (d:H8) (e:Int):Option Dc:=bJ (FX bQ e 1 d.1 d.2.1 d.2.2.1) fun f=>dW f (fun i=>a6 (0,())) (fun g=>a6 (g.1.1,()))
def axp:Sum:=⟨[.pair .str tyL,dC],Vl,fun x=>adJ x.1 x.2.1⟩
noncomputable def agK:Env:=iO prog tt 227 [] [(2,auh)] [(2,akH)]
def al8 {d:Type} (a:aak.den->Option d) (b:aaW.den->Option d) (c:abB.den->Option d) (v:aak.den):Option d:=QN (fun e f g i j=>a ((e,f,()),((g,i,j,()),()))) (b ((),())) (aE c) v.1.1 v.1.2.1 v.2.1.1 v.2.1.2.1 v.2.1.2.2.1
theorem aAY:dV agK 227 arb akH:=xh (al8) (h2:=by intros;simp only[al8,aE,QN,dh,di,bI,cZ,dm])
theorem aE1:dO agK 227 aIu:=nM [arb] (aD (fM (aAY)) aN)
theorem anO:eF agK:=eA f227 aN (aE1)
theorem apZ:dR prog 227 axp:=sA anO
noncomputable def aIv:Code:=(f228.body).getD .skip
noncomputable def arc:Code:=cA (cA (cB (cA (cB (cB (cB (aIv)))))))
def aui:eQ:=⟨[0,3,100006],[],[],[],[2],[]⟩
def aal:SP:=⟨us [cM,.u,.u,bR] 13,[]⟩
def aaX:SP:=⟨us [] 17,[]⟩
def abC:SP:=⟨us d6 14,[]⟩
def ach {e:Type} (g:Int->Int->Option e) (i:Option e) (j:Int->Option e) (f d:Int):Option e:=cond (gY d 15) (cond (fV [84,67,80,79,83,68,66,86,73,65,82,69,76,88,35] d) (cond (bV (bY [84,67,80,79,83,68,66,86,73,65,82,69,76,88,35] d) f) (j d)<|g f (dw .i64 d 1)) a7) i
def Zm:Nat->Int->Int->Option (aaX.den⊕abC.den)
 |0,_,_=>a7
 |n+1,d,e=>ach (Zm n) (a6 (.inl ((),()))) (fun f=>a6 (.inr ((f,()),()))) d e
def az8 (n:Nat) (v:aal.den):=Zm n v.1.1 v.1.2.1
noncomputable def akI:dE:=fU aui aal aaX abC (.exit 0) (az8 bQ) 6
def ajE (d:Int):Option Dc:=cond (bV d 79) (a6 (1,()))<|cond (bV d 69) (a6 (9,()))<|bJ (Zm bQ d 0) fun e=>dW e (fun g=>a6 (0,())) (fun f=>a6 (f.1.1,()))
def axq:Sum:=⟨[.int .u8],Vl,fun x=>ajE x.1⟩
noncomputable def agL:Env:=iO prog tt 228 [] [(6,aui)] [(6,akI)]
def al9 {d:Type} (a:aal.den->Option d) (b:aaX.den->Option d) (c:abC.den->Option d) (v:aal.den):Option d:=ach (aL a) (b ((),())) (aE c) v.1.1 v.1.2.1
theorem aAZ:dV agL 228 arc akI:=xh (al9) (h2:=by intros;simp only[al9,aL,aE,ach,dh,di,bI,cZ,dm])
theorem aE2:dO agL 228 aIv:=nM [arc] (aD (fM (aAZ)) aN)
theorem anP:eF agL:=eA f228 aN (aE2)
theorem ap0:dR prog 228 axq:=sA anP
noncomputable def b32:Code:=(f32.body).getD .skip
noncomputable def aBU:Code:=cA (cA (cB (cA (cB (cB (b32))))))
def alb:SP:=⟨us [bO,.u,.u,bR] 27,[]⟩
def ahO:SP:=⟨us [] 31,[]⟩
def ah9:SP:=⟨us [.u,.u,b9] 28,[]⟩
def acr {f:Type} (g:bZ->Int->Option f) (i:Option f) (j:Bool->Option f) (d:bZ) (e:Int):Option f:=cond (gY e (bM d)) (cond (fV d e) (bJ (SH (bY d e)) fun l=>cond (!(bV l.1 5)) (cond (fV d e) (bJ (SH (bY d e)) fun o=>cond (!(bV o.1 6)) (j false)<|g d (dw .i64 e 1)) a7)<|g d (dw .i64 e 1)) a7) i
def MI:Nat->bZ->Int->Option (ahO.den⊕ah9.den)
 |0,_,_=>a7
 |n+1,d,e=>acr (MI n) (a6 (.inl ((),()))) (fun f=>a6 (.inr ((f,()),()))) d e
def aFl (n:Nat) (v:alb.den):=MI n v.1.1 v.1.2.1
noncomputable def auZ:dE:=fU Zc alb ahO ah9 (.exit 0) (aFl bQ) 6
def YU (d:bZ):Option qG:=cond (bV (bM d) 0) (a6 (false,()))<|cond (fV d 0) (bJ (SH (bY d 0)) fun e=>cond (!(bV e.1 5)) (a6 (false,()))<|bJ (MI bQ d 1) fun f=>dW f (fun i=>a6 (true,())) (fun g=>a6 (g.1.1,()))) a7
def XY:Sum:=⟨[.str],LG,fun x=>YU x.1⟩
noncomputable def ar6:Env:=iO prog tt 32 [(55,axM)] [(4,Zc)] [(4,auZ)]
def av4 {d:Type} (a:alb.den->Option d) (b:ahO.den->Option d) (c:ah9.den->Option d) (v:alb.den):Option d:=acr (aL a) (b ((),())) (aE c) v.1.1 v.1.2.1
theorem aFP:dV ar6 32 aBU auZ:=xh (av4) (h2:=by intros;simp only[av4,aL,aE,acr,dh,di,bI,cZ,dm])
theorem aJU:dO ar6 32 b32:=nM [aBU] (aD (fM (aFP)) aN)
theorem ar7:eF ar6:=eA f32 (aD ES aN) (aJU)
theorem EQ:dR prog 32 XY:=sA ar7
noncomputable def aIw:Code:=(f263.body).getD .skip
noncomputable def arn:Code:=cA (cA (cB (cA (cB (cB (aIw))))))
def Zd:eQ:=⟨[0,1,5,6,100003],[],[5],[],[4],[]⟩
def aat:SP:=⟨us [bO,bR,.u,.u,.u,bR,bR] 17,[]⟩
def aa5:SP:=⟨us [.u,.u,.u,.u,.u,bR] 18,[]⟩
def abL:SP:=⟨us cU 19,[]⟩
def QP {g:Type} (i:bZ->Int->Int->Int->Option g) (l p:Int->Option g) (f:bZ) (d j e:Int):Option g:=cond (leI e (eU .i64 (bM f) d)) (cond (fH (bM f) d (dw .i64 d e)) (bJ (YU (sub f d (dw .i64 d e))) fun o=>cond o.1 (i f d e (dw .i64 e 1))<|i f d j (dw .i64 e 1)) a7)<|l j
def FY:Nat->bZ->Int->Int->Int->Option (aa5.den⊕abL.den)
 |0,_,_,_,_=>a7
 |n+1,d,e,f,g=>QP (FY n) (fun i=>a6 (.inl ((i,()),()))) (fun j=>a6 (.inr ((j,()),()))) d e f g
def aAg (n:Nat) (v:aat.den):=aM (FY n) v
noncomputable def akQ:dE:=fU Zd aat aa5 abL (.exit 0) (aAg bQ) 6
def ajN (d:bZ) (e:Int):Option Dc:=bJ (FY bQ d e 0 1) fun f=>dW f (fun g=>a6 (g.1.1,())) (fun i=>a6 (i.1.1,()))
def aHb:Sum:=⟨[.str,dC],Vl,fun x=>ajN x.1 x.2.1⟩
noncomputable def agQ:Env:=iO prog tt 263 [(32,XY)] [(3,Zd)] [(3,akQ)]
def amh {d:Type} (a:aat.den->Option d) (b:aa5.den->Option d) (c:abL.den->Option d) (v:aat.den):Option d:=aM (QP (fun e f g i=>a ((e,f,g,i,()),())) (aE b) (aE c)) v
theorem aA7:dV agQ 263 arn akQ:=xh (amh) (h2:=by intros;simp only[amh,aE,aM,QP,dh,di,bI,cZ,dm])
theorem aE9:dO agQ 263 aIw:=nM [arn] (aD (fM (aA7)) aN)
theorem an1:eF agQ:=eA f263 (aD EQ aN) (aE9)
theorem aqa:dR prog 263 aHb:=sA an1
def ajF (d:bZ) (e:Int):Option Dc:=bJ (ajN d e) fun f=>cond (bV f.1 0) (cond (gY e (bM d)) (cond (fV d e) (bJ (SH (bY d e)) fun g=>cond (bV g.1 6) (a6 (1,()))<|cond (fV d e) (bJ (GN (bY d e) [64,42,35,63,45,36,33]) fun i=>cond i.1 (a6 (1,()))<|some (f.1,())) a7) a7)<|some (f.1,()))<|some (f.1,())
def axr:Sum:=⟨[.str,dC],Vl,fun x=>ajF x.1 x.2.1⟩
theorem ap1:dR prog 229 axr:=qA f229 [] (sE ES (sE ET (sE aqa aN)))
noncomputable def aqE:Code:=(f182.body).getD .skip
noncomputable def aq1:Code:=cA (cA (cB (cA (cB (cB (aqE))))))
noncomputable def aiU:Code:=cA (cA (cB (cA (cB (cB (cB (cA (cA (cB (cA (cA (cB (cA (cB (cB (cB (cB (aqE))))))))))))))))))
noncomputable def aiV:Code:=cA (cA (cB (cA (cB (cB (cB (cB (cA (cA (cB (cA (cA (cB (cA (cB (cB (cB (cB (aqE)))))))))))))))))))
noncomputable def aq2:Code:=cA (cA (cB (cA (cB (cB (cB (cB (aqE))))))))
def at1:eQ:=⟨[0,3,4,100003],[],[0,3],[],[2],[(2,Jf)]⟩
def ajX:eQ:=⟨[0,3,5,6,7,8,9,100014],[],[0,3,5,6,7,8],[],[2],[(2,Jf)]⟩
def ajY:eQ:=⟨[0,3,5,6,7,8,10,100019],[],[0,3,5,6,8],[],[2],[(2,Jf)]⟩
def at6:eQ:=⟨[0,3,5,6,100008],[(5,Jf)],[5],[],[2],[(2,Jf)]⟩
def Z9:SP:=⟨us [bO,.u,.u,du,bR] 117,[cS]⟩
def aaM:SP:=⟨us [bO,.u,.u,du] 118,[cS]⟩
def abq:SP:=⟨dz,[]⟩
def QG {g:Type} (j:bZ->Int->(List H8)->Option g) (l:bZ->(List H8)->Option g) (o:(List je)->Option g) (f:bZ) (d:Int) (e:List H8):Option g:=cond (gY d (bM f)) (cond (fV e d) (cond (fV f d) (cond (mi (dD d) e) (bJ (SB ((dK e ([],([],(false,()))) (dD d)).1,((dK e ([],([],(false,()))) (dD d)).2.1,((dK e ([],([],(false,()))) (dD d)).2.2.1,()))) (bY f d) d) fun i=>cond (dY (bT e [i.1]) 48) (j f (dw .i64 d 1) (bT e [i.1])) a7) a7) a7) a7)<|l f e
def FU:Nat->bZ->Int->(List H8)->Option (aaM.den⊕abq.den)
 |0,_,_,_=>a7
 |n+1,d,e,f=>QG (FU n) (fun g i=>a6 (.inl ((g,()),(i,())))) (fun j=>a6 (.inr ((j,()),()))) d e f
def azX (n:Nat) (v:Z9.den):=FU n v.1.1 v.1.2.1 v.2.1
noncomputable def akx:dE:=fU at1 Z9 aaM abq (.exit 0) (azX bQ) 6
def PY:SP:=⟨us [bO,.u,.u,du,.u,db,bR,bR,d8,bR] 112,cm⟩
def Uf:SP:=⟨us [bO,.u,.u,du,.u,db,bR,bR,d8] 113,cm⟩
def Um:SP:=⟨dz,[]⟩
def Lh {j:Type} (u:bZ->Int->Int->Int->Int->Int->Int->Int->Bool->(List je)->(List H8)->Option j) (x:bZ->Int->Int->Int->Int->Int->Int->Bool->(List je)->(List H8)->Option j) (y:(List je)->Option j) (l:bZ) (d i e o p q v:Int) (s:Bool) (f:List je) (g:List H8):Option j:=cond (gY e (bM f)) (cond (gY 1 i) (cond (fV f e) (cond (mi (dD e) f) (cond (fV g (dw .i64 d 1)) (cond (mi (dD (dw .i64 d 1)) g) (cond (fV (dK g ([],([],(false,()))) (dD (dw .i64 d 1))).2.1 (eU .i64 i 1)) (cond (bV (dK f (0,(0,(0,(0,(false,()))))) (dD e)).2.1 (dJ (dK g ([],([],(false,()))) (dD (dw .i64 d 1))).2.1 0 (eU .i64 i 1))) (u l d i (dw .i64 e 1) o p q e s f g)<|u l d i (dw .i64 e 1) o p q v s f g) a7) a7) a7) a7) a7)<|u l d i (dw .i64 e 1) o p q v s f g)<|x l d i o p q v s f g
def zY:Nat->bZ->Int->Int->Int->Int->Int->Int->Int->Bool->(List je)->(List H8)->Option (Uf.den⊕Um.den)
 |0,_,_,_,_,_,_,_,_,_,_,_=>a7
 |n+1,d,e,f,g,i,j,l,o,p,q,s=>Lh (zY n) (fun u v x y z A B D E G=>a6 (.inl ((u,v,x,()),((y,z,A,B,D,()),E,G,())))) (fun I=>a6 (.inr ((I,()),()))) d e f g i j l o p q s
def auL (n:Nat) (v:PY.den):=ba (zY n) v
noncomputable def aeA:dE:=fU ajX PY Uf Um (.exit 4) (auL bQ) 12
def PZ:SP:=⟨us [bO,.u,.u,du,.u,db,bR,bR,d8,.u,bR] 111,cm⟩
def Ug:SP:=⟨us [bO,.u,.u,du,.u,db,bR,.u,d8] 113,cm⟩
def Un:SP:=⟨dz,[]⟩
def Aw {f:Type} (x:bZ->Int->Int->Int->Int->Int->Int->Int->Bool->(List je)->(List H8)->Option f) (q:bZ->Int->Int->Int->Int->Int->Bool->(List je)->(List H8)->Option f) (A:(List je)->Option f) (g:bZ) (i j d s l u o:Int) (v:Bool) (p:List je) (e:List H8):Option f:=cond (leI d (bM g)) (cond (fV e d) (cond (mi (dD d) e) (bJ (adJ ((dK e ([],([],(false,()))) (dD d)).1,((dK e ([],([],(false,()))) (dD d)).2.1,((dK e ([],([],(false,()))) (dD d)).2.2.1,()))) i) fun y=>cond (bV y.1 0) (q g i s l d o false p e)<|cond (fV e d) (cond (mi (dD d) e) (cond (fV (dK e ([],([],(false,()))) (dD d)).1 j) (bJ (ajE (bY (dK e ([],([],(false,()))) (dD d)).1 j)) fun z=>x g i j (dw .i64 d 1) z.1 l u o v p e) a7) a7) a7) a7) a7)<|q g i s l u o v p e
def wQ:Nat->bZ->Int->Int->Int->Int->Int->Int->Int->Bool->(List je)->(List H8)->Option (Ug.den⊕Un.den)
 |0,_,_,_,_,_,_,_,_,_,_,_=>a7
 |n+1,d,e,f,g,i,j,l,o,p,q,s=>Aw (wQ n) (fun u v x y z A B D E=>a6 (.inl ((u,v,()),((x,y,z,A,B,()),D,E,())))) (fun G=>a6 (.inr ((G,()),()))) d e f g i j l o p q s
def auM (n:Nat) (v:PZ.den):=ba (wQ n) v
noncomputable def aeB:dE:=fU ajY PZ Ug Un (.exit 6) (auM bQ) 18
def aab:SP:=⟨us [bO,.u,.u,du,.u,db,bR] 115,[.arr 1800005 Jf,cS]⟩
def aaN:SP:=⟨us [.u,.u,.u,.u,.u,db] 116,[.arr 1800005 Jf]⟩
def abr:SP:=⟨dz,[]⟩
def QH {j:Type} (l:bZ->Int->(List je)->(List H8)->Option j) (u p:(List je)->Option j) (i:bZ) (f:Int) (o:List je) (g:List H8):Option j:=cond (gY f (bM i)) (cond (fV g (dw .i64 f 1)) (cond (mi (dD (dw .i64 f 1)) g) (bJ (adJ ((dK g ([],([],(false,()))) (dD (dw .i64 f 1))).1,((dK g ([],([],(false,()))) (dD (dw .i64 f 1))).2.1,((dK g ([],([],(false,()))) (dD (dw .i64 f 1))).2.2.1,()))) f) fun q=>cond (bV q.1 0) (l i (dw .i64 f 1) o g)<|bJ (zY bQ i f q.1 0 0 f (bM i) (-1) true o g) fun v=>dW v (fun e=>bJ (wQ bQ e.1.1 e.1.2.1 e.1.2.2.1 (dw .i64 e.1.2.1 1) e.2.1.1 e.2.1.2.1 e.2.1.2.2.1 e.2.1.2.2.2.1 e.2.1.2.2.2.2.1 e.2.2.1 e.2.2.2.1) fun x=>dW x (fun d=>cond (bV d.2.1.1 12) (bJ (ajF d.1.1 (dw .i64 d.1.2.1 1)) fun s=>cond (dY (bT d.2.2.1 [(d.2.1.1,(d.2.1.2.1,((dw .i64 (dw .i64 d.1.2.1 1) s.1),(d.2.1.2.2.2.1,(false,())))))]) 40) (l d.1.1 (dw .i64 d.1.2.1 1) (bT d.2.2.1 [(d.2.1.1,(d.2.1.2.1,((dw .i64 (dw .i64 d.1.2.1 1) s.1),(d.2.1.2.2.2.1,(false,())))))]) d.2.2.2.1) a7)<|cond (dY (bT d.2.2.1 [(d.2.1.1,(d.2.1.2.1,(d.2.1.2.2.1,(d.2.1.2.2.2.1,(d.2.1.2.2.2.2.1,())))))]) 40) (l d.1.1 (dw .i64 d.1.2.1 1) (bT d.2.2.1 [(d.2.1.1,(d.2.1.2.1,(d.2.1.2.2.1,(d.2.1.2.2.2.1,(d.2.1.2.2.2.2.1,())))))]) d.2.2.2.1) a7) (fun y=>p y.1.1)) (fun z=>p z.1.1)) a7) a7)<|u o
def BO:Nat->bZ->Int->(List je)->(List H8)->Option (aaN.den⊕abr.den)
 |0,_,_,_,_=>a7
 |n+1,d,e,f,g=>QH (BO n) (fun i=>a6 (.inl ((),(i,())))) (fun j=>a6 (.inr ((j,()),()))) d e f g
def azY (n:Nat) (v:aab.den):=BO n v.1.1 v.1.2.1 v.2.1 v.2.2.1
noncomputable def aky:dE:=fU at6 aab aaN abr (.exit 2) (azY bQ) 24
def ajz (e:bZ):Option ((List je)×Unit):=bJ SA fun f=>bJ (FU bQ e 0 [f.1]) fun g=>dW g (fun d=>bJ (BO bQ d.1.1 0 [] d.2.1) fun i=>dW i (fun j=>a6 (j.2.1,())) (fun l=>a6 (l.1.1,()))) (fun o=>a6 (o.1.1,()))
def aw9:Sum:=⟨[.str],[(.list Jf,false)],fun x=>ajz x.1⟩
noncomputable def LW:Env:=iO prog tt 182 [(150,acD),(152,acE),(227,axp),(228,axq),(229,axr)] [(3,at1),(14,ajX),(19,ajY),(8,at6)] [(3,akx),(14,aeA),(19,aeB),(8,aky)]
def alY {d:Type} (a:Z9.den->Option d) (b:aaM.den->Option d) (c:abq.den->Option d) (v:Z9.den):Option d:=QG (fun e f g=>a ((e,f,()),(g,()))) (fun i j=>b ((i,()),(j,()))) (aE c) v.1.1 v.1.2.1 v.2.1
theorem aAO:dV LW 182 aq1 akx:=xh (alY) (h2:=by intros;simp only[alY,aE,QG,dh,di,bI,cZ,dm])
def afm {d:Type} (a:PY.den->Option d) (b:Uf.den->Option d) (c:Um.den->Option d) (v:PY.den):Option d:=ba (Lh (fun e f g i j l o p q s u=>a ((e,f,g,i,()),((j,l,o,p,q,()),s,u,()))) (fun x y z A B D E G I J=>b ((x,y,z,()),((A,B,D,E,G,()),I,J,()))) (aE c)) v
theorem avo:dV LW 182 aiU aeA:=xh (afm) (h2:=by intros;simp only[afm,aE,ba,Lh,dh,di,bI,cZ,dm])
def afn {d:Type} (a:PZ.den->Option d) (b:Ug.den->Option d) (c:Un.den->Option d) (v:PZ.den):Option d:=ba (Aw (fun e f g i j l o p q s u=>a ((e,f,g,i,()),((j,l,o,p,q,()),s,u,()))) (fun x y z A B D E G I=>b ((x,y,()),((z,A,B,D,E,()),G,I,()))) (aE c)) v
theorem avp:dV LW 182 aiV aeB:=xh (afn) (h2:=by intros;simp only[afn,aE,ba,Aw,dh,di,bI,cZ,dm])
def alZ {d:Type} (a:aab.den->Option d) (b:aaN.den->Option d) (c:abr.den->Option d) (v:aab.den):Option d:=QH (fun e f g i=>a ((e,f,()),(g,i,()))) (fun j=>b ((),(j,()))) (aE c) v.1.1 v.1.2.1 v.2.1 v.2.2.1
theorem aAP:dV LW 182 aq2 aky:=xh (alZ) (h2:=by intros;simp only[alZ,aE,QH,dh,di,bI,cZ,dm])
theorem aET:dO LW 182 aqE:=nM [aq1,aiU,aiV,aq2] (aD (fM (aAO)) (aD (fM (avo)) (aD (fM (avp)) (aD (fM (aAP)) aN))))
theorem anE:eF LW:=eA f182 (aD NQ (aD NR (aD apZ (aD ap0 (aD ap1 aN))))) (aET)
theorem apJ:dR prog 182 aw9:=sA anE
noncomputable def aIp:Code:=(Tryz.f154.body).getD .skip
noncomputable def aqZ:Code:=cA (cA (cB (cA (cB (cB (aIp))))))
def atY:eQ:=⟨[0,2,3,4,100003],[],[2,3],[],[2],[]⟩
def Z5:SP:=⟨us [bO,.u,eD,cg,bR] 14,de⟩
def aaJ:SP:=⟨us [.u,.u,eD,cg] 15,de⟩
def abn:SP:=⟨us [] 19,[]⟩
def QE {e:Type} (q:bZ->Int->bZ->jg->Bool->bZ->Bool->Option e) (s:bZ->jg->Bool->bZ->Bool->Option e) (u:Option e) (f:bZ) (d:Int) (i:bZ) (j:jg) (l:Bool) (o:bZ) (p:Bool):Option e:=cond (gY d (bM f)) (cond (fV f d) (bJ (SB (i,(j,(l,()))) (bY f d) d) fun g=>q f (dw .i64 d 1) g.1.1 g.1.2.1 g.1.2.2.1 o p) a7)<|s i j l o p
def J5:Nat->bZ->Int->bZ->jg->Bool->bZ->Bool->Option (aaJ.den⊕abn.den)
 |0,_,_,_,_,_,_,_=>a7
 |n+1,d,e,f,g,i,j,l=>QE (J5 n) (fun o p q s u=>a6 (.inl ((),((o,p,q,()),(s,u,()),())))) (a6 (.inr ((),()))) d e f g i j l
def azU (n:Nat) (v:Z5.den):=J5 n v.1.1 v.1.2.1 v.2.1.1 v.2.1.2.1 v.2.1.2.2.1 v.2.2.1.1 v.2.2.1.2.1
noncomputable def akv:dE:=fU atY Z5 aaJ abn (.exit 0) (azU bQ) 6
def ajp (f:bZ):Option taV:=bJ SA fun d=>bJ (J5 bQ f 0 d.1.1 d.1.2.1 d.1.2.2.1 [] false) fun g=>dW g (fun e=>a6 ((e.2.1.1,(e.2.1.2.1,(e.2.1.2.2.1,()))),())) (fun i=>a7)
def aGC:Sum:=⟨[.str],tzH,fun x=>ajp x.1⟩
noncomputable def agD:Env:=iO prog tt 154 [(150,acD),(152,acE)] [(3,atY)] [(3,akv)]
def alV {d:Type} (a:Z5.den->Option d) (b:aaJ.den->Option d) (c:abn.den->Option d) (v:Z5.den):Option d:=QE (fun e f g i j l o=>a ((e,f,()),((g,i,j,()),(l,o,()),()))) (fun p q s u x=>b ((),((p,q,s,()),(u,x,()),()))) (c ((),())) v.1.1 v.1.2.1 v.2.1.1 v.2.1.2.1 v.2.1.2.2.1 v.2.2.1.1 v.2.2.1.2.1
theorem aAL:dV agD 154 aqZ akv:=xh (alV) (h2:=by intros;simp only[alV,QE,dh,di,bI,cZ,dm])
theorem aEP:dO agD 154 aIp:=nM [aqZ] (aD (fM (aAL)) aN)
theorem anz:eF agD:=eA Tryz.f154 (aD NQ (aD NR aN)) (aEP)
theorem apy:dR prog 154 aGC:=sA anz
noncomputable def aIj:Code:=(f116.body).getD .skip
noncomputable def aqQ:Code:=cA (cA (cB (cA (cB (cB (aIj))))))
def atQ:eQ:=⟨[0,5,6,100003],[],[0],[],[4],[]⟩
def ZR:SP:=⟨us [bO,.u,.u,.u,.u,cq,bR] 37,[.box 1000005 165 eJ]⟩
def Qb:SP:=⟨us [bO] 43,[]⟩
def Qg:SP:=⟨us cU 39,[]⟩
def Ap {g:Type} (e:bZ) (d:Int) (i:bZ) (j:jg) (l:Bool) (o:bZ->Int->bZ->jg->Bool->Option g):Option g:=cond (fV e d) (bJ (SB (i,(j,(l,()))) (bY e d) d) fun f=>o e (dw .i64 d 1) f.1.1 f.1.2.1 f.1.2.2.1) a7
def Qw {g:Type} (i:bZ->Int->bZ->jg->Bool->Option g) (p:bZ->Option g) (o:Int->Option g) (e:bZ) (d:Int) (f:bZ) (j:jg) (l:Bool):Option g:=cond (gY d (bM e)) (cond (fV e d) (bJ (adD (bY e d)) fun q=>cond q.1 (cond (fP f [84]) (o d)<|cond (fP f [84,76]) (cond (fV e d) (cond (!(bV (bY e d) 40)) (o d)<|Ap e d f j l i) a7)<|Ap e d f j l i)<|Ap e d f j l i) a7)<|p e
def FQ:Nat->bZ->Int->bZ->jg->Bool->Option (Qb.den⊕Qg.den)
 |0,_,_,_,_,_=>a7
 |n+1,d,e,f,g,i=>Qw (FQ n) (fun j=>a6 (.inl ((j,()),()))) (fun l=>a6 (.inr ((l,()),()))) d e f g i
def azL (n:Nat) (v:ZR.den):=FQ n v.1.1 v.1.2.1 v.2.1.1 v.2.1.2.1 v.2.1.2.2.1
noncomputable def akm:dE:=fU atQ ZR Qb Qg (.exit 0) (azL bQ) 6
def WE (e:bZ) (f:Int):Option Dc:=bJ SA fun d=>bJ (FQ bQ e f d.1.1 d.1.2.1 d.1.2.2.1) fun g=>dW g (fun i=>a6 ((bM i.1.1),())) (fun j=>a6 (j.1.1,()))
def awQ:Sum:=⟨[.str,dC],Vl,fun x=>WE x.1 x.2.1⟩
noncomputable def ags:Env:=iO prog tt 116 [(150,acD),(152,acE),(151,aw0)] [(3,atQ)] [(3,akm)]
def alM {d:Type} (a:ZR.den->Option d) (b:Qb.den->Option d) (c:Qg.den->Option d) (v:ZR.den):Option d:=Qw (fun e f g i j=>a ((e,f,()),((g,i,j,()),()))) (aE b) (aE c) v.1.1 v.1.2.1 v.2.1.1 v.2.1.2.1 v.2.1.2.2.1
theorem aAC:dV ags 116 aqQ akm:=xh (alM) (h2:=by intros;simp only[alM,aE,Qw,dh,di,bI,cZ,dm,Ap])
theorem aED:dO ags 116 aIj:=nM [aqQ] (aD (fM (aAC)) aN)
theorem anj:eF ags:=eA f116 (aD NQ (aD NR (aD XO aN))) (aED)
theorem apj:dR prog 116 awQ:=sA anj
end
section
open Option renaming some → a6, none → a7
open Tryz
open Go.RowKit
noncomputable def aDC:Code:=(f113.body).getD .skip
noncomputable def aqN:Code:=cA (cA (cA (cB (cB (cA (cA (cB (cA (cA (cB (cA (cB (cB (aDC))))))))))))))
noncomputable def aqM:Code:=cA (cA (cB (cA (cB (cB (aDC))))))
def atP:eQ:=⟨[0,5,9,10,100007],[],[0,5,9,10],[],[6,7],[]⟩
def atO:eQ:=⟨[0,5,8,9,100003],[],[0],[],[6,7],[]⟩
def ZO:SP:=⟨eI,c7⟩
def aaA:SP:=⟨eI,c7⟩
def abd:SP:=⟨us [.u,.u,.u,.u,.u,.u,bR,bR] 66,[]⟩
def Qs {j:Type} (o l:bZ->Int->Int->bZ->Bool->Option j) (p:Int->Int->Option j) (e:bZ) (f d:Int) (i:bZ) (g:Bool):Option j:=cond g (cond (gY d f) (cond (fV e d) (cond (bV (bY e d) 9) (o e f (dw .i64 d 1) i g)<|l e f d i g) a7)<|l e f d i g)<|l e f d i g
def JY:Nat->bZ->Int->Int->bZ->Bool->Option (aaA.den⊕abd.den)
 |0,_,_,_,_,_=>a7
 |n+1,d,e,f,g,i=>Qs (JY n) (fun j l o p q=>a6 (.inl ((j,l,o,()),((p,q,()),())))) (fun s u=>a6 (.inr ((s,u,()),()))) d e f g i
def azI (n:Nat) (v:ZO.den):=JY n v.1.1 v.1.2.1 v.1.2.2.1 v.2.1.1 v.2.1.2.1
noncomputable def akj:dE:=fU atP ZO aaA abd (.exit 2) (azI bQ) 6
def ZN:SP:=⟨us [bO,.u,.u,.u,.u,cq,.u,.u,bR,bR] 64,c7⟩
def P9:SP:=⟨us [bO] 73,[]⟩
def Qd:SP:=⟨us [.u,.u,.u,.u,.u,.u,bR,bR] 66,[]⟩
def pU {e:Type} (i:bZ) (j l:Int) (o:bZ) (p:Bool) (f:Int->Int->Option e) (q:bZ->Int->Int->bZ->Bool->Option e):Option e:=bJ (JY bQ i j l o p) fun s=>dW s (fun d=>cond (fH (bM d.1.1) d.1.2.2.1 d.1.2.1) (cond (fP (sub d.1.1 d.1.2.2.1 d.1.2.1) d.2.1.1) (cond (gY d.1.2.1 (bM d.1.1)) (f (dw .i64 d.1.2.1 1) 1)<|f d.1.2.1 1)<|q d.1.1 (dw .i64 d.1.2.1 1) (dw .i64 d.1.2.1 1) d.2.1.1 d.2.1.2.1) a7) (fun g=>f g.1.1 g.1.2.1)
def Gn {l:Type} (g:bZ->Int->Int->bZ->Bool->Option l) (p:bZ->Option l) (o:Int->Int->Option l) (e:bZ) (f d:Int) (i:bZ) (j:Bool):Option l:=cond (leI d (bM e)) (cond (gY d (bM e)) (cond (fV e d) (cond (!(bV (bY e d) 10)) (g e f (dw .i64 d 1) i j)<|cond (bV d (bM e)) (cond (bV f d) (g e f (dw .i64 d 1) i j)<|pU e d f i j o g)<|pU e d f i j o g) a7)<|cond (bV d (bM e)) (cond (bV f d) (g e f (dw .i64 d 1) i j)<|pU e d f i j o g)<|pU e d f i j o g)<|p e
def uJ:Nat->bZ->Int->Int->bZ->Bool->Option (P9.den⊕Qd.den)
 |0,_,_,_,_,_=>a7
 |n+1,d,e,f,g,i=>Gn (uJ n) (fun j=>a6 (.inl ((j,()),()))) (fun l o=>a6 (.inr ((l,o,()),()))) d e f g i
def azH (n:Nat) (v:ZN.den):=uJ n v.1.1 v.1.2.1 v.1.2.2.1 v.2.1.1 v.2.1.2.1
noncomputable def aki:dE:=fU atO ZN P9 Qd (.exit 0) (azH bQ) 12
def ajh (g:bZ) (d:Int) (e:bZ×qG):Option nN:=bJ (uJ bQ g d d e.1 e.2.1) fun i=>dW i (fun j=>a6 ((bM j.1.1),(0,()))) (fun f=>a6 (f.1.1,(f.1.2.1,())))
def awN:Sum:=⟨[.str,dC,Dy],tzJ,fun x=>ajh x.1 x.2.1 x.2.2.1⟩
noncomputable def Yz:Env:=iO prog tt 113 [] [(7,atP),(3,atO)] [(7,akj),(3,aki)]
def alJ {d:Type} (a:ZO.den->Option d) (b:aaA.den->Option d) (c:abd.den->Option d) (v:ZO.den):Option d:=Qs (fun e f g i j=>a ((e,f,g,()),((i,j,()),()))) (fun l o p q s=>b ((l,o,p,()),((q,s,()),()))) (aL c) v.1.1 v.1.2.1 v.1.2.2.1 v.2.1.1 v.2.1.2.1
theorem aAz:dV Yz 113 aqN akj:=xh (alJ) (h2:=by intros;simp only[alJ,aL,Qs,dh,di,bI,cZ,dm])
def alI {d:Type} (a:ZN.den->Option d) (b:P9.den->Option d) (c:Qd.den->Option d) (v:ZN.den):Option d:=Gn (fun e f g i j=>a ((e,f,g,()),((i,j,()),()))) (aE b) (aL c) v.1.1 v.1.2.1 v.1.2.2.1 v.2.1.1 v.2.1.2.1
theorem aAy:dV Yz 113 aqM aki:=xh (alI) (h2:=by intros;simp only[alI,aE,aL,Gn,dh,di,bI,cZ,dm,pU])
theorem aEA:dO Yz 113 aDC:=nM [aqN,aqM] (aD (fM (aAz)) (aD (fM (aAy)) aN))
theorem ang:eF Yz:=eA f113 aN (aEA)
theorem apf:dR prog 113 awN:=sA ang
noncomputable def aIh:Code:=(f114.body).getD .skip
noncomputable def aqO:Code:=cA (cA (cA (cB (aIh))))
def ZP:SP:=⟨us [bO,bR] 40,[]⟩
def Qa:SP:=⟨us [.u,bR] 40,[]⟩
def Qe:SP:=⟨us cU 37,[]⟩
def Qu {g:Type} (i:bZ->Int->Option g) (f j:Int->Option g) (e:bZ) (d:Int):Option g:=cond (gY d (bM e)) (cond (fV e d) (cond (bV (bY e d) 32) (i e (dw .i64 d 1))<|cond (fV e d) (cond (bV (bY e d) 9) (i e (dw .i64 d 1))<|cond (fV e d) (cond (bV (bY e d) 92) (cond (gY (dw .i64 d 1) (bM e)) (cond (fV e (dw .i64 d 1)) (cond (bV (bY e (dw .i64 d 1)) 10) (i e (dw .i64 d 2))<|f d) a7)<|f d)<|f d) a7) a7) a7)<|f d
def FO:Nat->bZ->Int->Option (Qa.den⊕Qe.den)
 |0,_,_=>a7
 |n+1,d,e=>Qu (FO n) (fun f=>a6 (.inl ((f,()),()))) (fun g=>a6 (.inr ((g,()),()))) d e
def azJ (n:Nat) (v:ZP.den):=FO n v.1.1 v.1.2.1
noncomputable def akk:dE:=fU Zb ZP Qa Qe (.exit 0) (azJ bQ) 6
def aji (d:bZ) (e:Int):Option Dc:=bJ (FO bQ d e) fun f=>dW f (fun g=>a6 (g.1.1,())) (fun i=>a6 (i.1.1,()))
def awO:Sum:=⟨[.str,dC],Vl,fun x=>aji x.1 x.2.1⟩
noncomputable def agq:Env:=iO prog tt 114 [] [(1,Zb)] [(1,akk)]
def alK {d:Type} (a:ZP.den->Option d) (b:Qa.den->Option d) (c:Qe.den->Option d) (v:ZP.den):Option d:=Qu (aL a) (aE b) (aE c) v.1.1 v.1.2.1
theorem aAA:dV agq 114 aqO akk:=xh (alK) (h2:=by intros;simp only[alK,aL,aE,Qu,dh,di,bI,cZ,dm])
theorem aEB:dO agq 114 aIh:=nM [aqO] (aD (fM (aAA)) aN)
theorem anh:eF agq:=eA f114 aN (aEB)
theorem apg:dR prog 114 awO:=sA anh
noncomputable def b84:Code:=(f84.body).getD .skip
noncomputable def aB4:Code:=cA (cA (cA (cB (cB (cB (b84))))))
def aCv:eQ:=⟨[3,100004],[],[3],[],[2],[]⟩
def alm:SP:=⟨us [.u,.u,.u,bO] 29,[]⟩
def ahX:SP:=⟨us [.u,.u,.u,bO] 29,[]⟩
def aii:SP:=⟨us eK 30,[]⟩
def aiz {e:Type} (g f i:bZ->Option e) (d:bZ):Option e:=cond (gY 0 (bM d)) (cond (fV d (eU .i64 (bM d) 1)) (cond (bV (bY d (eU .i64 (bM d) 1)) 32) (cond (fH (bM d) 0 (eU .i64 (bM d) 1)) (g (sub d 0 (eU .i64 (bM d) 1))) a7)<|f d) a7)<|f d
def ahz:Nat->bZ->Option (ahX.den⊕aii.den)
 |0,_=>a7
 |n+1,d=>aiz (ahz n) (fun e=>a6 (.inl ((e,()),()))) (fun f=>a6 (.inr ((f,()),()))) d
def aFv (n:Nat) (v:alm.den):=ahz n v.1.1
noncomputable def au9:dE:=fU aCv alm ahX aii (.exit 0) (aFv bQ) 6
def YY (d:Int):Option taU:=cond (gY d 1) (a6 ([],()))<|cond (gY 17 d) (a6 ([],()))<|cond (fH (bM [38,38,32,124,124,32,59,59,32,60,60,32,60,60,45,62,62,32,60,38,32,62,38,32,60,62,32,62,124,32,60,32,32,62,32,32,38,32,32,59,32,32,124,32,32,40,32,32,41,32,32]) (aoP .i64 3 (eU .i64 d 1)) (aoP .i64 3 d)) (bJ (ahz bQ (sub [38,38,32,124,124,32,59,59,32,60,60,32,60,60,45,62,62,32,60,38,32,62,38,32,60,62,32,62,124,32,60,32,32,62,32,32,38,32,32,59,32,32,124,32,32,40,32,32,41,32,32] (aoP .i64 3 (eU .i64 d 1)) (aoP .i64 3 d))) fun e=>dW e (fun f=>a6 (f.1.1,())) (fun g=>a6 (g.1.1,()))) a7
def amT:Sum:=⟨[dC],tzF,fun x=>YY x.1⟩
noncomputable def asC:Env:=iO prog tt 84 [] [(4,aCv)] [(4,au9)]
def awg {d:Type} (a:alm.den->Option d) (b:ahX.den->Option d) (c:aii.den->Option d) (v:alm.den):Option d:=aiz (aE a) (aE b) (aE c) v.1.1
theorem aFZ:dV asC 84 aB4 au9:=xh (awg) (h2:=by intros;simp only[awg,aE,aiz,dh,di,bI,cZ,dm])
theorem aJ6:dO asC 84 b84:=nM [aB4] (aD (fM (aFZ)) aN)
theorem asD:eF asC:=eA f84 aN (aJ6)
theorem U5:dR prog 84 amT:=sA asD
noncomputable def aIi:Code:=(f115.body).getD .skip
noncomputable def aqP:Code:=cA (cA (cB (cA (cB (cB (aIi))))))
def ZQ:SP:=⟨us [bO,bR,.u,.u,.u,bR,bR] 35,[]⟩
def aaB:SP:=⟨us [.u,.u,.u,.u,.u,bR] 36,[]⟩
def abe:SP:=⟨us cU 37,[]⟩
def Qv {l:Type} (j:bZ->Int->Int->Int->Option l) (o q:Int->Option l) (e:bZ) (d g f:Int):Option l:=cond (leI f 17) (bJ (YY f) fun i=>cond (leI (bM i.1) (eU .i64 (bM e) d)) (cond (fH (bM e) d (dw .i64 d (bM i.1))) (cond (fP (sub e d (dw .i64 d (bM i.1))) i.1) (bJ (YY g) fun p=>cond (gY (bM p.1) (bM i.1)) (j e d f (dw .i64 f 1))<|j e d g (dw .i64 f 1))<|j e d g (dw .i64 f 1)) a7)<|j e d g (dw .i64 f 1))<|o g
def FP:Nat->bZ->Int->Int->Int->Option (aaB.den⊕abe.den)
 |0,_,_,_,_=>a7
 |n+1,d,e,f,g=>Qv (FP n) (fun i=>a6 (.inl ((i,()),()))) (fun j=>a6 (.inr ((j,()),()))) d e f g
def azK (n:Nat) (v:ZQ.den):=aM (FP n) v
noncomputable def akl:dE:=fU Zd ZQ aaB abe (.exit 0) (azK bQ) 6
def adr (d:bZ) (e:Int):Option Dc:=bJ (FP bQ d e 0 1) fun f=>dW f (fun g=>a6 (g.1.1,())) (fun i=>a6 (i.1.1,()))
def awP:Sum:=⟨[.str,dC],Vl,fun x=>adr x.1 x.2.1⟩
noncomputable def agr:Env:=iO prog tt 115 [(84,amT)] [(3,Zd)] [(3,akl)]
def alL {d:Type} (a:ZQ.den->Option d) (b:aaB.den->Option d) (c:abe.den->Option d) (v:ZQ.den):Option d:=aM (Qv (fun e f g i=>a ((e,f,g,i,()),())) (aE b) (aE c)) v
theorem aAB:dV agr 115 aqP akl:=xh (alL) (h2:=by intros;simp only[alL,aE,aM,Qv,dh,di,bI,cZ,dm])
theorem aEC:dO agr 115 aIi:=nM [aqP] (aD (fM (aAB)) aN)
theorem ani:eF agr:=eA f115 (aD U5 aN) (aEC)
theorem aph:dR prog 115 awP:=sA ani
def Su (e:bZ):Option qG:=bJ (ajp e) fun d=>cond (fP d.1.1 [84]) (a6 (true,()))<|some ((fP d.1.1 [84,76]),())
def awS:Sum:=⟨[.str],LG,fun x=>Su x.1⟩
theorem apl:dR prog 118 awS:=qA f118 [] (sE apy aN)
end
section
open Option renaming some → a6, none → a7
open Bool renaming and_eq_true → af
open Nat renaming le_refl → ae, eq_of_beq_eq_true → ah, le_trans → aI, le_mul_of_pos_right → bH
open Tryz
open Go.RowKit Go.Shelf Go.Lib
def Tt:Go.Shelf.Ren:=⟨fun|155=>95|154=>126|138=>157|165=>158|143=>159|166=>90|197=>160|169=>94|195=>190|218=>191|240=>123|241=>192|219=>193|260=>194|276=>156|277=>235|217=>172|225=>236|224=>237|267=>238|266=>216|314=>264|n=>n,fun|9=>9|3=>3|4=>4|72=>128|0=>0|76=>131|105=>175|21=>21|5=>5|70=>126|20=>20|37=>74|75=>130|127=>150|164=>173|46=>96|119=>233|139=>236|138=>235|146=>246|51=>120|80=>134|n=>n,fun|1=>0|3=>1|4=>2|n=>n⟩
theorem Tq:Go.Proofs.Lays.n155 prog Tt:={
 mixed:=by kernel_rfl
 f138:=func157.trans (congrArg a6 (by kernel_rfl))
 f143:=func159.trans (congrArg a6 (by kernel_rfl))
 f154:=func126.trans (congrArg a6 (by kernel_rfl))
 f155:=func95.trans (congrArg a6 (by kernel_rfl))
 f165:=func158.trans (congrArg a6 (by kernel_rfl))
 f166:=func90.trans (congrArg a6 (by kernel_rfl))
 f169:=func94.trans (congrArg a6 (by kernel_rfl))
 f195:=func190.trans (congrArg a6 (by kernel_rfl))
 f197:=func160.trans (congrArg a6 (by kernel_rfl))
 f217:=func172.trans (congrArg a6 (by kernel_rfl))
 f218:=func191.trans (congrArg a6 (by kernel_rfl))
 f219:=func193.trans (congrArg a6 (by kernel_rfl))
 f224:=func237.trans (congrArg a6 (by kernel_rfl))
 f225:=func236.trans (congrArg a6 (by kernel_rfl))
 f240:=func123.trans (congrArg a6 (by kernel_rfl))
 f241:=func192.trans (congrArg a6 (by kernel_rfl))
 f260:=func194.trans (congrArg a6 (by kernel_rfl))
 f266:=func216.trans (congrArg a6 (by kernel_rfl))
 f267:=func238.trans (congrArg a6 (by kernel_rfl))
 f276:=func156.trans (congrArg a6 (by kernel_rfl))
 f277:=func235.trans (congrArg a6 (by kernel_rfl))
 f314:=func264.trans (congrArg a6 (by kernel_rfl))
 t0:=underlying0
 a0:=isAgg0
 z0:=sizeOf0
 v0:=zeroValue0
 t3:=underlying3
 a3:=isAgg3
 z3:=sizeOf3
 v3:=zeroValue3
 t4:=underlying4
 a4:=isAgg4
 z4:=sizeOf4
 v4:=zeroValue4
 t5:=underlying5
 a5:=isAgg5
 z5:=sizeOf5
 v5:=zeroValue5
 t9:=underlying9
 a9:=isAgg9
 z9:=sizeOf9
 v9:=zeroValue9
 t20:=underlying20
 a20:=isAgg20
 z20:=sizeOf20
 v20:=zeroValue20
 t21:=underlying21
 a21:=isAgg21
 z21:=sizeOf21
 v21:=zeroValue21
 t37:=underlying74
 a37:=isAgg74
 z37:=sizeOf74
 v37:=zeroValue74
 t46:=underlying96
 a46:=isAgg96
 z46:=sizeOf96
 v46:=zeroValue96
 t51:=underlying120
 a51:=isAgg120
 z51:=sizeOf120
 v51:=zeroValue120
 t70:=underlying126
 a70:=isAgg126
 z70:=sizeOf126
 v70:=zeroValue126
 t72:=underlying128
 a72:=isAgg128
 z72:=sizeOf128
 v72:=zeroValue128
 t75:=underlying130
 a75:=isAgg130
 z75:=sizeOf130
 v75:=zeroValue130
 t76:=underlying131
 a76:=isAgg131
 z76:=sizeOf131
 v76:=zeroValue131
 t105:=underlying175
 a105:=isAgg175
 z105:=sizeOf175
 v105:=zeroValue175
 t119:=underlying233
 a119:=isAgg233
 z119:=sizeOf233
 t127:=underlying150
 a127:=isAgg150
 z127:=sizeOf150
 v127:=zeroValue150
 t138:=underlying235
 a138:=isAgg235
 z138:=sizeOf235
 v138:=zeroValue235
 t139:=underlying236
 a139:=isAgg236
 z139:=sizeOf236
 v139:=zeroValue236
 t146:=underlying246
 a146:=isAgg246
 z146:=sizeOf246
 v146:=zeroValue246
 t164:=underlying173
 a164:=isAgg173
 z164:=sizeOf173
 v164:=zeroValue173
 g1:=by kernel_rfl
 g3:=by kernel_rfl
 g4:=by kernel_rfl}
theorem ayW:Builder.Extra prog Tt where
 sizeBuilder:=by kernel_rfl
 liesBuilder:=by kernel_rfl
 t5:=Tq.t5
 a5:=Tq.a5
 z5:=Tq.z5
 v5:=Tq.v5
 infoByte:=by kernel_rfl
 cellsByte:=by kernel_rfl
 sizeByte:=by kernel_rfl
 neB5:=by decide
def Xx (s d new:List UInt8):Option (List UInt8×Unit):=cond (decide (s.length<4294967281)&&decide (1<=d.length)&&decide (s.length+s.length*new.length<=140737488355328)) (a6 (Lib.replaceAll s d new,())) a7
def ax3:Sum:=⟨[.str,.str,.str],[(.str,false)],fun x=>Xx x.1 x.2.1 x.2.2.1⟩
theorem afN:dR prog 95 ax3:=by
 intro w j o x y i p q f;obtain⟨u,Y,s,v,z,Z,A,B,D,E,G,I,J⟩:=q;obtain rfl:E=[]:=J;subst G A;have K:o= #[u,z,D]:=by
  apply Array.ext';simpa using s
 subst K;have L:=v.str_inv;have M:=B.str_inv;have N:=I.str_inv;subst L M N;have f:Xx x.1 x.2.1 x.2.2.1=a6 y:=f;unfold Xx at f;obtain⟨g,f⟩:=dG f;simp only[af,decide_eq_true_eq]at g;cases f;obtain⟨m,O⟩:=i.2;have d: ∀l:List UInt8,(⟨l.toArray⟩:ByteArray).size=l.length:=fun l=>by simp[ByteArray.size]
 have S:Lib.countB ⟨x.1.toArray⟩ ⟨x.2.1.toArray⟩<=x.1.length:=by
  have:=Lib.countB_mul_le (⟨x.2.1.toArray⟩:ByteArray) (by rw[d];exact g.1.2) (⟨x.1.toArray⟩:ByteArray).size ⟨x.1.toArray⟩ (ae _);rw[d,d]at this;exact aI (bH _ (by omega)) this
 have U:=Any.strings_ReplaceAll Tq ayW ⟨x.1.toArray⟩ ⟨x.2.1.toArray⟩ ⟨x.2.2.1.toArray⟩ m w (by rw[d];exact g.1.1) O (by rw[d];exact g.1.2)
  (by rw[d,d];have:=Nat.mul_le_mul_right x.2.2.1.length S;omega)
 refine .inl ⟨Bd OU func95 (show f95.body=a6 ((f95.body).getD .skip) by kernel_rfl) _ _,U.mono fun e V ⟨W,X⟩=> ?_⟩;refine⟨(jS w j).at_ V,[.string ⟨(Lib.replaceAll x.1 x.2.1 x.2.2.1).toArray⟩],W,rfl,(Rl i p).ext X,rfl,rfl,rfl, ?_⟩;simp only[ax3,oh,bK,bW,and_true];exact VD.str_mk
noncomputable def sg2 (g:FuncId):Option Sum:=cond (Nat.beq g 95) (a6 ax3)<|sg1 g
theorem aL6: ∀g s,sg2 g=a6 s->dR prog g s:=fun g s h=>by
 unfold sg2 at h;rw[cond_eq_ite]at h;split at h
 .rename_i d
  obtain rfl:g=95:=ah d;cases h;exact afN
 exact aiv g s h
end
section
open List renaming length_drop → aP
open Go.RowKit
theorem dI {a b:Int} (d: -9223372036854775808<=a+b:=by omega) (h2:a+b<=9223372036854775807:=by omega):dw .i64 a b=a+b:=by
 unfold dw;rw[IntKind.wrap_i64];omega
theorem iW {a b:Int} (d: -9223372036854775808<=a-b:=by omega) (h2:a-b<=9223372036854775807:=by omega):eU .i64 a b=a-b:=by
 unfold eU;rw[IntKind.wrap_i64];omega
theorem azE {a b:Int}:leI a b=true↔a<=b:=by simp[leI]
theorem aAl {a b:Int}:gY a b=true↔a<b:=by simp[gY]
theorem ayR {a b:Int}:bV a b=true↔a=b:=by simp[bV]
theorem azo {d:Type} {l:List d} {i:Int}:fV l i=true↔0<=i/\i<l.length:=by simp[fV]
theorem aAm {d:Type} {l:List d} {i:Nat}:mi i l=true↔i<l.length:=by simp[mi,PD]
theorem ao0 {n lo hi:Int}:fH n lo hi=true↔0<=lo/\lo<=hi/\hi<=n:=by simp[fH]
theorem cO {d:Type} {b:Bool} {x y:d} (h:b=true):(bif b then x else y)=x:=by rw[h];rfl
theorem dN {d:Type} {b:Bool} {x y:d} (h:b=false):(bif b then x else y)=y:=by rw[h];rfl
theorem mW {a b:Int} (h:a<=b:=by omega):leI a b=true:=azE.2 h
theorem Hl {a b:Int} (h:b<a:=by omega):leI a b=false:=by simp[leI];omega
theorem fO {a b:Int} (h:a<b:=by omega):gY a b=true:=aAl.2 h
theorem jh {a b:Int} (h:b<=a:=by omega):gY a b=false:=by simp[gY];omega
theorem Dl {a b:Int} (h: ¬a<=b:=by omega):leI a b=false:=Hl
theorem iE {a b:Int} (h: ¬a<b:=by omega):gY a b=false:=jh
theorem gq {a b:Int} (h:a=b:=by omega):bV a b=true:=ayR.2 h
theorem dZ {a b:Int} (h:a≠b:=by omega):bV a b=false:=by simp[bV];exact h
theorem eu {d:Type} {l:List d} {i:Int} (h:0<=i:=by omega) (h2:i<l.length:=by omega):fV l i=true:=azo.2 ⟨h,h2⟩
theorem lT {d:Type} {l:List d} {i:Nat} (h:i<l.length):mi i l=true:=aAm.2 h
theorem gu {n lo hi:Int} (h:0<=lo) (d:lo<=hi) (h2:hi<=n):fH n lo hi=true:=ao0.2 ⟨h,d,h2⟩
theorem bP {d:Type} {l:List d}:bM l=(l.length:Int):=rfl
theorem dX {n:Nat} (h:n<1000000000000000000000000:=by omega):n<bQ:=by unfold bQ;omega
theorem aDQ (s:bZ) (i:Int): ∃n:Fin 256,bY s i=((n.val:Nat):Int):=⟨⟨(s.getD i.toNat 0).toNat,UInt8.toNat_lt _⟩,rfl⟩
theorem aDP {s:List UInt8} {a b j:Int} (d:0<=a) (e:0<=j) (h:a+j<b):bY (sub s a b) j=bY s (a+j):=by
 unfold bY sub;congr 2;simp only[List.getD,List.getElem?_drop,List.getElem?_take];rw[am (by omega)];congr 2;omega
theorem aLw {d:Type} {s:List d} {a b:Int} (e:0<=a) (f:a<=b) (h:b<=s.length):(((sub s a b).length:Nat):Int)=b-a:=by
 unfold sub;simp only[aP,List.length_take];omega
theorem aom {e:Type} {l m:List e} {d:e} {i:Int} (f:0<=i) (h:i<l.length):dJ (l++m) d i=dJ l d i:=by
 unfold dJ;simp only[List.getD];rw[List.getElem?_append_left (by omega)]
theorem Mc {e:Type} {l:List e} {d x:e} {i:Int} (h:i=l.length):dJ (l++[x]) d i=x:=by
 unfold dJ;subst h;simp[List.getD]
end
section
open Option renaming some → a6, none → a7
open List renaming length_append → aj, length_singleton → bC
open Go.RowKit
abbrev fE:=List oH
def lo (s:fE):List nN:=(s.map fun f=>(f.1,f.2,())).reverse
def letter (m:Int):UInt8:=([84,67,80,79,83,68,66,86,73,65,82,69,76,88,35]:bZ).getD m.toNat 0
def so (s:fE):bZ:=(s.map fun f=>letter f.1).reverse
def po (s:fE):List Int:=(s.map (·.2)).reverse
theorem rJ (f:oH) (s:fE):lo (f::s)=lo s++[(f.1,f.2,())]:=by simp[lo]
theorem og (f:oH) (s:fE):so (f::s)=so s++[letter f.1]:=by simp[so]
theorem rU (f:oH) (s:fE):po (f::s)=po s++[f.2]:=by simp[po]
theorem oC (s:fE):(lo s).length=s.length:=by simp[lo]
theorem CU (s:fE):(so s).length=s.length:=by simp[so]
theorem Ut (s:fE):(po s).length=s.length:=by simp[po]
def wo (b:Int):Bool:=decide (b=32)||decide (b=9)||decide (b=10)||decide (b=124)||decide (b=38)||decide (b=59)||decide (b=60)||decide (b=62)||decide (b=40)||decide (b=41)
def isByte (b:Int):Prop:=0<=b/\b<256
theorem Rq {b:Int} (h:isByte b): ∃n:Fin 256,b=((n.val:Nat):Int):=⟨⟨b.toNat,by have:=h.2;have:=h.1;omega⟩,by have:=h.1;simp;omega⟩
theorem lG (s:bZ) (i:Int):isByte (bY s i):=by
 grind [bY,isByte,UInt8.toNat_lt]
theorem aIF: ∀n:Fin 256,G8 ((n.val:Nat):Int)=a6 (wo ((n.val:Nat):Int),()):=by decide+kernel
theorem aIG: ∀n:Fin 256,adD ((n.val:Nat):Int)=a6 (wo ((n.val:Nat):Int),()):=by decide+kernel
theorem arG {b:Int} (h:isByte b):G8 b=a6 (wo b,()):=by
 obtain⟨n,rfl⟩:=Rq h;exact aIF n
theorem arH {b:Int} (h:isByte b):adD b=a6 (wo b,()):=by
 obtain⟨n,rfl⟩:=Rq h;exact aIG n
theorem Xd {d:Type} {l:List d} (x:d) (h:l.length<1000000):dD (eU .i64 (bM (l++[x])) 1)=l.length:=by
 grind [bP,iW,dD]
theorem XG {d:Type} {l:List d} (x:d) (h:l.length<1000000):sub (l++[x]) 0 (eU .i64 (bM (l++[x])) 1)=l:=by
 have hl:(((l++[x]).length:Nat):Int)=l.length+1:=by simp
 rw[bP,hl,iW];simp_all [sub]
theorem vS {d:Type} {l:List d} (x:d) (h:l.length<1000000):eU .i64 (bM (l++[x])) 1=l.length:=by
 grind [bP,iW]
theorem alq {s:fE} (hb:s.length<1000000) (fr:Bool) (at_ m:Int):wI (lo s) fr at_ m=a6 ((lo ((m,at_)::s),(fr,(at_,()))),()):=by
 have h:dY (bT (lo s) [(m,(at_,()))]) 16=true:=by
  simp only[dY,bT,aj,oC,bC,decide_eq_true_eq,kZ];omega
 unfold wI;rw[h];simp[bV,bT,rJ]
theorem Qi {f g:Int×Int} {r:fE} (hb:(f::g::r).length<1000000) (fr:Bool) (at_:Int):wG (lo (f::g::r)) fr at_=a6 ((lo (g::r),(fr,(at_,()))),()):=by
 have hl:(lo (g::r)).length=r.length+1:=by rw[oC];rfl
 have d:r.length+2<1000000:=by simpa using hb
 unfold wG;rw[rJ f,vS _ (by omega),cO (fO (by grind [bP])),cO (gu (by omega) (by omega) (by rw[bP];simp;omega))];simp[takeN,dD]
theorem qX {f:Int×Int} {r:fE} (hb:(f::r).length<1000000) (fr:Bool) (at_ m:Int):uz (lo (f::r)) fr at_ m=a6 ((lo ((m,f.2)::r),(fr,(at_,()))),()):=by
 have hl:(lo r).length=r.length:=oC r;have d:r.length+1<1000000:=by simpa using hb
 unfold uz;rw[rJ f,vS _ (by omega),cO (eu (by omega) (by simp;omega)),cO (lT (by simp[dD]))];simp[dD,dK,iw,rJ]
theorem ae5 {f g:Int×Int} {r:fE} (hb:(f::g::r).length<1000000) (fr:Bool) (at_:Int):ajG (lo (f::g::r)) fr at_=a6 ((lo (f::g::r),(fr,(at_,()))),(g.1,())):=by
 have hl:(lo r).length=r.length:=oC r;have d:r.length+2<1000000:=by simpa using hb
 have e:BX (eU .i64 (bM (lo (f::g::r))) 2) 0=r.length:=by
  grind [bP,iW,oC,BX]
 unfold ajG;rw[e,rJ f,rJ g,cO (eu (by omega) (by simp[hl];omega)),cO (lT (by simp[dD,hl]))];simp_all [dD,dK]
theorem Gg {f:Int×Int} {r:fE} (hb:(f::r).length<1000000) (fr:Bool) (c:UInt8):DR (so (f::r),(po (f::r),(fr,()))) [c]=a6 ((so r++[c],(po (f::r),(fr,()))),()):=by
 have hl:(so r).length=r.length:=CU r;have d:r.length+1<1000000:=by simpa using hb
 unfold DR;simp only;rw[og,XG _ (by omega),vS _ (by omega),cO (gu (by omega) (by omega) (by rw[bP];simp;omega)),cO (by simp[gV,kZ,hl];omega)];rfl
theorem abX {f:Int×Int} {r:fE} (hb:(f::r).length<1000000) (fr:Bool):JK (so (f::r),(po (f::r),(fr,())))=a6 ((so r,(po r,(fr,()))),()):=by
 have hl:(so r).length=r.length:=CU r;have d:(po r).length=r.length:=Ut r;have e:r.length+1<1000000:=by simpa using hb
 unfold JK;simp only;rw[og,rU,XG _ (by omega),vS _ (by omega),cO (gu (by omega) (by omega) (by rw[bP];simp;omega)),cO (gu (by omega) (by omega) (by rw[bP];simp;omega))];simp[sub,hl,d]
theorem DK {d:Type} {f:d->d->Bool} (h: ∀x,f x x=true): ∀l:List d,wB f l l=true
 |[]=>rfl
 |x::l=>by simp[wB,h,DK h l]
theorem RV: ∀(t:Ty) (x:t.den),YE t x x=true
 |.unit,_=>rfl
 |.bool,x=>by simp[YE]
 |.int _,x=>by simp[YE,bV]
 |.str,x=>by simp[YE,fP]
 |.list t,x=>DK (RV t) x
 |.pair a b,x=>by simp[YE,RV]
theorem iF (t:Ty) (x:List t.den):lZ t x x=true:=DK (RV t) x
theorem fJ (x:Int):bV x x=true:=by simp[bV]
theorem kW (x:bZ):fP x x=true:=by simp[fP]
theorem iC (x:Bool):jA x x=true:=by simp[jA]
theorem aBm {s:fE} (hb:s.length<1000000) (fr:Bool) (c:UInt8) (at_:Int):wH (so s,(po s,(fr,()))) [c] at_=a6 ((so s++[c],(po s++[at_],(fr,()))),()):=by
 have hl:(so s).length=s.length:=CU s;have d:(po s).length=s.length:=Ut s;have e:gV (so s) [c]=true:=by simp[gV,kZ,hl];omega
 have f:dY (bT [] (po s)) 8=true:=by simp[dY,bT,kZ,d];omega
 have g:dY (bT (bT [] (po s)) [at_]) 8=true:=by simp[dY,bT,kZ,d];omega
 (unfold wH;delta mf kS)
 simp_all [fJ,kW,iC,iF,bI,bT]
theorem Qm (a:bZ) (b:List Int) (fr d:Bool):xI (a,(b,(fr,()))) d=a6 ((a,(b,(d,()))),()):=rfl
end
section
open Go.RowKit
def yF (s:fE) (b at_:Int):Option fE:=if b=92 then some ((13,at_)::s)else if b=36 then some ((12,at_)::s)else if b=96 then some ((6,at_)::s)else none
def Ah (m:Int) (s:fE) (fr:Bool) (b at_:Int):fE×Bool:=if b=92 then((13,at_)::s,fr)else if b=35/\fr=true then((14,at_)::s,fr)else if b=40 then(if m=0 then s else(2,at_)::s,true)else if b=41 then(if m=0 then s else s.tail, !decide (m=1))else if b=39 then((4,at_)::s,false)else if b=34 then((5,at_)::s,false)else if b=36 then((12,at_)::s,false)else if b=96 then((6,at_)::s,false)else(s,wo b)
def iH (m:Int) (s:fE) (fr:Bool) (b at_:Int):fE×Bool:=
 if m=0\/m=1\/m=2 then Ah m s fr b at_
 else if m=13 then(s.tail,fr&&decide (b=10))
 else if m=4 then(if b=39 then s.tail else s,fr)
 else if m=14 then(if b=10 then(s.tail,true)else(s,fr))
 else if m=6 then(if b=96 then s.tail else if b=92 then(13,at_)::s else s,fr)
 else match yF s b at_ with
  |some d=>(d,fr)
  |none=>
   if m=9\/m=10 then(if b=40 then(10,at_)::s else if b=41 then(if m=10 then s.tail else(11,(s.headD (0,0)).2)::s.tail)else s,fr)
   else(if b=34 then(if m=5 then s.tail else(5,at_)::s)else if b=125/\m≠5 then s.tail else if b=39/\m=7 then(4,at_)::s else s,fr)
def fB (s:fE) (fr:Bool) (b at_:Int):fE×Bool:=
 match s with
 |[]=>([],fr)
 |f::r=>
  if f.1=12 then
   (if b=40 then((3,f.2)::r,true)
   else if b=123 then((if(r.headD (0,0)).1=5\/(r.headD (0,0)).1=8 then 8 else 7,f.2)::r,fr)
   else if b=36 then(r,fr)
   else iH (r.headD (0,0)).1 r fr b at_)
  else if f.1=3 then(if b=40 then((9,f.2)::r,false)else iH 1 ((1,f.2)::r) fr b at_)
  else if f.1=11 then(if b=41 then(r,fr)else iH 9 ((9,f.2)::r) fr b at_)
  else iH f.1 (f::r) fr b at_
theorem nz (b:Int):b=10\/b=34\/b=35\/b=36\/b=39\/b=40\/b=41\/b=92\/b=96\/b=123\/b=125\/
  (b≠10/\b≠34/\b≠35/\b≠36/\b≠39/\b≠40/\b≠41/\b≠92/\b≠96/\b≠123/\b≠125):=by omega
theorem gZ (a b:Int):bV a b=decide (a=b):=by
 rfl
def pst (x:fE×Bool) (at_:Int):(List nN×Bool×Int×Unit):=(lo x.1,(x.2,(at_,())))
def Ht (x:fE×Bool):bZ×(List Int×qG):=(so x.1,(po x.1,(x.2,())))
theorem aip {m:Int} {f:Int×Int} {r:fE} (d:m=0\/((m=1\/m=2)/\ ∃g i,r=g::i)) (hb:(f::r).length<1000000) (fr:Bool) {b:Int} (j:isByte b) (at_:Int):
  WM (lo (f::r)) fr at_ m b=some (pst (Ah m (f::r) fr b at_) at_,()):=by
 have e:=arG j;rcases d with rfl|⟨rfl|rfl,g,r,rfl⟩<;>rcases nz b with rfl|rfl|rfl|rfl|rfl|rfl|rfl|rfl|rfl|rfl|rfl|⟨l,o,p,q,s,u,v,x,y,z,A⟩<;>cases fr<;>
  simp_all [WM,SC,Ah,pst,gZ,alq,Qi,wo,bI,JL]
theorem aBe {m:Int} {f:Int×Int} {r:fE} (d:m=0\/((m=1\/m=2\/m=4\/m=5\/m=6\/m=7\/m=8\/m=9\/m=10\/m=13\/m=14)/\ ∃g i,r=g::i)) (hb:(f::r).length<1000000) (fr:Bool) {b:Int} (e:isByte b) (at_:Int):
  Ol (lo (f::r)) fr at_ m b=some (pst (iH m (f::r) fr b at_) at_,()):=by
 rcases d with rfl|⟨rfl|rfl|d,g,r,rfl⟩
 .simp[Ol,iH,gZ,aip (.inl rfl) hb fr e at_,pst,bI,Bq]
 .simp[Ol,iH,gZ,aip (.inr ⟨.inl rfl,g,r,rfl⟩) hb fr e at_,pst,bI,Bq]
 .simp[Ol,iH,gZ,aip (.inr ⟨.inr rfl,g,r,rfl⟩) hb fr e at_,pst,bI,Bq]
 .rcases d with rfl|rfl|rfl|rfl|rfl|rfl|rfl|rfl|rfl<;>rcases nz b with rfl|rfl|rfl|rfl|rfl|rfl|rfl|rfl|rfl|rfl|rfl|⟨j,l,o,p,q,s,u,v,x,y,z⟩<;>cases fr<;>
  simp_all [Ol,ajH,ajI,SC,iH,yF,pst,gZ,alq,Qi,qX,bI,Bq,YQ,YR]
def TC (m:Int):Prop:=m=0\/m=1\/m=2\/m=5\/m=6\/m=7\/m=8\/m=9\/m=10
def iD:fE->Prop
 |[]=>False
 |[f]=>f.1=0
 |f::g::r=>1<=f.1/\f.1<=14/\TC g.1/\iD (g::r)
theorem adN: ∃k,bQ=k+2:=by
 simp_all [bQ]
theorem aeN {l:List nN} {x:Int×Int×Unit} (h:l.length<1000000):dK (l++[x]) (0,(0,())) (dD (eU .i64 (bM (l++[x])) 1))=x:=by
 rw[Xd x h];simp[dK]
theorem Y2 {d:Type} {l:List d} {x:d} (h:l.length<1000000):fV (l++[x]) (eU .i64 (bM (l++[x])) 1)=true:=by
 grind [vS,eu]
theorem akW {d:Type} {l:List d} {x:d} (h:l.length<1000000):mi (dD (eU .i64 (bM (l++[x])) 1)) (l++[x])=true:=by
 simp_all [Xd,lT]
theorem yh {f:Int×Int} {r:fE} (n:Nat) (d:f.1=0\/((f.1=1\/f.1=2\/f.1=4\/f.1=5\/f.1=6\/f.1=7\/f.1=8\/f.1=9\/f.1=10\/f.1=13\/f.1=14)/\ ∃g e,r=g::e)) (hb:(f::r).length<1000000) (fr:Bool) {b:Int} (i:isByte b) (at_:Int):
  vH (n+1) b fr at_ (lo (f::r))=some (.inl ((),((),()),(((iH f.1 (f::r) fr b at_).2,at_,()),lo (iH f.1 (f::r) fr b at_).1,()))):=by
 have hl:(lo r).length<1000000:=by grind [oC]
 have j:f.1≠12:=by omega
 have l:f.1≠3:=by omega
 have o:f.1≠11:=by omega
 have p:=aBe d hb fr i at_;rw[vH,Au];rw[show lo (f::r)=lo r++[(f.1,f.2,())] from rJ f r,Y2 hl,akW hl,aeN hl];simp only[aa,gZ,j,l,o,decide_false,ac];rw[<-rJ,p,bI];rfl
theorem aoI {f:Int×Int} {r:fE} (d:iD (f::r)) (hl:TC f.1):f.1=0\/((f.1=1\/f.1=2\/f.1=4\/f.1=5\/f.1=6\/f.1=7\/f.1=8\/f.1=9\/f.1=10\/f.1=13\/f.1=14)/\ ∃g e,r=g::e):=by
 cases r with
 |nil=>exact .inl d
 |cons g r=>
  unfold TC at hl
  grind
theorem agX {s:fE} (d:iD s) (hb:s.length<1000000) (fr:Bool) {b:Int} (l:isByte b) {at_:Int} (u:0<=at_) (o:at_<1000000000):WH (lo s) fr at_ b=some (pst (fB s fr b at_) (at_+1),()):=by
 obtain⟨k,hk⟩:=adN;cases s with
 |nil=>cases d
 |cons f r=>
 have hl:(lo r).length<1000000:=by grind [oC]
 have p:bV (bM (lo (f::r))) 0=false:=dZ (by rw[bP,oC];simp;omega);have i:dw .i64 at_ 1=at_+1:=dI;unfold WH;rw[p,ac,hk];by_cases hp:f.1=12\/f.1=3\/f.1=11
 .cases r with
  |nil=>have:f.1=0:=d;omega
  |cons g r=>
  have v:=aoI d.2.2.2 d.2.2.1;have x:(g::r).length<1000000:=by grind
  rw[show k+2=(k+1)+1 from rfl,vH,Au,show lo (f::g::r)=lo (g::r)++[(f.1,f.2,())] from rJ f _,Y2 hl,akW hl,aeN hl,<-rJ];rcases hp with e|e|e
  .have hd:Oj (lo (f::g::r)) fr at_ b=some ((if b=40 then(lo ((3,f.2)::g::r),(true,(at_,())))else if b=123 then(lo ((if g.1=5\/g.1=8 then 8 else 7,f.2)::g::r),(fr,(at_,())))else(lo (g::r),(fr,(at_,())))),(decide (b=40\/b=123\/b=36),())):=by
    by_cases e1:b=40
    .subst e1;simp[Oj,gZ,qX hb,bI]
    .by_cases e2:b=123
     .subst e2;by_cases e5:g.1=5
      .simp[Oj,gZ,qX hb,ae5 hb,bI,e5]
      .by_cases e8:g.1=8<;>simp[Oj,gZ,qX hb,ae5 hb,bI,e5,e8]
     .by_cases e3:b=36<;>simp[Oj,gZ,Qi hb,bI,e1,e2,e3]
   simp only[aa,gZ,e,decide_true];rw[hd,bI];by_cases e1:b=40\/b=123\/b=36
   .simp only[e1,decide_true,aa,bI,dW,i];rcases e1 with rfl|rfl|rfl<;>simp[fB,e,pst,i]
   .have j:b≠40/\b≠123/\b≠36:=by omega
    simp only[j.1,j.2.1,j.2.2,or_self,decide_false,ac,if_false];simp_all [yh,bI,dW,fB,pst]
  .simp only[aa,gZ,e,decide_true,show decide ((3:Int)=12)=false from rfl,ac];by_cases e1:b=40
   .simp_all [qX,bI,dW,fB,pst]
   .simp only[e1,decide_false,ac,qX hb,bI];rw[yh k (f:=(1,f.2)) (.inr ⟨.inl rfl,g,r,rfl⟩) (by simpa using hb) fr l at_,bI];simp[dW,fB,e,e1,pst,i]
  .simp only[aa,gZ,e,decide_true,show decide ((11:Int)=12)=false from rfl,show decide ((11:Int)=3)=false from rfl,ac];by_cases e1:b=41
   .simp_all [Qi,bI,dW,fB,pst]
   .simp only[e1,decide_false,ac,qX hb,bI];rw[yh k (f:=(9,f.2)) (.inr ⟨by simp,g,r,rfl⟩) (by simpa using hb) fr l at_,bI];simp[dW,fB,e,e1,pst,i]
 .have y:f.1=0\/((f.1=1\/f.1=2\/f.1=4\/f.1=5\/f.1=6\/f.1=7\/f.1=8\/f.1=9\/f.1=10\/f.1=13\/f.1=14)/\ ∃g q,r=g::q):=by
   cases r with
   |nil=>exact .inl d
   |cons g r=>have o:=d.1;have z:=d.2.1;grind
  simp_all [yh,bI,dW,fB,pst]
end
section
open Go.RowKit
theorem amv (f:oH) (r:fE) (h:r.length<1000000):bY (so (f::r)) (eU .i64 (bM (so (f::r))) 1)=((letter f.1).toNat:Int):=by
 rw[og,vS _ (by rw[CU];exact h)];simp[bY,List.getD]
theorem aCI (f:oH) (r:fE) (h:r.length<1000000):fV (so (f::r)) (eU .i64 (bM (so (f::r))) 1)=true:=by
 rw[og];exact Y2 (by rw[CU];exact h)
theorem awD (f g:oH) (r:fE) (h:r.length<900000):fV (so (f::g::r)) (eU .i64 (bM (so (f::g::r))) 2)=true/\bY (so (f::g::r)) (eU .i64 (bM (so (f::g::r))) 2)=((letter g.1).toNat:Int):=by
 have hl:(((so (f::g::r)).length:Nat):Int)=r.length+2:=by rw[CU];simp;omega
 rw[bP,hl,iW,show((r.length:Int)+2-2)=r.length by omega];refine⟨eu (by omega) (by rw[hl];omega), ?_⟩;rw[og,og];simp[bY,List.getD,CU]
theorem lets:letter 0=84/\letter 1=67/\letter 2=80/\letter 3=79/\letter 4=83/\letter 5=68/\letter 6=66/\letter 7=86/\letter 8=73/\letter 9=65/\letter 10=82/\letter 11=69/\letter 12=76/\letter 13=88/\letter 14=35:=by decide
theorem Am {s:fE} (hb:s.length<1000000) (fr:Bool) (m:Int) (c:UInt8) (d:c=letter m) (at_:Int):wH (so s,(po s,(fr,()))) [c] at_=some ((so ((m,at_)::s),(po ((m,at_)::s),(fr,()))),()):=by
 subst d;rw[aBm hb,og,rU]
theorem aiq {m:Int} {f:Int×Int} {r:fE} (d:m=0\/m=1\/m=2) (hb:(f::r).length<1000000) (fr:Bool) {b:Int} (g:isByte b) (at_:Int):
  ajD (so (f::r),(po (f::r),(fr,()))) ((letter m).toNat:Int) b at_=some (Ht (Ah m (f::r) fr b at_),()):=by
 have e:=arH g;have i:=Am hb fr 13 88 rfl at_;have j:=Am hb fr 4 83 rfl at_;have l:=Am hb fr 5 68 rfl at_;have o:=Am hb fr 12 76 rfl at_;have p:=Am hb fr 6 66 rfl at_;have q:=Am hb fr 14 35 rfl at_;have s:=Am hb fr 2 80 rfl at_;have u:=abX hb fr;have v:=lets;rcases d with rfl|rfl|rfl<;>rcases nz b with rfl|rfl|rfl|rfl|rfl|rfl|rfl|rfl|rfl|rfl|rfl|⟨x,y,z,A,B,D,E,G,I,J,K⟩<;>cases fr<;>
  simp_all [ajD,WL,Ah,Ht,gZ,Qm,wo,bI,kW,iF,iC,YO,YP]
theorem Qk {m:Int} {f:Int×Int} {r:fE} (hf:f.1=m) (e:m=0\/m=1\/m=2\/m=4\/m=5\/m=6\/m=7\/m=8\/m=9\/m=10\/m=13\/m=14) (hb:(f::r).length<1000000) (fr:Bool) {b:Int} (g:isByte b) (at_:Int):
  G7 (so (f::r),(po (f::r),(fr,()))) ((letter m).toNat:Int) b at_=some (Ht (iH m (f::r) fr b at_),()):=by
 have i:=lets;have j:=Am hb fr 13 88 rfl at_;have l:=Am hb fr 12 76 rfl at_;have o:=Am hb fr 6 66 rfl at_;have p:=Am hb fr 10 82 rfl at_;have q:=Am hb fr 5 68 rfl at_;have s:=Am hb fr 4 83 rfl at_;have u:=abX hb fr;have tt:=Gg hb fr 69;have v:so r++[69]=so ((11,f.2)::r):=by rw[og];rfl
 have x:po (f::r)=po ((11,f.2)::r):=by simp[rU]
 rcases e with rfl|rfl|rfl|e
 .have d:=aiq (.inl rfl) hb fr g at_;simp[G7,iH,gZ,bI,Ht,Bo,uD,Fv,Fz]at d ⊢;rw[d];simp[bI,i]
 .have d:=aiq (.inr (.inl rfl)) hb fr g at_;simp[G7,iH,gZ,bI,Ht,Bo,uD,Fv,Fz]at d ⊢;rw[d];simp[bI,i]
 .have d:=aiq (.inr (.inr rfl)) hb fr g at_;simp[G7,iH,gZ,bI,Ht,Bo,uD,Fv,Fz]at d ⊢;rw[d];simp[bI,i]
 .rcases e with rfl|rfl|rfl|rfl|rfl|rfl|rfl|rfl|rfl<;>rcases nz b with rfl|rfl|rfl|rfl|rfl|rfl|rfl|rfl|rfl|rfl|rfl|⟨y,z,A,B,D,E,G,I,J,K,L⟩<;>cases fr<;>
  simp_all [G7,WL,iH,yF,Ht,gZ,Qm,bI,kW,iF,iC,fP,Bo,uD,Fv,Fz]
end
section
open Go.RowKit
theorem FB {f:Int×Int} {r:fE} (h:iD (f::r)):0<=f.1/\f.1<=14:=by
 cases r with
 |nil=>have:f.1=0:=h;omega
 |cons g r=>have:=h.1;have:=h.2.1;omega
theorem letter_eq {m:Int} (d:0<=m) (e:m<=14):decide (((letter m).toNat:Int)=76)=decide (m=12)/\decide (((letter m).toNat:Int)=79)=decide (m=3)/\decide (((letter m).toNat:Int)=69)=decide (m=11)/\
  decide (((letter m).toNat:Int)=68)=decide (m=5)/\decide (((letter m).toNat:Int)=73)=decide (m=8):=by
 have:m=0\/m=1\/m=2\/m=3\/m=4\/m=5\/m=6\/m=7\/m=8\/m=9\/m=10\/m=11\/m=12\/m=13\/m=14:=by omega
 rcases this with rfl|rfl|rfl|rfl|rfl|rfl|rfl|rfl|rfl|rfl|rfl|rfl|rfl|rfl|rfl<;>decide
theorem agY {s:fE} (j:iD s) (hb:s.length<900000) (fr:Bool) {b:Int} (l:isByte b) (at_:Int):SB (so s,(po s,(fr,()))) b at_=some (Ht (fB s fr b at_),()):=by
 cases s with
 |nil=>cases j
 |cons f r=>
 have d:(f::r).length<1000000:=by omega
 have hr:r.length<1000000:=by simp at hb;omega
 obtain⟨p,g1⟩:=FB j;obtain⟨q,u,v,-,-⟩:=letter_eq p g1;unfold SB;simp only;rw[aCI f r hr,amv f r hr];simp only[aa,gZ,q,u,v];by_cases e:f.1=12
 .cases r with
  |nil=>have:f.1=0:=j;omega
  |cons g r=>
  have G:=j.2.2.1;have x:(g::r).length<1000000:=by omega
  obtain⟨y,z⟩:=FB j.2.2.2;obtain⟨-,-,-,A,B⟩:=letter_eq y z;obtain⟨D,E⟩:=awD f g r (by simp at hb;omega);simp only[e,decide_true,aa];by_cases e1:b=40
  .subst e1;simp only[decide_true,aa,Gg d,bI,Qm];simp[fB,e,Ht,og,rU,lets]
  .by_cases e2:b=123
   .subst e2;simp only[e1,decide_true,decide_false,aa,ac,D,E,A,B,Gg d,bI]
    grind [fB,Ht,og,rU,lets]
   .simp only[e1,e2,decide_false,ac,abX d,bI];by_cases e3:b=36
    .simp_all [fB,Ht]
    .simp only[e3,decide_false,ac];rw[aCI g r (by simp at hr;omega),amv g r (by simp at hr;omega)];have o:g.1=0\/g.1=1\/g.1=2\/g.1=4\/g.1=5\/g.1=6\/g.1=7\/g.1=8\/g.1=9\/g.1=10\/g.1=13\/g.1=14:=by grind [TC]
     rw[aa,Qk rfl o x fr l at_,bI];simp_all [fB]
 .simp only[e,decide_false,ac];by_cases e3:f.1=3
  .simp only[e3,decide_true,aa];by_cases e1:b=40
   .subst e1;simp only[decide_true,aa,Gg d,bI,Qm];simp[fB,e3,Ht,og,rU,lets]
   .simp only[e1,decide_false,ac,Gg d,bI];have i:=Qk (f:=(1,f.2)) (r:=r) rfl (.inr (.inl rfl)) (by simpa using d) fr l at_;rw[og,rU]at i;simp only[lets]at i;rw[show((67:Int))=(((67:UInt8).toNat:Nat):Int) from rfl,rU f r,i,bI]
    grind [fB]
  .simp only[e3,decide_false,ac];by_cases e11:f.1=11
   .simp only[e11,decide_true,aa];by_cases e1:b=41
    .simp_all [abX,bI,fB,Ht]
    .simp only[e1,decide_false,ac,Gg d,bI];have i:=Qk (f:=(9,f.2)) (r:=r) rfl (by simp) (by simpa using d) fr l at_;rw[og,rU]at i;simp only[lets]at i;rw[show((65:Int))=(((65:UInt8).toNat:Nat):Int) from rfl,rU f r,i,bI]
     grind [fB]
   .simp only[e11,decide_false,ac];have o:f.1=0\/f.1=1\/f.1=2\/f.1=4\/f.1=5\/f.1=6\/f.1=7\/f.1=8\/f.1=9\/f.1=10\/f.1=13\/f.1=14:=by omega
    rw[Qk rfl o d fr l at_,bI];simp_all [fB]
theorem aon {s:fE} (d:iD s) (hl: ∃f r,s=f::r/\TC f.1) {m at_:Int} (e:1<=m) (h2:m<=14):iD ((m,at_)::s):=by
 obtain⟨f,r,rfl,g⟩:=hl;exact⟨e,h2,g,d⟩
theorem DX {f:Int×Int} {r:fE} (d:iD (f::r)) (hr:r≠[]) {m at_:Int} (e:1<=m) (h2:m<=14):iD ((m,at_)::r):=by
 cases r with
 |nil=>exact absurd rfl hr
 |cons g r=>exact⟨e,h2,d.2.2.1,d.2.2.2⟩
theorem FC {f:Int×Int} {r:fE} (d:iD (f::r)) (hr:r≠[]):iD r:=by
 cases r with
 |nil=>exact absurd rfl hr
 |cons g r=>exact d.2.2.2
theorem nS {f:Int×Int} {r:fE} (d:iD (f::r)) (h:f.1≠0):r≠[]:=by
 rintro rfl;exact h d
theorem Bz {m:Int} {f:Int×Int} {r:fE} (hf:f.1=m) (d:iD (f::r)) (l:m≠12/\m≠3/\m≠11) (fr:Bool) (b at_:Int):
  iD (iH m (f::r) fr b at_).1/\(iH m (f::r) fr b at_).1.length<=(f::r).length+1:=by
 obtain⟨o,g1⟩:=FB d;have hr:f.1≠0->r≠[]:=nS d;have j:m=0\/m=1\/m=2\/m=4\/m=5\/m=6\/m=7\/m=8\/m=9\/m=10\/m=13\/m=14:=by omega
 have push: ∀k,TC f.1->1<=k->k<=14->iD ((k,at_)::f::r):=fun k hl g i=>aon d ⟨f,r,rfl,hl⟩ g i;have p:m=0\/m=1\/m=2\/m=5\/m=6\/m=7\/m=8\/m=9\/m=10->TC f.1:=fun h=>by simp_all [TC]
 have q:m≠0->iD r:=fun h=>FC d (hr (by rw[hf];exact h));have st: ∀k,m≠0->1<=k->k<=14->iD ((k,f.2)::r):=fun k h g i=>DX d (hr (by rw[hf];exact h)) g i;rcases j with e|e|e|e|e|e|e|e|e|e|e|e<;>subst e<;>rcases nz b with rfl|rfl|rfl|rfl|rfl|rfl|rfl|rfl|rfl|rfl|rfl|⟨g,i,s,u,v,x,y,z,A,B,D⟩<;>cases fr<;>
  simp_all [iH,Ah,yF]<;>first|omega|(refine⟨?_,by omega⟩;assumption)
end
section
open List renaming drop_eq_getElem_cons → aA, drop_of_length_le → aO, drop_zero → aS, eq_nil_of_length_eq_zero → bG
open Go.RowKit
theorem good_step {s:fE} (d:iD s) (fr:Bool) (b at_:Int):iD (fB s fr b at_).1/\(fB s fr b at_).1.length<=s.length+1:=by
 cases s with
 |nil=>cases d
 |cons f r=>
 simp only[fB];split
 .rename_i e
  have hr:r≠[]:=nS d (by omega);have p: ∀k,1<=k->k<=14->iD ((k,f.2)::r):=fun k i j=>DX d hr i j;have l:=FC d hr;split
  .simp_all
  .split
   .grind
   .split
    .grind
    .cases r with
     |nil=>exact absurd rfl hr
     |cons g r=>
      have o:=d.2.2.1;have h:=Bz rfl l (by unfold TC at o;omega) fr b at_
      grind
 .split
  .rename_i e
   have hr:r≠[]:=nS d (by omega);split
   .grind [DX]
   .have h:=Bz (f:=(1,f.2)) rfl (DX d hr (by omega) (by omega)) (by omega) fr b at_
    assumption
  .split
   .rename_i e
    have hr:r≠[]:=nS d (by omega);split
    .grind [FC]
    .have h:=Bz (f:=(9,f.2)) rfl (DX d hr (by omega) (by omega)) (by omega) fr b at_
     assumption
   .exact Bz rfl d (by omega) fr b at_
def md (s:fE):List Int:=s.map (·.1)
theorem Ku (m:Int) {s d:fE} (h:md s=md d) (fr:Bool) (b a e:Int):md (iH m s fr b a).1=md (iH m d fr b e).1/\(iH m s fr b a).2=(iH m d fr b e).2:=by
 have f:md s.tail=md d.tail:=by
  have:=congrArg List.tail h;simpa [md] using this
 have g:m=0\/m=1\/m=2\/m=4\/m=5\/m=6\/m=7\/m=9\/m=10\/m=13\/m=14\/(m≠0/\m≠1/\m≠2/\m≠4/\m≠5/\m≠6/\m≠7/\m≠9/\m≠10/\m≠13/\m≠14):=by omega
 have i: ∀k (p q:Int),md ((k,p)::s)=md ((k,q)::d):=fun k p q=>by simp_all [md]
 have hd: ∀k (p q:Int),md ((k,p)::s.tail)=md ((k,q)::d.tail):=fun k p q=>by simp_all [md]
 rcases g with rfl|rfl|rfl|rfl|rfl|rfl|rfl|rfl|rfl|rfl|rfl|⟨j,l,o,u,v,x,y,z,A,B,D⟩<;>rcases nz b with rfl|rfl|rfl|rfl|rfl|rfl|rfl|rfl|rfl|rfl|rfl|⟨E,G,I,J,K,L,M,N,O,S,U⟩<;>cases fr<;>
  simp_all [iH,Ah,yF]<;>first|exact h|exact f|exact i _ _ _|exact hd _ _ _
theorem aAq {s d:fE} (h:md s=md d) (fr:Bool) (b a i:Int):md (fB s fr b a).1=md (fB d fr b i).1/\(fB s fr b a).2=(fB d fr b i).2:=by
 cases s with
 |nil=>cases d with
  |nil=>exact⟨rfl,rfl⟩
  |cons _ _=>simp[md]at h
 |cons f r=>cases d with
  |nil=>simp[md]at h
  |cons f' e=>
   have j:f.1=f'.1:=by simp_all [md]
   have g:md r=md e:=by simp_all [md]
   have l:(r.headD (0,0)).1=(e.headD (0,0)).1:=by
    cases r<;>cases e<;>simp[md]at g ⊢;exact g.1
   have o: ∀k (p q:Int),md ((k,p)::r)=md ((k,q)::e):=fun k p q=>by simp_all [md]
   simp only[fB,<-j,<-l];split
   .split
    .grind
    .split
     .grind
     .split
      .exact⟨g,rfl⟩
      grind [Ku]
   .split
    .split
     .grind
     grind [Ku]
    .split
     .split
      .exact⟨g,rfl⟩
      grind [Ku]
     grind [Ku]
def gy (b:UInt8):Int:=(b.toNat:Int)
def jk:bZ->Int->fE×Bool->fE×Bool
 |[],_,x=>x
 |b::l,a,x=>jk l (a+1) (fB x.1 x.2 (gy b) a)
def fK:fE×Bool:=([(0,0)],true)
theorem kK:iD fK.1:=rfl
theorem drop_at {s:List UInt8} {i:Int} (d:0<=i) (h:i<s.length): ∃b,s.drop i.toNat=b::s.drop (i+1).toNat/\bY s i=gy b:=by
 have e:i.toNat<s.length:=by omega
 refine⟨s[i.toNat], ?_, ?_⟩
 .grind [aA]
 simp_all [bY,gy]
theorem Jy {s:List UInt8} {i:Int} (h:s.length<=i:=by omega):s.drop i.toNat=[]:=aO (by omega)
theorem aCC (s:bZ) (j:s.length<=100000): ∀(N:Nat) (i:Int) (x:fE×Bool),(s.length:Int)-i<N->0<=i->i<=s.length->iD x.1->(x.1.length:Int)<=i+1->
  J6 N s (bM s) i x.2 i (lo x.1)=some (.inl ((),(((jk (s.drop i.toNat) i x).2,(s.length:Int),()),lo (jk (s.drop i.toNat) i x).1,())))
 |0,i,x,h,_,_,_,_=>by omega
 |N+1,i,x,h,d,o,f,hl=>by
  rw[J6,QF];by_cases e:i<s.length
  .obtain⟨b,hd,l⟩:=drop_at d e;rw[cO (fO (b:=bM s) e),cO (eu d e),agX f (by omega) x.2 (lG s i) d (by omega),bI,hd,jk,<-l];simp only[pst];rw[dI];have g:=good_step f x.2 (bY s i) i;exact aCC s j N (i+1) (fB x.1 x.2 (bY s i) i) (by omega) (by omega) (by omega) g.1 (by have:=g.2;omega)
  .have p:i=s.length:=by omega
   simp_all [jh,bP,jk]
theorem aCD (s:bZ) (o:s.length<=100000) (d:bZ) (f:Bool): ∀(N:Nat) (i:Int) (x:fE×Bool),(s.length:Int)-i<N->0<=i->i<=s.length->iD x.1->(x.1.length:Int)<=i+1->
  J5 N s i (so x.1) (po x.1) x.2 d f=some (.inl ((),((so (jk (s.drop i.toNat) i x).1,po (jk (s.drop i.toNat) i x).1,(jk (s.drop i.toNat) i x).2,()),(d,f,()),())))
 |0,i,x,h,_,_,_,_=>by omega
 |N+1,i,x,h,g,q,j,hl=>by
  rw[J5,QE];by_cases e:i<s.length
  .obtain⟨b,hd,p⟩:=drop_at g e;rw[cO (fO (b:=bM s) e),cO (eu g e),agY j (by omega) x.2 (lG s i) i,bI,hd,jk,<-p];simp only[Ht];rw[dI];have l:=good_step j x.2 (bY s i) i;exact aCD s o d f N (i+1) (fB x.1 x.2 (bY s i) i) (by omega) (by omega) (by omega) l.1 (by have:=l.2;omega)
  simp_all [jh,bP,Jy,jk]
theorem DW: ∀(l:bZ) (a:Int) (x:fE×Bool),iD x.1->iD (jk l a x).1/\(jk l a x).1.length<=x.1.length+l.length
 |[],a,x,h=>⟨h,by simp[jk]⟩
 |b::l,a,x,h=>by
  have d:=good_step h x.2 (gy b) a;have e:=DW l (a+1) (fB x.1 x.2 (gy b) a) d.1
  grind [jk]
theorem Oc {n:Nat} (h:n<=1000000000:=by omega):n<bQ:=by unfold bQ;omega
theorem aIe (s:bZ) (f:s.length<=100000):ajs s=some (lo (jk s 0 fK).1,((jk s 0 fK).2,())):=by
 have h:=aCC s f bQ 0 fK (by have:=Oc (n:=s.length) (by omega);omega) (by omega) (by omega) kK (by simp[fK]);have d:=DW s 0 fK kK;unfold ajs;rw[show([(0,(0,()))]:List nN)=lo fK.1 from rfl,show(true:Bool)=fK.2 from rfl,h,bI];simp only[dW,Int.toNat_zero,aS];have g:(lo (jk s 0 fK).1).length≠0:=by
  rw[oC];intro e;rw[bG e]at d;exact d.1
 rw[dN (dZ (by rw[bP];omega))];have i:nR (lo (jk s 0 fK).1)=some (lo (jk s 0 fK).1,()):=by
  unfold nR qM;have:dY (lo (jk s 0 fK).1) 16=true:=by
   have:=d.2;have j:fK.1.length=1:=rfl;simp only[dY,oC,decide_eq_true_eq,kZ];omega
  rw[this];rfl
 rw[i,bI];cases hf:(jk s 0 fK).2 with
 |true=>simp[adG,bI]
 |false=>simp[adG,bI,gZ,bP,g]
theorem aIf (s:bZ) (d:s.length<=100000):ajp s=some (Ht (jk s 0 fK),()):=by
 have h:=aCD s d [] false bQ 0 fK (by have:=Oc (n:=s.length) (by omega);omega) (by omega) (by omega) kK (by simp[fK]);unfold ajp;rw[show SA=some ((so fK.1,(po fK.1,(fK.2,()))),()) from rfl,bI];simp_all [bI,dW,Ht]<;>rfl
end
section
open Option renaming some → a6, none → a7
open Bool renaming false_eq_true → ag, not_true → ax, and_true → ay, not_false → az
open List renaming length_cons → aG
open Nat renaming le_refl → ae
open Go.RowKit
def oq (s:fE) (b:Int):Bool:=wo b&&(match s with
 |[_]=>true
 |[f,_]=>decide (f.1=12)&& !decide (b=40)
 |_=>false)
def lX:bZ->Int->fE×Bool->Nat
 |[],_,_=>0
 |b::l,a,x=>if oq x.1 (gy b)then 0 else lX l (a+1) (fB x.1 x.2 (gy b) a)+1
theorem ai5: ∀(l:bZ) (a:Int) (x:fE×Bool),lX l a x<=l.length
 |[],_,_=>ae _
 |b::l,a,x=>by
  simp only[lX,aG];split
  .omega
  .have:=ai5 l (a+1) (fB x.1 x.2 (gy b) a);omega
theorem arF {s d:fE} (h:md s=md d) (b:Int):oq s b=oq d b:=by
 match s,d with
 |[],[]=>rfl
 |[_],[_]=>rfl
 |[f,_],[e,_]=>simp_all [md,oq]
 |_::_::_::_,_::_::_::_=>rfl
 |[],_::_=>simp[md]at h
 |_::_,[]=>simp[md]at h
 |[_],_::_::_=>simp[md]at h
 |_::_::_,[_]=>simp[md]at h
 |[_,_],_::_::_::_=>simp[md]at h
 |_::_::_::_,[_,_]=>simp[md]at h
theorem ai6: ∀(l:bZ) (a d:Int) (x e:fE×Bool),md x.1=md e.1->x.2=e.2->lX l a x=lX l d e
 |[],_,_,_,_,_,_=>rfl
 |b::l,a,d,x,e,f,i=>by
  have g:=aAq f x.2 (gy b) a d;simp only[lX,arF f,<-i];rw[ai6 l (a+1) (d+1) _ _ g.1 g.2]
theorem ayM {s:fE} (d:iD s) (hb:s.length<1000000) (fr:Bool) (at_:Int) {b:Int} (e:isByte b):ajr (lo s) fr at_ b=a6 ((lo s,(fr,(at_,()))),(oq s b,())):=by
 unfold ajr;rw[arG e,bI];cases he:wo b with
 |false=>simp[oq,he]
 |true=>
  match s with
  |[]=>cases d
  |[f]=>simp[oq,he,gZ,bP,lo]
  |[f,g]=>
   have i:fV (lo [f,g]) 1=true:=eu (by omega) (by simp[lo]);have j:mi (dD 1) (lo [f,g])=true:=lT (by simp[lo,dD]);have l:dK (lo [f,g]) (0,(0,())) (dD 1)=(f.1,f.2,()):=by rfl
   have o:(lo [f,g]).length=2:=by simp[lo]
   simp only[gZ,bP,i,j,l,o,aa]
   grind [oq]
  |f::g::h::r=>
   grind [oC,gZ,bP,oq]
theorem arD (s:bZ) (j:s.length<=100000): ∀(N:Nat) (i a:Int) (x:fE×Bool),(s.length:Int)-i<N->0<=i->i<=s.length->0<=a->a<=i->iD x.1->(x.1.length:Int)<=a+1->
  ∃o,J4 N s i x.2 a (lo x.1)=a6 o/\dW o (fun l=>a6 (l.1.1,())) (fun p=>a6 (p.1.1,()))=a6 (i+lX (s.drop i.toNat) a x,())
 |0,i,a,x,h,_,_,_,_,_,_=>by omega
 |N+1,i,a,x,h,d,u,v,y,f,hl=>by
  rw[J4,QC];by_cases e:i<s.length
  .obtain⟨b,hd,q⟩:=drop_at d e;rw[cO (fO (b:=bM s) e),cO (eu d e),ayM f (by omega) x.2 a (lG s i),bI,hd,lX,<-q];cases hw:oq x.1 (bY s i)with
   |true=>exact⟨_,rfl,by simp[dW]⟩
   |false=>
    simp only[ac,ag,if_false];rw[cO (eu d e),agX f (by omega) x.2 (lG s i) (by omega) (by omega),bI];simp only[pst];rw[dI];have g:=good_step f x.2 (bY s i) a;obtain⟨o,z,A⟩:=arD s j N (i+1) (a+1) (fB x.1 x.2 (bY s i) a) (by omega) (by omega) (by omega) (by omega) (by omega) g.1 (by have:=g.2;omega)
    grind
  .rw[dN (jh (b:=bM s) (by rw[bP];omega)),Jy];exact⟨_,rfl,by simp[dW,lX]⟩
theorem aH4 (s:bZ) (e:s.length<=100000) {i:Int} (d:0<=i) (hi:i<=s.length):adA s i=a6 (i+lX (s.drop i.toNat) i fK,()):=by
 obtain⟨o,f,g⟩:=arD s e bQ i 0 fK (by have:=Oc (n:=s.length) (by omega);omega) d hi (by omega) d kK (by simp[fK]);unfold adA;rw[dN (jh d),dN (jh (a:=bM s) hi),show([(0,(0,()))]:List nN)=lo fK.1 from rfl,show(true:Bool)=fK.2 from rfl,f,bI,g,ai6 _ i 0 fK fK rfl rfl]
theorem awE {s:fE} (d:iD s):fP (so s) [84]=(match s with|[_]=>true|_=>false):=by
 match s with
 |[]=>cases d
 |[f]=>have h:f.1=0:=d;simp[so,fP,h,lets]
 |f::g::r=>
  grind [CU,fP]
theorem amw {s:fE} (d:iD s):fP (so s) [84,76]=(match s with|[f,_]=>decide (f.1=12)|_=>false):=by
 match s with
 |[]=>cases d
 |[f]=>
  simp_all [so,fP]
 |[f,g]=>
  have h:g.1=0:=d.2.2.2;obtain⟨j,g1⟩:=FB d;have i:f.1=0\/f.1=1\/f.1=2\/f.1=3\/f.1=4\/f.1=5\/f.1=6\/f.1=7\/f.1=8\/f.1=9\/f.1=10\/f.1=11\/f.1=12\/f.1=13\/f.1=14:=by omega
  rcases i with e|e|e|e|e|e|e|e|e|e|e|e|e|e|e<;>simp[so,fP,h,e,lets]
 |f::g::h::r=>
  grind [CU,fP]
theorem arE (s:bZ) (v:s.length<=100000): ∀(N:Nat) (i:Int) (x:fE×Bool),(s.length:Int)-i<N->0<=i->i<=s.length->iD x.1->(x.1.length:Int)<=i+1->
  ∃o,FQ N s i (so x.1) (po x.1) x.2=a6 o/\dW o (fun d=>a6 ((bM d.1.1),())) (fun j=>a6 (j.1.1,()))=a6 (i+lX (s.drop i.toNat) i x,())
 |0,i,x,h,_,_,_,_=>by omega
 |N+1,i,x,h,p,D,l,hl=>by
  (rewrite [FQ,Qw];delta Ap)
  by_cases e:i<s.length
  .obtain⟨b,hd,y⟩:=drop_at p e;have q:=good_step l x.2 (bY s i) i;obtain⟨o,z,A⟩:=arE s v N (i+1) (fB x.1 x.2 (bY s i) i) (by omega) (by omega) (by omega) q.1 (by have:=q.2;omega);rw[cO (fO (b:=bM s) e),cO (eu p e),arH (lG s i),bI,hd,lX,<-y,awE l,amw l,eu p e,agY l (by omega) x.2 (lG s i) i,bI];simp only[Ht,aa];rw[dI];have u: ∃o,FQ N s (i+1) (so (fB x.1 x.2 (bY s i) i).1) (po (fB x.1 x.2 (bY s i) i).1) (fB x.1 x.2 (bY s i) i).2=a6 o/\dW o (fun d=>a6 ((bM d.1.1),())) (fun j=>a6 (j.1.1,()))=a6 (i+((lX (s.drop (i+1).toNat) (i+1) (fB x.1 x.2 (bY s i) i)+1:Nat):Int),()):=
    ⟨o,z,A.trans (by grind)⟩
   have B: ∃o,(a6 (Sum.inr ((i,()),())):Option (Qb.den⊕Qg.den))=a6 o/\dW o (fun d=>a6 ((bM d.1.1),())) (fun j=>a6 (j.1.1,()))=a6 (i+((0:Nat):Int),()):=⟨_,rfl,by simp[dW]⟩;cases he:wo (bY s i)with
   |false=>simp_all [oq]
   |true=>
    generalize E:x.1=st at*
    match st with
    |[]=>cases l
    |[f]=>simp_all [oq]
    |[f,g]=>
     by_cases e12:f.1=12
     .by_cases e40:bY s i=40
      .simp only[oq,he,aa,ac,gZ,e12,e40,decide_true,ax,Bool.and_false,ag,if_false]at u ⊢;exact u
      .simp only[oq,he,aa,ac,gZ,e12,e40,decide_true,decide_false,az,ay,if_true];exact B
     simp_all [oq]
    |f::g::h::r=>simp_all [oq]
  .rw[dN (jh (b:=bM s) (by rw[bP];omega)),Jy];exact⟨_,rfl,by simp[dW,lX,bP];omega⟩
theorem aH5 (s:bZ) (d:s.length<=100000) {i:Int} (e:0<=i) (hi:i<=s.length):WE s i=a6 (i+lX (s.drop i.toNat) i fK,()):=by
 obtain⟨o,f,g⟩:=arE s d bQ i fK (by have:=Oc (n:=s.length) (by omega);omega) e hi kK (by simp[fK];omega);unfold WE;rw[show SA=a6 ((so fK.1,(po fK.1,(fK.2,()))),()) from rfl,bI];simp_all [bI]
end
section
open Option renaming some → a6, none → a7
open Bool renaming and_eq_true → af, not_true → ax
open List renaming drop_eq_getElem_cons → aA, length_cons → aG, drop_of_length_le → aO, length_drop → aP, takeWhile_cons → bz
open Go.RowKit
def isL (c:UInt8):Bool:=(97<=c&&c<=122)||(65<=c&&c<=90)||c==95
def isD (c:UInt8):Bool:=48<=c&&c<=57
def WU (c:UInt8):Bool:=isL c||isD c
def isP (c:UInt8):Bool:=c==64||c==42||c==35||c==63||c==45||c==36||c==33
def ayF:Bool:=(List.range 256).all fun b=>match adt (b:Int),adu (b:Int),SH (b:Int)with
 |some (x,_),a6 (y,_),a6 (k,_)=>(x==isL (UInt8.ofNat b))&&((y==isD (UInt8.ofNat b))&&((decide (k=5)==isL (UInt8.ofNat b))&&(decide (k=6)==isD (UInt8.ofNat b))))
 |_,_,_=>false
theorem aru:ayF=true:=by kernel_rfl
theorem sU (c:UInt8):adt (c.toNat:Int)=a6 (isL c,())/\adu (c.toNat:Int)=a6 (isD c,())/\ ∃k,SH (c.toNat:Int)=a6 (k,())/\bV k 5=isL c/\bV k 6=isD c:=by
 have h:=List.all_eq_true.1 aru c.toNat (List.mem_range.2 (by have:=c.toNat_lt;omega));have d:UInt8.ofNat c.toNat=c:=by simp
 rw[d]at h;split at h
 .rename_i x u y v k w e f g
  simp only[af,beq_iff_eq]at h
  grind [bV]
 .cases h
def aKd:Bool:=(List.range 256).all fun b=>match GN (b:Int) [64,42,35,63,45,36,33]with
 |some (x,_)=>(x==isP (UInt8.ofNat b))&&(isP (UInt8.ofNat b)==(bV (b:Int) 64||(bV (b:Int) 42||(bV (b:Int) 35||(bV (b:Int) 63||(bV (b:Int) 45||(bV (b:Int) 36||bV (b:Int) 33)))))))
 |_=>false
theorem aF3:aKd=true:=by kernel_rfl
theorem avz (c:UInt8):GN (c.toNat:Int) [64,42,35,63,45,36,33]=a6 (isP c,())/\isP c=(bV (c.toNat:Int) 64||(bV (c.toNat:Int) 42||(bV (c.toNat:Int) 35||(bV (c.toNat:Int) 63||(bV (c.toNat:Int) 45||(bV (c.toNat:Int) 36||bV (c.toNat:Int) 33)))))):=by
 have h:=List.all_eq_true.1 aF3 c.toNat (List.mem_range.2 (by have:=c.toNat_lt;omega));have d:UInt8.ofNat c.toNat=c:=by simp
 grind
theorem byte_at {s:List UInt8} {i:Nat} (h:i<s.length):bY s (i:Int)=(s[i].toNat:Int):=by
 simp_all [bY]
def runN (s:bZ):Nat:=(s.takeWhile WU).length
def GV (s:bZ):Nat:=(s.takeWhile isL).length
def jH (s:bZ):Nat:=(s.takeWhile isD).length
theorem LD (p:UInt8->Bool) (s:bZ):(s.takeWhile p).length<=s.length:=by
 induction s with
 |nil=>simp
 |cons c v d=>grind [bz]
theorem E5 (p:UInt8->Bool): ∀(s:bZ) (i:Nat) (h:i<s.length),i<(s.takeWhile p).length->p s[i]=true
 |[],i,h,_=>by simp at h
 |c::v,i,h,d=>by
  rw[bz]at d;split at d
  .rename_i e
   match i with
   |0=>exact e
   |i+1=>exact E5 p v i (by simpa using h) (by simpa using d)
  .simp at d
theorem zD (p:UInt8->Bool): ∀(s:bZ) (h:(s.takeWhile p).length<s.length),p s[(s.takeWhile p).length]=false
 |[],h=>by simp at h
 |c::v,h=>by
  by_cases hc:p c=true
  .have e:List.takeWhile p (c::v)=c::v.takeWhile p:=by simp_all
   have d:(v.takeWhile p).length<v.length:=by simp_all
   have:=zD p v d;simp_all
  simp_all
theorem aLh (p:UInt8->Bool) (s:bZ) (n:Nat) (d:n<=s.length) (e: ∀i (h:i<s.length),i<n->p s[i]=true) (h2: ∀h:n<s.length,p s[n]=false):(s.takeWhile p).length=n:=by
 have a:=LD p s;by_cases c:(s.takeWhile p).length<n
 .grind [zD]
 grind [E5]
def nl (s:bZ):Nat:=if GV s=0 then 0 else runN s
theorem avU {s:List UInt8} (h:GV s≠0):runN s≠0:=by
 unfold GV at h;unfold runN
 match s with
 |[]=>simp at h
 |c::v=>
  simp_all [bz,WU]
theorem aCy (s:bZ):nl s<=s.length:=by
 unfold nl;split
 .omega
 .exact LD _ _
theorem Yh {s:List UInt8} (d:s.length<4000000) {a k:Nat} (h:a+k<s.length): ∃hk:k<(s.drop a).length,bY s (dw .i64 (a:Int) (k:Int))=(((s.drop a)[k]).toNat:Int):=by
 have hk:k<(s.drop a).length:=by grind
 refine⟨hk, ?_⟩;rw[dI,show(a:Int)+(k:Int)=((a+k:Nat):Int) by omega,byte_at h,List.getElem_drop]
theorem aCK {s:List UInt8} (e:s.length<4000000) {at_:Nat} (g:at_<=s.length) (a:bZ) (b:Int) (c:bZ) (d:Int): ∀(N k:Nat),s.length-k<N->k<=GV (s.drop at_)->
  nU N s (at_:Int) (k:Int) a b c d=a6 (.inl ((((GV (s.drop at_):Nat):Int),()),((a,b,c,d,()),(),()),()))
 |0,k,h,hk=>by
  omega
 |N+1,k,h,hk=>by
  have p:=LD isL (s.drop at_);have q:=aP (i:=at_) (l:=s);rw[nU,vg];have u:k<=((s.drop at_).takeWhile isL).length:=hk;have f:dw .i64 (at_:Int) (k:Int)=(at_:Int)+k:=dI;by_cases h1:at_+k<s.length
  .obtain⟨j,o⟩:=Yh e h1;rw[o,f,cO (fO (by rw[bP];omega)),cO (eu),(sU _).1,bI];by_cases h2:k<GV (s.drop at_)
   .rw[E5 isL _ k j h2];simp only[ax,ac];rw[dI,show(k:Int)+1=((k+1:Nat):Int) by omega];exact aCK e g a b c d N (k+1) (by omega) (by omega)
   .obtain rfl:k=GV (s.drop at_):=by omega
    grind [zD,GV]
  .obtain rfl:k=GV (s.drop at_):=by grind [GV]
   rw[f,dN (iE (by rw[bP];omega))]
theorem aCL {s:List UInt8} (e:s.length<4000000) {at_:Nat} (j:at_<=s.length) (a:bZ) (b:Int) (c:bZ) (d:Int): ∀(N k:Nat),s.length-k<N->k<=runN (s.drop at_)->
  pz N s (at_:Int) (k:Int) a b c d=a6 (.inl ((((runN (s.drop at_):Nat):Int),()),((a,b,c,d,()),(),()),()))
 |0,k,h,hk=>by
  omega
 |N+1,k,h,hk=>by
  have u:=LD WU (s.drop at_);have v:=aP (i:=at_) (l:=s);rw[pz,CZ];have x:k<=((s.drop at_).takeWhile WU).length:=hk;have f:dw .i64 (at_:Int) (k:Int)=(at_:Int)+k:=dI;by_cases h1:at_+k<s.length
  .obtain⟨g,o⟩:=Yh e h1;have p:dw .i64 (k:Int) 1=((k+1:Nat):Int):=by grind [dI]
   rw[o,f,cO (fO (by rw[bP];omega)),cO (eu),(sU _).1,bI,(sU _).2.1];by_cases h2:k<runN (s.drop at_)
   .have q:=aCL e j a b c d N (k+1) (by omega) (by omega);have y:=E5 WU _ k g h2;rw[p];cases hL:isL (s.drop at_)[k]with
    |true=>exact q
    |false=>
     simp_all [WU,bI]
   .obtain rfl:k=runN (s.drop at_):=by omega
    have:=zD WU _ g;have z:WU (s.drop at_)[runN (s.drop at_)]=false:=this;simp_all [WU,bI]
  .obtain rfl:k=runN (s.drop at_):=by grind [runN]
   rw[f,dN (iE (by rw[bP];omega))]
theorem aCJ {s:List UInt8} (e:s.length<4000000) {at_:Nat} (g:at_<=s.length) (a:bZ) (b:Int) (c:bZ) (d:Int): ∀(N k:Nat),s.length-k<N->k<=jH (s.drop at_)->
  pK N s (at_:Int) (k:Int) a b c d=a6 (.inl ((((jH (s.drop at_):Nat):Int),()),((a,b,c,d,()),(),()),()))
 |0,k,h,hk=>by
  omega
 |N+1,k,h,hk=>by
  have p:=LD isD (s.drop at_);have q:=aP (i:=at_) (l:=s);rw[pK,yl];have u:k<=((s.drop at_).takeWhile isD).length:=hk;have f:dw .i64 (at_:Int) (k:Int)=(at_:Int)+k:=dI;by_cases h1:at_+k<s.length
  .obtain⟨j,o⟩:=Yh e h1;rw[o,f,cO (fO (by rw[bP];omega)),cO (eu),(sU _).2.1,bI];by_cases h2:k<jH (s.drop at_)
   .rw[E5 isD _ k j h2];simp only[ax,ac];rw[dI,show(k:Int)+1=((k+1:Nat):Int) by omega];exact aCJ e g a b c d N (k+1) (by omega) (by omega)
   .obtain rfl:k=jH (s.drop at_):=by omega
    grind [zD,jH]
  .obtain rfl:k=jH (s.drop at_):=by grind [jH]
   rw[f,dN (iE (by rw[bP];omega))]
theorem QX {s:List UInt8} (d:s.length<4000000) {a:Nat} (e:a<=s.length):zO s a=a6 (((jH (s.drop a):Nat):Int),()):=by
 rw[zO,dN (iE)];by_cases h0:a=s.length
 .subst h0;rw[cO (mW (by rw[bP];omega)),List.drop_length];rfl
 rw[dN (Dl (by rw[bP];omega)),show pK bQ s a 0 s a s a=_ from aCJ d e s a s a bQ 0 (dX) (by omega),bI];rfl
theorem aqv {s:List UInt8} (d:s.length<4000000) {a:Nat} (e:a<=s.length):ag5 s a=a6 (((nl (s.drop a):Nat):Int),()):=by
 (rewrite [ag5];delta ag6;rw[dN (iE)])
 by_cases h0:a=s.length
 .subst h0;rw[cO (mW (by rw[bP];omega)),List.drop_length];rfl
 rw[dN (Dl (by rw[bP];omega)),show nU bQ s a 0 s a s a=_ from aCK d e s a s a bQ 0 (dX) (by omega),bI];unfold dW;simp only;unfold nl;by_cases h1:GV (s.drop a)=0
 .rw[am h1,h1];rfl
 .rw[aq h1,dN (dZ),dN (iE),dN (Dl (by rw[bP];omega)),show pz bQ s a 0 _ _ _ _=_ from aCL d e _ _ _ _ bQ 0 (dX) (by omega)];rfl
theorem Oy {s:List UInt8} (e:s.length<4000000): ∀(N k:Nat),s.length-k<N->k<=runN s->
  MI N s (k:Int)=a6 (if runN s=s.length then .inl ((),())else .inr ((false,()),()))
 |0,k,h,hk=>by omega
 |N+1,k,h,hk=>by
  have o:=LD WU s;have p:k<=(s.takeWhile WU).length:=hk;rw[MI,acr];by_cases h1:k<s.length
  .obtain⟨c,f,g,q⟩:=(sU s[k]).2.2;have i:fV s (k:Int)=true:=eu;rw[cO (fO (by rw[bP];omega)),i,byte_at h1,f,bI,g];by_cases h2:k<runN s
   .have j:=Oy e N (k+1) (by omega) (by omega);have u:=E5 WU s k h1 h2;have l:dw .i64 (k:Int) 1=((k+1:Nat):Int):=by grind [dI]
    rw[l];cases hL:isL s[k]with
    |true=>exact j
    |false=>
     simp_all [WU,bI]
   .obtain rfl:k=runN s:=by omega
    have:=zD WU s h1;have d:WU s[runN s]=false:=this;simp only[WU,Bool.or_eq_false_iff]at d;rw[d.1,aq (by omega)];simp_all [bI]
  .obtain rfl:k=runN s:=by grind [runN]
   rw[dN (iE (by rw[bP];omega)),am (by omega)]
theorem aty {s:List UInt8} (d:s≠[]):GV s=0↔isL (s.headD 0)=false:=by
 match s,d with
 |c::v,_=>
  simp_all [GV,bz]
theorem SY {s:List UInt8} (e:s.length<4000000):YU s=a6 (decide (nl s≠0/\nl s=s.length),()):=by
 rw[YU];by_cases h0:s=[]
 .subst h0;rfl
 have f:0<s.length:=List.length_pos_iff.2 h0;obtain⟨_,_,c,g,j,p⟩:=sU s[0];have l:bY s 0=(s[0].toNat:Int):=byte_at (i:=0) f;have q:s.headD 0=s[0]:=by
  match s,h0 with
  |c::v,_=>rfl
 rw[dN (dZ (by rw[bP];omega)),cO (eu),l,g,bI];simp only;rw[j];unfold nl;cases hL:isL s[0]with
 |false=>
  simp_all [aty]
 |true=>
  have d:GV s≠0:=fun h=>by simp_all [aty]
  have o:=avU d;simp only[ax,ac];rw[aq d,show MI bQ s 1=_ from Oy e bQ 1 (dX) (by omega)];by_cases h3:runN s=s.length
  .rw[am h3,decide_eq_true ⟨o,h3⟩];rfl
  .rw[aq h3,decide_eq_false (fun h=>h3 h.2)];rfl
theorem acQ (p:UInt8->Bool): ∀(s:bZ) (k:Nat),((s.take k).takeWhile p).length=min k (s.takeWhile p).length
 |[],k=>by simp
 |c::v,0=>by simp
 |c::v,k+1=>by
  rw[List.take_succ_cons,bz,bz];split
  .rw[aG,aG,acQ p v k];omega
  .simp
theorem aAs (t:bZ) {k:Nat} (d:1<=k) (hk:k<=t.length):(nl (t.take k)≠0/\nl (t.take k)=(t.take k).length)↔k<=nl t:=by
 have hl:(t.take k).length=k:=by simp_all
 have a:=acQ isL t k;have b:=acQ WU t k;unfold nl GV runN
 grind
theorem TR {s:List UInt8} (d:s.length<4000000) {a:Nat} (f:a<=s.length): ∀(N k:Nat),s.length-a+1-k<N->1<=k->k<=s.length-a+1->
  FY N s a ((min (k-1) (nl (s.drop a)):Nat):Int) (k:Int)=a6 (.inl ((((nl (s.drop a):Nat):Int),()),()))
 |0,k,h,_,_=>by omega
 |N+1,k,h,g,l=>by
  have i:=aCy (s.drop a);rw[aP]at i;rw[FY,QP,bP,iW];by_cases e:k<=s.length-a
  .have j:sub s (a:Int) (dw .i64 (a:Int) (k:Int))=(s.drop a).take k:=by
    grind [dI,sub,List.drop_take]
   have o:=TR d f N (k+1) (by omega) (by omega) (by omega);rw[cO (mW),cO (gu (by omega) (by grind [dI]) (by grind [dI])),j,
    SY (by grind),bI,dI,show(k:Int)+1=((k+1:Nat):Int) by omega]
   have p:=aAs (s.drop a) g (by simp_all)
   grind
  .rw[dN (Dl),show min (k-1) (nl (s.drop a))=nl (s.drop a) by omega]
theorem aDr {s:List UInt8} (d:s.length<4000000) {a:Nat} (e:a<=s.length):ajN s a=a6 (((nl (s.drop a):Nat):Int),()):=by
 rw[ajN];have h:=TR d e bQ 1 (dX) (by omega) (by omega);rw[show min (1-1) (nl (s.drop a))=0 by omega]at h;rw[show FY bQ s a 0 1=_ from h,bI];rfl
def prl (s:bZ):Nat:=if nl s≠0 then nl s else match s with
 |c::_=>if isP c||isD c then 1 else 0
 |[]=>0
theorem aio (s:bZ):prl s<=s.length:=by
 unfold prl
 grind [aCy]
theorem zJ {s:List UInt8} {a:Nat} (h:a<s.length):s.drop a=s[a]::s.drop (a+1):=aA h
theorem ayq {s:List UInt8} (d:s.length<4000000) {a:Nat} (f:a<=s.length):ajF s a=a6 (((prl (s.drop a):Nat):Int),()):=by
 rw[ajF,aDr d f,bI];unfold prl;by_cases e:nl (s.drop a)=0
 .rw[cO (gq),aq (by omega)];by_cases h:a<s.length
  .obtain⟨k,hk,j,g⟩:=(sU s[a]).2.2;have i:fV s (a:Int)=true:=eu;rw[cO (fO (by rw[bP];omega)),i,byte_at h,hk,bI,g,(avz _).1,bI,e,zJ h]
   grind
  simp_all [iE,bP,aO]
 simp_all [dZ]
theorem ayp {s:List UInt8} (d:s.length<4000000) {a:Nat} (f:a<=s.length):WN s a=a6 (((prl (s.drop a):Nat):Int),()):=by
 rw[WN,aqv d f,bI];unfold prl;by_cases e:nl (s.drop a)=0
 .rw[dN (iE),aq (by omega),dN (iE)];by_cases h:a<s.length
  .rw[dN (Dl (by rw[bP];omega)),cO (eu),byte_at h,QX d f,bI];have hd:IC ((jH (s.drop a):Nat):Int) 1=if isD s[a]then 1 else 0:=by
    grind [jH,zJ,bz,IC]
   have g:=(avz s[a]).2;rw[hd,zJ h]
   grind
  simp_all [mW,bP,aO]
 .rw[cO (fO),am e]
end
section
open Bool renaming and_true → ay
open List renaming length_append → aj, length_cons → aG
open Nat renaming le_refl → ae
open Go.RowKit
abbrev kP:=Int×Int×Int×Int×Bool×Unit
abbrev GY:=Int×Int×Unit
def dP:kP:=(0,(0,(0,(0,(false,())))))
def dF:GY:=(0,(0,()))
def counts (m:Int):Int:=if m=3 then 1 else if m=11 then 9 else m
theorem ade (m:Int):WO m=some (counts m,()):=by
 unfold WO counts;simp only[gZ];by_cases h1:m=3
 .simp[h1]
 .by_cases h2:m=11<;>simp[h1,h2]
theorem F7 {e:Type} {l:List e} {d x:e} {i:Nat} (h:i<l.length):dK (iw l i x) d i=x:=by
 simp_all [dK,iw]
theorem afu {d:Type} {l:List d} {i:Nat} {x y:d}:iw (iw l i x) i y=iw l i y:=by
 simp_all [iw]
theorem ajR {d:Type} {l:List d} {i:Nat} {x:d} {k:Int}:fV (iw l i x) k=fV l k:=by
 simp_all [fV,iw]
theorem akV {d:Type} {l:List d} {i k:Nat} {x:d}:mi k (iw l i x)=mi k l:=by
 simp_all [mi,iw]
theorem ve {d:Type} {l:List d} {i:Nat} {x:d}:(iw l i x).length=l.length:=by
 simp_all [iw]
theorem adi (n:Nat):eqN n n=true:=by simp[eqN]
def Pj (L:List kP) (j:Nat) (a:Int):List kP:=iw L j ((dK L dP j).1,(dK L dP j).2.1,a,(dK L dP j).2.2.2.1,false,())
def Xc (L:List kP) (j:Nat) (m:Int):List kP:=iw L j (m,(dK L dP j).2)
theorem Gj (L:List kP) (j:Nat) (a:Int):(Pj L j a).length=L.length:=ve
theorem FZ (L:List kP) (j:Nat) (m:Int):(Xc L j m).length=L.length:=ve
def ou (F:List GY) (a:Int):Nat->List kP->List Int->List kP×List Int
 |0,L,H=>(L,H)
 |n+1,L,H=>
  if n+1<=F.length/\(F.getD n dF).2.1=(dK L dP (H.getD n 0).toNat).2.1 then(L,H)
  else ou F a n (Pj L (H.getD n 0).toNat (a+1)) (H.take n)
def Ad (F:List GY) (H:List Int):Nat->Nat->List kP->List kP
 |0,_,L=>L
 |k+1,i,L=>Ad F H k (i+1) (Xc L (H.getD i 0).toNat (counts (F.getD i dF).1))
theorem aft (F:List GY) {a:Int} (d:0<=a) (f:a<1000000) (hF:F.length<1000000): ∀(N n:Nat) (L:List kP) (H:List Int),n<N->n=H.length->n<1000000->L.length<1000000->
  (∀j∈H,0<=j/\j<L.length)->
  J9 N F a (n:Int) L H=some (.inl ((F,()),((),()),((),(ou F a n L H).1,(ou F a n L H).2,())))
 |0,n,L,H,h,_,_,_,_=>by omega
 |N+1,0,L,H,h,_,_,_,_=>by
  rfl
 |N+1,n+1,L,H,h,D,E,g,i=>by
  have G:n<H.length:=by omega
  have l:eU .i64 ((n+1:Nat):Int) 1=(n:Int):=by grind [iW]
  have o:H.getD n 0∈H:=by simp_all
  obtain⟨p,q⟩:=i _ o;have s:dK H 0 (dD (n:Int))=H.getD n 0:=rfl;have u:dJ F (0,(0,())) (n:Int)=F.getD n dF:=rfl;have v:fV L (H.getD n 0)=true:=eu p q;have hl:mi (dD (H.getD n 0)) L=true:=lT (by simp only[dD];omega);have y:fH (bM H) 0 (n:Int)=true:=gu (by omega) (by omega) (by rw[bP];omega);have z:sub H 0 (n:Int)=H.take n:=by simp[sub]
  have A:dw .i64 a 1=a+1:=dI;have B:dD (H.getD n 0)<L.length:=by simp only[dD];omega
  have iU: ∀x,dK (iw L (dD (H.getD n 0)) x) (0,(0,(0,(0,(false,()))))) (dD (H.getD n 0))=x:=fun x=>F7 B;have go:=aft F d f hF N n (Pj L (H.getD n 0).toNat (a+1)) (H.take n) (by omega) (by grind) (by omega) (by rw[Gj];exact g)
   (fun j I=>by grind [Gj])
  (rewrite [J9,QO];delta Gu vO vN jo;rw[ou])
  simp only[l,s,u,v,hl,y,z,A,ajR,akV,iU,afu,aa];rw[cO (fO),cO (eu),cO (lT (by assumption))];by_cases e:n+1<=F.length
  .rw[cO (mW (by rw[bP];omega)),cO (eu)];by_cases e2:(F.getD n dF).2.1=(dK L dP (H.getD n 0).toNat).2.1
   .rw[am ⟨e,e2⟩];exact cO (gq e2)
   .rw[aq (fun h=>e2 h.2)];exact(dN (dZ e2)).trans go
  .rw[dN (Dl (by rw[bP];omega)),aq (fun h=>e h.1)];exact go
theorem afs (F:List GY) (H:List Int) (hF:F.length<1000000) (e:H.length<1000000): ∀(k i N:Nat) (L:List kP),i+k=H.length->H.length<=F.length->L.length<1000000->(∀j∈H,0<=j/\j<L.length)->
  rO (N+k) F (bM F) (i:Int) L H=rO N F (bM F) (H.length:Int) (Ad F H k i L) H
 |0,i,N,L,h,_,_,_=>by simp_all [Ad]
 |k+1,i,N,L,h,f,g,l=>by
  have v:i<H.length:=by omega
  have o:H.getD i 0∈H:=by simp_all
  obtain⟨p,q⟩:=l _ o;have s:dK H 0 (dD (i:Int))=H.getD i 0:=rfl;have u:dJ F (0,(0,())) (i:Int)=F.getD i dF:=rfl;have d:fV L (H.getD i 0)=true:=eu p q;have hl:mi (dD (H.getD i 0)) L=true:=lT (by simp only[dD];omega);have go:=afs F H hF e k (i+1) N (Xc L (H.getD i 0).toNat (counts (F.getD i dF).1)) (by omega) f (by rw[FZ];exact g) (fun j x=>by grind [FZ])
  (rewrite [show N+(k+1)=(N+k)+1 by omega,rO,CY];delta lK lJ kG;rw[Ad,<-go])
  rw[cO (fO (by rw[bP];omega)),cO (eu),cO (fO (by rw[bP];omega)),cO (eu),cO (lT (by assumption)),ade,bI,s,d,hl];simp only[ajR,d,aa,adi,ay,u];rw[dI,show(i:Int)+1=((i+1:Nat):Int) by omega];rfl
theorem MQ (F:List GY) (H:List Int): ∀(k i:Nat) (L:List kP),(Ad F H k i L).length=L.length
 |0,_,_=>rfl
 |k+1,i,L=>by rw[Ad,MQ F H k,FZ]
theorem NF (F:List GY) (a:Int): ∀(n:Nat) (L:List kP) (H:List Int),(ou F a n L H).1.length=L.length/\(ou F a n L H).2.length<=H.length/\(∀j∈(ou F a n L H).2,j∈H)
 |0,_,H=>⟨rfl,ae _,fun _ h=>h⟩
 |n+1,L,H=>by
  rw[ou];split
  .simp
  .have h:=NF F a n (Pj L (H.getD n 0).toNat (a+1)) (H.take n)
   grind [Gj]
def ab3 (L:List kP) (H:List Int) (F:List GY) (a:Int):List kP×List Int:=
 let r:=ou F a H.length L H
 let d:=Ad F r.2 r.2.length 0 r.1
 if F.length=r.2.length then(d,r.2)
 else(d++[(counts (F.getD r.2.length dF).1,((F.getD r.2.length dF).2.1,(0,((if r.2.length=0 then-1 else r.2.getD (r.2.length-1) 0),(true,())))))],r.2++[(d.length:Int)])
theorem aKp {L:List kP} {H:List Int} {F:List GY} {t:GY} {a:Int} (o:0<=a) (p:a<1000000) (hF:F.length<1000000) (q:L.length<1000000) (s:H.length<1000000) (u: ∀j∈H,0<=j/\j<L.length)
  (v:(ou F a H.length L H).2.length<=F.length) (h2:F.length<=(ou F a H.length L H).2.length+1):
  adK L H (t::F) a=some (((ab3 L H F a).1,((ab3 L H F a).2,())),()):=by
 have J:=NF F a H.length L H;have y:sub (t::F) 1 (bM (t::F))=F:=by simp[sub,bM]
 have z:=aft F o p hF bQ H.length L H (dX) rfl s q u;unfold adK;rw[cO (gu (by omega) (by rw[bP];simp;omega) (by rw[bP];omega)),y,bP (l:=H),z,bI];simp only[dW];unfold ab3;generalize hr:ou F a H.length L H=r at*;have A: ∀j∈r.2,0<=j/\j<r.1.length:=fun j M=>by simp_all
 have N:=MQ F r.2 r.2.length 0 r.1;obtain⟨K,B⟩: ∃K,bQ=(K+2)+r.2.length:=⟨bQ-2-r.2.length,by have:=dX (n:=r.2.length+2) (by omega);omega⟩;have g:=afs F r.2 hF (by omega) r.2.length 0 (K+2) r.1 (by omega) v (by omega) A;rw[<-B]at g;rw[show(0:Int)=((0:Nat):Int) from rfl,g];by_cases e:F.length=r.2.length
 ·(rewrite [rO,CY];delta lK lJ kG;rw[dN (iE (by rw[bP];omega)),am e,bI])
 .rw[aq e];have O:r.2.length<F.length:=by omega
  generalize S:Ad F r.2 r.2.length 0 r.1=L2 at*;have D:dJ F (0,(0,())) (r.2.length:Int)=F.getD r.2.length dF:=rfl;have E: ∀x:kP,dY (bT L2 [x]) 40=true:=fun x=>by simp only[dY,bT,aj,aG,List.length_nil,decide_eq_true_eq,kZ];omega
  have G: ∀x:Int,dY (bT r.2 [x]) 8=true:=fun x=>by simp only[dY,bT,aj,aG,List.length_nil,decide_eq_true_eq,kZ];omega
  have i: ∀f d,(d.length:Int)=r.2.length+1->rO (K+1) F (bM F) (dw .i64 (r.2.length:Int) 1) f d=some (.inl ((),((),()),((),f,d,()))):=fun f d U=>by
   (rewrite [rO,CY];delta lK lJ kG;rw[dN (iE (by grind [bP,dI]))])
  (rewrite [rO,CY];delta lK lJ kG;rw[cO (fO (by rw[bP];omega)),cO (eu),dN (iE (by rw[bP];omega))])
  simp only[D,ade,bI,fJ,E,G,ay,aa,iC];by_cases e0:r.2.length=0
  .rw[dN (iE),am e0,i _ _ (by simp[bT]),bI];rfl
  .have I:eU .i64 (r.2.length:Int) 1=((r.2.length-1:Nat):Int):=by grind [iW]
   rw[cO (fO),I,cO (eu),cO (lT (by simp only[dD];omega)),aq e0,i _ _ (by simp[bT]),bI];rfl
end
section
open Go.RowKit
def oZ (s:fE):List GY:=(s.dropLast.map fun f=>(f.1,f.2,())).reverse
def Dp (s:fE):List Int:=(s.dropLast.map (·.2)).reverse
theorem rQ (s:fE):(oZ s).map (·.2.1)=Dp s:=by
 simp only[oZ,Dp,List.map_reverse,List.map_map];rfl
theorem aEx {s:fE} (d:iD s): ∃t:GY,lo s=t::oZ s:=by
 have e:s≠[]:=by rintro rfl;exact d
 grind [List.dropLast_concat_getLast,lo,oZ]
theorem ae6 (f:oH) {r:fE} (h:r≠[]):Dp (f::r)=Dp r++[f.2]:=by
 cases r with
 |nil=>exact absurd rfl h
 |cons g r=>simp[Dp]
theorem aBf (pre:fE) (f:oH) (r:fE): ∃l,Dp (pre++f::r)=Dp (f::r)++l:=by
 induction pre with
 |nil=>simp
 |cons g pre d=>
  obtain⟨l,h⟩:=d;simp_all [ae6]
def Shape (s y:fE) (at_:Int):Prop:= ∃e f r d,s=e++f::r/\(y=(d,f.2)::r\/ ∃g,y=(g,at_)::(d,f.2)::r)
theorem yj {m:Int} {f:Int×Int} {r:fE} (hr:m=0\/r≠[]) (fr:Bool) (b at_:Int):Shape (f::r) (iH m (f::r) fr b at_).1 at_:=by
 have d:Shape (f::r) (f::r) at_:=⟨[],f,r,f.1,rfl,.inl rfl⟩;have push: ∀k,Shape (f::r) ((k,at_)::f::r) at_:=fun k=>⟨[],f,r,f.1,rfl,.inr ⟨k,rfl⟩⟩;have e: ∀k,Shape (f::r) ((k,f.2)::r) at_:=fun k=>⟨[],f,r,k,rfl,.inl rfl⟩;have i:m≠0->Shape (f::r) r at_:=fun h=>by
  cases r with
  |nil=>simp_all
  |cons g r=>exact⟨[f],g,r,g.1,rfl,.inl rfl⟩
 unfold iH Ah yF;rcases nz b with rfl|rfl|rfl|rfl|rfl|rfl|rfl|rfl|rfl|rfl|rfl|⟨j,l,o,p,q,s,u,v,x,y,z⟩<;>cases fr<;>simp_all<;>
  (repeat' split)<;>first|assumption|exact push _|exact e _|(exact i (by omega))|(simp_all;done)|exact d|skip
theorem apa {pre s y:fE} {at_:Int} (h:Shape s y at_):Shape (pre++s) y at_:=by
 obtain⟨p,f,r,d,g,e⟩:=h;exact⟨pre++p,f,r,d,by simp_all,e⟩
theorem UH {a:Int} {f:Int×Int} {r y:fE} {at_:Int} (h:Shape ((a,f.2)::r) y at_):Shape (f::r) y at_:=by
 obtain⟨p,g,o,e,i,j⟩:=h;cases p with
 |nil=>
  obtain⟨l,d⟩:=List.cons.inj i;subst l d;exact⟨[],f,r,e,rfl,j⟩
 |cons q p=>
  obtain⟨l,d⟩:=List.cons.inj i;exact⟨f::p,g,o,e,by rw[d];rfl,j⟩
theorem aiA {s:fE} (d:iD s) (fr:Bool) (b at_:Int):Shape s (fB s fr b at_).1 at_:=by
 cases s with
 |nil=>cases d
 |cons f r=>
 have j: ∀k,Shape (f::r) ((k,f.2)::r) at_:=fun k=>⟨[],f,r,k,rfl,.inl rfl⟩;have l: ∀g i,r=g::i->Shape (f::r) r at_:=fun g i h=>by rw[h];exact⟨[f],g,i,g.1,rfl,.inl rfl⟩
 simp only[fB];split
 .rename_i e
  have hr:r≠[]:=nS d (by omega);cases r with
  |nil=>exact absurd rfl hr
  |cons g r=>
  split
  .exact j 3
  .split
   .split<;>exact j _
   .split
    .exact l g r rfl
    .have o:=FC d hr;refine apa (pre:=[f]) (yj ?_ fr b at_)
     grind [nS]
 .split
  .grind [nS,UH,yj]
  .split
   .rename_i e
    have hr:r≠[]:=nS d (by omega);split
    .cases r with
     |nil=>exact absurd rfl hr
     |cons g r=>exact l g r rfl
    grind [UH,yj]
   grind [yj,nS]
theorem KI {s:fE} (d:iD s) (fr:Bool) (b at_:Int): ∃c,c<=(Dp s).length/\(Dp (fB s fr b at_).1=(Dp s).take c\/Dp (fB s fr b at_).1=(Dp s).take c++[at_]):=by
 obtain⟨e,f,r,i,j,o⟩:=aiA d fr b at_;obtain⟨l,hl⟩:=aBf e f r;rw[<-j]at hl;have p:Dp ((i,f.2)::r)=Dp (f::r):=by
  cases r with
  |nil=>rfl
  |cons g r=>rfl
 refine⟨(Dp (f::r)).length,by rw[hl];simp, ?_⟩;rw[hl,List.take_left']
 .rcases o with h|⟨q,h⟩
  .simp_all
  .rw[h,ae6 _ (by simp),p];exact .inr rfl
 .rfl
end
end Go.Proofs.YtlhpdcadgbjhiaaGreatDoor
