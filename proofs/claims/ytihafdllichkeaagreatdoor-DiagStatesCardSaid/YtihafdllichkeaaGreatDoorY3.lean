/- Parts of the proof, joined and shortened by a program: the plain machine, the functions as it prints them, and the mathematics over them. -/
import Derived.ChangeArms
import Derived.WideShapes
import Derived.Test.YtihafdllichkeaaGreatDoorProg
import Derived.Shelf.Strings.Builder1
import Derived.Test.YtihafdllichkeaaGreatDoorY2
set_option linter.unusedVariables false
set_option linter.unusedSimpArgs false
set_option maxRecDepth 100000
set_option maxHeartbeats 4000000
namespace Go.Proofs.YtihafdllichkeaaGreatDoor
section
open Bool renaming and_eq_true → af, false_eq_true → aj
open List renaming mem_cons_of_mem → aA, mem_cons_self → aZ
open Nat renaming eq_of_beq_eq_true → au
open Go.RowKit
inductive FK where
 |u
 |v (t:Ty)
 |slc (id:Nat)
 |ptr (id off:Nat)
 |nils
 |slf (id:Nat)
 |yld (id:Nat)
 |nilp
 |e
 |fn (f:FuncId) (caps:List (Nat×Nat))
 |cp (t:Ty)
 |mpv (id:Nat)
 |mfn (f:FuncId) (fst:List (Nat×Nat))
def us (l:List FK) (n:Nat):List FK:=l++List.replicate n .u
def FKs.den:List FK->Ty
 |[]=>.unit
 |.v t::l=>.pair t (FKs.den l)
 |.u::l=>FKs.den l
 |.slc _::l=>FKs.den l
 |.ptr _ _::l=>FKs.den l
 |.nils::l=>FKs.den l
 |.slf _::l=>FKs.den l
 |.mpv _::l=>FKs.den l
 |.mfn _ _::l=>FKs.den l
 |.yld _::l=>FKs.den l
 |.nilp::l=>FKs.den l
 |.e::l=>FKs.den l
 |.fn _ _::l=>FKs.den l
 |.cp t::l=>.pair t (FKs.den l)
def MX:List (Nat×Nat)->List bV
 |[]=>[]
 |(i,o)::l=>.ptr i o::MX l
def U2:(l:List FK)->(FKs.den l).den->List bV
 |[],_=>[]
 |.v t::l,y=>.val t y.1::U2 l y.2
 |.u::l,y=>.undef::U2 l y
 |.slc id::l,y=>.slc id 0 none::U2 l y
 |.ptr id off::l,y=>.ptr id off::U2 l y
 |.nils::l,y=>.nils::U2 l y
 |.slf id::l,y=>.slf id::U2 l y
 |.mpv id::l,y=>.mpv id::U2 l y
 |.mfn f c::l,y=>.mfn f (MX c)::U2 l y
 |.yld id::l,y=>.yld id::U2 l y
 |.nilp::l,y=>.nilp::U2 l y
 |.e::l,y=>.tup []::U2 l y
 |.fn f caps::l,y=>.fn f (MX caps)::U2 l y
 |.cp t::l,y=>.cellp t y.1::U2 l y.2
def alk (t:Ty):bV->Option t.den
 |.val t' x=>kF t x
 |_=>none
def awY (t:Ty):bV->Option t.den
 |.cellp t' x=>kF t x
 |_=>none
def isU:bV->Bool
 |.undef=>true
 |_=>false
def isNils:bV->Bool
 |.nils=>true
 |_=>false
def Yc:bV->Bool
 |.nilp=>true
 |_=>false
def isE:bV->Bool
 |.tup l=>l.isEmpty
 |_=>false
def aiL (id:Nat):bV->Bool
 |.slf i=>Nat.beq i id
 |_=>false
def aiK (id:Nat):bV->Bool
 |.mpv i=>Nat.beq i id
 |_=>false
def aiM (id:Nat):bV->Bool
 |.yld i=>Nat.beq i id
 |_=>false
def ac6 (id:Nat):bV->Bool
 |.slc i v w=>Nat.beq i id&&(Nat.beq v 0&&(match w with|none=>true|some _=>false))
 |_=>false
def isPtr (id off:Nat):bV->Bool
 |.ptr i o=>Nat.beq i id&&Nat.beq o off
 |_=>false
def Io:List (Nat×Nat)->List bV->Bool
 |[],[]=>true
 |(i,o)::c,v::l=>isPtr i o v&&Io c l
 |_,_=>false
def asF (f:FuncId) (c:List (Nat×Nat)):bV->Bool
 |.fn g l=>Nat.beq g f&&Io c l
 |_=>false
def ac3 (f:FuncId) (c:List (Nat×Nat)):bV->Bool
 |.mfn g l=>Nat.beq g f&&Io c l
 |_=>false
theorem ahF {t:Ty} {v:bV} {x:t.den} (h:alk t v=some x):v=.val t x:=by
 cases v with
 |val t' z=>
  simp only[alk]at h;have e:=iM h;subst e;rw[gW]at h;cases h;rfl
 |_=>simp[alk]at h
theorem alz {t:Ty} {v:bV} {x:t.den} (h:awY t v=some x):v=.cellp t x:=by
 cases v with
 |cellp t' z=>
  simp only[awY]at h;have e:=iM h;subst e;rw[gW]at h;cases h;rfl
 |_=>simp[awY]at h
theorem asG {v:bV} (h:isU v=true):v=.undef:=by cases v<;>first|rfl|(simp[isU]at h)
theorem ac5 {v:bV} (h:isNils v=true):v=.nils:=by cases v<;>first|rfl|(simp[isNils]at h)
theorem D5: ∀{c:List (Nat×Nat)} {l:List bV},Io c l=true->l=MX c
 |[],[],_=>rfl
 |(i,o)::c,v::l,h=>by
  simp only[Io,af]at h;have h1:v=.ptr i o:=by
   have:=h.1;cases v<;>simp only[isPtr,aj]at this;simp only[af]at this;rw[au this.1,au this.2]
  rw[h1,D5 h.2];rfl
 |[],_::_,h=>by simp[Io]at h
 |_::_,[],h=>by simp[Io]at h
theorem aof {f:FuncId} {c:List (Nat×Nat)} {v:bV} (h:asF f c v=true):v=.fn f (MX c):=by
 cases v with
 |fn g l=>
  simp only[asF,af]at h;rw[au h.1,D5 h.2]
 |_=>simp[asF]at h
theorem af4 {f:FuncId} {c:List (Nat×Nat)} {v:bV} (h:ac3 f c v=true):v=.mfn f (MX c):=by
 cases v with
 |mfn g l=>
  simp only[ac3,af]at h;rw[au h.1,D5 h.2]
 |_=>simp[ac3]at h
theorem ac4 {v:bV} (h:Yc v=true):v=.nilp:=by cases v<;>first|rfl|(simp[Yc]at h)
theorem asE {v:bV} (h:isE v=true):v=.tup []:=by
 cases v with
 |tup l=>cases l with
  |nil=>rfl
  |cons=>simp[isE]at h
 |_=>simp[isE]at h
theorem af8 {id:Nat} {v:bV} (h:aiL id v=true):v=.slf id:=by
 cases v with
 |slf i=>rw[au h]
 |_=>simp[aiL]at h
theorem af5 {id:Nat} {v:bV} (h:aiK id v=true):v=.mpv id:=by
 cases v with
 |mpv i=>rw[au h]
 |_=>simp[aiK]at h
theorem af9 {id:Nat} {v:bV} (h:aiM id v=true):v=.yld id:=by
 cases v with
 |yld i=>rw[au h]
 |_=>simp[aiM]at h
theorem af6 {id:Nat} {v:bV} (h:ac6 id v=true):v=.slc id 0 none:=by
 cases v with
 |slc i k w=>
  simp only[ac6,af]at h;obtain rfl:i=id:=au h.1;obtain rfl:k=0:=au h.2.1;cases w with
  |none=>rfl
  |some _=>simp at h
 |_=>simp[ac6]at h
theorem af7 {id off:Nat} {v:bV} (h:isPtr id off v=true):v=.ptr id off:=by
 cases v with
 |ptr i o=>
  simp only[isPtr,af]at h;rw[au h.1,au h.2]
 |_=>simp[isPtr]at h
def kU:(l:List FK)->List bV->Option (FKs.den l).den
 |[],fr=>match fr with
  |[]=>some ()
  |_=>none
 |.v t::l,fr=>match fr with
  |v::fr=>match alk t v,kU l fr with
   |some x,some y=>some (x,y)
   |_,_=>none
  |[]=>none
 |.u::l,fr=>match fr with
  |v::fr=>bif isU v then kU l fr else none
  |[]=>none
 |.slc id::l,fr=>match fr with
  |v::fr=>bif ac6 id v then kU l fr else none
  |[]=>none
 |.ptr id off::l,fr=>match fr with
  |v::fr=>bif isPtr id off v then kU l fr else none
  |[]=>none
 |.nils::l,fr=>match fr with
  |v::fr=>bif isNils v then kU l fr else none
  |[]=>none
 |.nilp::l,fr=>match fr with
  |v::fr=>bif Yc v then kU l fr else none
  |[]=>none
 |.e::l,fr=>match fr with
  |v::fr=>bif isE v then kU l fr else none
  |[]=>none
 |.fn f c::l,fr=>match fr with
  |v::fr=>bif asF f c v then kU l fr else none
  |[]=>none
 |.mfn f c::l,fr=>match fr with
  |v::fr=>bif ac3 f c v then kU l fr else none
  |[]=>none
 |.slf id::l,fr=>match fr with
  |v::fr=>bif aiL id v then kU l fr else none
  |[]=>none
 |.mpv id::l,fr=>match fr with
  |v::fr=>bif aiK id v then kU l fr else none
  |[]=>none
 |.yld id::l,fr=>match fr with
  |v::fr=>bif aiM id v then kU l fr else none
  |[]=>none
 |.cp t::l,fr=>match fr with
  |v::fr=>match awY t v,kU l fr with
   |some x,some y=>some (x,y)
   |_,_=>none
  |[]=>none
theorem ja: ∀(l:List FK) (fr:List bV) (y:(FKs.den l).den),kU l fr=some y->fr=U2 l y
 |[],fr,y,h=>by
  simp only[kU]at h;split at h
  ·rfl
  ·cases h
 |.v t::l,fr,y,h=>by
  simp only[kU]at h;split at h
  ·split at h
   ·rename_i x y' hx hy
    cases h;rw[ahF hx,ja l _ y' hy];rfl
   ·cases h
  ·cases h
 |.u::l,fr,y,h=>by
  simp only[kU]at h;split at h
  ·rename_i v fr
   obtain⟨hu,h⟩:isU v=true/\kU l fr=some y:=dJ h;rw[asG hu,ja l fr y h];rfl
  ·cases h
 |.slc id::l,fr,y,h=>by
  simp only[kU]at h;split at h
  ·rename_i v fr
   obtain⟨hu,h⟩:ac6 id v=true/\kU l fr=some y:=dJ h;rw[af6 hu,ja l fr y h];rfl
  ·cases h
 |.ptr id off::l,fr,y,h=>by
  simp only[kU]at h;split at h
  ·rename_i v fr
   obtain⟨hu,h⟩:isPtr id off v=true/\kU l fr=some y:=dJ h;rw[af7 hu,ja l fr y h];rfl
  ·cases h
 |.nils::l,fr,y,h=>by
  simp only[kU]at h;split at h
  ·rename_i v fr
   obtain⟨hu,h⟩:isNils v=true/\kU l fr=some y:=dJ h;rw[ac5 hu,ja l fr y h];rfl
  ·cases h
 |.nilp::l,fr,y,h=>by
  simp only[kU]at h;split at h
  ·rename_i v fr
   obtain⟨hu,h⟩:Yc v=true/\kU l fr=some y:=dJ h;rw[ac4 hu,ja l fr y h];rfl
  ·cases h
 |.e::l,fr,y,h=>by
  simp only[kU]at h;split at h
  ·rename_i v fr
   obtain⟨hu,h⟩:isE v=true/\kU l fr=some y:=dJ h;rw[asE hu,ja l fr y h];rfl
  ·cases h
 |.fn f c::l,fr,y,h=>by
  simp only[kU]at h;split at h
  ·rename_i v fr
   obtain⟨hu,h⟩:asF f c v=true/\kU l fr=some y:=dJ h;rw[aof hu,ja l fr y h];rfl
  ·cases h
 |.mfn f c::l,fr,y,h=>by
  simp only[kU]at h;split at h
  ·rename_i v fr
   obtain⟨hu,h⟩:ac3 f c v=true/\kU l fr=some y:=dJ h;rw[af4 hu,ja l fr y h];rfl
  ·cases h
 |.slf id::l,fr,y,h=>by
  simp only[kU]at h;split at h
  ·rename_i v fr
   obtain⟨hu,h⟩:aiL id v=true/\kU l fr=some y:=dJ h;rw[af8 hu,ja l fr y h];rfl
  ·cases h
 |.mpv id::l,fr,y,h=>by
  simp only[kU]at h;split at h
  ·rename_i v fr
   obtain⟨hu,h⟩:aiK id v=true/\kU l fr=some y:=dJ h;rw[af5 hu,ja l fr y h];rfl
  ·cases h
 |.yld id::l,fr,y,h=>by
  simp only[kU]at h;split at h
  ·rename_i v fr
   obtain⟨hu,h⟩:aiM id v=true/\kU l fr=some y:=dJ h;rw[af9 hu,ja l fr y h];rfl
  ·cases h
 |.cp t::l,fr,y,h=>by
  simp only[kU]at h;split at h
  ·split at h
   ·rename_i x y' hx hy
    cases h;rw[alz hx,ja l _ y' hy];rfl
   ·cases h
  ·cases h
noncomputable def rfA (f:FuncId) (k:Nat):Code:=match rC f k with
 |some (a,_)=>a
 |none=>.skip
noncomputable def rfB (f:FuncId) (k:Nat):Code:=match rC f k with
 |some (_,b)=>b
 |none=>.skip
inductive HK where
 |arr (id:Nat) (e:Ty)
 |box (id:Nat) (t:TypeId) (cs:List FK)
 |mp (id:Nat) (kk vk:IntKind)
 |lp (id:Nat) (f:FuncId) (fr:List FK) (ps:List Nat) (key:Nat) (n:Nat) (p:Option Ex)
def HKs.den:List HK->Ty
 |[]=>.unit
 |.arr _ e::l=>.pair (.list e) (HKs.den l)
 |.mp _ kk vk::l=>.pair (.list (.pair (.int kk) (.int vk))) (HKs.den l)
 |.box _ _ cs::l=>.pair (FKs.den cs) (HKs.den l)
 |.lp _ _ fr _ _ _ _::l=>.pair (FKs.den fr) (HKs.den l)
noncomputable def mkH:(l:List HK)->(HKs.den l).den->gZ
 |[],_=>[]
 |.arr id e::l,y=>(id,.arr e 0 y.1)::mkH l y.2
 |.mp id kk vk::l,y=>(id,.mp kk vk y.1)::mkH l y.2
 |.box id t cs::l,y=>(id,.box t (U2 cs y.1))::mkH l y.2
 |.lp id f fr ps key n p::l,y=>(id,.lp f (U2 fr y.1) ps (rfA f key) (rfB f key) (some key) n p)::mkH l y.2
def ahH (e:Ty):dN->Option (List e.den)
 |.arr e' v xs=>bif Nat.beq v 0 then kF (.list e) (t':=.list e') xs else none
 |_=>none
def ayQ (kk vk:IntKind):dN->Option (List (Int×Int))
 |.mp k v es=>bif decide (k=kk)&&decide (v=vk)then some es else none
 |_=>none
theorem aop {kk vk:IntKind} {o:dN} {x:List (Int×Int)} (h:ayQ kk vk o=some x):o=.mp kk vk x:=by
 cases o with
 |mp k v es=>
  simp only[ayQ]at h;replace h:=dJ h;obtain⟨h1,h⟩:=h;simp only[af,decide_eq_true_eq]at h1;obtain⟨rfl,rfl⟩:=h1;cases h;rfl
 |_=>simp[ayQ]at h
def ahL (t:TypeId) (cs:List FK):dN->Option (FKs.den cs).den
 |.box t' l=>bif Nat.beq t' t then kU cs l else none
 |_=>none
def aDa:Ex->Ex->Bool
 |.normal,.normal=>true
 |.exit i,.exit j=>Nat.beq i j
 |.goto i,.goto j=>Nat.beq i j
 |.ret,.ret=>true
 |_,_=>false
def aux:Option Ex->Option Ex->Bool
 |none,none=>true
 |some a,some b=>aDa a b
 |_,_=>false
def MM:List Nat->List Nat->Bool
 |[],[]=>true
 |a::l,b::m=>Nat.beq a b&&MM l m
 |_,_=>false
theorem an1 {a b:Ex} (h:aDa a b=true):a=b:=by
 cases a<;>cases b<;>simp only[aDa,aj]at h<;>first|rfl|rw[au h]
theorem ag4 {a b:Option Ex} (h:aux a b=true):a=b:=by
 cases a<;>cases b<;>simp only[aux,aj]at h<;>first|rfl|rw[an1 h]
theorem Ou: ∀{l m:List Nat},MM l m=true->l=m
 |[],[],_=>rfl
 |a::l,b::m,h=>by
  simp only[MM,af]at h;rw[au h.1,Ou h.2]
 |[],_::_,h=>by simp[MM]at h
 |_::_,[],h=>by simp[MM]at h
def atJ (f:FuncId) (fr:List FK) (ps:List Nat) (key n:Nat) (p:Option Ex):dN->Option (FKs.den fr).den
 |.lp f' fr' ps' _ _ (some k') n' p'=>bif Nat.beq f' f&&(MM ps' ps&&(Nat.beq k' key&&(Nat.beq n' n&&aux p' p)))then kU fr fr' else none
 |_=>none
theorem ae6 {e:Ty} {o:dN} {x:List e.den} (h:ahH e o=some x):o=.arr e 0 x:=by
 cases o with
 |arr e' v xs=>
  simp only[ahH]at h;rw[cond_eq_ite]at h;split at h
  ·rename_i hv
   obtain rfl:v=0:=au hv;have ee:=iM h;cases ee;rw[gW]at h;cases h;rfl
  ·cases h
 |_=>simp[ahH]at h
theorem afb {t:TypeId} {cs:List FK} {o:dN} {x:(FKs.den cs).den} (h:ahL t cs o=some x):o=.box t (U2 cs x):=by
 cases o with
 |box t' l=>
  simp only[ahL]at h;obtain⟨h1,h⟩:=dJ h;rw[ja cs l x h,au h1]
 |_=>simp[ahL]at h
theorem aon {f:FuncId} {fr:List FK} {ps:List Nat} {key n:Nat} {p:Option Ex} {o:dN} {x:(FKs.den fr).den} (hw:WfO o) (h:atJ f fr ps key n p o=some x):o=.lp f (U2 fr x) ps (rfA f key) (rfB f key) (some key) n p:=by
 cases o with
 |lp f' fr' ps' jC bd ky n' p'=>
  cases ky with
  |none=>simp[atJ]at h
  |some k'=>
   simp only[atJ]at h;replace h:=dJ h;obtain⟨hc,h⟩:=h;simp only[af]at hc;obtain⟨h1,h2,h3,h4,h5⟩:=hc;have h1:=au h1;have h2:=Ou h2;have h3:=au h3;have h4:=au h4;have h5:=ag4 h5;subst h1 h2 h3 h4 h5;have hw':rC f' k'=some (jC,bd):=hw;have hA:rfA f' k'=jC:=by unfold rfA;rw[hw']
   have hB:rfB f' k'=bd:=by unfold rfB;rw[hw']
   rw[ja fr fr' x h,hA,hB]
 |_=>simp[atJ]at h
def OX:(l:List HK)->gZ->Option (HKs.den l).den
 |[],hp=>match hp with
  |[]=>some ()
  |_=>none
 |.arr id e::l,hp=>match hp with
  |(j,o)::hp=>bif Nat.beq j id then(match ahH e o,OX l hp with
   |some x,some y=>some (x,y)
   |_,_=>none)else none
  |[]=>none
 |.mp id kk vk::l,hp=>match hp with
  |(j,o)::hp=>bif Nat.beq j id then(match ayQ kk vk o,OX l hp with
   |some x,some y=>some (x,y)
   |_,_=>none)else none
  |[]=>none
 |.box id t cs::l,hp=>match hp with
  |(j,o)::hp=>bif Nat.beq j id then(match ahL t cs o,OX l hp with
   |some x,some y=>some (x,y)
   |_,_=>none)else none
  |[]=>none
 |.lp id f fr ps key n p::l,hp=>match hp with
  |(j,o)::hp=>bif Nat.beq j id then(match atJ f fr ps key n p o,OX l hp with
   |some x,some y=>some (x,y)
   |_,_=>none)else none
  |[]=>none
theorem wF: ∀(l:List HK) (hp:gZ) (y:(HKs.den l).den),(∀e∈hp,WfO e.2)->OX l hp=some y->hp=mkH l y
 |[],hp,y,_,h=>by
  simp only[OX]at h;split at h
  ·rfl
  ·cases h
 |.arr id e::l,hp,y,hw,h=>by
  simp only[OX]at h;split at h
  ·rw[cond_eq_ite]at h;split at h
   ·rename_i hb
    split at h
    ·rename_i x y' hx hy
     cases h;rw[ae6 hx,wF l _ y' (fun e he=>hw e (aA _ he)) hy,au hb];rfl
    ·cases h
   ·cases h
  ·cases h
 |.mp id kk vk::l,hp,y,hw,h=>by
  simp only[OX]at h;split at h
  ·rw[cond_eq_ite]at h;split at h
   ·rename_i hb
    split at h
    ·rename_i x y' hx hy
     cases h;rw[aop hx,wF l _ y' (fun e he=>hw e (aA _ he)) hy,au hb];rfl
    ·cases h
   ·cases h
  ·cases h
 |.box id t cs::l,hp,y,hw,h=>by
  simp only[OX]at h;split at h
  ·rw[cond_eq_ite]at h;split at h
   ·rename_i hb
    split at h
    ·rename_i x y' hx hy
     cases h;rw[afb hx,wF l _ y' (fun e he=>hw e (aA _ he)) hy,au hb];rfl
    ·cases h
   ·cases h
  ·cases h
 |.lp id f fr ps key n p::l,hp,y,hw,h=>by
  simp only[OX]at h;split at h
  ·rw[cond_eq_ite]at h;split at h
   ·rename_i hb
    split at h
    ·rename_i x y' hx hy
     cases h;have hw0:=hw _ aZ;dsimp only at hw0;rw[aon hw0 hx,wF l _ y' (fun e he=>hw e (aA _ he)) hy,au hb];rfl
    ·cases h
   ·cases h
  ·cases h
structure SP where
 fr:List FK
 hp:List HK
def SP.den (p:SP):Type:=(FKs.den p.fr).den×(HKs.den p.hp).den
noncomputable def lF (p:SP) (y:p.den):St:=⟨U2 p.fr y.1,[[]],mkH p.hp y.2,0⟩
def asz (p:SP) (st:St):Option p.den:=
 match st.stk,st.nxt with
 |[[]],0=>match kU p.fr st.fr,OX p.hp st.hp with
  |some x,some y=>bif tH st.hp then some (x,y)else none
  |_,_=>none
 |_,_=>none
theorem RJ {p:SP} {st:St} {y:p.den} (hw:WfH st.hp) (h:asz p st=some y):st=lF p y:=by
 obtain⟨fr,stk,hp,nxt⟩:=st;unfold asz at h;split at h
 ·rename_i h1 h2
  subst h1 h2;split at h
  ·rename_i x y' hx hy
   replace h:=dJ h;obtain⟨hn,h⟩:=h;cases h;have e1:=ja _ _ _ hx;have e2:=wF _ _ _ (NM _ hn hw) hy;simp only[lF];rw[<-e1,<-e2]
  ·cases h
 ·cases h
def AO {R:Type} (E:Env) (d:Nat) (f:FuncId) (c:Code):St->(Ex->St->Option R)->Option R:=run (E.at d) (exec E d) (VE E d) f c
noncomputable def gQ (k:dZ) (l la lb:SP) (ex:Ex) (sp:l.den->Option (la.den⊕lb.den)) (dep:Nat:=0) (exb:Ex:=.ret):dI:={
 V:=l.den
 A:=fun _=>la.den
 B:=fun _=>lb.den
 get:=fun st=>match LC k.slots k.owns st with
  |some st=>asz l st
  |none=>none
 spec:=sp
 exA:=fun _=>ex
 stA:=fun _ _ a=>lF la a
 stB:=fun _ _ b=>lF lb b
 dep:=dep
 exB:=fun _=>exb}
theorem aol {E:Env} {f:FuncId} {c:Code} {k:dZ} {l la lb:SP} {ex:Ex} {sp:l.den->Option (la.den⊕lb.den)} {dep:Nat} {exb:Ex} (hk:E.kp f (dH c)=some k)
  (h: ∀(R:Type) (d:Nat) (K:Ex->St->Option R) (v:l.den) o,sp v=some o->
   ∃m,iter (some k) (AO E (d+dep) f c) m (lF l v) K=dV o (fun a=>K ex (lF la a)) fun b=>K exb (lF lb b)):dX E f c (gQ k l la lb ex sp dep exb):=by
 intro R d r st v K hwf hg hr;simp only[gQ]at hg;split at hg
 ·rename_i st1 ht
  have e:=RJ (hwf _ _ _ ht) hg;subst e;simp only[gQ]at hr;cases ho:sp v with
  |none=>rw[ho]at hr;cases hr
  |some o=>
   rw[ho]at hr;obtain⟨m,hm⟩:=h R d K v o ho;have hk2:(E.at (d+(gQ k l la lb ex sp dep exb).dep)).kp f (dH c)=some k:=hk;refine⟨m,lF l v,by rw[hk2];exact ht, ?_⟩;rw[hk2];exact hm.trans hr
 ·cases hg
theorem Ji {E:Env} {f:FuncId} {c:Code} {k:dZ} {l la lb:SP} {ex:Ex} {sp:l.den->Option (la.den⊕lb.den)} {dep:Nat} {exb:Ex} (hk:E.kp f (800000+dH c)=some k)
  (h: ∀(R:Type) (d:Nat) (K:Ex->St->Option R) (v:l.den) o,sp v=some o->
   ∃m,iter (some k) (Dz (AO E (d+dep) f c)) m (lF l v) K=dV o (fun a=>K ex (lF la a)) fun b=>K exb (lF lb b)):zM E f c (gQ k l la lb ex sp dep exb):=by
 intro R d r st v K hwf hg hr;simp only[gQ]at hg;split at hg
 ·rename_i st1 ht
  have e:=RJ (hwf _ _ _ ht) hg;subst e;simp only[gQ]at hr;cases ho:sp v with
  |none=>rw[ho]at hr;cases hr
  |some o=>
   rw[ho]at hr;obtain⟨m,hm⟩:=h R d K v o ho;have hk2:(E.at (d+(gQ k l la lb ex sp dep exb).dep)).kp f (800000+dH c)=some k:=hk;refine⟨m,lF l v,by rw[hk2];exact ht, ?_⟩;rw[hk2];exact hm.trans hr
 ·cases hg
def FKss.den:List (List FK)->Type
 |[]=>Unit
 |l::ls=>(FKs.den l).den×FKss.den ls
def mkK:(l:List (List FK))->FKss.den l->List (List bV)
 |[],_=>[]
 |l::ls,y=>U2 l y.1::mkK ls y.2
def asy:(l:List (List FK))->List (List bV)->Option (FKss.den l)
 |[],st=>match st with
  |[]=>some ()
  |_=>none
 |l::ls,st=>match st with
  |fr::st=>match kU l fr,asy ls st with
   |some x,some y=>some (x,y)
   |_,_=>none
  |[]=>none
theorem VR: ∀(l:List (List FK)) (st:List (List bV)) (y:FKss.den l),asy l st=some y->st=mkK l y
 |[],st,y,h=>by
  simp only[asy]at h;split at h
  ·rfl
  ·cases h
 |l::ls,st,y,h=>by
  simp only[asy]at h;split at h
  ·split at h
   ·rename_i x y' hx hy
    cases h;rw[ja _ _ _ hx,VR ls _ y' hy];rfl
   ·cases h
  ·cases h
structure SQ where
 fr:List FK
 stk:List (List FK)
 hp:List HK
def SQ.den (p:SQ):Type:=(FKs.den p.fr).den×(FKss.den p.stk×(HKs.den p.hp).den)
noncomputable def mZ (p:SQ) (y:p.den):St:=⟨U2 p.fr y.1,mkK p.stk y.2.1,mkH p.hp y.2.2,0⟩
def af1 (p:SQ) (st:St):Option p.den:=
 match st.nxt with
 |0=>match kU p.fr st.fr,asy p.stk st.stk,OX p.hp st.hp with
  |some x,some k,some y=>bif tH st.hp then some (x,k,y)else none
  |_,_,_=>none
 |_=>none
theorem N9 {p:SQ} {st:St} {y:p.den} (hw:WfH st.hp) (h:af1 p st=some y):st=mZ p y:=by
 obtain⟨fr,stk,hp,nxt⟩:=st;unfold af1 at h;split at h
 ·rename_i h2
  subst h2;split at h
  ·rename_i x k y' hx hk hy
   replace h:=dJ h;obtain⟨hn,h⟩:=h;cases h;have e1:=ja _ _ _ hx;have e2:=wF _ _ _ (NM _ hn hw) hy;have e3:=VR _ _ _ hk;simp only[mZ];rw[<-e1,<-e2,<-e3]
  ·cases h
 ·cases h
noncomputable def fU (k:dZ) (l la lb:SQ) (ex:Ex) (sp:l.den->Option (la.den⊕lb.den)) (dep:Nat:=0) (exb:Ex:=.ret):dI:={
 V:=l.den
 A:=fun _=>la.den
 B:=fun _=>lb.den
 get:=fun st=>match LC k.slots k.owns st with
  |some st=>af1 l st
  |none=>none
 spec:=sp
 exA:=fun _=>ex
 stA:=fun _ _ a=>mZ la a
 stB:=fun _ _ b=>mZ lb b
 dep:=dep
 exB:=fun _=>exb}
theorem agx {E:Env} {f:FuncId} {c:Code} {k:dZ} {l la lb:SQ} {ex:Ex} {sp:l.den->Option (la.den⊕lb.den)} {dep:Nat} {exb:Ex} (hk:E.kp f (dH c)=some k)
  (h: ∀(R:Type) (d:Nat) (K:Ex->St->Option R) (v:l.den) o,sp v=some o->
   ∃m,iter (some k) (AO E (d+dep) f c) m (mZ l v) K=dV o (fun a=>K ex (mZ la a)) fun b=>K exb (mZ lb b)):dX E f c (fU k l la lb ex sp dep exb):=by
 intro R d r st v K hwf hg hr;simp only[fU]at hg;split at hg
 ·rename_i st1 ht
  have e:=N9 (hwf _ _ _ ht) hg;subst e;simp only[fU]at hr;cases ho:sp v with
  |none=>rw[ho]at hr;cases hr
  |some o=>
   rw[ho]at hr;obtain⟨m,hm⟩:=h R d K v o ho;have hk2:(E.at (d+(fU k l la lb ex sp dep exb).dep)).kp f (dH c)=some k:=hk;refine⟨m,mZ l v,by rw[hk2];exact ht, ?_⟩;rw[hk2];exact hm.trans hr
 ·cases hg
theorem alA {E:Env} {f:FuncId} {c:Code} {k:dZ} {l la lb:SQ} {ex:Ex} {sp:l.den->Option (la.den⊕lb.den)} {dep:Nat} {exb:Ex} (hk:E.kp f (800000+dH c)=some k)
  (h: ∀(R:Type) (d:Nat) (K:Ex->St->Option R) (v:l.den) o,sp v=some o->
   ∃m,iter (some k) (Dz (AO E (d+dep) f c)) m (mZ l v) K=dV o (fun a=>K ex (mZ la a)) fun b=>K exb (mZ lb b)):zM E f c (fU k l la lb ex sp dep exb):=by
 intro R d r st v K hwf hg hr;simp only[fU]at hg;split at hg
 ·rename_i st1 ht
  have e:=N9 (hwf _ _ _ ht) hg;subst e;simp only[fU]at hr;cases ho:sp v with
  |none=>rw[ho]at hr;cases hr
  |some o=>
   rw[ho]at hr;obtain⟨m,hm⟩:=h R d K v o ho;have hk2:(E.at (d+(fU k l la lb ex sp dep exb).dep)).kp f (800000+dH c)=some k:=hk;refine⟨m,mZ l v,by rw[hk2];exact ht, ?_⟩;rw[hk2];exact hm.trans hr
 ·cases hg
def nJ (L M:dI):dI:={
 V:=L.V⊕M.V
 A:=fun v=>match v with|.inl v=>L.A v|.inr v=>M.A v
 B:=fun v=>match v with|.inl v=>L.B v|.inr v=>M.B v
 get:=fun st=>match L.get st with
  |some v=>some (.inl v)
  |none=>match M.get st with
   |some v=>some (.inr v)
   |none=>none
 spec:=fun v=>match v with|.inl v=>L.spec v|.inr v=>M.spec v
 exA:=fun v=>match v with|.inl v=>L.exA v|.inr v=>M.exA v
 stA:=fun st v=>match v with|.inl v=>L.stA st v|.inr v=>M.stA st v
 stB:=fun st v=>match v with|.inl v=>L.stB st v|.inr v=>M.stB st v
 dep:=L.dep+M.dep
 exB:=fun v=>match v with|.inl v=>L.exB v|.inr v=>M.exB v}
theorem rX {E:Env} {f:FuncId} {c:Code} {L M:dI} (h1:dX E f c L) (h2:dX E f c M):dX E f c (nJ L M):=fun R m r st v K hwf hg hr=>by
 simp only[nJ]at hg;split at hg
 ·rename_i v1 hv
  cases hg;have e:m+(nJ L M).dep=(m+M.dep)+L.dep:=by show m+(L.dep+M.dep)=_;omega
  rw[e];exact h1 R _ r st v1 K hwf hv hr
 ·split at hg
  ·rename_i v1 hv
   cases hg;have e:m+(nJ L M).dep=(m+L.dep)+M.dep:=by show m+(L.dep+M.dep)=_;omega
   rw[e];exact h2 R _ r st v1 K hwf hv hr
  ·cases hg
end
section
open Bool renaming false_and → bz
open List renaming mem_cons_of_mem → aA, mem_cons_self → aZ
open Nat renaming eq_of_beq_eq_true → au
open Go.RowKit
def auX:List (FuncId×Sum)->FuncId->Option Sum
 |[],_=>none
 |e::l,g=>bif Nat.beq g e.1 then some e.2 else auX l g
theorem aa9 {P:Program}: ∀(l:List (FuncId×Sum)),(∀e∈l,dY P e.1 e.2)-> ∀g s,auX l g=some s->dY P g s
 |[],_,g,s,h=>by cases h
 |e::l,hl,g,s,h=>by
  simp only[auX]at h;rw[cond_eq_ite]at h;split at h
  ·simp_all
  ·exact aa9 l (fun e he=>hl e (aA _ he)) g s h
def aKm (f:FuncId) (l:List (Nat×dZ)) (g:FuncId) (id:Nat):Option dZ:=
 bif Nat.beq g f then(l.find? fun e=>Nat.beq id e.1).map (·.2)else none
def aEh (f:FuncId) (l:List (Nat×dI)) (g:FuncId) (id:Nat):Option dI:=
 bif Nat.beq g f then(match l.find? fun e=>Nat.beq id e.1 with|some e=>some e.2|none=>none)else none
theorem agA {f g:FuncId} (l:List (Nat×dI)) (h:g≠f) (id:Nat):aEh f l g id=none:=by
 grind [au,aEh]
def aFH:FuncId:=143
def JG (g:FuncId):Bool:=Nat.beq g aFH&& !Nat.beq aFH 1000000
def auT:List (FuncId×gX)->FuncId->Option gX
 |[],_=>none
 |e::l,g=>bif Nat.beq g e.1 then some e.2 else auT l g
theorem aa6 {P:Program}: ∀(l:List (FuncId×gX)),(∀e∈l,eF P e.1 e.2)-> ∀g s,auT l g=some s->eF P g s
 |[],_,g,s,h=>by cases h
 |e::l,hl,g,s,h=>by
  simp only[auT]at h;cases hb:Nat.beq g e.1 with
  |true=>
   simp_all
  |false=>
   rw[hb]at h;exact aa6 l (fun e he=>hl e (aA _ he)) g s h
def gp (P:Program) (T:TT) (f:FuncId) (sg:List (FuncId×Sum)) (kp:List (Nat×dZ)) (lp:List (Nat×dI)) (sb:List (FuncId×gX):=[]):Env:=
 {P:=P,T:=T,cl:=false,kp:=aKm f kp,sg:=auX sg,lp:=aEh f lp,bf:=JG,sb:=auT sb}
theorem arG {P:Program} {T:TT} (hT:TOk P T) (hm:P.follows .mixedOrders=true) (hng:Ja P) {f:FuncId} {sg:List (FuncId×Sum)} {kp:List (Nat×dZ)} {lp:List (Nat×dI)} {sb:List (FuncId×gX)}
  (hs: ∀e∈sg,dY P e.1 e.2) {fn:Func} {c:Code} (hf:P.funcs[f]? =some fn) (hb:fn.body=some c) (hl:dU (gp P T f sg kp lp sb) f c) (hrf: ∀E,sV P E->ae3 E) (hB: ∀g,JG g=true->Bo P g) (hx: ∀e∈sb,eF P e.1 e.2:=by simp):dK (gp P T f sg kp lp sb):=by
 have hL:sV P (gp P T f sg kp lp sb):= ?_;exact⟨hT,hm,hng,aa9 sg hs,hL,hrf _ hL,hB,aa6 sb hx⟩;intro g fn' c' h1 h2;by_cases e:g=f
 ·simp_all
 ·exact jU (fun id=>agA lp e id) (fun _=>rfl) c'
def aF4 (l:List (FuncId×Nat×dZ)) (g:FuncId) (id:Nat):Option dZ:=match l.find? fun e=>Nat.beq g e.1&&Nat.beq id e.2.1 with
 |some e=>some e.2.2
 |none=>none
def aiV:List (FuncId×Nat×dI)->FuncId->Nat->Option dI
 |[],_,_=>none
 |e::l,g,id=>bif Nat.beq g e.1&&Nat.beq id e.2.1 then some e.2.2 else aiV l g id
theorem SC: ∀(l:List (FuncId×Nat×dI)) (g:FuncId),(∀e∈l,e.1≠g)-> ∀id,aiV l g id=none
 |[],g,_,id=>rfl
 |e::l,g,h,id=>by
  have hb:Nat.beq g e.1=false:=by
   grind [au]
  simp only[aiV,hb,bz,cond_false];exact SC l g (fun e he=>h e (aA _ he)) id
def ed (P:Program) (T:TT) (sg:List (FuncId×Sum)) (kp:List (FuncId×Nat×dZ)) (lp:List (FuncId×Nat×dI)) (rf:List FuncId) (sb:List (FuncId×gX):=[]):Env:=
 {P:=P,T:=T,cl:=false,kp:=aF4 kp,sg:=auX sg,lp:=aiV lp,rf:=fun g _=>rf.any fun x=>Nat.beq g x,bf:=JG,sb:=auT sb}
theorem anX {P:Program} {T:TT} (hT:TOk P T) (hm:P.follows .mixedOrders=true) (hng:Ja P) {sg:List (FuncId×Sum)} {kp:List (FuncId×Nat×dZ)} {lp:List (FuncId×Nat×dI)}
  {rf:List FuncId} {sb:List (FuncId×gX)} (hs: ∀e∈sg,dY P e.1 e.2) (fs:List FuncId) (hall:(lp.all fun e=>fs.any fun g=>Nat.beq e.1 g)=true) (hall2:(rf.all fun e=>fs.any fun g=>Nat.beq e g)=true) (hl: ∀g∈fs,∃fn c,P.funcs[g]? =some fn/\fn.body=some c/\dU (ed P T sg kp lp rf sb) g c)
  (hrf: ∀E,sV P E->ae3 E) (hB: ∀g,JG g=true->Bo P g) (hx: ∀e∈sb,eF P e.1 e.2:=by simp):dK (ed P T sg kp lp rf sb):=by
 have hL:sV P (ed P T sg kp lp rf sb):= ?_;exact⟨hT,hm,hng,aa9 sg hs,hL,hrf _ hL,hB,aa6 sb hx⟩;intro g fn' c' h1 h2;by_cases e:g∈fs
 ·grind
 ·refine jU (fun id=>SC lp g (fun x hx hxe=>e ?_) id) (fun _=> ?_) c'
  ·grind [au]
  ·cases hr:rf.any fun x=>Nat.beq g x with
   |false=>exact hr
   |true=>
    simp_all
def cu {α:Type} (a b:List α):List α:=a++b
def dG (i:Int):Nat:=i.toNat
def dL {α:Type} (l:List α) (d:α) (i:Nat):α:=l.getD i d
def takeN {α:Type} (l:List α) (n:Nat):List α:=l.take n
def iU (a b:List UInt8):Bool:=decide (a.length+b.length<=lm)
def oD {α:Type} (i:Nat) (l:List α):Bool:=OY i l.length
def jy (a b:Bool):Bool:=a==b
def nV (t:Ty) (x y:List t.den):Bool:=wU (XJ t) x y
def ibW (s:List UInt8) (c:Int):Int:=Lib.indexByte s c.toNat.toUInt8
def cA:Code->Code
 |.seq a _=>a
 |.block _ c=>c
 |.loop c=>c
 |.scope c=>c
 |.cond _ a _=>a
 |.rangeFunc _ _ a _=>a
 |c=>c
def cB:Code->Code
 |.seq _ b=>b
 |.cond _ _ b=>b
 |.rangeFunc _ _ _ b=>b
 |c=>c
def jH:Code->List Code
 |.seq a b=>jH a++jH b
 |.cond _ a b=>jH a++jH b
 |.block _ c=>jH c
 |.scope c=>jH c
 |.loop c=>jH c++[c]
 |.rangeFunc _ _ a b=>jH a++jH b
 |_=>[]
def jM:Code->List (Code×Code)
 |.seq a b=>jM a++jM b
 |.cond _ a b=>jM a++jM b
 |.block _ c=>jM c
 |.scope c=>jM c
 |.loop c=>jM c
 |.rangeFunc _ _ a b=>(a,b)::(jM a++jM b)
 |_=>[]
def qg:Code->List Code
 |.seq a b=>qg a++(b::qg b)
 |.cond _ a b=>qg a++qg b
 |.block _ c=>qg c
 |.scope c=>qg c
 |.loop c=>qg c
 |.rangeFunc _ _ a b=>qg a++qg b
 |_=>[]
def YB (E:Env) (f:FuncId) (c:Code):Bool:=(qg c).all fun d=>(E.lp f (800000+dH d)).isNone
theorem jX {R:Type} {E:Env} {x:nH R} {xd:Xh} {f:FuncId}: ∀c:Code,(∀x∈jM c,E.rf f (dH x.2)=true->rC f (dH x.2)=some x)->(∀d∈jH c,∀L,E.lp f (dH d)=some L->L.dep.ble E.dp=true->Xg E x xd f d L)->
  (∀d∈qg c,∀L,E.lp f (800000+dH d)=some L->L.dep.ble E.dp=true->ae2 E x xd f d L)->jA E x xd f c
 |.seq a b,g,h,k=>⟨⟨jX a (fun d hd=>g d (List.mem_append.2 (.inl hd))) (fun d hd=>h d (List.mem_append.2 (.inl hd))) fun d hd=>k d (List.mem_append.2 (.inl hd)),k b (List.mem_append.2 (.inr aZ))⟩,
   jX b (fun d hd=>g d (List.mem_append.2 (.inr hd))) (fun d hd=>h d (List.mem_append.2 (.inr hd))) fun d hd=>k d (List.mem_append.2 (.inr (aA _ hd)))⟩
 |.cond _ a b,g,h,k=>⟨jX a (fun d hd=>g d (List.mem_append.2 (.inl hd))) (fun d hd=>h d (List.mem_append.2 (.inl hd))) fun d hd=>k d (List.mem_append.2 (.inl hd)),jX b (fun d hd=>g d (List.mem_append.2 (.inr hd))) (fun d hd=>h d (List.mem_append.2 (.inr hd))) fun d hd=>k d (List.mem_append.2 (.inr hd))⟩
 |.block _ c,g,h,k=>jX (E:=E) c g h k
 |.scope c,g,h,k=>jX (E:=E) c g h k
 |.loop c,g,h,k=>⟨jX c g (fun d hd=>h d (List.mem_append.2 (.inl hd))) k,h c (List.mem_append.2 (.inr (List.mem_singleton.2 rfl)))⟩
 |.rangeFunc _ _ a b,g,h,k=>⟨jX a (fun d hd=>g d (aA _ (List.mem_append.2 (.inl hd)))) (fun d hd=>h d (List.mem_append.2 (.inl hd))) fun d hd=>k d (List.mem_append.2 (.inl hd)),
   jX b (fun d hd=>g d (aA _ (List.mem_append.2 (.inr hd)))) (fun d hd=>h d (List.mem_append.2 (.inr hd))) fun d hd=>k d (List.mem_append.2 (.inr hd)),g (a,b) aZ⟩
 |.skip,_,_,_|.label _,_,_,_|.region _ _ _,_,_,_|.exit _,_,_,_|.goto _,_,_,_|.ret,_,_,_|.refuse _,_,_,_=>trivial
theorem D6 {E:Env} {f:FuncId} (c:Code) (g: ∀x∈jM c,E.rf f (dH x.2)=true->rC f (dH x.2)=some x) (h: ∀d∈jH c,∀L,E.lp f (dH d)=some L->dX E f d L)
  (k: ∀d∈qg c,∀L,E.lp f (800000+dH d)=some L->zM E f d L):dU E f c:=fun R m=>
 jX (E:=E.at m) c g (fun d hd L hL hdp=>by
  have h2:=h d hd L hL R (m-L.dep);rw[show m-L.dep+L.dep=m from Nat.sub_add_cancel (Nat.le_of_ble_eq_true (m:=m) hdp)]at h2;exact h2) fun d hd L hL hdp=>by
  have h2:=k d hd L hL R (m-L.dep);rw[show m-L.dep+L.dep=m from Nat.sub_add_cancel (Nat.le_of_ble_eq_true (m:=m) hdp)]at h2;exact h2
theorem aos {E:Env} {f:FuncId} {c:Code} (h:YB E f c=true): ∀d∈qg c,∀L,E.lp f (800000+dH d)=some L->zM E f d L:=fun d hd L hL=>by
 have:=List.all_eq_true.1 h d hd;simp_all
def Mc (E:Env) (f:FuncId) (c:Code):List Code:=(qg c).filter fun d=>(E.lp f (800000+dH d)).isSome
theorem JH {E:Env} {f:FuncId} {c:Code} (h: ∀d∈Mc E f c,∀L,E.lp f (800000+dH d)=some L->zM E f d L): ∀d∈qg c,∀L,E.lp f (800000+dH d)=some L->zM E f d L:=fun d hd L hL=>
 h d (List.mem_filter.2 ⟨hd,by rw[hL];rfl⟩) L hL
theorem qx {E:Env} {f:FuncId} (c:Code) (g: ∀x∈jM c,E.rf f (dH x.2)=true->rC f (dH x.2)=some x) (h: ∀d∈jH c,∀L,E.lp f (dH d)=some L->dX E f d L) (k:YB E f c=true:=by kernel_rfl):dU E f c:=
 D6 c g h (aos k)
theorem agy {E:Env} {f:FuncId} (c:Code) (hrf: ∀id,E.rf f id=false) (h: ∀d∈jH c,∀L,E.lp f (dH d)=some L->dX E f d L) (k:YB E f c=true:=by kernel_rfl):dU E f c:=
 qx c (fun x _ hx=>by simp_all) h k
theorem dm {α β:Type} (b:Bool) (x y:Option α) (k:α->Option β):bM (bif b then x else y) k=bif b then bM x k else bM y k:=by cases b<;>rfl
theorem dn {α β:Type} (k:α->Option β):bM none k=none:=rfl
theorem bK {α β:Type} (x:α) (k:α->Option β):bM (some x) k=k x:=rfl
theorem cZ {α β γ:Type} (x:Option α) (k:α->Option β) (l:β->Option γ):bM (bM x k) l=bM x fun a=>bM (k a) l:=by cases x<;>rfl
theorem auu {α β γ:Type} (a:α) (f:α->γ) (g:β->γ):dV (.inl a) f g=f a:=rfl
theorem dw {α β γ δ:Type} (o:α⊕β) (f:α->Option γ) (g:β->Option γ) (k:γ->Option δ):bM (dV o f g) k=dV o (fun a=>bM (f a) k) fun b=>bM (g b) k:=by cases o<;>rfl
end
section
open Bool renaming and_eq_true → af, not_eq_true → bD
open List renaming mem_cons_of_mem → aA
open Nat renaming le_refl → ah
open Go.RowKit
def TT.allK:TT->Bool
 |.nil=>true
 |.node _ i l r=>i.known&&(l.allK&&r.allK)
theorem TT.allK_at: ∀(T:TT) (t:TypeId),T.allK=true->(T.at t).ty.isSome=true->(T.at t).known=true
 |.nil,t,_,h=>by assumption
 |.node k i l r,t,h,h2=>by
  simp only[TT.allK,af]at h;simp only[TT.at]at h2 ⊢;by_cases e:Nat.beq k t=true
  ·simp_all
  ·have e':Nat.beq k t=false:=(bD _).mp e;simp only[e',cond_false]at h2 ⊢;by_cases e2:Nat.blt t k=true
   ·simp only[e2,cond_true]at h2 ⊢;exact TT.allK_at l t h.2.1 h2
   ·have e2':Nat.blt t k=false:=(bD _).mp e2;simp only[e2',cond_false]at h2 ⊢;exact TT.allK_at r t h.2.2 h2
def wfD:(t:Ty)->t.den->Prop
 |.unit,_=>True
 |.bool,_=>True
 |.int k,x=>(Lit.int k x).wf=true
 |.str,x=>x.length<=maxLen
 |.list e,xs=>xs.length<=maxLen/\ ∀x∈xs,wfD e x
 |.pair a b,x=>wfD a x.1/\wfD b x.2
section
variable {P:Program} {T:TT} {w:World} {H:Type} {enc:TypeId×Value->H} {spare:Nat->Bool} {held:Bool}
theorem awz {t:TypeId} {k:TK} (h:(P.underlying t).map kN=some (some k)): ∃d,P.underlying t=some d/\kN d=some k:=by
 simp_all
theorem Ia (hT:TOk P T) {t:TypeId} (hk:(T.at t).known=true):P.cellsOf t=(T.at t).size:=by
 obtain⟨h,_⟩:=hT t hk;unfold Program.cellsOf;cases hi:P.info? t with
 |none=>simp_all
 |some f=>
  simp_all
theorem awV {a:Addr} {v:Value} (h:w.cell? a=some v):a.block<w.heap.size/\a.spot=none:=by
 unfold World.cell? at h;split at h
 ·rename_i hb
  refine⟨(Array.getElem?_eq_some_iff.1 hb).1, ?_⟩;simp_all
 ·cases h
theorem addr_add_add (a:Addr) (x m:Nat):(a.add x).add m=a.add (x+m):=by
 grind [Addr.add]
theorem aev {e:Ty} {size:Nat} (hsz:e.size=size) {a:Addr} {len:Nat} {F:List Value->Option (DataW H×List MemPlace)} (hF: ∀cs y,F cs=some y-> ∃x:e.den,fO w (fun b=>b<w.heap.size) e x cs/\wfD e x)
  (h: ∀i,i<len-> ∃y,(w.cells? 0 (a.add (i*size)) size).bind F=some y): ∀(k j:Nat),j+k<=len->
  ∃(xs:List e.den) (zs:List Value),xs.length=k/\gz (fO w (fun b=>b<w.heap.size) e) e.size xs zs/\(∀m (hm:m<zs.length),w.cell? (a.add (j*size+m))=some zs[m])/\ ∀x∈xs,wfD e x
 |0,j,_=>⟨[],[],rfl,rfl,fun m hm=>absurd hm (by simp),fun x hx=>by cases hx⟩
 |k+1,j,hj=>by
  obtain⟨xs,zs,h1,h2,h3,h4⟩:=aev hsz hF h k (j+1) (by omega);obtain⟨y,hy⟩:=h j (by omega);obtain⟨c,hc,hy⟩:=Option.bind_eq_some_iff.1 hy;obtain⟨x,hx,hwf⟩:=hF c y hy;have hcl:c.length=e.size:=fO.length e x c hx;have hcell: ∀m (hm:m<c.length),w.cell? (a.add (j*size+m))=some c[m]:=fun m hm=>by
   simp only[World.cells?,Nat.zero_le,if_true]at hc;have:=mapM_some_get hc m m (by simp_all);simp_all [addr_add_add]
  refine⟨x::xs,c++zs,by simp[h1],⟨c,zs,rfl,hcl,hx,h2⟩,fun m hm=> ?_,fun z hz=> ?_⟩
  all_goals grind
theorem Ro (hT:TOk P T) {n:Nat} {cs:List Value} (ih: ∀(t:TypeId) (cs:List Value) (y:DataW H×List MemPlace) (ty:Ty),(T.at t).known=true->(T.at t).ty=some ty->DataW.trod enc P w 0 spare held n t cs=some y-> ∃x:ty.den,fO w (fun b=>b<w.heap.size) ty x cs/\wfD ty x):
  ∀(fs:List (Nat×TypeId)) (off:Nat) (ty:Ty),jP T off fs=some ty->(∀p∈fs,∃y,DataW.trod enc P w 0 spare held n p.2 ((cs.drop p.1).take (P.cellsOf p.2))=some y)->
   ∃x:ty.den,fO w (fun b=>b<w.heap.size) ty x ((cs.drop off).take ty.size)/\wfD ty x
 |[],off,ty,h,_=>by
  simp only[jP,Option.some.injEq]at h;subst h;exact⟨(),by simp[fO,Ty.size],trivial⟩
 |(o,ft)::rest,off,ty,h,hall=>by
  simp only[jP]at h;split at h
  ·rename_i ho
   split at h
   ·rename_i a ha
    split at h
    ·rename_i hs
     split at h
     ·rename_i b hb
      simp only[Option.some.injEq]at h;subst h ho;obtain⟨y,hy⟩:=hall (o,ft) (by simp);simp only[Ia hT hs.2,<-hs.1]at hy;obtain⟨x1,h1,h2⟩:=ih ft _ y a hs.2 ha hy;obtain⟨x2,h3,h4⟩:=Ro hT ih rest _ b hb fun p hp=>hall p (aA _ hp);refine⟨(x1,x2),⟨_,_, ?_,h1,h3⟩,h2,h4⟩;simp_all [Ty.size,List.take_add]
     ·cases h
    ·cases h
   ·cases h
  ·cases h
theorem UB (hT:TOk P T) (hK:T.allK=true): ∀(fuel:Nat) (t:TypeId) (cs:List Value) (y:DataW H×List MemPlace) (ty:Ty),(T.at t).known=true->(T.at t).ty=some ty->DataW.trod enc P w 0 spare held fuel t cs=some y->
  ∃x:ty.den,fO w (fun b=>b<w.heap.size) ty x cs/\wfD ty x
 |0,t,cs,y,ty,_,_,h=>by simp[DataW.trod]at h
 |fuel+1,t,cs,y,ty,hk,hty,h=>by
  obtain⟨hinfo,hund,hty2,hsz,-,-,-,-⟩:=hT t hk;obtain⟨d,hd,hdk⟩:=awz hund;have hty3:lJ T (T.at t).k=some ty:=by
   simp_all
  have hc:=Ia hT hk;have hsize:=hsz ty hty;cases d with
  |bool=>
   simp only[kN,Option.some.injEq]at hdk;rw[<-hdk]at hty3;simp only[lJ,Option.some.injEq]at hty3;subst hty3;obtain⟨b,rfl,_⟩:=DataW.trod_bool hd h;exact⟨b,rfl,trivial⟩
  |int k=>
   simp only[kN,Option.some.injEq]at hdk;rw[<-hdk]at hty3;simp only[lJ,Option.some.injEq]at hty3;subst hty3;obtain⟨b,rfl,_,hw⟩:=DataW.trod_int hd h;exact⟨b,rfl,hw⟩
  |string=>
   simp only[kN,Option.some.injEq]at hdk;rw[<-hdk]at hty3;simp only[lJ,Option.some.injEq]at hty3;subst hty3;obtain⟨s,rfl,_,hw⟩:=DataW.trod_string hd h;exact⟨s.data.toList,by simp[fO],(show s.data.toList.length<=maxLen from by assumption)⟩
  |slice e=>
   simp only[kN,Option.some.injEq]at hdk;rw[<-hdk]at hty3;simp only[lJ,Option.map_eq_some_iff]at hty3;obtain⟨ety,hety,rfl⟩:=hty3;have hek:=TT.allK_at T e hK (by rw[hety];rfl);have hes:ety.size=(T.at e).size:=(hT e hek).2.2.2.1 ety hety;have hec:=Ia hT hek;rcases DataW.trod_slice hd h with ⟨rfl,_⟩|⟨a,len,cap,elems,rest,n,hn,rfl,_,_,hl,hm,hlen,hel,_,_⟩
   ·exact⟨[],⟨none,0,[],rfl,ah _,rfl,.inl rfl⟩,Nat.zero_le _,fun x hx=>by cases hx⟩
   ·obtain rfl:n=fuel:=by omega
    have hrow: ∀i,i<len-> ∃y,(w.cells? 0 (a.add (i*P.cellsOf e)) (P.cellsOf e)).bind (DataW.trod enc P w 0 spare held n e)=some y:=fun i hi=>by
     simp_all
    obtain⟨xs,zs,h1,h2,h3,h4⟩:=aev (w:=w) (e:=ety) (hes.trans hec.symm) (fun cs y hy=>UB hT hK n e cs y ety hek hety hy) hrow len 0 (by omega);refine⟨xs,⟨some a,cap,zs,by rw[h1],by omega,h2, ?_⟩,by rw[h1];omega,h4⟩;by_cases hz:zs=[]
    ·exact .inl hz
    ·have h0:=h3 0 (List.length_pos_iff.2 hz);rw[show a.add (0*P.cellsOf e+0)=a by simp[Addr.add]]at h0;obtain⟨q1,q2⟩:=awV h0;obtain⟨ab,ao,asp⟩:=a;simp only at q1 q2;subst q2;refine .inr ⟨ab,ao,rfl,q1,fun j hj=> ?_⟩;simp_all [kw]
  |struct fs=>
   simp only[kN,Option.some.injEq]at hdk;rw[<-hdk]at hty3;simp only[lJ]at hty3;obtain⟨xs,n,hn,_,hlen,hxl,hf⟩:=DataW.trod_struct hd h;obtain rfl:n=fuel:=by omega
   obtain⟨x,h1,h2⟩:=Ro (P:=P) (T:=T) (w:=w) (enc:=enc) (spare:=spare) (held:=held) (cs:=cs) hT (fun t cs y ty a b c=>UB hT hK n t cs y ty a b c) _ 0 ty hty3 (fun p hp=>by
    obtain⟨f,hfm,rfl⟩:=List.mem_map.1 hp;obtain⟨i,hi⟩:=List.getElem?_of_mem hfm
    grind)
   grind
  |func a b c=>
   grind [kN,lJ]
  |array a b=>simp[kN]at hdk
  |_=>
   grind [kN,lJ]
theorem agH (hT:TOk P T) (hK:T.allK=true) {t:TypeId} {v:Value} {d:DataW H} {ps:List MemPlace} {r:Reach} {b0:Nat} {ty:Ty} (hty:(T.at t).ty=some ty) (hval:Value.okWide P w r b0 t v) (h:DataW.Trod enc P w 0 spare held t v d ps):
  ∃x:ty.den,VD (kM w fun _=>False) ty x v/\wfD ty x:=by
 have hk:=TT.allK_at T t hK (by rw[hty];rfl);obtain⟨fuel,hf⟩:=h;obtain⟨x,h1,h2⟩:=UB hT hK fuel t _ _ ty hk hty hf;have h3:fO w (kM w fun _=>False).free ty x v.cells.toList:=fO.mono (fun b hb=>⟨⟨hb,(by rintro ⟨i,o,h,_⟩;simp[kM,dR]at h),by simp[kM],fun h=>h⟩,rfl⟩) ty x _ h1;refine⟨x, ?_,h2⟩;obtain⟨hinfo,hund,hty2,-⟩:=hT t hk;obtain⟨d',hd,hdk⟩:=awz hund;have hty3:lJ T (T.at t).k=some ty:=by
  rcases hty2 with h1|h1
  ·rw[h1]at hty;cases hty
  ·rw[<-h1,hty]
 cases ha:ty.isAgg with
 |true=>
  cases d' with
  |struct fs=>
   obtain⟨cs,rfl,_⟩:=Go.WideShapes.okWide_struct hd hval;exact(VD.agg ha).2 ⟨cs,rfl,h3⟩
  |array a b=>simp[kN]at hdk
  |slice e=>
   simp only[kN,Option.some.injEq]at hdk;rw[<-hdk]at hty3;simp only[lJ,Option.map_eq_some_iff]at hty3;obtain⟨ety,_,rfl⟩:=hty3;cases ha
  |_=>
   simp only[kN,Option.some.injEq]at hdk;rw[<-hdk]at hty3;simp[lJ]at hty3
   all_goals (subst hty3;cases ha)
 |false=>
  rw[VD.leaf ha];have hv:v.cells= #[v]:=by
   cases d' with
   |struct fs=>
    simp only[kN,Option.some.injEq]at hdk;rw[<-hdk]at hty3;simp only[lJ]at hty3;exfalso;cases hfs:(fs.toList.map fun f=>(f.offset,f.type))with
    |nil=>rw[hfs]at hty3;simp only[jP,Option.some.injEq]at hty3;subst hty3;cases ha
    |cons p l=>
     rw[hfs]at hty3;simp only[jP]at hty3;split at hty3
     ·split at hty3
      ·split at hty3
       ·split at hty3
        ·simp only[Option.some.injEq]at hty3;subst hty3;cases ha
        ·cases hty3
       ·cases hty3
      ·cases hty3
     ·cases hty3
   |array a b=>simp[kN]at hdk
   |bool=>obtain⟨b,rfl⟩:=Go.WideShapes.okWide_bool hd hval;rfl
   |int k=>obtain⟨b,rfl⟩:=Go.WideShapes.okWide_int hd hval;rfl
   |string=>obtain⟨b,rfl⟩:=Go.WideShapes.okWide_string hd hval;rfl
   |slice e=>obtain⟨a,b,c,rfl⟩:=Go.WideShapes.okWide_slice hd hval;rfl
   |_=>
    simp only[kN,Option.some.injEq]at hdk;rw[<-hdk]at hty3;simp[lJ]at hty3
  rw[hv]at h3;exact h3
end
abbrev dD:Ty:=.int .i64
abbrev gU:Type:=Int×(List UInt8)×(Int×Int×Unit)
abbrev gI:Type:=Int×Int×Int×Int×Unit
abbrev di:Type:=List UInt8
abbrev UL:Ty:=.pair dD (.pair dD .unit)
abbrev jg:Type:=Int×Int×Int×Int×Bool×Unit
abbrev UM:Ty:=.pair dD (.pair dD (.pair dD (.pair .bool .unit)))
abbrev tyD:Ty:=.pair dD (.pair .str UL)
abbrev pg:Ty:=.pair dD (.pair dD UL)
abbrev taE:Type:=(List gU)×Int×(List gI)×Int×Int×Unit
abbrev taF:Type:=(List gU)×di×(List gI)×Int×Int×Int×Unit
abbrev qM:Type:=Bool×Unit
abbrev Bf:Type:=Int×Int×Int×Bool×Unit
abbrev oG:Type:=Int×Int×Unit
abbrev tyF:Ty:=.pair .bool .unit
abbrev jJ:Type:=List (Int)
abbrev GG:Type:=Bool×Bool×di×(Unit)
abbrev Vl:Ty:=.pair .bool (.pair .bool (.pair .str .unit))
abbrev Bg:Type:=List (di×qM)
abbrev CX:Ty:=.pair .str tyF
abbrev taM:Type:=(List oG)×Bool×Int×Unit
abbrev I9:Ty:=.pair dD UM
abbrev Hw:Type:=di×(jJ×qM)
abbrev oU:Ty:=.list tyD
abbrev Bl:Type:=taE×(Unit)
abbrev tyK:Ty:=.pair (.list dD) tyF
abbrev uM:Type:=Int×Int
abbrev Di:Type:=Int×Unit
abbrev I8:Type:=taF×(Unit)
abbrev taS:Type:=Bf×(Int×Bg×qM)×Unit
abbrev taT:Type:=di×(List Bf)×Int×Bg×Bool×(List gU)×(List gI)×Unit
abbrev tyL:Ty:=.pair (.list CX) tyF
abbrev Vm:Ty:=.list I9
abbrev Vo:Ty:=.list pg
abbrev taU:Type:=Hw×Unit
abbrev GU:List (Ty×Bool):=[(.list tyD,false),(.int .i64,false),(.list pg,true),(.int .i64,false),(.int .i64,false)]
abbrev UC:List (Ty×Bool):=[(.list tyD,false),(.str,false),(.list pg,true),(.int .i64,false),(.int .i64,false),(.int .i64,false)]
abbrev tzC:List (Ty×Bool):=[(.list UL,true),(.bool,false),(.int .i64,false)]
abbrev UN:List (Ty×Bool):=[(.int .i64,false)]
abbrev tzE:List (Ty×Bool):=[(.bool,false)]
abbrev tzF:List (Ty×Bool):=[(.str,false),(.list UM,false),(.int .i64,false),(.list CX,false),(.bool,false),(.list tyD,false),(.list pg,false)]
abbrev tzG:List (Ty×Bool):=[(.pair .str tyK,false)]
abbrev tzH:List (Ty×Bool):=[(.pair dD (.pair dD (.pair dD tyF)),false),(.pair dD tyL,false)]
abbrev tzI:List (Ty×Bool):=[(.str,false)]
abbrev tzJ:List (Ty×Bool):=[(.int .i64,false),(.int .i64,false)]
end
section
open Bool renaming and_eq_true → af, not_true → aB, false_or → aV
open Nat renaming eq_of_beq_eq_true → au
open Tryz
open Go.RowKit
def gY:TI:=⟨true,.fn,1,8,none,[.nilfn],false,false,true⟩
def ti2:TI:=⟨true,(.int .i64),1,8,some (.int .i64),[.val (.int .i64) 0],false,false,true⟩
def ti3:TI:=ti2
def ti4:TI:=⟨true,.bool,1,1,some .bool,[.val .bool false],false,false,true⟩
def ti5:TI:=⟨true,(.int .u8),1,1,some (.int .u8),[.val (.int .u8) 0],false,false,true⟩
def ti7:TI:=⟨true,(.struct [(0,2),(1,3),(2,4),(3,6)]),4,24,none,[.val (.int .i64) 0,.val (.int .i64) 0,.val .bool false,.val (.int .u8) 0],false,false,true⟩
def ti8:TI:=ti7
def ti9:TI:=⟨true,.str,1,16,some .str,[.val .str []],false,false,true⟩
def aKt:TI:=ti9
def aKu:TI:=ti9
def azS:TI:=⟨true,(.int .u64),1,8,some (.int .u64),[.val (.int .u64) 0],false,false,true⟩
def aG4:TI:=⟨true,(.struct [(0,9),(1,12)]),2,24,some (.pair .str (.pair (.int .u64) .unit)),[.val .str [],.val (.int .u64) 0],false,false,true⟩
def aKv:TI:=aG4
def aKw:TI:=⟨true,(.ptr 342),1,8,none,[.nilp],false,false,true⟩
def aKx:TI:=⟨true,(.ptr 345),1,8,none,[.nilp],false,false,true⟩
def aKy:TI:=⟨true,(.ptr 352),1,8,none,[.nilp],false,false,true⟩
def aHK:TI:=⟨true,(.struct [(0,17)]),1,8,none,[.nilp],false,false,true⟩
def aKz:TI:=aHK
def aE9:TI:=⟨true,(.int .i32),1,4,some (.int .i32),[.val (.int .i32) 0],false,false,true⟩
def aKA:TI:=gY
def aKB:TI:=gY
def aKC:TI:=⟨true,(.struct [(0,3),(1,3),(2,3),(3,3),(4,9),(5,4),(6,9),(7,3),(8,3)]),9,88,some (.pair (.int .i64) (.pair (.int .i64) (.pair (.int .i64) (.pair (.int .i64) (.pair .str (.pair .bool (.pair .str (.pair (.int .i64) (.pair (.int .i64) .unit))))))))),[.val (.int .i64) 0,.val (.int .i64) 0,.val (.int .i64) 0,.val (.int .i64) 0,.val .str [],.val .bool false,.val .str [],.val (.int .i64) 0,.val (.int .i64) 0],false,false,true⟩
def aKD:TI:=⟨true,(.struct [(0,3),(1,3),(2,3),(3,3),(4,9),(5,4),(6,9),(7,3),(8,3)]),9,88,some (.pair (.int .i64) (.pair (.int .i64) (.pair (.int .i64) (.pair (.int .i64) (.pair .str (.pair .bool (.pair .str (.pair (.int .i64) (.pair (.int .i64) .unit))))))))),[.val (.int .i64) 0,.val (.int .i64) 0,.val (.int .i64) 0,.val (.int .i64) 0,.val .str [],.val .bool false,.val .str [],.val (.int .i64) 0,.val (.int .i64) 0],true,false,true⟩
def aKE:TI:=ti2
def aKF:TI:=gY
def aKG:TI:=gY
def aKH:TI:=gY
def aKI:TI:=gY
def aKJ:TI:=gY
def aKK:TI:=gY
def aKL:TI:=⟨true,(.slice 9),1,24,some (.list .str),[.nils],false,false,true⟩
def aKM:TI:=gY
def aKN:TI:=⟨true,(.slice 59),1,24,some (.list (.pair .str (.pair .str .unit))),[.nils],false,false,true⟩
def aKO:TI:=gY
def aKP:TI:=⟨true,(.ptr 166),1,8,none,[.nilp],false,false,true⟩
def aKQ:TI:=gY
def aKR:TI:=gY
def aKS:TI:=⟨true,(.slice 46),1,24,some (.list (.pair (.int .i64) (.pair (.int .i64) (.pair (.int .i64) (.pair .bool .unit))))),[.nils],false,false,true⟩
def aKT:TI:=gY
def aKU:TI:=gY
def aKV:TI:=⟨true,(.struct [(0,3),(1,3),(2,3),(3,4)]),4,32,some (.pair (.int .i64) (.pair (.int .i64) (.pair (.int .i64) (.pair .bool .unit)))),[.val (.int .i64) 0,.val (.int .i64) 0,.val (.int .i64) 0,.val .bool false],false,false,true⟩
def aKW:TI:=⟨true,(.struct [(0,3),(1,3),(2,3),(3,4)]),4,32,some (.pair (.int .i64) (.pair (.int .i64) (.pair (.int .i64) (.pair .bool .unit)))),[.val (.int .i64) 0,.val (.int .i64) 0,.val (.int .i64) 0,.val .bool false],true,false,true⟩
def aKX:TI:=gY
def aKY:TI:=gY
def aKZ:TI:=gY
def aK1:TI:=gY
def aK2:TI:=⟨true,(.slice 55),1,24,some (.list (.pair (.int .i64) (.pair (.int .i64) (.pair .str .unit)))),[.nils],false,false,true⟩
def aK3:TI:=gY
def aK4:TI:=gY
def aK5:TI:=⟨true,(.struct [(0,3),(1,3),(2,9)]),3,32,some (.pair (.int .i64) (.pair (.int .i64) (.pair .str .unit))),[.val (.int .i64) 0,.val (.int .i64) 0,.val .str []],false,false,true⟩
def aK6:TI:=⟨true,(.struct [(0,3),(1,3),(2,9)]),3,32,some (.pair (.int .i64) (.pair (.int .i64) (.pair .str .unit))),[.val (.int .i64) 0,.val (.int .i64) 0,.val .str []],true,false,true⟩
def aK7:TI:=gY
def aK8:TI:=gY
def aK9:TI:=⟨true,(.struct [(0,9),(1,9)]),2,32,some (.pair .str (.pair .str .unit)),[.val .str [],.val .str []],false,false,true⟩
def aLa:TI:=⟨true,(.struct [(0,9),(1,9)]),2,32,some (.pair .str (.pair .str .unit)),[.val .str [],.val .str []],true,false,true⟩
def aLb:TI:=gY
def aLc:TI:=gY
def aLd:TI:=gY
def aLe:TI:=gY
def aLf:TI:=gY
def aLg:TI:=gY
def aLh:TI:=gY
def aLi:TI:=⟨true,(.ptr 72),1,8,none,[.nilp],false,false,true⟩
def aLj:TI:=gY
def aJZ:TI:=⟨true,(.struct [(0,9),(1,3),(2,3),(3,42),(4,46),(8,4)]),9,96,some (.pair .str (.pair (.int .i64) (.pair (.int .i64) (.pair (.list (.pair (.int .i64) (.pair (.int .i64) (.pair (.int .i64) (.pair .bool .unit))))) (.pair (.pair (.int .i64) (.pair (.int .i64) (.pair (.int .i64) (.pair .bool .unit)))) (.pair .bool .unit)))))),[.val .str [],.val (.int .i64) 0,.val (.int .i64) 0,.nils,.val (.int .i64) 0,.val (.int .i64) 0,.val (.int .i64) 0,.val .bool false,.val .bool false],false,false,true⟩
def aLk:TI:=aJZ
def aLl:TI:=⟨true,(.slice 150),1,24,some (.list (.pair (.int .i64) (.pair (.int .i64) .unit))),[.nils],false,false,true⟩
def aLm:TI:=gY
def aLn:TI:=gY
def aLo:TI:=gY
def aLp:TI:=gY
def aLq:TI:=⟨true,(.slice 3),1,24,some (.list (.int .i64)),[.nils],false,false,true⟩
def aJ0:TI:=⟨true,(.struct [(0,9),(1,79),(2,4)]),3,48,some (.pair .str (.pair (.list (.int .i64)) (.pair .bool .unit))),[.val .str [],.nils,.val .bool false],false,false,true⟩
def aLr:TI:=aJ0
def aLs:TI:=gY
def aLt:TI:=gY
def aLu:TI:=gY
def aLv:TI:=gY
def aLw:TI:=gY
def aLx:TI:=gY
def aLy:TI:=⟨true,(.slice 129),1,24,some (.list (.pair .str (.pair .bool .unit))),[.nils],false,false,true⟩
def aLA:TI:=⟨true,(.struct [(0,3),(1,89),(2,4)]),3,40,some (.pair (.int .i64) (.pair (.list (.pair .str (.pair .bool .unit))) (.pair .bool .unit))),[.val (.int .i64) 0,.nils,.val .bool false],false,false,true⟩
def aLB:TI:=⟨true,(.struct [(0,3),(1,89),(2,4)]),3,40,some (.pair (.int .i64) (.pair (.list (.pair .str (.pair .bool .unit))) (.pair .bool .unit))),[.val (.int .i64) 0,.nils,.val .bool false],false,false,false⟩
def aLC:TI:=gY
def aLD:TI:=⟨true,(.slice 105),1,24,some (.list (.pair (.int .i64) (.pair .str (.pair (.int .i64) (.pair (.int .i64) .unit))))),[.nils],false,false,true⟩
def aLE:TI:=gY
def aLF:TI:=⟨true,(.map 3 3),1,8,none,[.undef],false,false,true⟩
def aLG:TI:=gY
def aLH:TI:=gY
def aLI:TI:=gY
def aGC:TI:=⟨true,(.slice 103),1,24,some (.list (.pair (.int .i64) (.pair (.int .i64) (.pair (.int .i64) (.pair (.int .i64) .unit))))),[.nils],false,false,true⟩
def aGD:TI:=gY
def aGE:TI:=⟨true,(.struct [(0,3),(1,3),(2,3),(3,3)]),4,32,some (.pair (.int .i64) (.pair (.int .i64) (.pair (.int .i64) (.pair (.int .i64) .unit)))),[.val (.int .i64) 0,.val (.int .i64) 0,.val (.int .i64) 0,.val (.int .i64) 0],false,false,true⟩
def aGF:TI:=⟨true,(.struct [(0,3),(1,3),(2,3),(3,3)]),4,32,some (.pair (.int .i64) (.pair (.int .i64) (.pair (.int .i64) (.pair (.int .i64) .unit)))),[.val (.int .i64) 0,.val (.int .i64) 0,.val (.int .i64) 0,.val (.int .i64) 0],true,false,true⟩
def aGG:TI:=⟨true,(.struct [(0,3),(1,9),(2,3),(3,3)]),4,40,some (.pair (.int .i64) (.pair .str (.pair (.int .i64) (.pair (.int .i64) .unit)))),[.val (.int .i64) 0,.val .str [],.val (.int .i64) 0,.val (.int .i64) 0],false,false,true⟩
def aGH:TI:=⟨true,(.struct [(0,3),(1,9),(2,3),(3,3)]),4,40,some (.pair (.int .i64) (.pair .str (.pair (.int .i64) (.pair (.int .i64) .unit)))),[.val (.int .i64) 0,.val .str [],.val (.int .i64) 0,.val (.int .i64) 0],true,false,true⟩
def aGI:TI:=gY
def aGJ:TI:=gY
def aGK:TI:=gY
def aGL:TI:=⟨true,(.slice 4),1,24,some (.list .bool),[.nils],false,false,true⟩
def aGM:TI:=gY
def aGN:TI:=⟨true,(.slice 5),1,24,some (.list (.int .u8)),[.nils],false,false,true⟩
def aGO:TI:=⟨true,(.ptr 117),1,8,none,[.nilp],false,false,true⟩
def aGP:TI:=gY
def aGQ:TI:=gY
def aAT:TI:=⟨true,(.struct [(0,9),(1,42),(2,91),(5,94),(6,100)]),7,128,some (.pair .str (.pair (.list (.pair (.int .i64) (.pair (.int .i64) (.pair (.int .i64) (.pair .bool .unit))))) (.pair (.pair (.int .i64) (.pair (.list (.pair .str (.pair .bool .unit))) (.pair .bool .unit))) (.pair (.list (.pair (.int .i64) (.pair .str (.pair (.int .i64) (.pair (.int .i64) .unit))))) (.pair (.list (.pair (.int .i64) (.pair (.int .i64) (.pair (.int .i64) (.pair (.int .i64) .unit))))) .unit))))),[.val .str [],.nils,.val (.int .i64) 0,.nils,.val .bool false,.nils,.nils],false,false,true⟩
def aGR:TI:=aAT
def aGS:TI:=gY
def aGT:TI:=gY
def aGU:TI:=⟨true,(.ptr 195),1,8,none,[.nilp],false,false,true⟩
def aGV:TI:=gY
def aGW:TI:=gY
def aGX:TI:=gY
def aGY:TI:=gY
def aGZ:TI:=gY
def aG0:TI:=gY
def aG1:TI:=gY
def aG2:TI:=⟨true,(.struct [(0,9),(1,4)]),2,24,some (.pair .str (.pair .bool .unit)),[.val .str [],.val .bool false],false,false,true⟩
def aG3:TI:=⟨true,(.struct [(0,9),(1,4)]),2,24,some (.pair .str (.pair .bool .unit)),[.val .str [],.val .bool false],true,false,true⟩
def aG5:TI:=⟨true,(.ptr 132),1,8,none,[.nilp],false,false,true⟩
def aG6:TI:=⟨true,(.struct [(0,130),(1,111)]),2,32,none,[.nilp,.nils],false,false,true⟩
def aG7:TI:=⟨true,(.struct [(0,130),(1,111)]),2,32,none,[.nilp,.nils],false,true,true⟩
def aG8:TI:=gY
def aG9:TI:=gY
def aHa:TI:=gY
def aHb:TI:=gY
def aHc:TI:=gY
def aHd:TI:=gY
def aHe:TI:=gY
def aHf:TI:=gY
def aHg:TI:=gY
def aHh:TI:=gY
def aHi:TI:=gY
def aHj:TI:=gY
def aHk:TI:=⟨true,(.struct [(0,3),(1,3)]),2,16,some (.pair (.int .i64) (.pair (.int .i64) .unit)),[.val (.int .i64) 0,.val (.int .i64) 0],false,false,true⟩
def aHl:TI:=⟨true,(.struct [(0,3),(1,3)]),2,16,some (.pair (.int .i64) (.pair (.int .i64) .unit)),[.val (.int .i64) 0,.val (.int .i64) 0],true,false,true⟩
def aHm:TI:=gY
def aHn:TI:=gY
def aHo:TI:=gY
def aHp:TI:=gY
def aHq:TI:=gY
def aHr:TI:=⟨true,(.ptr 227),1,8,none,[.nilp],false,false,true⟩
def aHs:TI:=gY
def aHt:TI:=gY
def aHu:TI:=gY
def aHv:TI:=gY
def aHw:TI:=gY
def aHx:TI:=gY
def aAU:TI:=⟨true,(.struct [(0,3),(1,37)]),2,32,some (.pair (.int .i64) (.pair (.list (.pair .str (.pair .str .unit))) .unit)),[.val (.int .i64) 0,.nils],false,false,true⟩
def aHy:TI:=aAU
def aHz:TI:=gY
def aHA:TI:=gY
def aHB:TI:=gY
def aHC:TI:=gY
def aHD:TI:=gY
def aHE:TI:=gY
def aHF:TI:=gY
def aHG:TI:=⟨true,(.ptr 177),1,8,none,[.nilp],false,false,true⟩
def aAV:TI:=⟨true,(.struct [(0,94),(1,3),(2,100),(3,3),(4,3)]),5,72,some (.pair (.list (.pair (.int .i64) (.pair .str (.pair (.int .i64) (.pair (.int .i64) .unit))))) (.pair (.int .i64) (.pair (.list (.pair (.int .i64) (.pair (.int .i64) (.pair (.int .i64) (.pair (.int .i64) .unit))))) (.pair (.int .i64) (.pair (.int .i64) .unit))))),[.nils,.val (.int .i64) 0,.nils,.val (.int .i64) 0,.val (.int .i64) 0],false,false,true⟩
def aHH:TI:=aAV
def aHI:TI:=gY
def aHJ:TI:=gY
def aHL:TI:=gY
def aHM:TI:=azS
def aHN:TI:=gY
def aHO:TI:=⟨true,(.ptr 185),1,8,none,[.nilp],false,false,true⟩
def aAW:TI:=⟨true,(.struct [(0,94),(1,9),(2,100),(3,3),(4,3),(5,3)]),6,88,some (.pair (.list (.pair (.int .i64) (.pair .str (.pair (.int .i64) (.pair (.int .i64) .unit))))) (.pair .str (.pair (.list (.pair (.int .i64) (.pair (.int .i64) (.pair (.int .i64) (.pair (.int .i64) .unit))))) (.pair (.int .i64) (.pair (.int .i64) (.pair (.int .i64) .unit)))))),[.nils,.val .str [],.nils,.val (.int .i64) 0,.val (.int .i64) 0,.val (.int .i64) 0],false,false,true⟩
def aHP:TI:=aAW
def aHQ:TI:=gY
def aHR:TI:=gY
def aHS:TI:=gY
def aHT:TI:=gY
def aHU:TI:=gY
def aHV:TI:=gY
def aHW:TI:=gY
def aHX:TI:=gY
def aAX:TI:=⟨true,(.struct [(0,3),(1,79)]),2,32,some (.pair (.int .i64) (.pair (.list (.int .i64)) .unit)),[.val (.int .i64) 0,.nils],false,false,true⟩
def aHY:TI:=aAX
def aHZ:TI:=gY
def aH0:TI:=gY
def aH1:TI:=gY
def aH2:TI:=gY
def aH3:TI:=gY
def aH4:TI:=⟨true,(.ptr 5),1,8,none,[.nilp],false,false,true⟩
def aH5:TI:=gY
def aH6:TI:=gY
def aH7:TI:=gY
def aH8:TI:=gY
def aH9:TI:=gY
def aIa:TI:=gY
def aIb:TI:=gY
def aIc:TI:=⟨true,(.slice 215),1,24,some (.list (.pair (.int .i64) (.pair (.int .i64) (.pair (.int .i64) (.pair (.int .i64) (.pair .bool .unit)))))),[.nils],false,false,true⟩
def aId:TI:=gY
def aIe:TI:=⟨true,(.struct [(0,3),(1,3),(2,3),(3,3),(4,4)]),5,40,some (.pair (.int .i64) (.pair (.int .i64) (.pair (.int .i64) (.pair (.int .i64) (.pair .bool .unit))))),[.val (.int .i64) 0,.val (.int .i64) 0,.val (.int .i64) 0,.val (.int .i64) 0,.val .bool false],false,false,true⟩
def aIf:TI:=⟨true,(.struct [(0,3),(1,3),(2,3),(3,3),(4,4)]),5,40,some (.pair (.int .i64) (.pair (.int .i64) (.pair (.int .i64) (.pair (.int .i64) (.pair .bool .unit))))),[.val (.int .i64) 0,.val (.int .i64) 0,.val (.int .i64) 0,.val (.int .i64) 0,.val .bool false],true,false,true⟩
def aIg:TI:=gY
def aIh:TI:=gY
def aIi:TI:=⟨true,(.ptr 268),1,8,none,[.nilp],false,false,true⟩
def aIj:TI:=gY
def aIk:TI:=gY
def aIl:TI:=⟨true,(.struct [(0,4),(1,4),(2,9)]),3,24,some (.pair .bool (.pair .bool (.pair .str .unit))),[.val .bool false,.val .bool false,.val .str []],false,false,true⟩
def aIm:TI:=⟨true,(.struct [(0,4),(1,4),(2,9)]),3,24,some (.pair .bool (.pair .bool (.pair .str .unit))),[.val .bool false,.val .bool false,.val .str []],true,false,true⟩
def aIn:TI:=gY
def aIo:TI:=gY
def aIp:TI:=gY
def aAY:TI:=⟨true,(.struct [(0,73),(1,4),(2,3)]),3,40,some (.pair (.list (.pair (.int .i64) (.pair (.int .i64) .unit))) (.pair .bool (.pair (.int .i64) .unit))),[.nils,.val .bool false,.val (.int .i64) 0],false,false,true⟩
def aIq:TI:=aAY
def aIr:TI:=gY
def aIs:TI:=gY
def aIt:TI:=gY
def aIu:TI:=gY
def aIv:TI:=gY
def aIw:TI:=gY
def aIx:TI:=gY
def aIy:TI:=gY
def aIz:TI:=gY
def aIA:TI:=gY
def aIB:TI:=gY
def aIC:TI:=gY
def aID:TI:=gY
def aIE:TI:=gY
def aIF:TI:=ti2
def aIG:TI:=gY
def aIH:TI:=gY
def aII:TI:=gY
def aIJ:TI:=gY
def aIK:TI:=gY
def aIL:TI:=⟨true,(.int .u32),1,4,some (.int .u32),[.val (.int .u32) 0],false,false,true⟩
def aIM:TI:=gY
def aIN:TI:=azS
def aIO:TI:=gY
def aIP:TI:=gY
def aIQ:TI:=gY
def aIR:TI:=gY
def aIS:TI:=gY
def aIT:TI:=gY
def aIU:TI:=⟨true,(.slice 222),1,24,some (.list (.pair .bool (.pair .bool (.pair .str .unit)))),[.nils],false,false,true⟩
def aIV:TI:=gY
def aIW:TI:=gY
def aIX:TI:=⟨true,(.ptr 264),1,8,none,[.nilp],false,false,true⟩
def aAZ:TI:=⟨true,(.struct [(0,212),(1,79)]),2,48,some (.pair (.list (.pair (.int .i64) (.pair (.int .i64) (.pair (.int .i64) (.pair (.int .i64) (.pair .bool .unit)))))) (.pair (.list (.int .i64)) .unit)),[.nils,.nils],false,false,true⟩
def aIY:TI:=aAZ
def aIZ:TI:=gY
def aI0:TI:=⟨true,(.ptr 215),1,8,none,[.nilp],false,false,true⟩
def aA0:TI:=⟨true,(.struct [(0,9),(1,212),(2,96)]),3,48,none,[.val .str [],.nils,.undef],false,false,true⟩
def aI1:TI:=aA0
def aI2:TI:=gY
def aI3:TI:=gY
def aI4:TI:=gY
def aI5:TI:=gY
def aI6:TI:=gY
def aI7:TI:=gY
def aI8:TI:=gY
def aI9:TI:=gY
def aJa:TI:=gY
def aJb:TI:=gY
def aJc:TI:=gY
def aJd:TI:=azS
def aJe:TI:=gY
def aJf:TI:=gY
def aJg:TI:=gY
def aJh:TI:=⟨true,(.ptr 3),1,8,none,[.nilp],false,false,true⟩
def aJi:TI:=gY
def aJj:TI:=gY
def aJk:TI:=gY
def aJl:TI:=gY
def aJm:TI:=gY
def aJn:TI:=gY
def aJo:TI:=gY
def aJp:TI:=gY
def aJq:TI:=gY
def aJr:TI:=gY
def aJs:TI:=gY
def aJt:TI:=gY
def aJu:TI:=gY
def aJv:TI:=gY
def aJw:TI:=gY
def aJx:TI:=gY
def aJy:TI:=gY
def aJz:TI:=gY
def aJA:TI:=⟨true,(.ptr 283),1,8,none,[.nilp],false,false,true⟩
def aJB:TI:=gY
def aJC:TI:=gY
def aJD:TI:=gY
def aJE:TI:=gY
def aJF:TI:=gY
def aJG:TI:=⟨true,(.slice 81),1,24,some (.list (.pair .str (.pair (.list (.int .i64)) (.pair .bool .unit)))),[.nils],false,false,true⟩
def aJH:TI:=gY
def aJI:TI:=gY
def aJJ:TI:=gY
def aJK:TI:=gY
def aJL:TI:=gY
def aJM:TI:=gY
def aJN:TI:=⟨true,(.ptr 324),1,8,none,[.nilp],false,false,true⟩
def aJO:TI:=gY
def aA1:TI:=⟨true,(.struct [(0,5),(1,5)]),2,2,some (.pair (.int .u8) (.pair (.int .u8) .unit)),[.val (.int .u8) 0,.val (.int .u8) 0],false,false,true⟩
def aJP:TI:=aA1
def aJQ:TI:=gY
def aJR:TI:=gY
def aJS:TI:=gY
def aJT:TI:=gY
def aA2:TI:=⟨true,(.struct [(0,17),(1,17),(2,17),(3,9)]),4,40,none,[.nilp,.nilp,.nilp,.val .str []],false,false,true⟩
def aJU:TI:=aA2
def aJV:TI:=gY
def aJW:TI:=aE9
def aJX:TI:=aE9
def aA3:TI:=⟨true,(.struct [(0,12),(1,12),(2,249),(3,346),(4,5),(5,5),(6,347),(7,348),(8,204),(9,349),(10,350)]),11,48,none,[.val (.int .u64) 0,.val (.int .u64) 0,.val (.int .u32) 0,.val (.int .u8) 0,.val (.int .u8) 0,.val (.int .u8) 0,.val (.int .u8) 0,.nilfn,.nilp,.val (.int .i32) 0,.val (.int .i32) 0],false,false,true⟩
def aJY:TI:=aA3
def tt:TT:=(.node 172 aHD (.node 85 aLv (.node 43 aKT (.node 22 aKA (.node 11 aKu (.node 5 ti5 (.node 3 ti3 (.node 2 ti2 (.node 1 gY .nil .nil) .nil) (.node 4 ti4 .nil .nil)) (.node 9 ti9 (.node 8 ti8 (.node 7 ti7 .nil .nil) .nil) (.node 10 aKt .nil .nil))) (.node 16 aKx (.node 14 aKv (.node 13 aG4 (.node 12 azS .nil .nil) .nil) (.node 15 aKw .nil .nil)) (.node 19 aKz (.node 18 aHK (.node 17 aKy .nil .nil) .nil) (.node 21 aE9 .nil .nil)))) (.node 34 aKK (.node 28 aKF (.node 25 aKD (.node 24 aKC (.node 23 aKB .nil .nil) .nil) (.node 26 aKE .nil .nil)) (.node 32 aKI (.node 31 aKH (.node 29 aKG .nil .nil) .nil) (.node 33 aKJ .nil .nil))) (.node 39 aKP (.node 37 aKN (.node 36 aKM (.node 35 aKL .nil .nil) .nil) (.node 38 aKO .nil .nil)) (.node 41 aKR (.node 40 aKQ .nil .nil) (.node 42 aKS .nil .nil))))) (.node 65 aLe (.node 53 aK4 (.node 48 aKY (.node 46 aKW (.node 45 aKV (.node 44 aKU .nil .nil) .nil) (.node 47 aKX .nil .nil)) (.node 51 aK2 (.node 50 aK1 (.node 49 aKZ .nil .nil) .nil) (.node 52 aK3 .nil .nil))) (.node 58 aK9 (.node 56 aK7 (.node 55 aK6 (.node 54 aK5 .nil .nil) .nil) (.node 57 aK8 .nil .nil)) (.node 63 aLc (.node 61 aLb (.node 59 aLa .nil .nil) .nil) (.node 64 aLd .nil .nil)))) (.node 76 aLn (.node 70 aLj (.node 68 aLh (.node 67 aLg (.node 66 aLf .nil .nil) .nil) (.node 69 aLi .nil .nil)) (.node 73 aLl (.node 72 aLk (.node 71 aJZ .nil .nil) .nil) (.node 75 aLm .nil .nil))) (.node 81 aLr (.node 79 aLq (.node 78 aLp (.node 77 aLo .nil .nil) .nil) (.node 80 aJ0 .nil .nil)) (.node 83 aLt (.node 82 aLs .nil .nil) (.node 84 aLu .nil .nil)))))) (.node 127 aG1 (.node 107 aGJ (.node 97 aLG (.node 91 aLB (.node 89 aLy (.node 88 aLx (.node 86 aLw .nil .nil) .nil) (.node 90 aLA .nil .nil)) (.node 95 aLE (.node 94 aLD (.node 93 aLC .nil .nil) .nil) (.node 96 aLF .nil .nil))) (.node 102 aGE (.node 100 aGC (.node 99 aLI (.node 98 aLH .nil .nil) .nil) (.node 101 aGD .nil .nil)) (.node 105 aGH (.node 104 aGG (.node 103 aGF .nil .nil) .nil) (.node 106 aGI .nil .nil)))) (.node 118 aGS (.node 112 aGO (.node 110 aGM (.node 109 aGL (.node 108 aGK .nil .nil) .nil) (.node 111 aGN .nil .nil)) (.node 116 aAT (.node 115 aGQ (.node 113 aGP .nil .nil) .nil) (.node 117 aGR .nil .nil))) (.node 123 aGX (.node 121 aGV (.node 120 aGU (.node 119 aGT .nil .nil) .nil) (.node 122 aGW .nil .nil)) (.node 125 aGZ (.node 124 aGY .nil .nil) (.node 126 aG0 .nil .nil))))) (.node 150 aHl (.node 140 aHc (.node 132 aG7 (.node 130 aG5 (.node 129 aG3 (.node 128 aG2 .nil .nil) .nil) (.node 131 aG6 .nil .nil)) (.node 135 aHa (.node 134 aG9 (.node 133 aG8 .nil .nil) .nil) (.node 139 aHb .nil .nil))) (.node 146 aHh (.node 143 aHf (.node 142 aHe (.node 141 aHd .nil .nil) .nil) (.node 145 aHg .nil .nil)) (.node 148 aHj (.node 147 aHi .nil .nil) (.node 149 aHk .nil .nil)))) (.node 162 aHv (.node 156 aHq (.node 154 aHo (.node 153 aHn (.node 152 aHm .nil .nil) .nil) (.node 155 aHp .nil .nil)) (.node 159 aHt (.node 158 aHs (.node 157 aHr .nil .nil) .nil) (.node 160 aHu .nil .nil))) (.node 168 aHz (.node 165 aAU (.node 164 aHx (.node 163 aHw .nil .nil) .nil) (.node 166 aHy .nil .nil)) (.node 170 aHB (.node 169 aHA .nil .nil) (.node 171 aHC .nil .nil))))))) (.node 253 aIP (.node 214 aIe (.node 192 aHW (.node 182 aHN (.node 177 aHH (.node 175 aHG (.node 174 aHF (.node 173 aHE .nil .nil) .nil) (.node 176 aAV .nil .nil)) (.node 180 aHL (.node 179 aHJ (.node 178 aHI .nil .nil) .nil) (.node 181 aHM .nil .nil))) (.node 187 aHR (.node 185 aHP (.node 184 aAW (.node 183 aHO .nil .nil) .nil) (.node 186 aHQ .nil .nil)) (.node 190 aHU (.node 189 aHT (.node 188 aHS .nil .nil) .nil) (.node 191 aHV .nil .nil)))) (.node 205 aH5 (.node 198 aH0 (.node 195 aHY (.node 194 aAX (.node 193 aHX .nil .nil) .nil) (.node 197 aHZ .nil .nil)) (.node 203 aH3 (.node 202 aH2 (.node 200 aH1 .nil .nil) .nil) (.node 204 aH4 .nil .nil))) (.node 210 aIa (.node 208 aH8 (.node 207 aH7 (.node 206 aH6 .nil .nil) .nil) (.node 209 aH9 .nil .nil)) (.node 212 aIc (.node 211 aIb .nil .nil) (.node 213 aId .nil .nil))))) (.node 233 aIw (.node 224 aIo (.node 219 aIj (.node 217 aIh (.node 216 aIg (.node 215 aIf .nil .nil) .nil) (.node 218 aIi .nil .nil)) (.node 222 aIm (.node 221 aIl (.node 220 aIk .nil .nil) .nil) (.node 223 aIn .nil .nil))) (.node 229 aIs (.node 227 aIq (.node 226 aAY (.node 225 aIp .nil .nil) .nil) (.node 228 aIr .nil .nil)) (.node 231 aIu (.node 230 aIt .nil .nil) (.node 232 aIv .nil .nil)))) (.node 244 aIG (.node 238 aIB (.node 236 aIz (.node 235 aIy (.node 234 aIx .nil .nil) .nil) (.node 237 aIA .nil .nil)) (.node 241 aIE (.node 240 aID (.node 239 aIC .nil .nil) .nil) (.node 242 aIF .nil .nil))) (.node 249 aIL (.node 247 aIJ (.node 246 aII (.node 245 aIH .nil .nil) .nil) (.node 248 aIK .nil .nil)) (.node 251 aIN (.node 250 aIM .nil .nil) (.node 252 aIO .nil .nil)))))) (.node 299 aJq (.node 277 aI7 (.node 264 aIY (.node 259 aIU (.node 257 aIS (.node 256 aIR (.node 254 aIQ .nil .nil) .nil) (.node 258 aIT .nil .nil)) (.node 262 aIX (.node 261 aIW (.node 260 aIV .nil .nil) .nil) (.node 263 aAZ .nil .nil))) (.node 269 aI2 (.node 267 aA0 (.node 266 aI0 (.node 265 aIZ .nil .nil) .nil) (.node 268 aI1 .nil .nil)) (.node 274 aI5 (.node 272 aI4 (.node 271 aI3 .nil .nil) .nil) (.node 275 aI6 .nil .nil)))) (.node 287 aJh (.node 282 aJc (.node 280 aJa (.node 279 aI9 (.node 278 aI8 .nil .nil) .nil) (.node 281 aJb .nil .nil)) (.node 285 aJf (.node 284 aJe (.node 283 aJd .nil .nil) .nil) (.node 286 aJg .nil .nil))) (.node 294 aJm (.node 291 aJk (.node 289 aJj (.node 288 aJi .nil .nil) .nil) (.node 293 aJl .nil .nil)) (.node 296 aJo (.node 295 aJn .nil .nil) (.node 298 aJp .nil .nil))))) (.node 321 aJJ (.node 310 aJA (.node 304 aJv (.node 302 aJt (.node 301 aJs (.node 300 aJr .nil .nil) .nil) (.node 303 aJu .nil .nil)) (.node 308 aJy (.node 307 aJx (.node 306 aJw .nil .nil) .nil) (.node 309 aJz .nil .nil))) (.node 317 aJF (.node 313 aJD (.node 312 aJC (.node 311 aJB .nil .nil) .nil) (.node 316 aJE .nil .nil)) (.node 319 aJH (.node 318 aJG .nil .nil) (.node 320 aJI .nil .nil)))) (.node 339 aJS (.node 329 aJO (.node 327 aJM (.node 326 aJL (.node 322 aJK .nil .nil) .nil) (.node 328 aJN .nil .nil)) (.node 336 aJQ (.node 332 aJP (.node 331 aA1 .nil .nil) .nil) (.node 338 aJR .nil .nil))) (.node 349 aJW (.node 342 aJU (.node 341 aA2 (.node 340 aJT .nil .nil) .nil) (.node 348 aJV .nil .nil)) (.node 351 aA3 (.node 350 aJX .nil .nil) (.node 352 aJY .nil .nil))))))))
theorem azX {P:Program} {t:TypeId} {j:TypeInfo} {k:IntKind} (h:(P.info? t).map (·.zero)=some (some (.int k 0))) (hj:P.info? t=some j):j.zero=some (.int k 0):=by rw[hj]at h;simpa using h
theorem fB {P:Program} {T:TT} {t:TypeId} {i:TI} (h1:(P.info? t).map (fun f=>(f.size,f.bytes,f.zero.map fun z=>(z.cells.toList.map wR,z.cells.toList.all Value.oneCell')))=some (i.size,i.bytes,some (i.zero,true)):=by kernel_rfl)
  (h2:(P.underlying t).map kN=some (some i.k):=by kernel_rfl) (h3:(match i.ty with|none=>none|some _=>i.ty)=(match i.ty with|none=>none|some _=>lJ T i.k):=by kernel_rfl) (h4:(match i.ty with|none=>true|some y=>Nat.beq y.size i.size)=true:=by kernel_rfl) (h5:(i.isAgg||Nat.beq i.size 1)=true:=by kernel_rfl)
  (h6:(!i.eq||(!P.eqGuardType P.depth t&&(!P.stoodInHeld t&&((P.underlying t).map (fun d=>match d with|.struct fs=>fs.toList.all fun f=>f.name != "_" |_=>false)).getD false)))=true:=by kernel_rfl)
  (h7:(P.underlying t).map (fun d=>match d with|.struct fs=>fs.toList.all fun f=>(P.info? f.type).isSome|_=>true)=some true:=by kernel_rfl) (h8:Nat.beq i.zero.length i.size=true:=by kernel_rfl)
  (h9:(match i.ty with|some (.int .u8)=>Nat.beq t o8|_=>true)=true:=by kernel_rfl) (h10:(!i.bld||Nat.beq t Vw)=true:=by kernel_rfl)
  (h11:(match i.k with|.int _=>(P.info? t).map (fun j:TypeInfo=>j.zero)|_=>none)=(match i.k with|.int k=>some (some (Value.int k 0))|_=>none):=by kernel_rfl):aBc P T t i:=fun _=>by
 refine⟨h1,h2, ?_,fun y hy=> ?_, ?_,fun he=> ?_,h7,au h8,fun hu=> ?_,fun hb=> ?_,fun k hk j hj=> ?_⟩
 ·cases hi:i.ty with
  |none=>exact .inl rfl
  |some y=>rw[hi]at h3;exact .inr h3
 ·rw[hy]at h4;exact au h4
 ·rw[Bool.or_eq_true]at h5;exact h5.imp id au
 ·rw[he]at h6;simp only[aB,aV,af,Bool.not_eq_true']at h6;refine⟨h6.1,h6.2.1, ?_⟩;have h:=h6.2.2;generalize (P.underlying t).map _=o at h ⊢;cases o with
  |none=>cases h
  |some b=>exact congrArg some h
 ·rw[hu]at h9;exact au h9
 ·rw[hb]at h10;exact au h10
 ·rw[hk]at h11;exact azX h11 hj
theorem tok:TOk prog tt:=TOk.of_all (⟨fB,⟨fB,⟨fB,⟨fB,⟨fB,⟨fB,⟨fB,⟨fB,⟨fB,trivial,trivial⟩,trivial⟩,⟨fB,trivial,trivial⟩⟩,⟨fB,⟨fB,⟨fB,trivial,trivial⟩,trivial⟩,⟨fB,trivial,trivial⟩⟩⟩,⟨fB,⟨fB,⟨fB,⟨fB,trivial,trivial⟩,trivial⟩,⟨fB,trivial,trivial⟩⟩,⟨fB,⟨fB,⟨fB,trivial,trivial⟩,trivial⟩,⟨fB,trivial,trivial⟩⟩⟩⟩,⟨fB,⟨fB,⟨fB,⟨fB,⟨fB,trivial,trivial⟩,trivial⟩,⟨fB,trivial,trivial⟩⟩,⟨fB,⟨fB,⟨fB,trivial,trivial⟩,trivial⟩,⟨fB,trivial,trivial⟩⟩⟩,⟨fB,⟨fB,⟨fB,⟨fB,trivial,trivial⟩,trivial⟩,⟨fB,trivial,trivial⟩⟩,⟨fB,⟨fB,trivial,trivial⟩,⟨fB,trivial,trivial⟩⟩⟩⟩⟩,⟨fB,⟨fB,⟨fB,⟨fB,⟨fB,⟨fB,trivial,trivial⟩,trivial⟩,⟨fB,trivial,trivial⟩⟩,⟨fB,⟨fB,⟨fB,trivial,trivial⟩,trivial⟩,⟨fB,trivial,trivial⟩⟩⟩,⟨fB,⟨fB,⟨fB,⟨fB,trivial,trivial⟩,trivial⟩,⟨fB,trivial,trivial⟩⟩,⟨fB,⟨fB,⟨fB,trivial,trivial⟩,trivial⟩,⟨fB,trivial,trivial⟩⟩⟩⟩,⟨fB,⟨fB,⟨fB,⟨fB,⟨fB,trivial,trivial⟩,trivial⟩,⟨fB,trivial,trivial⟩⟩,⟨fB,⟨fB,⟨fB,trivial,trivial⟩,trivial⟩,⟨fB,trivial,trivial⟩⟩⟩,⟨fB,⟨fB,⟨fB,⟨fB,trivial,trivial⟩,trivial⟩,⟨fB,trivial,trivial⟩⟩,⟨fB,⟨fB,trivial,trivial⟩,⟨fB,trivial,trivial⟩⟩⟩⟩⟩⟩,⟨fB,⟨fB,⟨fB,⟨fB,⟨fB,⟨fB,⟨fB,trivial,trivial⟩,trivial⟩,⟨fB,trivial,trivial⟩⟩,⟨fB,⟨fB,⟨fB,trivial,trivial⟩,trivial⟩,⟨fB,trivial,trivial⟩⟩⟩,⟨fB,⟨fB,⟨fB,⟨fB,trivial,trivial⟩,trivial⟩,⟨fB,trivial,trivial⟩⟩,⟨fB,⟨fB,⟨fB,trivial,trivial⟩,trivial⟩,⟨fB,trivial,trivial⟩⟩⟩⟩,⟨fB,⟨fB,⟨fB,⟨fB,⟨fB,trivial,trivial⟩,trivial⟩,⟨fB,trivial,trivial⟩⟩,⟨fB,⟨fB,⟨fB,trivial,trivial⟩,trivial⟩,⟨fB,trivial,trivial⟩⟩⟩,⟨fB,⟨fB,⟨fB,⟨fB,trivial,trivial⟩,trivial⟩,⟨fB,trivial,trivial⟩⟩,⟨fB,⟨fB,trivial,trivial⟩,⟨fB,trivial,trivial⟩⟩⟩⟩⟩,⟨fB,⟨fB,⟨fB,⟨fB,⟨fB,⟨fB,trivial,trivial⟩,trivial⟩,⟨fB,trivial,trivial⟩⟩,⟨fB,⟨fB,⟨fB,trivial,trivial⟩,trivial⟩,⟨fB,trivial,trivial⟩⟩⟩,⟨fB,⟨fB,⟨fB,⟨fB,trivial,trivial⟩,trivial⟩,⟨fB,trivial,trivial⟩⟩,⟨fB,⟨fB,trivial,trivial⟩,⟨fB,trivial,trivial⟩⟩⟩⟩,⟨fB,⟨fB,⟨fB,⟨fB,⟨fB,trivial,trivial⟩,trivial⟩,⟨fB,trivial,trivial⟩⟩,⟨fB,⟨fB,⟨fB,trivial,trivial⟩,trivial⟩,⟨fB,trivial,trivial⟩⟩⟩,⟨fB,⟨fB,⟨fB,⟨fB,trivial,trivial⟩,trivial⟩,⟨fB,trivial,trivial⟩⟩,⟨fB,⟨fB,trivial,trivial⟩,⟨fB,trivial,trivial⟩⟩⟩⟩⟩⟩⟩,⟨fB,⟨fB,⟨fB,⟨fB,⟨fB,⟨fB,⟨fB,⟨fB,trivial,trivial⟩,trivial⟩,⟨fB,trivial,trivial⟩⟩,⟨fB,⟨fB,⟨fB,trivial,trivial⟩,trivial⟩,⟨fB,trivial,trivial⟩⟩⟩,⟨fB,⟨fB,⟨fB,⟨fB,trivial,trivial⟩,trivial⟩,⟨fB,trivial,trivial⟩⟩,⟨fB,⟨fB,⟨fB,trivial,trivial⟩,trivial⟩,⟨fB,trivial,trivial⟩⟩⟩⟩,⟨fB,⟨fB,⟨fB,⟨fB,⟨fB,trivial,trivial⟩,trivial⟩,⟨fB,trivial,trivial⟩⟩,⟨fB,⟨fB,⟨fB,trivial,trivial⟩,trivial⟩,⟨fB,trivial,trivial⟩⟩⟩,⟨fB,⟨fB,⟨fB,⟨fB,trivial,trivial⟩,trivial⟩,⟨fB,trivial,trivial⟩⟩,⟨fB,⟨fB,trivial,trivial⟩,⟨fB,trivial,trivial⟩⟩⟩⟩⟩,⟨fB,⟨fB,⟨fB,⟨fB,⟨fB,⟨fB,trivial,trivial⟩,trivial⟩,⟨fB,trivial,trivial⟩⟩,⟨fB,⟨fB,⟨fB,trivial,trivial⟩,trivial⟩,⟨fB,trivial,trivial⟩⟩⟩,⟨fB,⟨fB,⟨fB,⟨fB,trivial,trivial⟩,trivial⟩,⟨fB,trivial,trivial⟩⟩,⟨fB,⟨fB,trivial,trivial⟩,⟨fB,trivial,trivial⟩⟩⟩⟩,⟨fB,⟨fB,⟨fB,⟨fB,⟨fB,trivial,trivial⟩,trivial⟩,⟨fB,trivial,trivial⟩⟩,⟨fB,⟨fB,⟨fB,trivial,trivial⟩,trivial⟩,⟨fB,trivial,trivial⟩⟩⟩,⟨fB,⟨fB,⟨fB,⟨fB,trivial,trivial⟩,trivial⟩,⟨fB,trivial,trivial⟩⟩,⟨fB,⟨fB,trivial,trivial⟩,⟨fB,trivial,trivial⟩⟩⟩⟩⟩⟩,⟨fB,⟨fB,⟨fB,⟨fB,⟨fB,⟨fB,⟨fB,trivial,trivial⟩,trivial⟩,⟨fB,trivial,trivial⟩⟩,⟨fB,⟨fB,⟨fB,trivial,trivial⟩,trivial⟩,⟨fB,trivial,trivial⟩⟩⟩,⟨fB,⟨fB,⟨fB,⟨fB,trivial,trivial⟩,trivial⟩,⟨fB,trivial,trivial⟩⟩,⟨fB,⟨fB,⟨fB,trivial,trivial⟩,trivial⟩,⟨fB,trivial,trivial⟩⟩⟩⟩,⟨fB,⟨fB,⟨fB,⟨fB,⟨fB,trivial,trivial⟩,trivial⟩,⟨fB,trivial,trivial⟩⟩,⟨fB,⟨fB,⟨fB,trivial,trivial⟩,trivial⟩,⟨fB,trivial,trivial⟩⟩⟩,⟨fB,⟨fB,⟨fB,⟨fB,trivial,trivial⟩,trivial⟩,⟨fB,trivial,trivial⟩⟩,⟨fB,⟨fB,trivial,trivial⟩,⟨fB,trivial,trivial⟩⟩⟩⟩⟩,⟨fB,⟨fB,⟨fB,⟨fB,⟨fB,⟨fB,trivial,trivial⟩,trivial⟩,⟨fB,trivial,trivial⟩⟩,⟨fB,⟨fB,⟨fB,trivial,trivial⟩,trivial⟩,⟨fB,trivial,trivial⟩⟩⟩,⟨fB,⟨fB,⟨fB,⟨fB,trivial,trivial⟩,trivial⟩,⟨fB,trivial,trivial⟩⟩,⟨fB,⟨fB,trivial,trivial⟩,⟨fB,trivial,trivial⟩⟩⟩⟩,⟨fB,⟨fB,⟨fB,⟨fB,⟨fB,trivial,trivial⟩,trivial⟩,⟨fB,trivial,trivial⟩⟩,⟨fB,⟨fB,⟨fB,trivial,trivial⟩,trivial⟩,⟨fB,trivial,trivial⟩⟩⟩,⟨fB,⟨fB,⟨fB,⟨fB,trivial,trivial⟩,trivial⟩,⟨fB,trivial,trivial⟩⟩,⟨fB,⟨fB,trivial,trivial⟩,⟨fB,trivial,trivial⟩⟩⟩⟩⟩⟩⟩⟩)
def aEy (P:Program):Bool:=P.funcs.toList.all fun fn=>fn.body.isNone|| !(fn.name== "runtime.NumGoroutine")
theorem auf {P:Program} (h:aEy P=true):Ja P:=fun f fn c hf hb=>by
 have h1:=List.all_eq_true.1 h fn (by have:=Array.mem_of_getElem? hf;simpa using this);simpa [hb] using h1
theorem SX:Ja prog:=auf (by kernel_rfl)
theorem mixed:prog.follows .mixedOrders=true:=by kernel_rfl
noncomputable def sg0 (g:FuncId):Option Sum:=bif Nat.beq g 343 then some alh else bif Nat.beq g 290 then some ahB else none
theorem auV: ∀g s,sg0 g=some s->dY prog g s:=fun g s h=>by
 unfold sg0 at h;rw[cond_eq_ite]at h;split at h
 ·rename_i hg
  obtain rfl:g=343:=au hg;cases h;exact(aeR func343 (by kernel_rfl) (by kernel_rfl) (by kernel_rfl) (by kernel_rfl))
 rw[cond_eq_ite]at h;split at h
 ·rename_i hg
  obtain rfl:g=290:=au hg;cases h;exact(apL func290 (by kernel_rfl) (by kernel_rfl) (by kernel_rfl) (by kernel_rfl))
 cases h
def aqZ:Go.Shelf.Ren:=⟨fun|240=>143|276=>209|n=>n,fun|0=>0|4=>4|9=>9|20=>20|37=>111|70=>130|72=>132|164=>255|n=>n,fun n=>n⟩
theorem ahT:Go.Proofs.Lays.n240 prog aqZ:={
 mixed:=mixed,
 f240:=(func143).trans (by kernel_rfl),
 f276:=(func209).trans (by kernel_rfl),
 t0:=underlying0,a0:=isAgg0,z0:=sizeOf0,v0:=zeroValue0,
 t4:=underlying4,a4:=isAgg4,z4:=sizeOf4,v4:=zeroValue4,
 t9:=underlying9,a9:=isAgg9,z9:=sizeOf9,v9:=zeroValue9,
 t20:=underlying20,a20:=isAgg20,z20:=sizeOf20,v20:=zeroValue20,
 t70:=underlying130,a70:=isAgg130,z70:=sizeOf130,v70:=zeroValue130,
 t72:=underlying132,a72:=isAgg132,z72:=sizeOf132,v72:=zeroValue132,
 t164:=underlying255,a164:=isAgg255,z164:=sizeOf255,v164:=zeroValue255}
theorem aFI:Go.Proofs.Builder.X72 prog aqZ:={sizeBuilder:=by kernel_rfl,liesBuilder:=by kernel_rfl}
theorem QY (g:FuncId) (h:JG g=true):Bo prog g:=by
 simp only[JG,af]at h;obtain rfl:g=143:=au h.1;exact fun w b hs hf=>⟨BA SX func143 (show f143.body=some ((f143.body).getD .skip) by kernel_rfl) _ _,fun h0=>Any.Builder_copyCheck_used ahT aFI b w h0,fun h0=>Any.Builder_copyCheck_fresh ahT aFI b w h0 hs hf⟩
noncomputable def ara:Env:={P:=prog,T:=tt,cl:=true,kp:=fun _ _=>none,sg:=sg0,lp:=fun _ _=>none,bf:=JG}
theorem aeu: ∀E,sV prog E->ae3 E:=fun E h f k jC bd hr=>azL h f k jC bd hr
theorem ahX:dK ara:=⟨tok,mixed,SX,auV,fun f fn c _ _=>jU (fun _=>rfl) (fun _=>rfl) c,aeu _ fun f fn c _ _=>jU (fun _=>rfl) (fun _=>rfl) c,QY,fun _ _ h=>by cases h⟩
abbrev xI:Ty:=(.pair (.int .i64) (.pair (.int .i64) .unit))
def rO (l:List xI.den):Option (List xI.den):=bif eQ l 16 then some l else none
theorem Xu (xs:List xI.den):exec ara 1000000 (.call 169 [.lst xI xs false]) ⟨[],[],[],0⟩ (fun v st=>jc true [(.list xI,true)] (EK 1 v) st.hp)=(bif eQ xs 16 then some (xs,())else none):=by kernel_rfl
theorem Xw:exec ara 1000000 (.call 169 [.lst xI [] true]) ⟨[],[],[],0⟩ (fun v st=>match v,st.hp with|.nils,[]=>some ()|_,_=>none)=some ():=by kernel_rfl
def oI (l:List xI.den):Option (List xI.den×Unit):=match rO l with|some y=>some (y,())|none=>none
def yM:Sum:=⟨[.list xI],[(.list xI,true)],fun x=>oI x.1⟩
theorem xC:dY prog 169 yM:=by
 have base:=Dh ahX (e:=xI) (e2:=xI) (g:=169) (f:=rO) (show 0<xI.size by decide) (show 0<xI.size by decide) (fun xs y h=>by
  unfold rO at h;rw[Xu];cases hf:eQ xs 16 with
  |true=>rw[hf]at h;cases h;rfl
  |false=>rw[hf]at h;cases h) fun y h=>by
  have e:rO []=some []:=rfl;rw[e]at h;cases h;exact⟨rfl,Xw⟩
 intro w bar args' x y hp hb hd hy;refine base w bar args' x y hp hb hd ?_;have hy:oI x.1=some y:=hy;unfold oI at hy;cases hc:rO x.1 with
 |none=>rw[hc]at hy;cases hy
 |some z=>rw[hc]at hy;simp only[hc];exact hy
abbrev xJ:Ty:=(.pair .str (.pair .bool .unit))
def wE (l:List xJ.den):Option (List xJ.den):=bif eQ l 24 then some l else none
theorem Xv (xs:List xJ.den):exec ara 1000000 (.call 262 [.lst xJ xs false]) ⟨[],[],[],0⟩ (fun v st=>jc true [(.list xJ,true)] (EK 1 v) st.hp)=(bif eQ xs 24 then some (xs,())else none):=by kernel_rfl
theorem Xx:exec ara 1000000 (.call 262 [.lst xJ [] true]) ⟨[],[],[],0⟩ (fun v st=>match v,st.hp with|.nils,[]=>some ()|_,_=>none)=some ():=by kernel_rfl
def rP (l:List xJ.den):Option (List xJ.den×Unit):=match wE l with|some y=>some (y,())|none=>none
def yN:Sum:=⟨[.list xJ],[(.list xJ,true)],fun x=>rP x.1⟩
theorem xE:dY prog 262 yN:=by
 have base:=Dh ahX (e:=xJ) (e2:=xJ) (g:=262) (f:=wE) (show 0<xJ.size by decide) (show 0<xJ.size by decide) (fun xs y h=>by
  unfold wE at h;rw[Xv];cases hf:eQ xs 24 with
  |true=>rw[hf]at h;cases h;rfl
  |false=>rw[hf]at h;cases h) fun y h=>by
  have e:wE []=some []:=rfl;rw[e]at h;cases h;exact⟨rfl,Xx⟩
 intro w bar args' x y hp hb hd hy;refine base w bar args' x y hp hb hd ?_;have hy:rP x.1=some y:=hy;unfold rP at hy;cases hc:wE x.1 with
 |none=>rw[hc]at hy;cases hy
 |some z=>rw[hc]at hy;simp only[hc];exact hy
noncomputable def sg1 (g:FuncId):Option Sum:=bif Nat.beq g 169 then some yM else bif Nat.beq g 262 then some yN else sg0 g
theorem auW: ∀g s,sg1 g=some s->dY prog g s:=fun g s h=>by
 unfold sg1 at h;rw[cond_eq_ite]at h;split at h
 ·rename_i hg
  obtain rfl:g=169:=au hg;cases h;exact xC
 rw[cond_eq_ite]at h;split at h
 ·rename_i hg
  obtain rfl:g=262:=au hg;cases h;exact xE
 exact auV g s h
noncomputable def aKj:Env:={P:=prog,T:=tt,cl:=true,kp:=fun _ _=>none,sg:=sg1,lp:=fun _ _=>none,bf:=JG}
theorem aJ2:dK aKj:=⟨tok,mixed,SX,auW,fun f fn c _ _=>jU (fun _=>rfl) (fun _=>rfl) c,aeu _ fun f fn c _ _=>jU (fun _=>rfl) (fun _=>rfl) c,QY,fun _ _ h=>by cases h⟩
end
section
open Go.ChangeShapes Go.WideShapes Go.RowKit
end
section
open Tryz
open Go.RowKit
theorem Bi {E:Env} {f:FuncId} {c:Code} {k:dZ} {l la lb:SP} {ex exb:Ex} {D:Nat} {lp:Nat->l.den->Option (la.den⊕lb.den)}
  (st:{γ:Type}->(l.den->Option γ)->(la.den->Option γ)->(lb.den->Option γ)->l.den->Option γ)
  (hk:E.kp f (dH c)=some k:=by kernel_rfl) (h0: ∀v,lp 0 v=none:=by intro _;rfl) (hs: ∀n v,lp (n+1) v=st (lp n) (fun e=>some (.inl e)) (fun r=>some (.inr r)) v:=by intro _ _;rfl)
  (h1: ∀{R:Type} (d n:Nat) (K:Ex->St->Option R) (v:l.den),iter (some k) (AO E (d+D) f c) (n+1) (lF l v) K=st (fun v=>iter (some k) (AO E (d+D) f c) n (lF l v) K) (fun e=>K ex (lF la e)) (fun r=>K exb (lF lb r)) v:=by intro _ d n K v;kernel_rfl)
  (h2: ∀{γ δ:Type} (x:l.den->Option γ) (y:la.den->Option γ) (z:lb.den->Option γ) (v:l.den) (K:γ->Option δ),bM (st x y z v) K=st (fun v=>bM (x v) K) (fun e=>bM (y e) K) (fun r=>bM (z r) K) v):
  dX E f c (gQ k l la lb ex (fun v=>lp bU v) D exb):=by
 refine aol hk fun R d K v o h=>⟨bU, ?_⟩;have it: ∀(n:Nat) (v:l.den),iter (some k) (AO E (d+D) f c) n (lF l v) K=bM (lp n v) fun o=>dV o (fun a=>K ex (lF la a)) fun b=>K exb (lF lb b):=by
  intro n
  induction n with
  |zero=>intro v;rw[h0];rfl
  |succ n ih=>intro v;rw[h1,hs,h2,funext ih];rfl
 exact(it bU v).trans (congrArg (fun o=>bM o _) h)
theorem lK {E:Env} {f:FuncId} {c:Code} {k:dZ} {l la lb:SQ} {ex exb:Ex} {D:Nat} {lp:Nat->l.den->Option (la.den⊕lb.den)}
  (st:{γ:Type}->(l.den->Option γ)->(la.den->Option γ)->(lb.den->Option γ)->l.den->Option γ)
  (hk:E.kp f (dH c)=some k:=by kernel_rfl) (h0: ∀v,lp 0 v=none:=by intro _;rfl) (hs: ∀n v,lp (n+1) v=st (lp n) (fun e=>some (.inl e)) (fun r=>some (.inr r)) v:=by intro _ _;rfl)
  (h1: ∀{R:Type} (d n:Nat) (K:Ex->St->Option R) (v:l.den),iter (some k) (AO E (d+D) f c) (n+1) (mZ l v) K=st (fun v=>iter (some k) (AO E (d+D) f c) n (mZ l v) K) (fun e=>K ex (mZ la e)) (fun r=>K exb (mZ lb r)) v:=by intro _ d n K v;kernel_rfl)
  (h2: ∀{γ δ:Type} (x:l.den->Option γ) (y:la.den->Option γ) (z:lb.den->Option γ) (v:l.den) (K:γ->Option δ),bM (st x y z v) K=st (fun v=>bM (x v) K) (fun e=>bM (y e) K) (fun r=>bM (z r) K) v):
  dX E f c (fU k l la lb ex (fun v=>lp bU v) D exb):=by
 refine agx hk fun R d K v o h=>⟨bU, ?_⟩;have it: ∀(n:Nat) (v:l.den),iter (some k) (AO E (d+D) f c) n (mZ l v) K=bM (lp n v) fun o=>dV o (fun a=>K ex (mZ la a)) fun b=>K exb (mZ lb b):=by
  intro n
  induction n with
  |zero=>intro v;rw[h0];rfl
  |succ n ih=>intro v;rw[h1,hs,h2,funext ih];rfl
 exact(it bU v).trans (congrArg (fun o=>bM o _) h)
theorem aKr {E:Env} (hE:dK E) {g:FuncId} {s:Sum} (hn:news s.rs<=1) (h: ∀x,aa4 E g s.ps s.rs x=s.f x):dY E.P g s:=
 Us hE hn fun x y hy=>(h x).trans hy
theorem fL {E:Env} {f:FuncId} {c:Code} {L:dI} (h1:E.lp f (dH c)=some L) (h2:dX E f c L): ∀L',E.lp f (dH c)=some L'->dX E f c L':=fun L' h=>by
 simp_all
theorem fC {E:Env} {f:FuncId} {c:Code} {L:dI} (h1:E.lp f (800000+dH c)=some L) (h2:zM E f c L): ∀L',E.lp f (800000+dH c)=some L'->zM E f c L':=fun L' h=>by
 simp_all
theorem aC {α:Type} {p:α->Prop} {a:α} {l:List α} (h:p a/\ ∀x∈l,p x): ∀x∈a::l,p x:=List.forall_mem_cons.2 h
theorem aN {α:Type} {p:α->Prop}: ∀x∈([]:List α),p x:=fun _ h=>absurd h List.not_mem_nil
theorem aGz {E:Env} (hE:dK E) {g:FuncId} {s:gX} (h: ∀x y,azN E g s.bt s.cs s.ps s.rs x y=s.f x y):eF E.P g s:=aeQ hE fun x y _ hy=>(h x y).trans hy
theorem nU {P:Program} {g:FuncId} {s:gX} (h: ∀x y,s.f x y=none):eF P g s:=fun W0 c x y z _ _ _ _ args' _ hz=>nomatch (show(none:Option _)=some z from(h x y).symm.trans hz)
theorem aD {α:Type} {p:α->Prop} {a:α} {l:List α} (h:p a) (h2: ∀x∈l,p x): ∀x∈a::l,p x:=aC ⟨h,h2⟩
theorem fM {E:Env} {f:FuncId} {c:Code} {L:dI} (h2:dX E f c L) (h1:E.lp f (dH c)=some L:=by kernel_rfl): ∀L',E.lp f (dH c)=some L'->dX E f c L':=fL h1 h2
theorem sA {E:Env} (hE:dK E) {g:FuncId} {s:Sum} (hn:news s.rs<=1:=by decide) (h: ∀x,aa4 E g s.ps s.rs x=s.f x:=by intro x;kernel_rfl):dY E.P g s:=aKr hE hn h
theorem sB {E:Env} (hE:dK E) {g:FuncId} {s:gX} (h: ∀x y,azN E g s.bt s.cs s.ps s.rs x y=s.f x y:=by intro x y;kernel_rfl):eF E.P g s:=aGz hE h
theorem qj {E:Env} {f:FuncId} {c:Code} (l:List Code) (h: ∀d∈l,∀L,E.lp f (dH d)=some L->dX E f d L) (hl:jH c=l:=by kernel_rfl) (k:YB E f c=true:=by kernel_rfl) (hrf: ∀id,E.rf f id=false:=by intro _;rfl):dU E f c:=agy c hrf (by rw[hl];exact h) k
theorem eA {f:FuncId} {sg:List (FuncId×Sum)} {kp:List (Nat×dZ)} {lp:List (Nat×dI)} {sb:List (FuncId×gX)} (fn:Func) (hs: ∀e∈sg,dY prog e.1 e.2) (hl:dU (gp prog tt f sg kp lp sb) f (fn.body.getD .skip):=by exact jU (fun _=>rfl) (fun _=>rfl) _) (hf:prog.funcs[f]? =some fn:=by kernel_rfl) (hb:fn.body=some (fn.body.getD .skip):=by kernel_rfl) (hx: ∀e∈sb,eF prog e.1 e.2:=by simp):dK (gp prog tt f sg kp lp sb):=arG tok mixed SX hs hf hb hl aeu QY hx
theorem eB {sg:List (FuncId×Sum)} {kp:List (FuncId×Nat×dZ)} {lp:List (FuncId×Nat×dI)} {rf:List FuncId} {sb:List (FuncId×gX)} (hs: ∀e∈sg,dY prog e.1 e.2) (fs:List FuncId) (hl: ∀g∈fs,∃fn c,prog.funcs[g]? =some fn/\fn.body=some c/\dU (ed prog tt sg kp lp rf sb) g c) (hx: ∀e∈sb,eF prog e.1 e.2:=by simp) (hall:(lp.all fun e=>fs.any fun g=>Nat.beq e.1 g)=true:=by kernel_rfl) (hall2:(rf.all fun e=>fs.any fun g=>Nat.beq e g)=true:=by kernel_rfl):dK (ed prog tt sg kp lp rf sb):=anX tok mixed SX hs fs hall hall2 hl aeu QY hx
end
section
open Tryz
open Go.RowKit
def uU (x0:List oG) (x1:Bool) (x2 x3:Int):Option (taM×(Unit)):=bif(gV x0 (eG .i64 (bP x0) 1))then bif(oD (dG (eG .i64 (bP x0) 1)) x0)then some (((iH x0 (dG (eG .i64 (bP x0) 1)) (x3,((dL x0 (0,(0,())) (dG (eG .i64 (bP x0) 1))).2.1,()))),(x1,(x2,()))),())else none else none
def abD:gX:=⟨227,tzC,[dD],[],fun x y=>uU x.1 x.2.1 x.2.2.1 y.1⟩
noncomputable def aBT:Env:=ed prog tt [] [] [] []
theorem al3:dK aBT:=eB aN [] aN
theorem Nw:eF prog 166 abD:=sB al3
def wY (x0:List oG) (x1:Bool) (x2:Int):Option (taM×(Unit)):=bif(iG 1 (bP x0))then bif(gm (bP x0) 0 (eG .i64 (bP x0) 1))then some (((takeN x0 (dG (eG .i64 (bP x0) 1))),(x1,(x2,()))),())else none else some ((x0,(x1,(x2,()))),())
def IV:gX:=⟨227,tzC,[],[],fun x y=>wY x.1 x.2.1 x.2.2.1⟩
noncomputable def aBU:Env:=ed prog tt [] [] [] []
theorem al4:dK aBU:=eB aN [] aN
theorem wL:eF prog 167 IV:=sB al4
def aif (x0:List oG) (x1:Bool) (x2:Int):Option (taM×Di):=bif(gV x0 (BQ (eG .i64 (bP x0) 2) 0))then bif(oD (dG (BQ (eG .i64 (bP x0) 2) 0)) x0)then some ((x0,(x1,(x2,()))),((dL x0 (0,(0,())) (dG (BQ (eG .i64 (bP x0) 2) 0))).1,()))else none else none
def avz:gX:=⟨227,tzC,[],[dD],fun x y=>aif x.1 x.2.1 x.2.2.1⟩
noncomputable def aCc:Env:=ed prog tt [] [] [] []
theorem amv:dK aCc:=eB aN [] aN
theorem ao7:eF prog 228 avz:=sB amv
def NV (x0:List oG) (x1:Bool) (x2 x3:Int):Option (taM×qM):=bif(bW x3 40)then bM (uU x0 x1 x2 3) fun y0=>some ((y0.1.1,(true,(y0.1.2.2.1,()))),(true,()))else bif(bW x3 123)then bM (aif x0 x1 x2) fun y0=>bif(bW y0.2.1 5)then bif(bW y0.2.1 5)then bM (uU y0.1.1 y0.1.2.1 y0.1.2.2.1 8) fun y1=>some ((y1.1.1,(y1.1.2.1,(y1.1.2.2.1,()))),(true,()))else bM (uU y0.1.1 y0.1.2.1 y0.1.2.2.1 7) fun y1=>some ((y1.1.1,(y1.1.2.1,(y1.1.2.2.1,()))),(true,()))else bif(bW y0.2.1 8)then bM (uU y0.1.1 y0.1.2.1 y0.1.2.2.1 8) fun y1=>some ((y1.1.1,(y1.1.2.1,(y1.1.2.2.1,()))),(true,()))else bM (uU y0.1.1 y0.1.2.1 y0.1.2.2.1 7) fun y1=>some ((y1.1.1,(y1.1.2.1,(y1.1.2.2.1,()))),(true,()))else bif(bW x3 36)then bM (wY x0 x1 x2) fun y0=>some ((y0.1.1,(y0.1.2.1,(y0.1.2.2.1,()))),(true,()))else bM (wY x0 x1 x2) fun y0=>some ((y0.1.1,(y0.1.2.1,(y0.1.2.2.1,()))),(false,()))
def avn:gX:=⟨227,tzC,[.int .u8],[.bool],fun x y=>NV x.1 x.2.1 x.2.2.1 y.1⟩
noncomputable def aBS:Env:=ed prog tt [] [] [] [] [(166,abD),(167,IV),(228,avz)]
theorem al2:dK aBS:=eB aN [] aN (hx:=(aD Nw (aD wL (aD ao7 aN))))
theorem aoV:eF prog 165 avn:=sB al2
def wZ (x0:List oG) (x1:Bool) (x2 x3:Int):Option (taM×(Unit)):=bif(bW x3 x3)then bif(bW x2 x2)then bif(eQ (cu x0 [(x3,(x2,()))]) 16)then bif(bW x3 x3)then bif(bW x2 x2)then bif((bW x3 x3)&&((bW x2 x2)&&true))then some (((cu x0 [(x3,(x2,()))]),(x1,(x2,()))),())else none else none else none else none else none else none
def NF:gX:=⟨227,tzC,[dD],[],fun x y=>wZ x.1 x.2.1 x.2.2.1 y.1⟩
noncomputable def aCe:Env:=ed prog tt [] [] [] []
theorem amx:dK aCe:=eB aN [] aN
theorem Bd:eF prog 230 NF:=sB amx
def RF (x0:List oG) (x1:Bool) (x2 x3:Int):Option (taM×qM):=bif(bW x3 92)then bM (wZ x0 x1 x2 13) fun y0=>some ((y0.1.1,(y0.1.2.1,(y0.1.2.2.1,()))),(true,()))else bif(bW x3 36)then bM (wZ x0 x1 x2 12) fun y0=>some ((y0.1.1,(y0.1.2.1,(y0.1.2.2.1,()))),(true,()))else bif(bW x3 96)then bM (wZ x0 x1 x2 6) fun y0=>some ((y0.1.1,(y0.1.2.1,(y0.1.2.2.1,()))),(true,()))else some ((x0,(x1,(x2,()))),(false,()))
def abM:gX:=⟨227,tzC,[.int .u8],[.bool],fun x y=>RF x.1 x.2.1 x.2.2.1 y.1⟩
noncomputable def aCz:Env:=ed prog tt [] [] [] [] [(230,NF)]
theorem am5:dK aCz:=eB aN [] aN (hx:=(aD Bd aN))
theorem NI:eF prog 284 abM:=sB am5
noncomputable def aca:Code:=(f122.body).getD .skip
noncomputable def xN:Code:=cB (cB (cB (cB (cB (cB (cB (cA (cA (cB (aca))))))))))
noncomputable def xO:Code:=cB (cB (aca))
noncomputable def xP:Code:=cB (cA (cB (cA (cB (cB (aca))))))
noncomputable def xQ:Code:=cB (cB (cB (cA (cB (cA (cB (cB (aca))))))))
def x8:dZ:=⟨[0,18,900011],[],[0],[],[2],[]⟩
def x9:dZ:=⟨[0,900012],[],[2],[],[2],[]⟩
def yc:dZ:=⟨[33,34,900020],[],[],[],[2],[]⟩
def yf:dZ:=⟨[42,900026],[],[],[],[2],[]⟩
def Ef:SP:=⟨us [.v (.int .u8),.u,.u,.u,.u,.u,.u,.u,.u,.u,.u,.u,.u,.u,.u,.u,.u,.u,.v .bool] 29,[]⟩
def qZ:SP:=⟨us [.v (.int .u8)] 47,[]⟩
def rq:SP:=⟨us [.u,.u,.v dD] 45,[]⟩
def CJ {γ:Type} (kE kR:Int->Option γ) (v0:Int) (v1:Bool):Option γ:=bif v1 then kR 5 else kE v0
def kW (v0:Int) (v1:Bool):Option (qZ.den⊕rq.den):=CJ (fun e0=>some (.inl ((e0,()),()))) (fun r0=>some (.inr ((r0,()),()))) v0 v1
noncomputable def J6:dI:=gQ x8 Ef qZ rq (.exit 999999) (fun v=>kW v.1.1 v.1.2.1) 6
def Ei:SP:=⟨[.u,.u,.u,.u,.u,.u,.u,.u,.u,.u,.u,.u,.u,.u,.u,.u,.u,.u,.u,.u,.u,.u,.u,.u,.u,.u,.u,.u,.u,.u,.u,.u,.u,.u,.u,.u,.u,.u,.u,.u,.u,.u,.v .bool,.u,.u,.u,.u,.u],[]⟩
def vV:SP:=⟨us [] 48,[]⟩
def vZ:SP:=⟨us [.u,.u,.v dD] 45,[]⟩
def CQ {γ:Type} (kE:Option γ) (kR:Int->Option γ) (v0:Bool):Option γ:=bif v0 then kR 4 else kE
def kX (v0:Bool):Option (vV.den⊕vZ.den):=CQ (some (.inl ((),()))) (fun r0=>some (.inr ((r0,()),()))) v0
noncomputable def J9:dI:=gQ yf Ei vV vZ (.exit 999999) (fun v=>kX v.1.1) 12
def Eh:SP:=⟨us [.u,.u,.u,.u,.u,.u,.u,.u,.u,.u,.u,.u,.u,.u,.u,.u,.u,.u,.u,.u,.u,.u,.u,.u,.u,.u,.u,.u,.u,.u,.u,.u,.u,.v (.int .u8),.v .bool] 13,[]⟩
def vU:SP:=⟨us [] 48,[]⟩
def vY:SP:=⟨us [.u,.u,.v dD] 45,[]⟩
def CP {γ:Type} (kE:Option γ) (kR:Int->Option γ) (v0:Int) (v1:Bool):Option γ:=bif v1 then kR 3 else bif(bW v0 92)then bM (kX (bW v0 92)) fun y0=>dV y0 (fun a1=>kE) (fun b1=>kR b1.1.1)else bif(bW v0 39)then bM (kX (bW v0 39)) fun y0=>dV y0 (fun a1=>kE) (fun b1=>kR b1.1.1)else bif(bW v0 34)then bM (kX (bW v0 34)) fun y0=>dV y0 (fun a1=>kE) (fun b1=>kR b1.1.1)else bif(bW v0 96)then bM (kX (bW v0 96)) fun y0=>dV y0 (fun a1=>kE) (fun b1=>kR b1.1.1)else bM (kX (bW v0 36)) fun y0=>dV y0 (fun a1=>kE) (fun b1=>kR b1.1.1)
def jI (v0:Int) (v1:Bool):Option (vU.den⊕vY.den):=CP (some (.inl ((),()))) (fun r0=>some (.inr ((r0,()),()))) v0 v1
noncomputable def J8:dI:=gQ yc Eh vU vY (.exit 999999) (fun v=>jI v.1.1 v.1.2.1) 18
def Eg:SP:=⟨us [.v (.int .u8)] 47,[]⟩
def vT:SP:=⟨[],[]⟩
def vX:SP:=⟨us [.u,.u,.v dD] 45,[]⟩
def CO {γ:Type} (kE:Option γ) (kR:Int->Option γ) (v0:Int):Option γ:=bif(bW v0 124)then bM (jI v0 (bW v0 124)) fun y0=>dV y0 (fun a1=>kR 0) (fun b1=>kR b1.1.1)else bif(bW v0 38)then bM (jI v0 (bW v0 38)) fun y0=>dV y0 (fun a1=>kR 0) (fun b1=>kR b1.1.1)else bif(bW v0 59)then bM (jI v0 (bW v0 59)) fun y0=>dV y0 (fun a1=>kR 0) (fun b1=>kR b1.1.1)else bif(bW v0 60)then bM (jI v0 (bW v0 60)) fun y0=>dV y0 (fun a1=>kR 0) (fun b1=>kR b1.1.1)else bif(bW v0 62)then bM (jI v0 (bW v0 62)) fun y0=>dV y0 (fun a1=>kR 0) (fun b1=>kR b1.1.1)else bif(bW v0 40)then bM (jI v0 (bW v0 40)) fun y0=>dV y0 (fun a1=>kR 0) (fun b1=>kR b1.1.1)else bM (jI v0 (bW v0 41)) fun y0=>dV y0 (fun a1=>kR 0) (fun b1=>kR b1.1.1)
def vC (v0:Int):Option (vT.den⊕vX.den):=CO (some (.inl ((),()))) (fun r0=>some (.inr ((r0,()),()))) v0
noncomputable def J7:dI:=gQ x9 Eg vT vX (.exit 0) (fun v=>vC v.1.1) 24
def Jw (y0:qZ.den⊕rq.den):Option Di:=dV y0 (fun a1=>bM (vC a1.1.1) fun y2=>dV y2 (fun a3=>none) (fun b3=>some (b3.1.1,()))) (fun b1=>some (b1.1.1,()))
def O1 (x0:Int):Option Di:=bif(leI 65 x0)then bif(leI x0 90)then bM (kW x0 (leI x0 90)) fun y0=>Jw y0 else bM (kW x0 (bW x0 95)) fun y0=>Jw y0 else bM (kW x0 (bW x0 95)) fun y0=>Jw y0
def ah4 (x0:Int):Option Di:=bif(bW x0 10)then some (2,())else bif(leI 48 x0)then bif(leI x0 57)then some (6,())else bif(leI 97 x0)then bif(leI x0 122)then bM (kW x0 (leI x0 122)) fun y0=>Jw y0 else O1 x0 else O1 x0 else bif(leI 97 x0)then bif(leI x0 122)then bM (kW x0 (leI x0 122)) fun y0=>Jw y0 else O1 x0 else O1 x0
def Jv (x0:Int):Option Di:=bif(bW x0 32)then bif(bW x0 32)then some (1,())else ah4 x0 else bif(bW x0 9)then some (1,())else ah4 x0
def IU:Sum:=⟨[.int .u8],UN,fun x=>Jv x.1⟩
noncomputable def qh:Env:=gp prog tt 122 [] [(800011,x8),(800012,x9),(800020,yc),(800026,yf)] [(800011,J6),(800026,J9),(800020,J8),(800012,J7)]
theorem Ub {R:Type} (d:Nat) (K:Ex->St->Option R) (v0:Int) (v1:Bool):
  iter (some x8) (Dz (AO qh (d+6) 122 xN)) 1 (lF Ef ((v0,v1,()),())) K=
   CJ (fun e0=>K (.exit 999999) (lF qZ ((e0,()),()))) (fun r0=>K .ret (lF rq ((r0,()),()))) v0 v1:=by kernel_rfl
theorem Yf {R:Type} (d:Nat) (K:Ex->St->Option R) (v0:Int) (v1:Bool):
  iter (some x8) (Dz (AO qh (d+6) 122 xN)) 1 (lF Ef ((v0,v1,()),())) K=bM (kW v0 v1) fun o=>dV o (fun a=>K (.exit 999999) (lF qZ a)) fun b=>K .ret (lF rq b):=by
  rw[Ub];simp only[kW,CJ,dm,dn,bK,cZ,dw]
  try simp only[dV]
theorem YE:zM qh 122 xN J6:=Ji (by kernel_rfl) fun R d K v o h=>⟨1,(Yf d K (v.1.1) (v.1.2.1)).trans (congrArg (fun o=>bM o _) h)⟩
theorem Ue {R:Type} (d:Nat) (K:Ex->St->Option R) (v0:Bool):
  iter (some yf) (Dz (AO qh (d+12) 122 xQ)) 1 (lF Ei ((v0,()),())) K=
   CQ (K (.exit 999999) (lF vV ((),()))) (fun r0=>K .ret (lF vZ ((r0,()),()))) v0:=by kernel_rfl
theorem Yi {R:Type} (d:Nat) (K:Ex->St->Option R) (v0:Bool):
  iter (some yf) (Dz (AO qh (d+12) 122 xQ)) 1 (lF Ei ((v0,()),())) K=bM (kX v0) fun o=>dV o (fun a=>K (.exit 999999) (lF vV a)) fun b=>K .ret (lF vZ b):=by
  rw[Ue];simp only[kX,CQ,dm,dn,bK,cZ,dw]
  try simp only[dV]
theorem YH:zM qh 122 xQ J9:=Ji (by kernel_rfl) fun R d K v o h=>⟨1,(Yi d K (v.1.1)).trans (congrArg (fun o=>bM o _) h)⟩
theorem Ud {R:Type} (d:Nat) (K:Ex->St->Option R) (v0:Int) (v1:Bool):
  iter (some yc) (Dz (AO qh (d+18) 122 xP)) 1 (lF Eh ((v0,v1,()),())) K=
   CP (K (.exit 999999) (lF vU ((),()))) (fun r0=>K .ret (lF vY ((r0,()),()))) v0 v1:=by kernel_rfl
theorem Yh {R:Type} (d:Nat) (K:Ex->St->Option R) (v0:Int) (v1:Bool):
  iter (some yc) (Dz (AO qh (d+18) 122 xP)) 1 (lF Eh ((v0,v1,()),())) K=bM (jI v0 v1) fun o=>dV o (fun a=>K (.exit 999999) (lF vU a)) fun b=>K .ret (lF vY b):=by
  rw[Ud];simp only[jI,CP,dm,dn,bK,cZ,dw]
  try simp only[dV]
theorem YG:zM qh 122 xP J8:=Ji (by kernel_rfl) fun R d K v o h=>⟨1,(Yh d K (v.1.1) (v.1.2.1)).trans (congrArg (fun o=>bM o _) h)⟩
theorem Uc {R:Type} (d:Nat) (K:Ex->St->Option R) (v0:Int):
  iter (some x9) (Dz (AO qh (d+24) 122 xO)) 1 (lF Eg ((v0,()),())) K=
   CO (K (.exit 0) (lF vT ((),()))) (fun r0=>K .ret (lF vX ((r0,()),()))) v0:=by kernel_rfl
theorem Yg {R:Type} (d:Nat) (K:Ex->St->Option R) (v0:Int):
  iter (some x9) (Dz (AO qh (d+24) 122 xO)) 1 (lF Eg ((v0,()),())) K=bM (vC v0) fun o=>dV o (fun a=>K (.exit 0) (lF vT a)) fun b=>K .ret (lF vX b):=by
  rw[Uc];simp only[vC,CO,dm,dn,bK,cZ,dw]
  try simp only[dV]
theorem YF:zM qh 122 xO J7:=Ji (by kernel_rfl) fun R d K v o h=>⟨1,(Yg d K (v.1.1)).trans (congrArg (fun o=>bM o _) h)⟩
theorem aDs:jH aca=[]:=by kernel_rfl
theorem aBy:Mc qh 122 aca=[xN,xO,xP,xQ]:=by kernel_rfl
theorem aDA:dU qh 122 aca:=D6 aca (fun x _ hx=>absurd (show false=true from hx) (by decide)) (by rw[aDs];exact aN) (JH (by rw[aBy];exact(aD (fC (by kernel_rfl) (YE)) (aD (fC (by kernel_rfl) (YF)) (aD (fC (by kernel_rfl) (YG)) (aD (fC (by kernel_rfl) (YH)) aN))))))
theorem alI:dK qh:=eA f122 aN (aDA)
theorem wK:dY prog 122 IU:=sA alI
def GZ (x0:Int):Option qM:=bM (Jv x0) fun y0=>bif(bW y0.1 1)then bif(bW y0.1 1)then some (true,())else some (false,())else bif(bW y0.1 2)then bif(bW y0.1 2)then some (true,())else some (false,())else bif(bW y0.1 3)then some (true,())else some (false,())
def ahv:Sum:=⟨[.int .u8],tzE,fun x=>GZ x.1⟩
noncomputable def aCA:Env:=gp prog tt 285 [(122,IU)] [] []
theorem am6:dK aCA:=eA Tryz.f285 (aD wK aN)
theorem WV:dY prog 285 ahv:=sA am6
def JB (x4:Int) (x0:List oG) (x2:Int):Option (taM×(Unit)):=bM (GZ x4) fun y0=>some ((x0,(y0.1,(x2,()))),())
def VK (x0:List oG) (x1:Bool) (x2 x3 x4:Int):Option (taM×(Unit)):=bif(bW x4 92)then bM (wZ x0 x1 x2 13) fun y0=>some ((y0.1.1,(y0.1.2.1,(y0.1.2.2.1,()))),())else bif(bW x4 35)then bif x1 then bM (wZ x0 x1 x2 14) fun y0=>some ((y0.1.1,(y0.1.2.1,(y0.1.2.2.1,()))),())else JB x4 x0 x2 else bif(bW x4 40)then bif(!(bW x3 0))then bM (wZ x0 x1 x2 2) fun y0=>bM (GZ x4) fun y1=>some ((y0.1.1,(y1.1,(y0.1.2.2.1,()))),())else JB x4 x0 x2 else bif(bW x4 41)then bif(!(bW x3 0))then bM (wY x0 x1 x2) fun y0=>some ((y0.1.1,((!(bW x3 1)),(y0.1.2.2.1,()))),())else some ((x0,((!(bW x3 1)),(x2,()))),())else bif(bW x4 39)then bM (wZ x0 x1 x2 4) fun y0=>bM (GZ x4) fun y1=>some ((y0.1.1,(y1.1,(y0.1.2.2.1,()))),())else bif(bW x4 34)then bM (wZ x0 x1 x2 5) fun y0=>bM (GZ x4) fun y1=>some ((y0.1.1,(y1.1,(y0.1.2.2.1,()))),())else bif(bW x4 36)then bif(bW x4 36)then bM (RF x0 x1 x2 x4) fun y0=>bM (GZ x4) fun y1=>some ((y0.1.1,(y1.1,(y0.1.2.2.1,()))),())else JB x4 x0 x2 else bif(bW x4 96)then bM (RF x0 x1 x2 x4) fun y0=>bM (GZ x4) fun y1=>some ((y0.1.1,(y1.1,(y0.1.2.2.1,()))),())else JB x4 x0 x2
def avA:gX:=⟨227,tzC,[dD,.int .u8],[],fun x y=>VK x.1 x.2.1 x.2.2.1 y.1 y.2.1⟩
noncomputable def aCd:Env:=ed prog tt [(285,ahv)] [] [] [] [(167,IV),(230,NF),(284,abM)]
theorem amw:dK aCd:=eB (aD WV aN) [] aN (hx:=(aD wL (aD Bd (aD NI aN))))
theorem ao8:eF prog 229 avA:=sB amw
def aig (x0:List oG) (x1:Bool) (x2 x3 x4:Int):Option (taM×(Unit)):=bM (RF x0 x1 x2 x4) fun y0=>bif y0.2.1 then some ((y0.1.1,(y0.1.2.1,(y0.1.2.2.1,()))),())else bif(bW x4 40)then bM (wZ y0.1.1 y0.1.2.1 y0.1.2.2.1 10) fun y1=>some ((y1.1.1,(y1.1.2.1,(y1.1.2.2.1,()))),())else bif(bW x4 41)then bif(bW x3 10)then bM (wY y0.1.1 y0.1.2.1 y0.1.2.2.1) fun y1=>some ((y1.1.1,(y1.1.2.1,(y1.1.2.2.1,()))),())else bif(bW x4 41)then bM (uU y0.1.1 y0.1.2.1 y0.1.2.2.1 11) fun y1=>some ((y1.1.1,(y1.1.2.1,(y1.1.2.2.1,()))),())else some ((y0.1.1,(y0.1.2.1,(y0.1.2.2.1,()))),())else bif(bW x4 41)then bM (uU y0.1.1 y0.1.2.1 y0.1.2.2.1 11) fun y1=>some ((y1.1.1,(y1.1.2.1,(y1.1.2.2.1,()))),())else some ((y0.1.1,(y0.1.2.1,(y0.1.2.2.1,()))),())
def avC:gX:=⟨227,tzC,[dD,.int .u8],[],fun x y=>aig x.1 x.2.1 x.2.2.1 y.1 y.2.1⟩
noncomputable def aCf:Env:=ed prog tt [] [] [] [] [(166,abD),(167,IV),(230,NF),(284,abM)]
theorem amy:dK aCf:=eB aN [] aN (hx:=(aD Nw (aD wL (aD Bd (aD NI aN)))))
theorem ao9:eF prog 231 avC:=sB amy
def XU (x4 x3:Int) (y0:(taM×qM)):Option (taM×(Unit)):=bif(bW x4 39)then bif(bW x3 7)then bM (wZ y0.1.1 y0.1.2.1 y0.1.2.2.1 4) fun y1=>some ((y1.1.1,(y1.1.2.1,(y1.1.2.2.1,()))),())else some ((y0.1.1,(y0.1.2.1,(y0.1.2.2.1,()))),())else some ((y0.1.1,(y0.1.2.1,(y0.1.2.2.1,()))),())
def XV (x4:Int) (y0:(taM×qM)) (x3:Int):Option (taM×(Unit)):=bif(bW x4 34)then bM (wZ y0.1.1 y0.1.2.1 y0.1.2.2.1 5) fun y1=>some ((y1.1.1,(y1.1.2.1,(y1.1.2.2.1,()))),())else bif(bW x4 125)then bif(!(bW x3 5))then bM (wY y0.1.1 y0.1.2.1 y0.1.2.2.1) fun y1=>some ((y1.1.1,(y1.1.2.1,(y1.1.2.2.1,()))),())else XU x4 x3 y0 else XU x4 x3 y0
def aih (x0:List oG) (x1:Bool) (x2 x3 x4:Int):Option (taM×(Unit)):=bM (RF x0 x1 x2 x4) fun y0=>bif y0.2.1 then some ((y0.1.1,(y0.1.2.1,(y0.1.2.2.1,()))),())else bif(bW x4 34)then bif(bW x3 5)then bM (wY y0.1.1 y0.1.2.1 y0.1.2.2.1) fun y1=>some ((y1.1.1,(y1.1.2.1,(y1.1.2.2.1,()))),())else XV x4 y0 x3 else XV x4 y0 x3
def avD:gX:=⟨227,tzC,[dD,.int .u8],[],fun x y=>aih x.1 x.2.1 x.2.2.1 y.1 y.2.1⟩
noncomputable def aCg:Env:=ed prog tt [] [] [] [] [(167,IV),(230,NF),(284,abM)]
theorem amz:dK aCg:=eB aN [] aN (hx:=(aD wL (aD Bd (aD NI aN))))
theorem apa:eF prog 232 avD:=sB amz
def BH (x3:Int) (x0:List oG) (x1:Bool) (x2 x4:Int):Option (taM×(Unit)):=bif(bW x3 13)then bM (wY x0 x1 x2) fun y0=>bif y0.1.2.1 then some ((y0.1.1,((bW x4 10),(y0.1.2.2.1,()))),())else some ((y0.1.1,(false,(y0.1.2.2.1,()))),())else bif(bW x3 4)then bif(bW x4 39)then bM (wY x0 x1 x2) fun y0=>some ((y0.1.1,(y0.1.2.1,(y0.1.2.2.1,()))),())else some ((x0,(x1,(x2,()))),())else bif(bW x3 14)then bif(bW x4 10)then bM (wY x0 x1 x2) fun y0=>some ((y0.1.1,(true,(y0.1.2.2.1,()))),())else some ((x0,(x1,(x2,()))),())else bif(bW x3 6)then bif(bW x4 96)then bM (wY x0 x1 x2) fun y0=>some ((y0.1.1,(y0.1.2.1,(y0.1.2.2.1,()))),())else bif(bW x4 92)then bM (wZ x0 x1 x2 13) fun y0=>some ((y0.1.1,(y0.1.2.1,(y0.1.2.2.1,()))),())else some ((x0,(x1,(x2,()))),())else bif(bW x3 9)then bif(bW x3 9)then bM (aig x0 x1 x2 x3 x4) fun y0=>some ((y0.1.1,(y0.1.2.1,(y0.1.2.2.1,()))),())else bM (aih x0 x1 x2 x3 x4) fun y0=>some ((y0.1.1,(y0.1.2.1,(y0.1.2.2.1,()))),())else bif(bW x3 10)then bM (aig x0 x1 x2 x3 x4) fun y0=>some ((y0.1.1,(y0.1.2.1,(y0.1.2.2.1,()))),())else bM (aih x0 x1 x2 x3 x4) fun y0=>some ((y0.1.1,(y0.1.2.1,(y0.1.2.2.1,()))),())
def NW (x0:List oG) (x1:Bool) (x2 x3 x4:Int):Option (taM×(Unit)):=bif(bW x3 0)then bif(bW x3 0)then bM (VK x0 x1 x2 x3 x4) fun y0=>some ((y0.1.1,(y0.1.2.1,(y0.1.2.2.1,()))),())else BH x3 x0 x1 x2 x4 else bif(bW x3 1)then bif(bW x3 1)then bM (VK x0 x1 x2 x3 x4) fun y0=>some ((y0.1.1,(y0.1.2.1,(y0.1.2.2.1,()))),())else BH x3 x0 x1 x2 x4 else bif(bW x3 2)then bM (VK x0 x1 x2 x3 x4) fun y0=>some ((y0.1.1,(y0.1.2.1,(y0.1.2.2.1,()))),())else BH x3 x0 x1 x2 x4
def avo:gX:=⟨227,tzC,[dD,.int .u8],[],fun x y=>NW x.1 x.2.1 x.2.2.1 y.1 y.2.1⟩
noncomputable def aBV:Env:=ed prog tt [] [] [] [] [(167,IV),(229,avA),(230,NF),(231,avC),(232,avD)]
theorem al5:dK aBV:=eB aN [] aN (hx:=(aD wL (aD ao8 (aD Bd (aD ao9 (aD apa aN))))))
theorem aoW:eF prog 168 avo:=sB al5
noncomputable def aBg:Code:=(f104.body).getD .skip
noncomputable def Xr:Code:=cA (cA (cA (cB (cB (cA (aBg))))))
def aga:dZ:=⟨[0,1,100002],[],[0],[],[],[]⟩
def axt:dZ:=⟨[0,1],[],[],[],[],[]⟩
def YM:SQ:=⟨us [.ptr 0 0,.v (.int .u8)] 63,[[.ptr 0 0]],[.arr 2000002 UL,.box 0 227 [.slc 2000002,.v .bool,.v dD],.arr 1 UL]⟩
def Zx:SQ:=⟨us [.ptr 0 0] 64,[[.ptr 0 0]],[.arr 2000002 UL,.box 0 227 [.slc 2000002,.v .bool,.v dD],.arr 1 UL]⟩
def aaj:SQ:=⟨us [] 65,[[.ptr 0 0]],[]⟩
def abe {γ:Type} (rec:Int->(List oG)->Bool->Int->(List oG)->Option γ) (kE:(List oG)->Bool->Int->(List oG)->Option γ) (kR:Option γ) (v0:Int) (v1:List oG) (v2:Bool) (v3:Int) (v4:List oG):Option γ:=bif(gV v1 (eG .i64 (bP v1) 1))then bif(oD (dG (eG .i64 (bP v1) 1)) v1)then bif(bW (dL v1 (0,(0,())) (dG (eG .i64 (bP v1) 1))).1 12)then bM (NV v1 v2 v3 v0) fun y0=>bif y0.2.1 then kE y0.1.1 y0.1.2.1 y0.1.2.2.1 v4 else rec v0 y0.1.1 y0.1.2.1 y0.1.2.2.1 v4 else bif(bW (dL v1 (0,(0,())) (dG (eG .i64 (bP v1) 1))).1 3)then bif(bW v0 40)then bM (uU v1 v2 v3 9) fun y0=>kE y0.1.1 false y0.1.2.2.1 v4 else bM (uU v1 v2 v3 1) fun y0=>rec v0 y0.1.1 y0.1.2.1 y0.1.2.2.1 v4 else bif(bW (dL v1 (0,(0,())) (dG (eG .i64 (bP v1) 1))).1 11)then bif(bW v0 41)then bM (wY v1 v2 v3) fun y0=>kE y0.1.1 y0.1.2.1 y0.1.2.2.1 v4 else bM (uU v1 v2 v3 9) fun y0=>rec v0 y0.1.1 y0.1.2.1 y0.1.2.2.1 v4 else bM (NW v1 v2 v3 (dL v1 (0,(0,())) (dG (eG .i64 (bP v1) 1))).1 v0) fun y0=>kE y0.1.1 y0.1.2.1 y0.1.2.2.1 v4 else none else none
def Yu:Nat->Int->(List oG)->Bool->Int->(List oG)->Option (Zx.den⊕aaj.den)
 |0,_,_,_,_,_=>none
 |n+1,v0,v1,v2,v3,v4=>abe (Yu n) (fun e0 e1 e2 e3=>some (.inl ((),((),()),(e0,(e1,e2,()),e3,())))) (some (.inr ((),((),()),()))) v0 v1 v2 v3 v4
def ax2 (n:Nat) (v:YM.den):=Yu n v.1.1 v.2.2.1 v.2.2.2.1.1 v.2.2.2.1.2.1 v.2.2.2.2.1
noncomputable def Yx:dI:=fU aga YM Zx aaj (.exit 0) (ax2 bU) 6
def Kw:SQ:=⟨us [.ptr 0 0,.v (.int .u8)] 63,[[.ptr 0 0]],[.box 0 227 [.slc 1,.v .bool,.v dD],.arr 1 UL]⟩
def MV:SQ:=⟨us [.ptr 0 0] 64,[[.ptr 0 0]],[.box 0 227 [.slc 1,.v .bool,.v dD],.arr 1 UL]⟩
def MW:SQ:=⟨us [] 65,[[.ptr 0 0]],[]⟩
def AP {γ:Type} (rec:Int->Bool->Int->(List oG)->Option γ) (kE:Bool->Int->(List oG)->Option γ) (kR:Option γ) (v0:Int) (v1:Bool) (v2:Int) (v3:List oG):Option γ:=bif(gV v3 (eG .i64 (bP v3) 1))then bif(oD (dG (eG .i64 (bP v3) 1)) v3)then bif(bW (dL v3 (0,(0,())) (dG (eG .i64 (bP v3) 1))).1 12)then bM (NV v3 v1 v2 v0) fun y0=>bif y0.2.1 then kE y0.1.2.1 y0.1.2.2.1 y0.1.1 else rec v0 y0.1.2.1 y0.1.2.2.1 y0.1.1 else bif(bW (dL v3 (0,(0,())) (dG (eG .i64 (bP v3) 1))).1 3)then bif(bW v0 40)then bM (uU v3 v1 v2 9) fun y0=>kE false y0.1.2.2.1 y0.1.1 else bM (uU v3 v1 v2 1) fun y0=>rec v0 y0.1.2.1 y0.1.2.2.1 y0.1.1 else bif(bW (dL v3 (0,(0,())) (dG (eG .i64 (bP v3) 1))).1 11)then bif(bW v0 41)then bM (wY v3 v1 v2) fun y0=>kE y0.1.2.1 y0.1.2.2.1 y0.1.1 else bM (uU v3 v1 v2 9) fun y0=>rec v0 y0.1.2.1 y0.1.2.2.1 y0.1.1 else bM (NW v3 v1 v2 (dL v3 (0,(0,())) (dG (eG .i64 (bP v3) 1))).1 v0) fun y0=>kE y0.1.2.1 y0.1.2.2.1 y0.1.1 else none else none
def wG:Nat->Int->Bool->Int->(List oG)->Option (MV.den⊕MW.den)
 |0,_,_,_,_=>none
 |n+1,v0,v1,v2,v3=>AP (wG n) (fun e0 e1 e2=>some (.inl ((),((),()),((e0,e1,()),e2,())))) (some (.inr ((),((),()),()))) v0 v1 v2 v3
def aoo (n:Nat) (v:Kw.den):=wG n v.1.1 v.2.2.1.1 v.2.2.1.2.1 v.2.2.2.1
noncomputable def MI:dI:=fU aga Kw MV MW (.exit 0) (aoo bU) 12
def VH (x0:List oG) (x1:Bool) (x2 x3:Int):Option (taM×(Unit)):=bif(bW (bP x0) 0)then bM (Yu bU x3 [(0,(0,()))] true 0 x0) fun y0=>dV y0 (fun a1=>some ((a1.2.2.1,(a1.2.2.2.1.1,((dA .i64 a1.2.2.2.1.2.1 1),()))),())) (fun b1=>none)else bM (wG bU x3 x1 x2 x0) fun y0=>dV y0 (fun a1=>some ((a1.2.2.2.1,(a1.2.2.1.1,((dA .i64 a1.2.2.1.2.1 1),()))),())) (fun b1=>none)
def aby:gX:=⟨227,tzC,[.int .u8],[],fun x y=>VH x.1 x.2.1 x.2.2.1 y.1⟩
noncomputable def Q9:Env:=ed prog tt [] [(104,2,aga),(104,600001,axt)] [(104,2,nJ Yx MI)] [] [(165,avn),(166,abD),(167,IV),(168,avo)]
def aka {γ:Type} (a:YM.den->Option γ) (b:Zx.den->Option γ) (c:aaj.den->Option γ) (v:YM.den):Option γ:=abe (fun v0 v1 v2 v3 v4=>a ((v0,()),((),()),(v1,(v2,v3,()),v4,()))) (fun e0 e1 e2 e3=>b ((),((),()),(e0,(e1,e2,()),e3,()))) (c ((),((),()),())) v.1.1 v.2.2.1 v.2.2.2.1.1 v.2.2.2.1.2.1 v.2.2.2.2.1
theorem ayS:dX Q9 104 Xr Yx:=lK (aka) (h2:=by intros;simp only[aka,abe,dm,dn,bK,cZ,dw])
def WA {γ:Type} (a:Kw.den->Option γ) (b:MV.den->Option γ) (c:MW.den->Option γ) (v:Kw.den):Option γ:=AP (fun v0 v1 v2 v3=>a ((v0,()),((),()),((v1,v2,()),v3,()))) (fun e0 e1 e2=>b ((),((),()),((e0,e1,()),e2,()))) (c ((),((),()),())) v.1.1 v.2.2.1.1 v.2.2.1.2.1 v.2.2.2.1
theorem aot:dX Q9 104 Xr MI:=lK (WA) (h2:=by intros;simp only[WA,AP,dm,dn,bK,cZ,dw])
theorem aDy:dU Q9 104 aBg:=qj [Xr] (aD (fun L h=>by rw[show(Q9).lp 104 (dH Xr)=some (nJ Yx MI) by kernel_rfl]at h;cases h;exact rX ayS aot) aN)
theorem alC:dK Q9:=eB aN [104] (aD ⟨f104,aBg,by kernel_rfl,by kernel_rfl,aDy⟩ aN) (hx:=(aD aoV (aD Nw (aD wL (aD aoW aN)))))
theorem Nq:eF prog 104 aby:=sB alC
def VP (x0:Int):Option Di:=bif(bW x0 3)then some (1,())else bif(bW x0 11)then some (9,())else some (x0,())
def avQ:Sum:=⟨[dD],UN,fun x=>VP x.1⟩
noncomputable def aCw:Env:=gp prog tt 279 [] [] []
theorem am2:dK aCw:=eA f279 aN
theorem apo:dY prog 279 avQ:=sA am2
noncomputable def awO:Code:=(f217.body).getD .skip
noncomputable def aqv:Code:=cA (cA (cB (cA (cB (awO)))))
noncomputable def aqw:Code:=cA (cA (cB (cB (cB (awO)))))
def as3:dZ:=⟨[0,1,2,6,100002],[],[0,1],[],[],[]⟩
def as4:dZ:=⟨[0,77,78,79,100009],[],[],[],[],[]⟩
def Y3:SQ:=⟨us [.ptr 0 0,.v (.list UL),.v dD,.u,.u,.u,.v dD] 141,[[.ptr 0 0]],[.box 0 264 [.slc 1,.slc 2],.arr 1 I9,.arr 2 dD]⟩
def ZL:SQ:=⟨us [.ptr 0 0,.v (.list UL)] 146,[[.ptr 0 0]],[.box 0 264 [.slc 1,.slc 2],.arr 1 I9,.arr 2 dD]⟩
def aaw:SQ:=⟨us [] 148,[[.ptr 0 0]],[]⟩
def je (v4:jJ) (v2:Int):=dL v4 0 (dG (eG .i64 v2 1))
def sH (v3:List jg) (v4:jJ) (v2 v1:Int):=iH v3 (dG (je v4 v2)) ((dL v3 (0,(0,(0,(0,(false,()))))) (dG (je v4 v2))).1,((dL v3 (0,(0,(0,(0,(false,()))))) (dG (je v4 v2))).2.1,((dA .i64 v1 1),((dL v3 (0,(0,(0,(0,(false,()))))) (dG (je v4 v2))).2.2.2.1,((dL v3 (0,(0,(0,(0,(false,()))))) (dG (je v4 v2))).2.2.2.2.1,())))))
def sJ (v3:List jg) (v4:jJ) (v2 v1:Int):=dL (sH v3 v4 v2 v1) (0,(0,(0,(0,(false,()))))) (dG (je v4 v2))
def AV {γ:Type} (v3:List jg) (v4:jJ) (v2 v1:Int) (rec:(List oG)->Int->Int->(List jg)->jJ->Option γ) (v0:List oG):Option γ:=bif(gV v3 (je v4 v2))then bif(oD (dG (je v4 v2)) v3)then bif(gV (sH v3 v4 v2 v1) (je v4 v2))then bif(oD (dG (je v4 v2)) (sH v3 v4 v2 v1))then bif(gm (bP v4) 0 (eG .i64 v2 1))then rec v0 v1 (eG .i64 v2 1) (iH (sH v3 v4 v2 v1) (dG (je v4 v2)) ((sJ v3 v4 v2 v1).1,((sJ v3 v4 v2 v1).2.1,((sJ v3 v4 v2 v1).2.2.1,((sJ v3 v4 v2 v1).2.2.2.1,(false,())))))) (takeN v4 (dG (eG .i64 v2 1)))else none else none else none else none else none
def KW {γ:Type} (rec:(List oG)->Int->Int->(List jg)->jJ->Option γ) (kE:(List oG)->(List jg)->jJ->Option γ) (kR:Option γ) (v0:List oG) (v1 v2:Int) (v3:List jg) (v4:jJ):Option γ:=bif(iG 0 v2)then bif(gV v4 (eG .i64 v2 1))then bif(oD (dG (eG .i64 v2 1)) v4)then bif(leI v2 (bP v0))then bif(gV v0 (eG .i64 v2 1))then bif(gV v3 (je v4 v2))then bif(oD (dG (je v4 v2)) v3)then bif(bW (fZ v0 (0,(0,())) (eG .i64 v2 1)).2.1 (dL v3 (0,(0,(0,(0,(false,()))))) (dG (je v4 v2))).2.1)then kE v0 v3 v4 else AV v3 v4 v2 v1 rec v0 else none else none else none else AV v3 v4 v2 v1 rec v0 else none else none else kE v0 v3 v4
def FI:Nat->(List oG)->Int->Int->(List jg)->jJ->Option (ZL.den⊕aaw.den)
 |0,_,_,_,_,_=>none
 |n+1,v0,v1,v2,v3,v4=>KW (FI n) (fun e0 e1 e2=>some (.inl ((e0,()),((),()),((),e1,e2,())))) (some (.inr ((),((),()),()))) v0 v1 v2 v3 v4
def ayj (n:Nat) (v:Y3.den):=FI n v.1.1 v.1.2.1 v.1.2.2.1 v.2.2.2.1 v.2.2.2.2.1
noncomputable def ajc:dI:=fU as3 Y3 ZL aaw (.exit 0) (ayj bU) 6
def Y4:SQ:=⟨us [.ptr 0 0,.u,.u,.u,.u,.u,.u,.u,.u,.u,.u,.u,.u,.u,.u,.u,.u,.u,.u,.u,.u,.u,.u,.u,.u,.u,.u,.u,.u,.u,.u,.u,.u,.u,.u,.u,.u,.u,.u,.u,.u,.u,.u,.u,.u,.u,.u,.u,.u,.u,.u,.u,.u,.u,.u,.u,.u,.u,.u,.u,.u,.u,.u,.u,.u,.u,.u,.u,.u,.u,.u,.u,.u,.u,.u,.u,.u,.v (.list UL),.v dD,.v dD] 68,[[.ptr 0 0]],[.box 0 264 [.slc 1,.slc 2],.arr 1 I9,.arr 2 dD]⟩
def ZM:SQ:=⟨us [] 148,[[.ptr 0 0]],[.box 0 264 [.slc 1,.slc 2],.arr 1 I9,.arr 2 dD]⟩
def aax:SQ:=⟨us [] 148,[[.ptr 0 0]],[]⟩
def kD (v3:List jg) (v4:jJ) (v2:Int):=dL v3 (0,(0,(0,(0,(false,()))))) (dG (dL v4 0 (dG v2)))
def lX (v0:List oG) (v2:Int):=bW (fZ v0 (0,(0,())) v2).2.1 (fZ v0 (0,(0,())) v2).2.1
def lY (v0:List oG) (v2:Int):=bW (fZ v0 (0,(0,())) v2).1 (fZ v0 (0,(0,())) v2).1
def CS {γ:Type} (rec:(List oG)->Int->Int->(List jg)->jJ->Option γ) (kE:(List jg)->jJ->Option γ) (kR:Option γ) (v0:List oG) (v1 v2:Int) (v3:List jg) (v4:jJ):Option γ:=bif(iG v2 v1)then bif(gV v0 v2)then bif(iG v2 (bP v4))then bif(gV v4 v2)then bif(oD (dG v2) v4)then bM (VP (fZ v0 (0,(0,())) v2).1) fun y0=>bif(gV v3 (dL v4 0 (dG v2)))then bif(oD (dG (dL v4 0 (dG v2))) v3)then bif(gV (iH v3 (dG (dL v4 0 (dG v2))) (y0.1,((kD v3 v4 v2).2.1,((kD v3 v4 v2).2.2.1,((kD v3 v4 v2).2.2.2.1,((kD v3 v4 v2).2.2.2.2.1,())))))) (dL v4 0 (dG v2)))then bif((eqN (dG (dL v4 0 (dG v2))) (dG (dL v4 0 (dG v2))))&&true)then rec v0 v1 (dA .i64 v2 1) (iH v3 (dG (dL v4 0 (dG v2))) (y0.1,((kD v3 v4 v2).2.1,((kD v3 v4 v2).2.2.1,((kD v3 v4 v2).2.2.2.1,((kD v3 v4 v2).2.2.2.2.1,())))))) v4 else none else none else none else none else none else none else bif(iG 0 v2)then bif(gV v4 (eG .i64 v2 1))then bif(oD (dG (eG .i64 v2 1)) v4)then bif(eQ (cu v4 [(bP v3)]) 8)then bif(bW (bP v3) (bP v3))then bM (VP (fZ v0 (0,(0,())) v2).1) fun y0=>bif(lY v0 v2)then bif(lX v0 v2)then bif(bW (dL v4 0 (dG (eG .i64 v2 1))) (dL v4 0 (dG (eG .i64 v2 1))))then bif(((lY v0 v2)&&true)&&((bW y0.1 y0.1)&&true))then bif(eQ (cu v3 [(y0.1,((fZ v0 (0,(0,())) v2).2.1,(0,((dL v4 0 (dG (eG .i64 v2 1))),(true,())))))]) 40)then bif(lY v0 v2)then bif(lX v0 v2)then bif(bW (dL v4 0 (dG (eG .i64 v2 1))) (dL v4 0 (dG (eG .i64 v2 1))))then bif((bW y0.1 y0.1)&&((lX v0 v2)&&((bW 0 0)&&((bW (dL v4 0 (dG (eG .i64 v2 1))) (dL v4 0 (dG (eG .i64 v2 1))))&&((jy true true)&&true)))))then rec v0 v1 (dA .i64 v2 1) (cu v3 [(y0.1,((fZ v0 (0,(0,())) v2).2.1,(0,((dL v4 0 (dG (eG .i64 v2 1))),(true,())))))]) (cu v4 [(bP v3)])else none else none else none else none else none else none else none else none else none else none else none else none else none else bif(eQ (cu v4 [(bP v3)]) 8)then bif(bW (bP v3) (bP v3))then bM (VP (fZ v0 (0,(0,())) v2).1) fun y0=>bif(lY v0 v2)then bif(lX v0 v2)then bif(bW (-1) (-1))then bif(((lY v0 v2)&&true)&&((bW y0.1 y0.1)&&true))then bif(eQ (cu v3 [(y0.1,((fZ v0 (0,(0,())) v2).2.1,(0,((-1),(true,())))))]) 40)then bif(lY v0 v2)then bif(lX v0 v2)then bif(bW (-1) (-1))then bif((bW y0.1 y0.1)&&((lX v0 v2)&&((bW 0 0)&&((bW (-1) (-1))&&((jy true true)&&true)))))then rec v0 v1 (dA .i64 v2 1) (cu v3 [(y0.1,((fZ v0 (0,(0,())) v2).2.1,(0,((-1),(true,())))))]) (cu v4 [(bP v3)])else none else none else none else none else none else none else none else none else none else none else none else none else kE v3 v4
def tC:Nat->(List oG)->Int->Int->(List jg)->jJ->Option (ZM.den⊕aax.den)
 |0,_,_,_,_,_=>none
 |n+1,v0,v1,v2,v3,v4=>CS (tC n) (fun e0 e1=>some (.inl ((),((),()),((),e0,e1,())))) (some (.inr ((),((),()),()))) v0 v1 v2 v3 v4
def ayk (n:Nat) (v:Y4.den):=tC n v.1.1 v.1.2.1 v.1.2.2.1 v.2.2.2.1 v.2.2.2.2.1
noncomputable def ajd:dI:=fU as4 Y4 ZM aax (.exit 2) (ayk bU) 12
def acE (x0:List jg) (x1:jJ) (x2:List oG) (x3:Int):Option (((List jg)×jJ×Unit)×(Unit)):=bif(gm (bP x2) 1 (bP x2))then bM (FI bU (sub x2 1 (bP x2)) x3 (bP x1) x0 x1) fun y0=>dV y0 (fun a1=>bM (tC bU a1.1.1 (bP a1.1.1) 0 a1.2.2.2.1 a1.2.2.2.2.1) fun y2=>dV y2 (fun a3=>some ((a3.2.2.2.1,(a3.2.2.2.2.1,())),())) (fun b3=>none)) (fun b1=>none)else none
def avv:gX:=⟨264,[(.list I9,true),(.list dD,true)],[.list UL,dD],[],fun x y=>acE x.1 x.2.1 y.1 y.2.1⟩
noncomputable def XG:Env:=ed prog tt [(279,avQ)] [(217,2,as3),(217,9,as4)] [(217,2,ajc),(217,9,ajd)] []
def akr {γ:Type} (a:Y3.den->Option γ) (b:ZL.den->Option γ) (c:aaw.den->Option γ) (v:Y3.den):Option γ:=KW (fun v0 v1 v2 v3 v4=>a ((v0,v1,v2,()),((),()),((),v3,v4,()))) (fun e0 e1 e2=>b ((e0,()),((),()),((),e1,e2,()))) (c ((),((),()),())) v.1.1 v.1.2.1 v.1.2.2.1 v.2.2.2.1 v.2.2.2.2.1
theorem ay9:dX XG 217 aqv ajc:=lK (akr) (h2:=by intros;simp only[akr,KW,dm,dn,bK,cZ,dw,je,sH,sJ,AV])
def aks {γ:Type} (a:Y4.den->Option γ) (b:ZM.den->Option γ) (c:aax.den->Option γ) (v:Y4.den):Option γ:=CS (fun v0 v1 v2 v3 v4=>a ((v0,v1,v2,()),((),()),((),v3,v4,()))) (fun e0 e1=>b ((),((),()),((),e0,e1,()))) (c ((),((),()),())) v.1.1 v.1.2.1 v.1.2.2.1 v.2.2.2.1 v.2.2.2.2.1
theorem aza:dX XG 217 aqw ajd:=lK (aks) (h2:=by intros;simp only[aks,CS,dm,dn,bK,cZ,dw,kD,lX,lY])
theorem aDP:dU XG 217 awO:=qj [aqv,aqw] (aD (fM (ay9)) (aD (fM (aza)) aN))
theorem amo:dK XG:=eB (aD apo aN) [217] (aD ⟨f217,awO,by kernel_rfl,by kernel_rfl,aDP⟩ aN)
theorem ao3:eF prog 217 avv:=sB amo
def acN (x0:Int):Option qM:=bM (Jv x0) fun y0=>some ((bW y0.1 5),())
def avP:Sum:=⟨[.int .u8],tzE,fun x=>acN x.1⟩
noncomputable def aCu:Env:=gp prog tt 276 [(122,IU)] [] []
theorem am0:dK aCu:=eA Tryz.f276 (aD wK aN)
theorem apn:dY prog 276 avP:=sA am0
def acO (x0:Int):Option qM:=bM (Jv x0) fun y0=>some ((bW y0.1 6),())
def ahu:Sum:=⟨[.int .u8],tzE,fun x=>acO x.1⟩
noncomputable def aCv:Env:=gp prog tt 278 [(122,IU)] [] []
theorem am1:dK aCv:=eA f278 (aD wK aN)
theorem WU:dY prog 278 ahu:=sA am1
noncomputable def QC:Code:=(f275.body).getD .skip
noncomputable def Bv:Code:=cA (cA (cA (cB (cB (cB (cA (cB (QC))))))))
def Ip:dZ:=⟨[0,1,2,7,276000004],[],[7],[],[6],[]⟩
def axA:dZ:=⟨[0,1],[],[],[],[],[]⟩
def axB:dZ:=⟨[0,1],[],[],[],[],[]⟩
def adc:dZ:=⟨[0,1,2,7],[],[],[],[],[]⟩
def BV:SQ:=⟨us [.v .str,.v dD,.fn 277 [],.u,.u,.u,.u,.v dD] 25,[[.v .str,.v dD,.u,.u,.u,.u,.u,.u,.u,.v .str,.v dD,.u],[]],[]⟩
def En:SQ:=⟨us [.u,.u,.u,.u,.u,.u,.u,.v dD] 25,[[.v .str,.v dD,.u,.u,.u,.u,.u,.u,.u,.v .str,.v dD,.u],[]],[]⟩
def Ez:SQ:=⟨us [.u,.u,.u,.u,.u,.u,.v dD] 26,[[.v .str,.v dD,.u,.u,.u,.u,.u,.u,.u,.v .str,.v dD,.u],[]],[]⟩
def yG {γ:Type} (rec:di->Int->Int->di->Int->di->Int->Option γ) (kE kR:Int->di->Int->di->Int->Option γ) (v0:di) (v1 v2:Int) (v3:di) (v4:Int) (v5:di) (v6:Int):Option γ:=bif(iG (dA .i64 v1 v2) (bP v0))then bif(gV v0 (dA .i64 v1 v2))then bM (acN (cO v0 (dA .i64 v1 v2))) fun y0=>bif y0.1 then rec v0 v1 (dA .i64 v2 1) v3 v4 v5 v6 else bM (acO (cO v0 (dA .i64 v1 v2))) fun y1=>bif(!y1.1)then kE v2 v3 v4 v5 v6 else rec v0 v1 (dA .i64 v2 1) v3 v4 v5 v6 else none else kE v2 v3 v4 v5 v6
def mg:Nat->di->Int->Int->di->Int->di->Int->Option (En.den⊕Ez.den)
 |0,_,_,_,_,_,_,_=>none
 |n+1,v0,v1,v2,v3,v4,v5,v6=>yG (mg n) (fun e0 e1 e2 e3 e4=>some (.inl ((e0,()),((e1,e2,e3,e4,()),(),()),()))) (fun r0 r1 r2 r3 r4=>some (.inr ((r0,()),((r1,r2,r3,r4,()),(),()),()))) v0 v1 v2 v3 v4 v5 v6
def adK (n:Nat) (v:BV.den):=mg n v.1.1 v.1.2.1 v.1.2.2.1 v.2.1.1.1 v.2.1.1.2.1 v.2.1.1.2.2.1 v.2.1.1.2.2.2.1
noncomputable def D8:dI:=fU Ip BV En Ez (.exit 0) (adK bU) 6
def vK:SQ:=⟨us [.v .str,.v dD,.fn 276 [],.u,.u,.u,.u,.v dD] 25,[[.v .str,.v dD,.u,.u,.u,.v .str,.v dD,.u,.u,.u,.u,.u],[]],[]⟩
def zg:SQ:=⟨us [.u,.u,.u,.u,.u,.u,.u,.v dD] 25,[[.v .str,.v dD,.u,.u,.u,.v .str,.v dD,.u,.u,.u,.u,.u],[]],[]⟩
def zo:SQ:=⟨us [.u,.u,.u,.u,.u,.u,.v dD] 26,[[.v .str,.v dD,.u,.u,.u,.v .str,.v dD,.u,.u,.u,.u,.u],[]],[]⟩
def tN {γ:Type} (rec:di->Int->Int->di->Int->di->Int->Option γ) (kE kR:Int->di->Int->di->Int->Option γ) (v0:di) (v1 v2:Int) (v3:di) (v4:Int) (v5:di) (v6:Int):Option γ:=bif(iG (dA .i64 v1 v2) (bP v0))then bif(gV v0 (dA .i64 v1 v2))then bM (acN (cO v0 (dA .i64 v1 v2))) fun y0=>bif(!y0.1)then kE v2 v3 v4 v5 v6 else rec v0 v1 (dA .i64 v2 1) v3 v4 v5 v6 else none else kE v2 v3 v4 v5 v6
def ni:Nat->di->Int->Int->di->Int->di->Int->Option (zg.den⊕zo.den)
 |0,_,_,_,_,_,_,_=>none
 |n+1,v0,v1,v2,v3,v4,v5,v6=>tN (ni n) (fun e0 e1 e2 e3 e4=>some (.inl ((e0,()),((e1,e2,e3,e4,()),(),()),()))) (fun r0 r1 r2 r3 r4=>some (.inr ((r0,()),((r1,r2,r3,r4,()),(),()),()))) v0 v1 v2 v3 v4 v5 v6
def UW (n:Nat) (v:vK.den):=ni n v.1.1 v.1.2.1 v.1.2.2.1 v.2.1.1.1 v.2.1.1.2.1 v.2.1.1.2.2.1 v.2.1.1.2.2.2.1
noncomputable def yT:dI:=fU Ip vK zg zo (.exit 0) (UW bU) 12
def XT (x1:Int) (x0:di):Option Di:=bif(bW 0 0)then some (0,())else bif(iG x1 0)then some (0,())else bif(leI (bP x0) x1)then some (0,())else bM (mg bU x0 x1 0 x0 x1 x0 x1) fun y0=>dV y0 (fun a1=>some (a1.1.1,())) (fun b1=>some (b1.1.1,()))
def Rz (x0:di) (x1:Int):Option Di:=bif(iG x1 0)then XT x1 x0 else bif(leI (bP x0) x1)then XT x1 x0 else bM (ni bU x0 x1 0 x0 x1 x0 x1) fun y0=>dV y0 (fun a1=>bif(bW a1.1.1 0)then some (0,())else bif(iG a1.2.1.1.2.1 0)then some (0,())else bif(leI (bP a1.2.1.1.1) a1.2.1.1.2.1)then some (0,())else bM (mg bU a1.2.1.1.1 a1.2.1.1.2.1 0 a1.2.1.1.1 a1.2.1.1.2.1 a1.2.1.1.1 a1.2.1.1.2.1) fun y2=>dV y2 (fun a3=>some (a3.1.1,())) (fun b3=>some (b3.1.1,()))) (fun b1=>bif(bW b1.1.1 0)then some (0,())else bif(iG b1.2.1.1.2.1 0)then some (0,())else bif(leI (bP b1.2.1.1.1) b1.2.1.1.2.1)then some (0,())else bM (mg bU b1.2.1.1.1 b1.2.1.1.2.1 0 b1.2.1.1.1 b1.2.1.1.2.1 b1.2.1.1.1 b1.2.1.1.2.1) fun y2=>dV y2 (fun a3=>some (a3.1.1,())) (fun b3=>some (b3.1.1,())))
def abI:Sum:=⟨[.str,dD],UN,fun x=>Rz x.1 x.2.1⟩
noncomputable def Rf:Env:=ed prog tt [(276,avP),(278,ahu)] [(275,4,Ip),(216,600001,axA),(216,600003,axB),(275,600006,adc)] [(275,4,nJ D8 yT)] []
def OJ {γ:Type} (a:BV.den->Option γ) (b:En.den->Option γ) (c:Ez.den->Option γ) (v:BV.den):Option γ:=yG (fun v0 v1 v2 v3 v4 v5 v6=>a ((v0,v1,v2,()),((v3,v4,v5,v6,()),(),()),())) (fun e0 e1 e2 e3 e4=>b ((e0,()),((e1,e2,e3,e4,()),(),()),())) (fun r0 r1 r2 r3 r4=>c ((r0,()),((r1,r2,r3,r4,()),(),()),())) v.1.1 v.1.2.1 v.1.2.2.1 v.2.1.1.1 v.2.1.1.2.1 v.2.1.1.2.2.1 v.2.1.1.2.2.2.1
theorem ad9:dX Rf 275 Bv D8:=lK (OJ) (h2:=by intros;simp only[OJ,yG,dm,dn,bK,cZ,dw])
def Hl {γ:Type} (a:vK.den->Option γ) (b:zg.den->Option γ) (c:zo.den->Option γ) (v:vK.den):Option γ:=tN (fun v0 v1 v2 v3 v4 v5 v6=>a ((v0,v1,v2,()),((v3,v4,v5,v6,()),(),()),())) (fun e0 e1 e2 e3 e4=>b ((e0,()),((e1,e2,e3,e4,()),(),()),())) (fun r0 r1 r2 r3 r4=>c ((r0,()),((r1,r2,r3,r4,()),(),()),())) v.1.1 v.1.2.1 v.1.2.2.1 v.2.1.1.1 v.2.1.1.2.1 v.2.1.1.2.2.1 v.2.1.1.2.2.2.1
theorem U5:dX Rf 275 Bv yT:=lK (Hl) (h2:=by intros;simp only[Hl,tN,dm,dn,bK,cZ,dw])
theorem agp:dU Rf 275 QC:=qj [Bv] (aD (fun L h=>by rw[show(Rf).lp 275 (dH Bv)=some (nJ D8 yT) by kernel_rfl]at h;cases h;exact rX ad9 U5) aN)
theorem amn:dK Rf:=eB (aD apn (aD WU aN)) [275] (aD ⟨f275,QC,by kernel_rfl,by kernel_rfl,agp⟩ aN)
theorem ND:dY prog 216 abI:=sA amn
noncomputable def QD:Code:=(f275.body).getD .skip
noncomputable def QP:Code:=cA (cA (cA (cB (cB (cB (cA (cB (QD))))))))
def RX:dZ:=⟨[0,1,2,7,276000004],[],[7],[],[6],[]⟩
def axC:dZ:=⟨[0,1],[],[],[],[],[]⟩
def ade:dZ:=⟨[0,1,2,7],[],[],[],[],[]⟩
def BX:SQ:=⟨us [.v .str,.v dD,.fn 278 [],.u,.u,.u,.u,.v dD] 25,[[.v .str,.v dD,.u,.u,.u,.v .str,.v dD,.u],[]],[]⟩
def Eo:SQ:=⟨us [.u,.u,.u,.u,.u,.u,.u,.v dD] 25,[[.v .str,.v dD,.u,.u,.u,.v .str,.v dD,.u],[]],[]⟩
def EC:SQ:=⟨us [.u,.u,.u,.u,.u,.u,.v dD] 26,[[.v .str,.v dD,.u,.u,.u,.v .str,.v dD,.u],[]],[]⟩
def yH {γ:Type} (rec:di->Int->Int->di->Int->di->Int->Option γ) (kE kR:Int->di->Int->di->Int->Option γ) (v0:di) (v1 v2:Int) (v3:di) (v4:Int) (v5:di) (v6:Int):Option γ:=bif(iG (dA .i64 v1 v2) (bP v0))then bif(gV v0 (dA .i64 v1 v2))then bM (acO (cO v0 (dA .i64 v1 v2))) fun y0=>bif(!y0.1)then kE v2 v3 v4 v5 v6 else rec v0 v1 (dA .i64 v2 1) v3 v4 v5 v6 else none else kE v2 v3 v4 v5 v6
def qA:Nat->di->Int->Int->di->Int->di->Int->Option (Eo.den⊕EC.den)
 |0,_,_,_,_,_,_,_=>none
 |n+1,v0,v1,v2,v3,v4,v5,v6=>yH (qA n) (fun e0 e1 e2 e3 e4=>some (.inl ((e0,()),((e1,e2,e3,e4,()),(),()),()))) (fun r0 r1 r2 r3 r4=>some (.inr ((r0,()),((r1,r2,r3,r4,()),(),()),()))) v0 v1 v2 v3 v4 v5 v6
def adL (n:Nat) (v:BX.den):=qA n v.1.1 v.1.2.1 v.1.2.2.1 v.2.1.1.1 v.2.1.1.2.1 v.2.1.1.2.2.1 v.2.1.1.2.2.2.1
noncomputable def Oj:dI:=fU RX BX Eo EC (.exit 0) (adL bU) 6
def DU (x0:di) (x1:Int):Option Di:=bif(iG x1 0)then some (0,())else bif(leI (bP x0) x1)then some (0,())else bM (qA bU x0 x1 0 x0 x1 x0 x1) fun y0=>dV y0 (fun a1=>some (a1.1.1,())) (fun b1=>some (b1.1.1,()))
def aho:Sum:=⟨[.str,dD],UN,fun x=>DU x.1 x.2.1⟩
noncomputable def afs:Env:=ed prog tt [(278,ahu)] [(275,4,RX),(237,600001,axC),(275,600006,ade)] [(275,4,Oj)] []
def OL {γ:Type} (a:BX.den->Option γ) (b:Eo.den->Option γ) (c:EC.den->Option γ) (v:BX.den):Option γ:=yH (fun v0 v1 v2 v3 v4 v5 v6=>a ((v0,v1,v2,()),((v3,v4,v5,v6,()),(),()),())) (fun e0 e1 e2 e3 e4=>b ((e0,()),((e1,e2,e3,e4,()),(),()),())) (fun r0 r1 r2 r3 r4=>c ((r0,()),((r1,r2,r3,r4,()),(),()),())) v.1.1 v.1.2.1 v.1.2.2.1 v.2.1.1.1 v.2.1.1.2.1 v.2.1.1.2.2.1 v.2.1.1.2.2.2.1
theorem aea:dX afs 275 QP Oj:=lK (OL) (h2:=by intros;simp only[OL,yH,dm,dn,bK,cZ,dw])
theorem agq:dU afs 275 QD:=qj [QP] (aD (fM (aea)) aN)
theorem amD:dK afs:=eB (aD WU aN) [275] (aD ⟨f275,QD,by kernel_rfl,by kernel_rfl,agq⟩ aN)
theorem WO:dY prog 237 aho:=sA amD
def VJ (x0:di) (x1:Int):Option Di:=bM (Rz x0 x1) fun y0=>bif(iG 0 y0.1)then some (y0.1,())else bif(iG x1 0)then some (0,())else bif(leI (bP x0) x1)then some (0,())else bif(gV x0 x1)then bif(bW (cO x0 x1) 64)then bif(bW (cO x0 x1) 64)then some (1,())else bM (DU x0 x1) fun y1=>some ((GN y1.1 1),())else bif(bW (cO x0 x1) 42)then bif(bW (cO x0 x1) 42)then some (1,())else bM (DU x0 x1) fun y1=>some ((GN y1.1 1),())else bif(bW (cO x0 x1) 35)then bif(bW (cO x0 x1) 35)then some (1,())else bM (DU x0 x1) fun y1=>some ((GN y1.1 1),())else bif(bW (cO x0 x1) 63)then bif(bW (cO x0 x1) 63)then some (1,())else bM (DU x0 x1) fun y1=>some ((GN y1.1 1),())else bif(bW (cO x0 x1) 45)then bif(bW (cO x0 x1) 45)then some (1,())else bM (DU x0 x1) fun y1=>some ((GN y1.1 1),())else bif(bW (cO x0 x1) 36)then bif(bW (cO x0 x1) 36)then some (1,())else bM (DU x0 x1) fun y1=>some ((GN y1.1 1),())else bif(bW (cO x0 x1) 33)then some (1,())else bM (DU x0 x1) fun y1=>some ((GN y1.1 1),())else none
def avw:Sum:=⟨[.str,dD],UN,fun x=>VJ x.1 x.2.1⟩
noncomputable def aB9:Env:=gp prog tt 218 [(216,abI),(237,aho)] [] []
theorem amq:dK aB9:=eA f218 (aD ND (aD WO aN))
theorem ao4:dY prog 218 avw:=sA amq
noncomputable def awN:Code:=(f158.body).getD .skip
noncomputable def aqp:Code:=cA (cA (cB (cA (cB (cB (cB (awN)))))))
noncomputable def ahM:Code:=cA (cA (cB (cA (cB (cB (cB (cB (awN))))))))
def asX:dZ:=⟨[0,3,4,12,13,100004],[(100000900,.pair (.list .unit) I9),(100000901,.pair (.list .unit) dD)],[0,3],[],[2],[(2,I9)]⟩
def aiN:dZ:=⟨[0,3,31,32,100010],[],[3],[],[2],[(2,I9)]⟩
def axw:dZ:=⟨[0,3],[],[],[],[],[]⟩
def axx:dZ:=⟨[0,3,4,5,12,13],[],[],[],[],[]⟩
def YY:SP:=⟨us [.v .str,.u,.u,.ptr 1000009 0,.ptr 2000004 0,.u,.u,.u,.u,.u,.u,.u,.v dD,.v dD] 65,[.box 2000004 227 [.slc 2000002,.v .bool,.v dD],.arr 2000002 UL,.arr 1502009 dD,.arr 1500009 I9,.box 1000009 264 [.slc 1500009,.slc 1502009]]⟩
def ZG:SP:=⟨us [.v .str,.u,.u,.ptr 1000009 0] 75,[.arr 1502009 dD,.arr 1500009 I9,.box 1000009 264 [.slc 1500009,.slc 1502009]]⟩
def aar:SP:=⟨us [.u,.u,.v Vm] 76,[]⟩
def PX {γ:Type} (rec:di->Int->Int->Bool->Int->(List oG)->jJ->(List jg)->Option γ) (kE:di->jJ->(List jg)->Option γ) (kR:(List jg)->Option γ) (v0:di) (v1 v2:Int) (v3:Bool) (v4:Int) (v5:List oG) (v6:jJ) (v7:List jg):Option γ:=bif(iG v2 v1)then bif(gV v0 v2)then bM (VH v5 v3 v4 (cO v0 v2)) fun y0=>bif(bW (bP y0.1.1) 0)then bM (acE v7 v6 [(0,(0,()))] v2) fun y1=>rec v0 v1 (dA .i64 v2 1) y0.1.2.1 y0.1.2.2.1 y0.1.1 y1.1.2.1 y1.1.1 else bM (oI y0.1.1) fun y1=>bM (acE v7 v6 y1.1 v2) fun y2=>rec v0 v1 (dA .i64 v2 1) y0.1.2.1 y0.1.2.2.1 y0.1.1 y2.1.2.1 y2.1.1 else none else kE v0 v6 v7
def JR:Nat->di->Int->Int->Bool->Int->(List oG)->jJ->(List jg)->Option (ZG.den⊕aar.den)
 |0,_,_,_,_,_,_,_,_=>none
 |n+1,v0,v1,v2,v3,v4,v5,v6,v7=>PX (JR n) (fun e0 e1 e2=>some (.inl ((e0,()),(e1,e2,(),())))) (fun r0=>some (.inr ((r0,()),()))) v0 v1 v2 v3 v4 v5 v6 v7
def aye (n:Nat) (v:YY.den):=JR n v.1.1 v.1.2.1 v.1.2.2.1 v.2.1.1 v.2.1.2.1 v.2.2.1 v.2.2.2.1 v.2.2.2.2.1
noncomputable def ai7:dI:=gQ asX YY ZG aar (.exit 0) (aye bU) 6
def O8:SP:=⟨us [.v .str,.u,.u,.ptr 1000009 0,.u,.u,.u,.u,.u,.u,.u,.u,.u,.u,.u,.u,.u,.u,.u,.u,.u,.u,.u,.u,.u,.u,.u,.u,.u,.u,.u,.v dD,.v dD] 46,[.arr 1502009 dD,.arr 1500009 I9,.box 1000009 264 [.slc 1500009,.slc 1502009]]⟩
def Ti:SP:=⟨us [.u,.u,.u,.ptr 1000009 0] 75,[.arr 1502009 dD,.arr 1500009 I9,.box 1000009 264 [.slc 1500009,.slc 1502009]]⟩
def Tv:SP:=⟨us [.u,.u,.v Vm] 76,[]⟩
def eX (v4:List jg) (v2:Int):=dL v4 (0,(0,(0,(0,(false,()))))) (dG v2)
def jq (v4:List jg) (v2:Int) (v0:di):=iH v4 (dG v2) ((eX v4 v2).1,((eX v4 v2).2.1,((bP v0),((eX v4 v2).2.2.2.1,((eX v4 v2).2.2.2.2.1,())))))
def fK (v4:List jg) (v2:Int) (v0:di):=dL (jq v4 v2 v0) (0,(0,(0,(0,(false,()))))) (dG v2)
def KU {γ:Type} (rec:di->Int->Int->jJ->(List jg)->Option γ) (kE:jJ->(List jg)->Option γ) (kR:(List jg)->Option γ) (v0:di) (v1 v2:Int) (v3:jJ) (v4:List jg):Option γ:=bif(iG v2 v1)then bif(gV v4 v2)then bif(oD (dG v2) v4)then bif(eX v4 v2).2.2.2.2.1 then bif(oD (dG v2) v4)then bif(oD (dG v2) (jq v4 v2 v0))then bif(bW (fK v4 v2 v0).1 12)then bif(oD (dG v2) (jq v4 v2 v0))then bif(oD (dG v2) (jq v4 v2 v0))then bM (VJ v0 (dA .i64 (fK v4 v2 v0).2.1 1)) fun y0=>bif(oD (dG v2) (jq v4 v2 v0))then bif((eqN (dG v2) (dG v2))&&true)then bif((eqN (dG v2) (dG v2))&&true)then bif(oD (dG v2) (iH (jq v4 v2 v0) (dG v2) ((fK v4 v2 v0).1,((fK v4 v2 v0).2.1,((dA .i64 (dA .i64 (fK v4 v2 v0).2.1 1) y0.1),((fK v4 v2 v0).2.2.2.1,((fK v4 v2 v0).2.2.2.2.1,())))))))then bif((eqN (dG v2) (dG v2))&&true)then rec v0 v1 (dA .i64 v2 1) v3 (iH (iH (jq v4 v2 v0) (dG v2) ((fK v4 v2 v0).1,((fK v4 v2 v0).2.1,((dA .i64 (dA .i64 (fK v4 v2 v0).2.1 1) y0.1),((fK v4 v2 v0).2.2.2.1,((fK v4 v2 v0).2.2.2.2.1,())))))) (dG v2) ((dL (iH (jq v4 v2 v0) (dG v2) ((fK v4 v2 v0).1,((fK v4 v2 v0).2.1,((dA .i64 (dA .i64 (fK v4 v2 v0).2.1 1) y0.1),((fK v4 v2 v0).2.2.2.1,((fK v4 v2 v0).2.2.2.2.1,())))))) (0,(0,(0,(0,(false,()))))) (dG v2)).1,((dL (iH (jq v4 v2 v0) (dG v2) ((fK v4 v2 v0).1,((fK v4 v2 v0).2.1,((dA .i64 (dA .i64 (fK v4 v2 v0).2.1 1) y0.1),((fK v4 v2 v0).2.2.2.1,((fK v4 v2 v0).2.2.2.2.1,())))))) (0,(0,(0,(0,(false,()))))) (dG v2)).2.1,((dL (iH (jq v4 v2 v0) (dG v2) ((fK v4 v2 v0).1,((fK v4 v2 v0).2.1,((dA .i64 (dA .i64 (fK v4 v2 v0).2.1 1) y0.1),((fK v4 v2 v0).2.2.2.1,((fK v4 v2 v0).2.2.2.2.1,())))))) (0,(0,(0,(0,(false,()))))) (dG v2)).2.2.1,((dL (iH (jq v4 v2 v0) (dG v2) ((fK v4 v2 v0).1,((fK v4 v2 v0).2.1,((dA .i64 (dA .i64 (fK v4 v2 v0).2.1 1) y0.1),((fK v4 v2 v0).2.2.2.1,((fK v4 v2 v0).2.2.2.2.1,())))))) (0,(0,(0,(0,(false,()))))) (dG v2)).2.2.2.1,(false,()))))))else none else none else none else none else none else none else none else rec v0 v1 (dA .i64 v2 1) v3 (jq v4 v2 v0)else none else none else bif(oD (dG v2) v4)then bif(bW (eX v4 v2).1 12)then bif(oD (dG v2) v4)then bif(oD (dG v2) v4)then bM (VJ v0 (dA .i64 (eX v4 v2).2.1 1)) fun y0=>bif(oD (dG v2) v4)then bif((eqN (dG v2) (dG v2))&&true)then bif((eqN (dG v2) (dG v2))&&true)then bif(oD (dG v2) (iH v4 (dG v2) ((eX v4 v2).1,((eX v4 v2).2.1,((dA .i64 (dA .i64 (eX v4 v2).2.1 1) y0.1),((eX v4 v2).2.2.2.1,((eX v4 v2).2.2.2.2.1,())))))))then bif((eqN (dG v2) (dG v2))&&true)then rec v0 v1 (dA .i64 v2 1) v3 (iH (iH v4 (dG v2) ((eX v4 v2).1,((eX v4 v2).2.1,((dA .i64 (dA .i64 (eX v4 v2).2.1 1) y0.1),((eX v4 v2).2.2.2.1,((eX v4 v2).2.2.2.2.1,())))))) (dG v2) ((dL (iH v4 (dG v2) ((eX v4 v2).1,((eX v4 v2).2.1,((dA .i64 (dA .i64 (eX v4 v2).2.1 1) y0.1),((eX v4 v2).2.2.2.1,((eX v4 v2).2.2.2.2.1,())))))) (0,(0,(0,(0,(false,()))))) (dG v2)).1,((dL (iH v4 (dG v2) ((eX v4 v2).1,((eX v4 v2).2.1,((dA .i64 (dA .i64 (eX v4 v2).2.1 1) y0.1),((eX v4 v2).2.2.2.1,((eX v4 v2).2.2.2.2.1,())))))) (0,(0,(0,(0,(false,()))))) (dG v2)).2.1,((dL (iH v4 (dG v2) ((eX v4 v2).1,((eX v4 v2).2.1,((dA .i64 (dA .i64 (eX v4 v2).2.1 1) y0.1),((eX v4 v2).2.2.2.1,((eX v4 v2).2.2.2.2.1,())))))) (0,(0,(0,(0,(false,()))))) (dG v2)).2.2.1,((dL (iH v4 (dG v2) ((eX v4 v2).1,((eX v4 v2).2.1,((dA .i64 (dA .i64 (eX v4 v2).2.1 1) y0.1),((eX v4 v2).2.2.2.1,((eX v4 v2).2.2.2.2.1,())))))) (0,(0,(0,(0,(false,()))))) (dG v2)).2.2.2.1,(false,()))))))else none else none else none else none else none else none else none else rec v0 v1 (dA .i64 v2 1) v3 v4 else none else none else none else kE v3 v4
def xn:Nat->di->Int->Int->jJ->(List jg)->Option (Ti.den⊕Tv.den)
 |0,_,_,_,_,_=>none
 |n+1,v0,v1,v2,v3,v4=>KU (xn n) (fun e0 e1=>some (.inl ((),(e0,e1,(),())))) (fun r0=>some (.inr ((r0,()),()))) v0 v1 v2 v3 v4
def atK (n:Nat) (v:O8.den):=xn n v.1.1 v.1.2.1 v.1.2.2.1 v.2.1 v.2.2.1
noncomputable def adS:dI:=gQ aiN O8 Ti Tv (.exit 2) (atK bU) 12
def aia (x0:di):Option ((List jg)×Unit):=bM (JR bU x0 (bP x0) 0 true 0 [(0,(0,()))] [] []) fun y0=>dV y0 (fun a1=>bM (xn bU a1.1.1 (bP a1.2.2.1) 0 a1.2.1 a1.2.2.1) fun y2=>dV y2 (fun a3=>some (a3.2.2.1,())) (fun b3=>some (b3.1.1,()))) (fun b1=>some (b1.1.1,()))
def avm:Sum:=⟨[.str],[(.list I9,false)],fun x=>aia x.1⟩
noncomputable def XF:Env:=ed prog tt [(169,yM),(218,avw)] [(158,4,asX),(158,10,aiN),(158,600002,axw),(158,600007,axx)] [(158,4,ai7),(158,10,adS)] [] [(104,aby),(217,avv)]
def akm {γ:Type} (a:YY.den->Option γ) (b:ZG.den->Option γ) (c:aar.den->Option γ) (v:YY.den):Option γ:=PX (fun v0 v1 v2 v3 v4 v5 v6 v7=>a ((v0,v1,v2,()),((v3,v4,()),v5,v6,v7,(),()))) (fun e0 e1 e2=>b ((e0,()),(e1,e2,(),()))) (fun r0=>c ((r0,()),())) v.1.1 v.1.2.1 v.1.2.2.1 v.2.1.1 v.2.1.2.1 v.2.2.1 v.2.2.2.1 v.2.2.2.2.1
theorem ay4:dX XF 158 aqp ai7:=Bi (akm) (h2:=by intros;simp only[akm,PX,dm,dn,bK,cZ,dw])
def aey {γ:Type} (a:O8.den->Option γ) (b:Ti.den->Option γ) (c:Tv.den->Option γ) (v:O8.den):Option γ:=KU (fun v0 v1 v2 v3 v4=>a ((v0,v1,v2,()),(v3,v4,(),()))) (fun e0 e1=>b ((),(e0,e1,(),()))) (fun r0=>c ((r0,()),())) v.1.1 v.1.2.1 v.1.2.2.1 v.2.1 v.2.2.1
theorem auk:dX XF 158 ahM adS:=Bi (aey) (h2:=by intros;simp only[aey,KU,dm,dn,bK,cZ,dw,eX,jq,fK])
theorem aDK:dU XF 158 awN:=qj [aqp,ahM] (aD (fM (ay4)) (aD (fM (auk)) aN))
theorem al1:dK XF:=eB (aD xC (aD ao4 aN)) [158] (aD ⟨f158,awN,by kernel_rfl,by kernel_rfl,aDK⟩ aN) (hx:=(aD Nq (aD ao3 aN)))
theorem aoU:dY prog 158 avm:=sA al1
def acx (x0:List oG) (x1:Bool) (x2:Int):Option (taM×qM):=bif x1 then some ((x0,(x1,(x2,()))),(true,()))else some ((x0,(x1,(x2,()))),((bW (bP x0) 0),()))
def au8:gX:=⟨227,tzC,[],[.bool],fun x y=>acx x.1 x.2.1 x.2.2.1⟩
noncomputable def aBG:Env:=ed prog tt [] [] [] []
theorem alD:dK aBG:=eB aN [] aN
theorem aoG:eF prog 106 au8:=sB alD
noncomputable def b48:Code:=(f48.body).getD .skip
noncomputable def az3:Code:=cA (cA (cB (cA (cB (cB (b48))))))
def aAk:dZ:=⟨[0,4,8,9,100003],[],[4],[],[2,3],[(2,UL)]⟩
def aDk:dZ:=⟨[0],[],[],[],[],[]⟩
def aDl:dZ:=⟨[4],[],[],[],[],[]⟩
def ajN:SP:=⟨us [.v .str,.u,.u,.u,.ptr 2000004 0,.u,.u,.u,.v dD,.v dD] 12,[.box 2000004 227 [.slc 2000002,.v .bool,.v dD],.arr 2000002 UL]⟩
def agK:SP:=⟨us [.u,.u,.u,.u,.ptr 2000004 0] 17,[.box 2000004 227 [.slc 2000002,.v .bool,.v dD],.arr 2000002 UL]⟩
def agV:SP:=⟨us [.u,.u,.v (.list UL),.v .bool] 18,[]⟩
def abl {γ:Type} (rec:di->Int->Int->Bool->Int->(List oG)->Option γ) (kE:Bool->Int->(List oG)->Option γ) (kR:(List oG)->Bool->Option γ) (v0:di) (v1 v2:Int) (v3:Bool) (v4:Int) (v5:List oG):Option γ:=bif(iG v2 v1)then bif(gV v0 v2)then bM (VH v5 v3 v4 (cO v0 v2)) fun y0=>rec v0 v1 (dA .i64 v2 1) y0.1.2.1 y0.1.2.2.1 y0.1.1 else none else kE v3 v4 v5
def SA:Nat->di->Int->Int->Bool->Int->(List oG)->Option (agK.den⊕agV.den)
 |0,_,_,_,_,_,_=>none
 |n+1,v0,v1,v2,v3,v4,v5=>abl (SA n) (fun e0 e1 e2=>some (.inl ((),((e0,e1,()),e2,())))) (fun r0 r1=>some (.inr ((r0,r1,()),()))) v0 v1 v2 v3 v4 v5
def aEk (n:Nat) (v:ajN.den):=SA n v.1.1 v.1.2.1 v.1.2.2.1 v.2.1.1 v.2.1.2.1 v.2.2.1
noncomputable def atV:dI:=gQ aAk ajN agK agV (.exit 0) (aEk bU) 6
def axd (x0:di):Option ((List oG)×Bool×Unit):=bM (SA bU x0 (bP x0) 0 true 0 [(0,(0,()))]) fun y0=>dV y0 (fun a1=>bif(bW (bP a1.2.2.1) 0)then bM (acx a1.2.2.1 a1.2.1.1 a1.2.1.2.1) fun y2=>some ([(0,(0,()))],(y2.2.1,()))else bM (oI a1.2.2.1) fun y2=>bM (acx a1.2.2.1 a1.2.1.1 a1.2.1.2.1) fun y3=>some (y2.1,(y3.2.1,()))) (fun b1=>some (b1.1.1,(b1.1.2.1,())))
def aAJ:Sum:=⟨[.str],[(.list UL,false),(.bool,false)],fun x=>axd x.1⟩
noncomputable def arj:Env:=ed prog tt [(169,yM)] [(48,3,aAk),(48,600001,aDk),(48,600007,aDl)] [(48,3,atV)] [] [(104,aby),(106,au8)]
def auK {γ:Type} (a:ajN.den->Option γ) (b:agK.den->Option γ) (c:agV.den->Option γ) (v:ajN.den):Option γ:=abl (fun v0 v1 v2 v3 v4 v5=>a ((v0,v1,v2,()),((v3,v4,()),v5,()))) (fun e0 e1 e2=>b ((),((e0,e1,()),e2,()))) (fun r0 r1=>c ((r0,r1,()),())) v.1.1 v.1.2.1 v.1.2.2.1 v.2.1.1 v.2.1.2.1 v.2.2.1
theorem aEE:dX arj 48 az3 atV:=Bi (auK) (h2:=by intros;simp only[auK,abl,dm,dn,bK,cZ,dw])
theorem aGc:dU arj 48 b48:=qj [az3] (aD (fM (aEE)) aN)
theorem ark:dK arj:=eB (aD xC aN) [48] (aD ⟨f48,b48,by kernel_rfl,by kernel_rfl,aGc⟩ aN) (hx:=(aD Nq (aD aoG aN)))
theorem awh:dY prog 48 aAJ:=sA ark
def ait (x0:List oG) (x1:Bool) (x2 x3:Int):Option (taM×qM):=bM (GZ x3) fun y0=>bif(!y0.1)then some ((x0,(x1,(x2,()))),(false,()))else bif(bW (bP x0) 1)then some ((x0,(x1,(x2,()))),(true,()))else bif(bW (bP x0) 2)then bif(gV x0 1)then bif(oD (dG 1) x0)then bif(bW (dL x0 (0,(0,())) (dG 1)).1 12)then some ((x0,(x1,(x2,()))),((!(bW x3 40)),()))else some ((x0,(x1,(x2,()))),(false,()))else none else none else some ((x0,(x1,(x2,()))),(false,()))
def avV:gX:=⟨227,tzC,[.int .u8],[.bool],fun x y=>ait x.1 x.2.1 x.2.2.1 y.1⟩
noncomputable def aCG:Env:=ed prog tt [(285,ahv)] [] [] []
theorem anf:dK aCG:=eB (aD WV aN) [] aN
theorem apu:eF prog 307 avV:=sB anf
noncomputable def aBr:Code:=(f268.body).getD .skip
noncomputable def aqE:Code:=cA (cA (cA (cB (cB (cB (aBr))))))
def atc:dZ:=⟨[0,1,5,100004],[],[1],[],[4],[]⟩
def axE:dZ:=⟨[0,1],[],[],[],[],[]⟩
def Zc:SP:=⟨us [.v .str,.v dD,.u,.u,.u,.ptr 2000004 0] 27,[.box 2000004 227 [.slc 2000002,.v .bool,.v dD],.arr 2000002 UL]⟩
def ZU:SP:=⟨us [.u,.v dD] 31,[]⟩
def aaE:SP:=⟨us [.u,.u,.u,.u,.v dD] 28,[]⟩
def Qc {γ:Type} (rec:di->Int->Bool->Int->(List oG)->Option γ) (kE kR:Int->Option γ) (v0:di) (v1:Int) (v2:Bool) (v3:Int) (v4:List oG):Option γ:=bif(iG v1 (bP v0))then bif(gV v0 v1)then bM (ait v4 v2 v3 (cO v0 v1)) fun y0=>bif y0.2.1 then kR v1 else bif(gV v0 v1)then bM (VH y0.1.1 y0.1.2.1 y0.1.2.2.1 (cO v0 v1)) fun y1=>rec v0 (dA .i64 v1 1) y1.1.2.1 y1.1.2.2.1 y1.1.1 else none else none else kE v1
def JY:Nat->di->Int->Bool->Int->(List oG)->Option (ZU.den⊕aaE.den)
 |0,_,_,_,_,_=>none
 |n+1,v0,v1,v2,v3,v4=>Qc (JY n) (fun e0=>some (.inl ((e0,()),()))) (fun r0=>some (.inr ((r0,()),()))) v0 v1 v2 v3 v4
def ays (n:Nat) (v:Zc.den):=JY n v.1.1 v.1.2.1 v.2.1.1 v.2.1.2.1 v.2.2.1
noncomputable def ajl:dI:=gQ atc Zc ZU aaE (.exit 0) (ays bU) 6
def acL (x0:di) (x1:Int):Option Di:=bif(iG x1 0)then some ((-1),())else bif(iG (bP x0) x1)then some ((-1),())else bM (JY bU x0 x1 true 0 [(0,(0,()))]) fun y0=>dV y0 (fun a1=>some (a1.1.1,())) (fun b1=>some (b1.1.1,()))
def avJ:Sum:=⟨[.str,dD],UN,fun x=>acL x.1 x.2.1⟩
noncomputable def afz:Env:=ed prog tt [] [(268,4,atc),(268,600003,axE)] [(268,4,ajl)] [] [(104,aby),(307,avV)]
def akA {γ:Type} (a:Zc.den->Option γ) (b:ZU.den->Option γ) (c:aaE.den->Option γ) (v:Zc.den):Option γ:=Qc (fun v0 v1 v2 v3 v4=>a ((v0,v1,()),((v2,v3,()),v4,()))) (fun e0=>b ((e0,()),())) (fun r0=>c ((r0,()),())) v.1.1 v.1.2.1 v.2.1.1 v.2.1.2.1 v.2.2.1
theorem azi:dX afz 268 aqE ajl:=Bi (akA) (h2:=by intros;simp only[akA,Qc,dm,dn,bK,cZ,dw])
theorem aDX:dU afz 268 aBr:=qj [aqE] (aD (fM (azi)) aN)
theorem amT:dK afz:=eB aN [268] (aD ⟨f268,aBr,by kernel_rfl,by kernel_rfl,aDX⟩ aN) (hx:=(aD Nq (aD apu aN)))
theorem apg:dY prog 268 avJ:=sA amT
def JC (x0:Int):Option (di×Unit):=bif(bW x0 9)then some ([41,41],())else bif(bW x0 13)then bif(bW x0 13)then some ([10],())else some ([],())else bif(bW x0 14)then some ([10],())else some ([],())
def aiv (x0:Int):Option (di×Unit):=bif(bW x0 1)then bif(bW x0 1)then some ([41],())else JC x0 else bif(bW x0 3)then bif(bW x0 3)then some ([41],())else JC x0 else bif(bW x0 2)then bif(bW x0 2)then some ([41],())else JC x0 else bif(bW x0 10)then bif(bW x0 10)then some ([41],())else JC x0 else bif(bW x0 11)then some ([41],())else JC x0
def aiu (x0:Int):Option (di×Unit):=bif(bW x0 4)then some ([39],())else bif(bW x0 5)then some ([34],())else bif(bW x0 6)then some ([96],())else bif(bW x0 7)then bif(bW x0 7)then some ([125],())else aiv x0 else bif(bW x0 8)then some ([125],())else aiv x0
def avW:Sum:=⟨[dD],tzI,fun x=>aiu x.1⟩
noncomputable def aCH:Env:=gp prog tt 309 [] [] []
theorem ang:dK aCH:=eA f309 aN
theorem apv:dY prog 309 avW:=sA ang
noncomputable def Xk:Code:=(f269.body).getD .skip
noncomputable def QE:Code:=(Tryz.f337.body).getD .skip
noncomputable def QQ:Code:=cA (cA (cB (QE)))
def RY:dZ:=⟨[0,1,3,338000001],[],[],[],[],[]⟩
def axW:dZ:=⟨[2,5],[],[],[],[],[]⟩
def axF:dZ:=⟨[2,3,5],[],[],[],[],[]⟩
def adf:dZ:=⟨[0,1,3],[],[],[],[],[]⟩
def BZ:SQ:=⟨us [.yld 1700014,.ptr 2000001 0,.u,.v dD] 15,[us [.u,.u,.v .str,.u,.u,.ptr 1000005 0] 15,[.yld 1700014],[]],[.lp 1700014 269 (us [.u,.u,.v .str,.u,.u,.ptr 1000005 0] 15) [14] 5 0 none,.box 2000001 73 [.v (.list UL)],.box 1000005 111 [.slc 1500005],.arr 1500005 (.int .u8)]⟩
def Ep:SQ:=⟨us [] 19,[us [.u,.u,.v .str,.u,.u,.ptr 1000005 0] 15,[.yld 1700014],[]],[.lp 1700014 269 (us [.u,.u,.v .str,.u,.u,.ptr 1000005 0] 15) [14] 5 0 none,.box 2000001 73 [.v (.list UL)],.box 1000005 111 [.slc 1500005],.arr 1500005 (.int .u8)]⟩
def ED:SQ:=⟨us [] 19,[us [.u,.u,.v .str,.u,.u,.ptr 1000005 0] 15,[.yld 1700014],[]],[]⟩
def uI {γ:Type} (rec:Int->di->di->(List oG)->jJ->Option γ) (kE:di->di->(List oG)->jJ->Option γ) (kR:di->Option γ) (v0:Int) (v1 v2:di) (v3:List oG) (v4:jJ):Option γ:=bif(leI 0 v0)then bif(gV v3 v0)then bM (aiu (fZ v3 (0,(0,())) v0).1) fun y0=>bif(eQ (cu v4 (dM y0.1)) 1)then bif(bW (fZ v3 (0,(0,())) v0).1 (fZ v3 (0,(0,())) v0).1)then rec (eG .i64 v0 1) v1 v2 v3 (cu v4 (dM y0.1))else none else none else none else kE v1 v2 v3 v4
def qB:Nat->Int->di->di->(List oG)->jJ->Option (Ep.den⊕ED.den)
 |0,_,_,_,_,_=>none
 |n+1,v0,v1,v2,v3,v4=>uI (qB n) (fun e0 e1 e2 e3=>some (.inl ((),((e0,()),(),(),()),((e1,()),(e2,()),(),e3,())))) (fun r0=>some (.inr ((),((r0,()),(),(),()),()))) v0 v1 v2 v3 v4
def adM (n:Nat) (v:BZ.den):=qB n v.1.1 v.2.1.1.1 v.2.2.1.1 v.2.2.2.1.1 v.2.2.2.2.2.1
noncomputable def Ol:dI:=fU RY BZ Ep ED (.exit 0) (adM bU) 6
def ail (x0:di):Option (di×Unit):=bM (axd x0) fun y0=>bM (qB bU (eG .i64 (bP y0.1) 1) [] [] y0.1 []) fun y1=>dV y1 (fun a2=>some ((ofBytes a2.2.2.2.2.2.1),())) (fun b2=>none)
def avK:Sum:=⟨[.str],tzI,fun x=>ail x.1⟩
noncomputable def XH:Env:=ed prog tt [(48,aAJ),(309,avW)] [(337,1,RY),(269,500005,axW),(269,600003,axF),(337,600003,adf)] [(337,1,Ol)] [269]
def OM {γ:Type} (a:BZ.den->Option γ) (b:Ep.den->Option γ) (c:ED.den->Option γ) (v:BZ.den):Option γ:=uI (fun v0 v1 v2 v3 v4=>a ((v0,()),((v1,()),(),(),()),((v2,()),(v3,()),(),v4,()))) (fun e0 e1 e2 e3=>b ((),((e0,()),(),(),()),((e1,()),(e2,()),(),e3,()))) (fun r0=>c ((),((r0,()),(),(),()),())) v.1.1 v.2.1.1.1 v.2.2.1.1 v.2.2.2.1.1 v.2.2.2.2.2.1
theorem aeb:dX XH 337 QQ Ol:=lK (OM) (h2:=by intros;simp only[OM,uI,dm,dn,bK,cZ,dw])
theorem aDt:jH Xk=[]:=by kernel_rfl
theorem aEV:jM Xk=[(cA (cA (cB (cA (cB (cB (cB (Xk))))))),cB (cA (cB (cA (cB (cB (cB (Xk))))))))]:=by kernel_rfl
theorem aDY:dU XH 269 Xk:=qx Xk (by rw[aEV];exact(aD (fun _=>(show rC 269 5=some (cA (cA (cB (cA (cB (cB (cB (Xk))))))),cB (cA (cB (cA (cB (cB (cB (Xk)))))))) by kernel_rfl)) aN)) (by rw[aDt];exact aN)
theorem agr:dU XH 337 QE:=qj [QQ] (aD (fM (aeb)) aN)
theorem amU:dK XH:=eB (aD awh (aD apv aN)) [269,337] (aD ⟨f269,Xk,by kernel_rfl,by kernel_rfl,aDY⟩ (aD ⟨Tryz.f337,QE,by kernel_rfl,by kernel_rfl,agr⟩ aN))
theorem aph:dY prog 269 avK:=sA amU
def aAf (x0:Int):Option (di×Unit):=bif(bW x0 10)then some ([62,124],())else bif(bW x0 11)then some ([60],())else bif(bW x0 12)then some ([62],())else bif(bW x0 13)then some ([38],())else bif(bW x0 14)then some ([59],())else bif(bW x0 15)then some ([124],())else bif(bW x0 16)then some ([40],())else bif(bW x0 17)then some ([41],())else some ([],())
def av2:Sum:=⟨[dD],tzI,fun x=>aAf x.1⟩
noncomputable def aCJ:Env:=gp prog tt 313 [] [] []
theorem ank:dK aCJ:=eA f313 aN
theorem apz:dY prog 313 av2:=sA ank
def air (x0:Int):Option (di×Unit):=bif(bW x0 1)then some ([38,38],())else bif(bW x0 2)then some ([124,124],())else bif(bW x0 3)then some ([59,59],())else bif(bW x0 4)then some ([60,60],())else bif(bW x0 5)then some ([60,60,45],())else bif(bW x0 6)then some ([62,62],())else bif(bW x0 7)then some ([60,38],())else bif(bW x0 8)then some ([62,38],())else bif(bW x0 9)then some ([60,62],())else bM (aAf x0) fun y0=>some (y0.1,())
def avS:Sum:=⟨[dD],tzI,fun x=>air x.1⟩
noncomputable def aCy:Env:=gp prog tt 283 [(313,av2)] [] []
theorem am4:dK aCy:=eA Tryz.f283 (aD apz aN)
theorem apr:dY prog 283 avS:=sA am4
noncomputable def aFx:Code:=(f227.body).getD .skip
noncomputable def aqx:Code:=cA (cA (cB (cA (cB (cB (aFx))))))
def as5:dZ:=⟨[0,3,100004],[],[],[],[2],[]⟩
def Y5:SP:=⟨us [.v .str,.u,.u,.v dD] 11,[]⟩
def ZN:SP:=⟨us [] 15,[]⟩
def aay:SP:=⟨us [.u,.u,.v dD] 12,[]⟩
def Gq {γ:Type} (rec:di->Int->Option γ) (kE:Option γ) (kR:Int->Option γ) (v0:di) (v1:Int):Option γ:=bif(leI v1 17)then bM (air v1) fun y0=>bif(iq y0.1 v0)then kR v1 else rec v0 (dA .i64 v1 1)else kE
def vG:Nat->di->Int->Option (ZN.den⊕aay.den)
 |0,_,_=>none
 |n+1,v0,v1=>Gq (vG n) (some (.inl ((),()))) (fun r0=>some (.inr ((r0,()),()))) v0 v1
def ayl (n:Nat) (v:Y5.den):=vG n v.1.1 v.1.2.1
noncomputable def aje:dI:=gQ as5 Y5 ZN aay (.exit 0) (ayl bU) 6
def NY (x0:di):Option Di:=bif(iq x0 [])then some (0,())else bM (vG bU x0 1) fun y0=>dV y0 (fun a1=>some (0,())) (fun b1=>some (b1.1.1,()))
def abJ:Sum:=⟨[.str],UN,fun x=>NY x.1⟩
noncomputable def afr:Env:=gp prog tt 227 [(283,avS)] [(4,as5)] [(4,aje)]
def akt {γ:Type} (a:Y5.den->Option γ) (b:ZN.den->Option γ) (c:aay.den->Option γ) (v:Y5.den):Option γ:=Gq (fun v0 v1=>a ((v0,v1,()),())) (b ((),())) (fun r0=>c ((r0,()),())) v.1.1 v.1.2.1
theorem azb:dX afr 227 aqx aje:=Bi (akt) (h2:=by intros;simp only[akt,Gq,dm,dn,bK,cZ,dw])
theorem aDQ:dU afr 227 aFx:=qj [aqx] (aD (fM (azb)) aN)
theorem amu:dK afr:=eA f227 (aD apr aN) (aDQ)
theorem NE:dY prog 227 abJ:=sA amu
noncomputable def aFy:Code:=(f263.body).getD .skip
noncomputable def aqC:Code:=cA (cA (cA (cB (cB (cB (cA (cB (aFy))))))))
def ata:dZ:=⟨[0,1,4,5,100004],[],[4,5],[],[4,5],[]⟩
def Za:SP:=⟨us [.v .str,.v dD,.u,.u,.v dD,.v dD] 35,[]⟩
def ZR:SP:=⟨us [.u,.u,.u,.u,.v dD,.v dD] 35,[]⟩
def aaC:SP:=⟨us [.u,.u,.u,.u,.v dD,.v dD] 35,[]⟩
def KX {γ:Type} (rec:di->Int->Int->Int->Option γ) (kE kR:Int->Int->Option γ) (v0:di) (v1 v2 v3:Int):Option γ:=bif(iG 0 v3)then bif(gm (bP v0) v1 (dA .i64 v1 v3))then bM (NY (sub v0 v1 (dA .i64 v1 v3))) fun y0=>bif(!(bW y0.1 0))then kE y0.1 v3 else rec v0 v1 y0.1 (eG .i64 v3 1)else none else kE v2 v3
def FM:Nat->di->Int->Int->Int->Option (ZR.den⊕aaC.den)
 |0,_,_,_,_=>none
 |n+1,v0,v1,v2,v3=>KX (FM n) (fun e0 e1=>some (.inl ((e0,e1,()),()))) (fun r0 r1=>some (.inr ((r0,r1,()),()))) v0 v1 v2 v3
def ayq (n:Nat) (v:Za.den):=FM n v.1.1 v.1.2.1 v.1.2.2.1 v.1.2.2.2.1
noncomputable def ajj:dI:=gQ ata Za ZR aaC (.exit 0) (ayq bU) 6
def aik (x0:di) (x1:Int):Option oG:=bif(iG x1 0)then some (0,(0,()))else bif(leI (bP x0) x1)then some (0,(0,()))else bif(gV x0 x1)then bM (Jv (cO x0 x1)) fun y0=>bif(!(bW y0.1 3))then some (0,(0,()))else bM (FM bU x0 x1 0 (GN 3 (eG .i64 (bP x0) x1))) fun y1=>dV y1 (fun a2=>some (a2.1.1,(a2.1.2.1,()))) (fun b2=>some (b2.1.1,(b2.1.2.1,())))else none
def avG:Sum:=⟨[.str,dD],tzJ,fun x=>aik x.1 x.2.1⟩
noncomputable def afx:Env:=gp prog tt 263 [(122,IU),(227,abJ)] [(4,ata)] [(4,ajj)]
def aky {γ:Type} (a:Za.den->Option γ) (b:ZR.den->Option γ) (c:aaC.den->Option γ) (v:Za.den):Option γ:=KX (fun v0 v1 v2 v3=>a ((v0,v1,v2,v3,()),())) (fun e0 e1=>b ((e0,e1,()),())) (fun r0 r1=>c ((r0,r1,()),())) v.1.1 v.1.2.1 v.1.2.2.1 v.1.2.2.2.1
theorem azg:dX afx 263 aqC ajj:=Bi (aky) (h2:=by intros;simp only[aky,KX,dm,dn,bK,cZ,dw])
theorem aDV:dU afx 263 aFy:=qj [aqC] (aD (fM (azg)) aN)
theorem amO:dK afx:=eA f263 (aD wK (aD NE aN)) (aDV)
theorem apd:dY prog 263 avG:=sA amO
def asq (x0 x1:di):Option qM:=bif(leI (bP x1) (bP x0))then bif(gm (bP x0) 0 (bP x1))then some ((iq (sub x0 0 (bP x1)) x1),())else none else some (false,())
def av9:Sum:=⟨[.str,.str],tzE,fun x=>asq x.1 x.2.1⟩
noncomputable def aCR:Env:=gp prog tt 336 [] [] []
theorem anw:dK aCR:=eA f336 aN
theorem apF:dY prog 336 av9:=sA anw
def ais (x0 x1:di):Option qM:=bM (asq x0 x1) fun y0=>some (y0.1,())
def avU:Sum:=⟨[.str,.str],tzE,fun x=>ais x.1 x.2.1⟩
noncomputable def aCF:Env:=gp prog tt 306 [(336,av9)] [] []
theorem ane:dK aCF:=eA f306 (aD apF aN)
theorem apt:dY prog 306 avU:=sA ane
def acH (x0:di) (x1:Int):Option qM:=bif(gm (bP x0) x1 (bP x0))then bM (ais (sub x0 x1 (bP x0)) [92,10]) fun y0=>some (y0.1,())else none
def ahr:Sum:=⟨[.str,dD],tzE,fun x=>acH x.1 x.2.1⟩
noncomputable def aCq:Env:=gp prog tt 264 [(306,avU)] [] []
theorem amP:dK aCq:=eA f264 (aD apt aN)
theorem WR:dY prog 264 ahr:=sA amP
noncomputable def aFz:Code:=(f265.body).getD .skip
noncomputable def aqD:Code:=cA (cA (cA (cB (aFz))))
def atb:dZ:=⟨[0,1,100001],[],[1],[],[4],[]⟩
def Zb:SP:=⟨us [.v .str,.v dD] 23,[]⟩
def ZT:SP:=⟨us [.u,.v dD] 23,[]⟩
def aaD:SP:=⟨us [.u,.u,.u,.u,.v dD] 20,[]⟩
def Qb {γ:Type} (rec:di->Int->Option γ) (kE kR:Int->Option γ) (v0:di) (v1:Int):Option γ:=bif(iG v1 (bP v0))then bif(gV v0 v1)then bM (Jv (cO v0 v1)) fun y0=>bif(bW y0.1 1)then rec v0 (dA .i64 v1 1)else bM (acH v0 v1) fun y1=>bif y1.1 then rec v0 (dA .i64 v1 2)else kR v1 else none else kE v1
def JX:Nat->di->Int->Option (ZT.den⊕aaD.den)
 |0,_,_=>none
 |n+1,v0,v1=>Qb (JX n) (fun e0=>some (.inl ((e0,()),()))) (fun r0=>some (.inr ((r0,()),()))) v0 v1
def ayr (n:Nat) (v:Zb.den):=JX n v.1.1 v.1.2.1
noncomputable def ajk:dI:=gQ atb Zb ZT aaD (.exit 0) (ayr bU) 6
def acI (x0:di) (x1:Int):Option Di:=bM (JX bU x0 x1) fun y0=>dV y0 (fun a1=>some (a1.1.1,())) (fun b1=>some (b1.1.1,()))
def avH:Sum:=⟨[.str,dD],UN,fun x=>acI x.1 x.2.1⟩
noncomputable def afy:Env:=gp prog tt 265 [(122,IU),(264,ahr)] [(1,atb)] [(1,ajk)]
def akz {γ:Type} (a:Zb.den->Option γ) (b:ZT.den->Option γ) (c:aaD.den->Option γ) (v:Zb.den):Option γ:=Qb (fun v0 v1=>a ((v0,v1,()),())) (fun e0=>b ((e0,()),())) (fun r0=>c ((r0,()),())) v.1.1 v.1.2.1
theorem azh:dX afy 265 aqD ajk:=Bi (akz) (h2:=by intros;simp only[akz,Qb,dm,dn,bK,cZ,dw])
theorem aDW:dU afy 265 aFz:=qj [aqD] (aD (fM (azh)) aN)
theorem amQ:dK afy:=eA f265 (aD wK (aD WR aN)) (aDW)
theorem ape:dY prog 265 avH:=sA amQ
def aiy (x0:di) (x1:Int):Option Di:=some ((ibW x0 x1),())
def av3:Sum:=⟨[.str,.int .u8],UN,fun x=>aiy x.1 x.2.1⟩
noncomputable def aCK:Env:=gp prog tt 319 [(343,alh)] [] []
theorem anl:dK aCK:=eA Tryz.f319 (aD (aeR func343 (by kernel_rfl) (by kernel_rfl) (by kernel_rfl) (by kernel_rfl)) aN)
theorem apA:dY prog 319 av3:=sA anl
def acP (x0:di) (x1:Int):Option Di:=bM (aiy x0 x1) fun y0=>some (y0.1,())
def ahw:Sum:=⟨[.str,.int .u8],UN,fun x=>acP x.1 x.2.1⟩
noncomputable def aCB:Env:=gp prog tt 292 [(319,av3)] [] []
theorem am7:dK aCB:=eA f292 (aD apA aN)
theorem WW:dY prog 292 ahw:=sA am7
def acJ (x0:di) (x1:Int):Option (Int×Bool×Unit):=bif(gm (bP x0) x1 (bP x0))then bM (acP (sub x0 x1 (bP x0)) 10) fun y0=>bif(leI 0 y0.1)then some ((dA .i64 x1 y0.1),(true,()))else some ((bP x0),(false,()))else none
def ahs:Sum:=⟨[.str,dD],[(.int .i64,false),(.bool,false)],fun x=>acJ x.1 x.2.1⟩
noncomputable def aCr:Env:=gp prog tt 266 [(292,ahw)] [] []
theorem amR:dK aCr:=eA f266 (aD WW aN)
theorem WS:dY prog 266 ahs:=sA amR
def acK (x0:di) (x1:Int):Option Di:=bM (DU x0 x1) fun y0=>bif(iG x1 (dA .i64 x1 y0.1))then bif(iG (dA .i64 x1 y0.1) (bP x0))then bif(gV x0 (dA .i64 x1 y0.1))then bif(bW (cO x0 (dA .i64 x1 y0.1)) 60)then some ((dA .i64 x1 y0.1),())else bif(gV x0 (dA .i64 x1 y0.1))then bif(bW (cO x0 (dA .i64 x1 y0.1)) 62)then some ((dA .i64 x1 y0.1),())else some (x1,())else none else none else some (x1,())else some (x1,())
def avI:Sum:=⟨[.str,dD],UN,fun x=>acK x.1 x.2.1⟩
noncomputable def aCs:Env:=gp prog tt 267 [(237,aho)] [] []
theorem amS:dK aCs:=eA f267 (aD WO aN)
theorem apf:dY prog 267 avI:=sA amS
def XR (x0:di) (x1:Int) (y0:oG):Option (Bf×Unit):=bif(gV x0 x1)then bif(bW (cO x0 x1) 10)then some ((2,(x1,((dA .i64 x1 1),(false,())))),())else bif(gV x0 x1)then bif(bW (cO x0 x1) 35)then bM (acJ x0 x1) fun y2=>some ((3,(x1,(y2.1,(false,())))),())else bif(iG 0 y0.2.1)then some ((4,(x1,((dA .i64 x1 y0.2.1),(false,())))),())else bM (acK x0 x1) fun y2=>bif(iG x1 y2.1)then bM (acK x0 x1) fun y3=>some ((5,(x1,(y3.1,(false,())))),())else bM (acL x0 x1) fun y3=>bif(gm (bP x0) x1 y3.1)then bM (ail (sub x0 x1 y3.1)) fun y4=>some ((6,(x1,(y3.1,((!(iq y4.1 [])),())))),())else none else none else none
def aib (x0:di) (x1:Int):Option (Bf×Unit):=bM (aik x0 x1) fun y0=>bif(gV x0 x1)then bM (Jv (cO x0 x1)) fun y1=>bif(bW y1.1 1)then bif(bW y1.1 1)then bM (acI x0 x1) fun y2=>some ((1,(x1,(y2.1,(false,())))),())else XR x0 x1 y0 else bM (acH x0 x1) fun y2=>bif y2.1 then bM (acI x0 x1) fun y3=>some ((1,(x1,(y3.1,(false,())))),())else XR x0 x1 y0 else none
def avs:Sum:=⟨[.str,dD],[(.pair dD (.pair dD (.pair dD tyF)),false)],fun x=>aib x.1 x.2.1⟩
noncomputable def aB6:Env:=gp prog tt 211 [(122,IU),(263,avG),(264,ahr),(265,avH),(266,ahs),(267,avI),(268,avJ),(269,avK)] [] []
theorem amj:dK aB6:=eA f211 (aD wK (aD apd (aD WR (aD ape (aD WS (aD apf (aD apg (aD aph aN))))))))
theorem ao0:dY prog 211 avs:=sA amj
noncomputable def aFF:Code:=(f332.body).getD .skip
noncomputable def aqN:Code:=cA (cA (cA (cB (aFF))))
def atm:dZ:=⟨[0,1,100001],[],[0],[],[4],[]⟩
def Zl:SP:=⟨us [.v .str,.v (.int .u8)] 15,[]⟩
def Z8:SP:=⟨us [.v .str] 16,[]⟩
def aaN:SP:=⟨us [.u,.u,.u,.u,.v .str] 12,[]⟩
def Ld {γ:Type} (rec:di->Int->Option γ) (kE kR:di->Option γ) (v0:di) (v1:Int):Option γ:=bif(iG 0 (bP v0))then bif(gV v0 0)then bif(bW (cO v0 0) v1)then bif(gm (bP v0) 1 (bP v0))then rec (sub v0 1 (bP v0)) v1 else none else kE v0 else none else kE v0
def FT:Nat->di->Int->Option (Z8.den⊕aaN.den)
 |0,_,_=>none
 |n+1,v0,v1=>Ld (FT n) (fun e0=>some (.inl ((e0,()),()))) (fun r0=>some (.inr ((r0,()),()))) v0 v1
def ayB (n:Nat) (v:Zl.den):=FT n v.1.1 v.1.2.1
noncomputable def aju:dI:=gQ atm Zl Z8 aaN (.exit 0) (ayB bU) 6
def aiC (x0:di) (x1:Int):Option (di×Unit):=bM (FT bU x0 x1) fun y0=>dV y0 (fun a1=>some (a1.1.1,())) (fun b1=>some (b1.1.1,()))
def av8:Sum:=⟨[.str,.int .u8],tzI,fun x=>aiC x.1 x.2.1⟩
noncomputable def afG:Env:=gp prog tt 332 [] [(1,atm)] [(1,aju)]
def akJ {γ:Type} (a:Zl.den->Option γ) (b:Z8.den->Option γ) (c:aaN.den->Option γ) (v:Zl.den):Option γ:=Ld (fun v0 v1=>a ((v0,v1,()),())) (fun e0=>b ((e0,()),())) (fun r0=>c ((r0,()),())) v.1.1 v.1.2.1
theorem azr:dX afG 332 aqN aju:=Bi (akJ) (h2:=by intros;simp only[akJ,Ld,dm,dn,bK,cZ,dw])
theorem aD8:dU afG 332 aFF:=qj [aqN] (aD (fM (azr)) aN)
theorem anv:dK afG:=eA f332 aN (aD8)
theorem apE:dY prog 332 av8:=sA anv
noncomputable def aBq:Code:=(f261.body).getD .skip
noncomputable def aqB:Code:=cA (cA (cA (cB (cA (cB (aBq))))))
def as9:dZ:=⟨[0,1,5,100001],[],[1],[],[6,7],[]⟩
def axD:dZ:=⟨[0,5,8,9,10],[],[],[],[],[]⟩
def Y9:SP:=⟨us [.v .str,.v dD,.u,.u,.u,.ptr 1000005 0] 33,[.box 1000005 129 [.v .str,.v .bool]]⟩
def Px:SP:=⟨us [.u,.v dD] 37,[]⟩
def PG:SP:=⟨us [.u,.u,.u,.u,.u,.u,.v dD,.v .bool] 31,[]⟩
def AX {γ:Type} (y0:(Int×Bool×Unit)) (v0:di) (v1:Int) (v2:di) (kR:Int->Bool->Option γ) (rec:di->Int->di->Bool->Option γ) (v3:Bool):Option γ:=bif y0.2.1 then bif(iq (sub v0 v1 y0.1) v2)then kR (dA .i64 y0.1 1) true else rec v0 (dA .i64 y0.1 1) v2 v3 else bif(iq (sub v0 v1 y0.1) v2)then kR y0.1 true else rec v0 y0.1 v2 v3
def Qa {γ:Type} (rec:di->Int->di->Bool->Option γ) (kE:Int->Option γ) (kR:Int->Bool->Option γ) (v0:di) (v1:Int) (v2:di) (v3:Bool):Option γ:=bif(iG v1 (bP v0))then bM (acJ v0 v1) fun y0=>bif(gm (bP v0) v1 y0.1)then bif v3 then bif(iq (sub v0 v1 y0.1) [])then AX y0 v0 v1 v2 kR rec v3 else bif(iq [9] [])then AX y0 v0 v1 v2 kR rec v3 else bif(bW (bP [9]) 1)then bif(gV [9] 0)then bif(iG (cO [9] 0) 128)then bif(gV [9] 0)then bM (aiC (sub v0 v1 y0.1) (cO [9] 0)) fun y1=>bif y0.2.1 then bif(iq y1.1 v2)then kR (dA .i64 y0.1 1) true else rec v0 (dA .i64 y0.1 1) v2 v3 else bif(iq y1.1 v2)then kR y0.1 true else rec v0 y0.1 v2 v3 else none else none else none else none else AX y0 v0 v1 v2 kR rec v3 else none else kE v1
def BN:Nat->di->Int->di->Bool->Option (Px.den⊕PG.den)
 |0,_,_,_,_=>none
 |n+1,v0,v1,v2,v3=>Qa (BN n) (fun e0=>some (.inl ((e0,()),()))) (fun r0 r1=>some (.inr ((r0,r1,()),()))) v0 v1 v2 v3
def ayp (n:Nat) (v:Y9.den):=BN n v.1.1 v.1.2.1 v.2.1.1 v.2.1.2.1
noncomputable def aji:dI:=gQ as9 Y9 Px PG (.exit 0) (ayp bU) 6
def aij (x0:di) (x1:Int) (x2:di×qM):Option (Int×Bool×Unit):=bM (BN bU x0 x1 x2.1 x2.2.1) fun y0=>dV y0 (fun a1=>some (a1.1.1,(false,()))) (fun b1=>some (b1.1.1,(b1.1.2.1,())))
def avF:Sum:=⟨[.str,dD,CX],[(.int .i64,false),(.bool,false)],fun x=>aij x.1 x.2.1 x.2.2.1⟩
noncomputable def afw:Env:=ed prog tt [(266,ahs),(332,av8)] [(261,1,as9),(261,600005,axD)] [(261,1,aji)] []
def akx {γ:Type} (a:Y9.den->Option γ) (b:Px.den->Option γ) (c:PG.den->Option γ) (v:Y9.den):Option γ:=Qa (fun v0 v1 v2 v3=>a ((v0,v1,()),((v2,v3,()),()))) (fun e0=>b ((e0,()),())) (fun r0 r1=>c ((r0,r1,()),())) v.1.1 v.1.2.1 v.2.1.1 v.2.1.2.1
theorem azf:dX afw 261 aqB aji:=Bi (akx) (h2:=by intros;simp only[akx,Qa,dm,dn,bK,cZ,dw,AX])
theorem aDU:dU afw 261 aBq:=qj [aqB] (aD (fM (azf)) aN)
theorem amN:dK afw:=eB (aD WS (aD apE aN)) [261] (aD ⟨f261,aBq,by kernel_rfl,by kernel_rfl,aDU⟩ aN)
theorem apc:dY prog 261 avF:=sA amN
def Rw:Option taU:=some (([84],([0],(true,()))),())
def abz:Sum:=⟨[],tzG,fun x=>Rw⟩
noncomputable def aBH:Env:=gp prog tt 108 [] [] []
theorem alE:dK aBH:=eA f108 aN
theorem Nr:dY prog 108 abz:=sA alE
def xW (x0:Hw) (x1:Bool):Option taU:=some ((x0.1,(x0.2.1,(x1,()))),())
def abE:Sum:=⟨[.pair .str tyK,.bool],tzG,fun x=>xW x.1 x.2.1⟩
noncomputable def aBW:Env:=gp prog tt 170 [] [] []
theorem al6:dK aBW:=eA f170 aN
theorem Ny:dY prog 170 abE:=sA al6
def DR (x0:Hw) (x1:di):Option taU:=bif(gm (bP x0.1) 0 (eG .i64 (bP x0.1) 1))then bif(iU (sub x0.1 0 (eG .i64 (bP x0.1) 1)) x1)then some (((cu (sub x0.1 0 (eG .i64 (bP x0.1) 1)) x1),(x0.2.1,(x0.2.2.1,()))),())else none else none
def ahi:Sum:=⟨[.pair .str tyK,.str],tzG,fun x=>DR x.1 x.2.1⟩
noncomputable def aBX:Env:=gp prog tt 171 [] [] []
theorem al7:dK aBX:=eA Tryz.f171 aN
theorem WH:dY prog 171 ahi:=sA al7
def Jz (x0:Hw):Option taU:=bif(gm (bP x0.1) 0 (eG .i64 (bP x0.1) 1))then bif(gm (bP x0.2.1) 0 (eG .i64 (bP x0.1) 1))then some (((sub x0.1 0 (eG .i64 (bP x0.1) 1)),((sub x0.2.1 0 (eG .i64 (bP x0.1) 1)),(x0.2.2.1,()))),())else none else none
def abG:Sum:=⟨[.pair .str tyK],tzG,fun x=>Jz x.1⟩
noncomputable def aBY:Env:=gp prog tt 172 [] [] []
theorem al8:dK aBY:=eA f172 aN
theorem Nz:dY prog 172 abG:=sA al8
noncomputable def b91:Code:=(f91.body).getD .skip
noncomputable def aAb:Code:=cA (cA (cB (cA (cB (b91)))))
def aAs:dZ:=⟨[0,1,5,100002],[],[],[],[4],[]⟩
def ajV:SP:=⟨us [.v (.int .u8),.v .str,.u,.u,.u,.v dD] 11,[]⟩
def agS:SP:=⟨us [] 17,[]⟩
def ag3:SP:=⟨us [.u,.u,.u,.u,.v .bool] 12,[]⟩
def TZ {γ:Type} (rec:Int->di->Int->Option γ) (kE:Option γ) (kR:Bool->Option γ) (v0:Int) (v1:di) (v2:Int):Option γ:=bif(iG v2 (bP v1))then bif(gV v1 v2)then bif(bW (cO v1 v2) v0)then kR true else rec v0 v1 (dA .i64 v2 1)else none else kE
def BP:Nat->Int->di->Int->Option (agS.den⊕ag3.den)
 |0,_,_,_=>none
 |n+1,v0,v1,v2=>TZ (BP n) (some (.inl ((),()))) (fun r0=>some (.inr ((r0,()),()))) v0 v1 v2
def aEs (n:Nat) (v:ajV.den):=BP n v.1.1 v.1.2.1 v.1.2.2.1
noncomputable def aua:dI:=gQ aAs ajV agS ag3 (.exit 0) (aEs bU) 6
def LZ (x0:Int) (x1:di):Option qM:=bM (BP bU x0 x1 0) fun y0=>dV y0 (fun a1=>some (false,())) (fun b1=>some (b1.1.1,()))
def aeP:Sum:=⟨[.int .u8,.str],tzE,fun x=>LZ x.1 x.2.1⟩
noncomputable def arE:Env:=gp prog tt 91 [] [(2,aAs)] [(2,aua)]
def auS {γ:Type} (a:ajV.den->Option γ) (b:agS.den->Option γ) (c:ag3.den->Option γ) (v:ajV.den):Option γ:=TZ (fun v0 v1 v2=>a ((v0,v1,v2,()),())) (b ((),())) (fun r0=>c ((r0,()),())) v.1.1 v.1.2.1 v.1.2.2.1
theorem aEM:dX arE 91 aAb aua:=Bi (auS) (h2:=by intros;simp only[auS,TZ,dm,dn,bK,cZ,dw])
theorem aGm:dU arE 91 b91:=qj [aAb] (aD (fM (aEM)) aN)
theorem arF:dK arE:=eA f91 aN (aGm)
theorem Lt:dY prog 91 aeP:=sA arF
def X5 (x0:Int):Option Di:=bif(bW x0 32)then some (1,())else bif(bW x0 9)then some (1,())else bif(bW x0 10)then some (2,())else bM (LZ x0 [124,38,59,60,62,40,41]) fun y0=>bif y0.1 then some (3,())else bM (LZ x0 [92,39,34,96,36]) fun y1=>bif y1.1 then some (4,())else bM (LZ x0 [65,66,67,68,69,70,71,72,73,74,75,76,77,78,79,80,81,82,83,84,85,86,87,88,89,90,97,98,99,100,101,102,103,104,105,106,107,108,109,110,111,112,113,114,115,116,117,118,119,120,121,122,95]) fun y2=>bif y2.1 then some (5,())else bM (LZ x0 [48,49,50,51,52,53,54,55,56,57]) fun y3=>bif y3.1 then some (6,())else some (0,())
def aeL:Sum:=⟨[.int .u8],UN,fun x=>X5 x.1⟩
noncomputable def aFO:Env:=gp prog tt 44 [(91,aeP)] [] []
theorem ari:dK aFO:=eA f44 (aD Lt aN)
theorem Ls:dY prog 44 aeL:=sA ari
def acD (x0:Int):Option qM:=bM (X5 x0) fun y0=>bif(bW y0.1 1)then some (true,())else bif(bW y0.1 2)then some (true,())else some ((bW y0.1 3),())
def ahl:Sum:=⟨[.int .u8],tzE,fun x=>acD x.1⟩
noncomputable def aB8:Env:=gp prog tt 213 [(44,aeL)] [] []
theorem aml:dK aB8:=eA f213 (aD Ls aN)
theorem WL:dY prog 213 ahl:=sA aml
def kL (x0:Hw) (x1:di):=iq (cu x0.1 x1) (cu x0.1 x1)
def mF (x0:Hw):=nV dD x0.2.1 x0.2.1
def xe (x0:Hw) (x1:di) (x2:Int):Option taU:=bif(iU x0.1 x1)then bif(iq x0.1 x0.1)then bif(iq x1 x1)then bif(iU x0.1 x1)then bif(kL x0 x1)then bif(mF x0)then bif(bW x2 x2)then bif(jy x0.2.2.1 x0.2.2.1)then bif(eQ (cu [] x0.2.1) 8)then bif(iq x0.1 x0.1)then bif(iq x1 x1)then bif(iU x0.1 x1)then bif(kL x0 x1)then bif(bW x2 x2)then bif(jy x0.2.2.1 x0.2.2.1)then bif(iq x0.1 x0.1)then bif(iq x1 x1)then bif(iU x0.1 x1)then bif(kL x0 x1)then bif(mF x0)then bif(jy x0.2.2.1 x0.2.2.1)then bif(eQ (cu (cu [] x0.2.1) [x2]) 8)then bif(iq x0.1 x0.1)then bif(iq x1 x1)then bif(iU x0.1 x1)then bif(kL x0 x1)then bif(mF x0)then bif(bW x2 x2)then bif(jy x0.2.2.1 x0.2.2.1)then bM (bif(iq x0.1 x0.1)then(bif(iq x1 x1)then(bif(iU x0.1 x1)then(bif(kL x0 x1)then(bif(mF x0)then(bif(jy x0.2.2.1 x0.2.2.1)then(bif(eQ (cu [] x0.2.1) 8)then(bif(iq x0.1 x0.1)then(bif(iq x1 x1)then(bif(iU x0.1 x1)then(bif(kL x0 x1)then(bif(bW x2 x2)then(bif(jy x0.2.2.1 x0.2.2.1)then(bif(eQ (cu (cu [] x0.2.1) [x2]) 8)then(bif(iq x0.1 x0.1)then(bif(iq x1 x1)then(bif(iU x0.1 x1)then(bif(kL x0 x1)then(bif(mF x0)then(bif(bW x2 x2)then(bif(jy x0.2.2.1 x0.2.2.1)then(bif(((((iq x0.1 x0.1)&&((mF x0)&&((jy x0.2.2.1 x0.2.2.1)&&true)))&&((iq x1 x1)&&((bW x2 x2)&&((iq x0.1 x0.1)&&((iq x1 x1)&&((kL x0 x1)&&((mF x0)&&((bW x2 x2)&&((jy x0.2.2.1 x0.2.2.1)&&(((kL x0 x1)&&((jy x0.2.2.1 x0.2.2.1)&&true))&&true))))))))))&&(((nV dD [x2] [x2])&&((nV dD (cu (cu [] x0.2.1) [x2]) (cu (cu [] x0.2.1) [x2]))&&(((kL x0 x1)&&((jy x0.2.2.1 x0.2.2.1)&&true))&&(((iq x0.1 x0.1)&&((mF x0)&&((jy x0.2.2.1 x0.2.2.1)&&true)))&&true))))&&true))&&true)then(some ())else(none))else(none))else(none))else(none))else(none))else(none))else(none))else(none))else(none))else(none))else(none))else(none))else(none))else(none))else(none))else(none))else(none))else(none))else(none))else(none))else(none))else(none)) fun y0=>bM (bif(iq x0.1 x0.1)then(bif(iq x1 x1)then(bif(iU x0.1 x1)then(bif(kL x0 x1)then(bif(mF x0)then(bif(jy x0.2.2.1 x0.2.2.1)then(bif(iq x0.1 x0.1)then(bif(iq x1 x1)then(bif(iU x0.1 x1)then(bif(kL x0 x1)then(bif(mF x0)then(bif(bW x2 x2)then(bif(jy x0.2.2.1 x0.2.2.1)then(bif(eQ (cu [] x0.2.1) 8)then(bif(iq x0.1 x0.1)then(bif(iq x1 x1)then(bif(iU x0.1 x1)then(bif(kL x0 x1)then(bif(bW x2 x2)then(bif(jy x0.2.2.1 x0.2.2.1)then(bif(eQ (cu (cu [] x0.2.1) [x2]) 8)then(bif(iq x0.1 x0.1)then(bif(iq x1 x1)then(bif(iU x0.1 x1)then(bif(kL x0 x1)then(bif(mF x0)then(bif(bW x2 x2)then(bif(jy x0.2.2.1 x0.2.2.1)then(bif(((((iq x0.1 x0.1)&&((mF x0)&&((jy x0.2.2.1 x0.2.2.1)&&true)))&&((iq x1 x1)&&((bW x2 x2)&&((iq x0.1 x0.1)&&((iq x1 x1)&&((kL x0 x1)&&((mF x0)&&((bW x2 x2)&&((jy x0.2.2.1 x0.2.2.1)&&(((kL x0 x1)&&((jy x0.2.2.1 x0.2.2.1)&&true))&&true))))))))))&&(((nV dD [x2] [x2])&&((nV dD (cu (cu [] x0.2.1) [x2]) (cu (cu [] x0.2.1) [x2]))&&(((kL x0 x1)&&((jy x0.2.2.1 x0.2.2.1)&&true))&&(((iq x0.1 x0.1)&&((mF x0)&&((jy x0.2.2.1 x0.2.2.1)&&true)))&&true))))&&true))&&true)then(some ())else(none))else(none))else(none))else(none))else(none))else(none))else(none))else(none))else(none))else(none))else(none))else(none))else(none))else(none))else(none))else(none))else(none))else(none))else(none))else(none))else(none))else(none))else(none))else(none))else(none))else(none))else(none))else(none))else(none)) fun y1=>some (((cu x0.1 x1),((cu (cu [] x0.2.1) [x2]),(x0.2.2.1,()))),())else none else none else none else none else none else none else none else none else none else none else none else none else none else none else none else none else none else none else none else none else none else none else none else none else none else none else none else none else none
def ahm:Sum:=⟨[.pair .str tyK,.str,dD],tzG,fun x=>xe x.1 x.2.1 x.2.2.1⟩
noncomputable def aCi:Env:=gp prog tt 234 [] [] []
theorem amB:dK aCi:=eA f234 aN
theorem WM:dY prog 234 ahm:=sA amB
def VL (x0:Int):Option (di×Unit):=bif(bW x0 92)then some ([88],())else bif(bW x0 36)then some ([76],())else bif(bW x0 96)then some ([66],())else some ([],())
def ahn:Sum:=⟨[.int .u8],tzI,fun x=>VL x.1⟩
noncomputable def aCj:Env:=gp prog tt 235 [] [] []
theorem amC:dK aCj:=eA f235 aN
theorem WN:dY prog 235 ahn:=sA amC
def XW (x2:Int) (x0:Hw) (x3:Int):Option taU:=bM (VL x2) fun y0=>bM (xe (x0.1,(x0.2.1,(x0.2.2.1,()))) y0.1 x3) fun y1=>bif(bW x2 x2)then bM (xW y1.1 false) fun y2=>bif((iq x0.1 x0.1)&&((nV dD x0.2.1 x0.2.1)&&((jy x0.2.2.1 x0.2.2.1)&&true)))then bif(bW x2 x2)then bif(bW x3 x3)then bif(((bW x2 x2)&&true)&&((iq y0.1 y0.1)&&true))then some ((y2.1.1,(y2.1.2.1,(y2.1.2.2.1,()))),())else none else none else none else none else none
def XX (x2 x1:Int) (x0:Hw) (x3:Int):Option taU:=bif(bW x2 40)then bif(bW x1 84)then bM (xW (x0.1,(x0.2.1,(x0.2.2.1,()))) true) fun y0=>some ((y0.1.1,(y0.1.2.1,(y0.1.2.2.1,()))),())else bM (xe (x0.1,(x0.2.1,(x0.2.2.1,()))) [80] x3) fun y0=>bM (xW y0.1 true) fun y1=>some ((y1.1.1,(y1.1.2.1,(y1.1.2.2.1,()))),())else bif(bW x2 41)then bif(bW x1 84)then bM (xW (x0.1,(x0.2.1,(x0.2.2.1,()))) true) fun y0=>some ((y0.1.1,(y0.1.2.1,(y0.1.2.2.1,()))),())else bM (Jz (x0.1,(x0.2.1,(x0.2.2.1,())))) fun y0=>bM (xW y0.1 (bW x1 80)) fun y1=>some ((y1.1.1,(y1.1.2.1,(y1.1.2.2.1,()))),())else bM (acD x2) fun y0=>bM (xW (x0.1,(x0.2.1,(x0.2.2.1,()))) y0.1) fun y1=>bif(bW x2 x2)then some ((y1.1.1,(y1.1.2.1,(y1.1.2.2.1,()))),())else none
def aii (x0:Hw) (x1 x2 x3:Int):Option taU:=bif(bW x2 92)then bM (xe (x0.1,(x0.2.1,(x0.2.2.1,()))) [88] x3) fun y0=>some ((y0.1.1,(y0.1.2.1,(y0.1.2.2.1,()))),())else bif(bW x2 39)then bM (xe (x0.1,(x0.2.1,(x0.2.2.1,()))) [83] x3) fun y0=>bM (xW y0.1 false) fun y1=>some ((y1.1.1,(y1.1.2.1,(y1.1.2.2.1,()))),())else bif(bW x2 34)then bM (xe (x0.1,(x0.2.1,(x0.2.2.1,()))) [68] x3) fun y0=>bM (xW y0.1 false) fun y1=>some ((y1.1.1,(y1.1.2.1,(y1.1.2.2.1,()))),())else bif(bW x2 96)then XW x2 x0 x3 else bif(bW x2 36)then XW x2 x0 x3 else bif(bW x2 35)then bif x0.2.2.1 then bM (xe (x0.1,(x0.2.1,(x0.2.2.1,()))) [35] x3) fun y0=>some ((y0.1.1,(y0.1.2.1,(y0.1.2.2.1,()))),())else XX x2 x1 x0 x3 else XX x2 x1 x0 x3
def avE:Sum:=⟨[.pair .str tyK,.int .u8,.int .u8,dD],tzG,fun x=>aii x.1 x.2.1 x.2.2.1 x.2.2.2.1⟩
noncomputable def aCh:Env:=gp prog tt 233 [(170,abE),(172,abG),(213,ahl),(234,ahm),(235,ahn)] [] []
theorem amA:dK aCh:=eA f233 (aD Ny (aD Nz (aD WL (aD WM (aD WN aN)))))
theorem apb:dY prog 233 avE:=sA amA
def BI (x0:Hw) (x1 x2 x3:Int):Option taU:=bM (aii (x0.1,(x0.2.1,(x0.2.2.1,()))) x1 x2 x3) fun y0=>some ((y0.1.1,(y0.1.2.1,(y0.1.2.2.1,()))),())
def ve (x0:Hw):Option taU:=bM (Jz (x0.1,(x0.2.1,(x0.2.2.1,())))) fun y0=>some ((y0.1.1,(y0.1.2.1,(y0.1.2.2.1,()))),())
def Fe (x2:Int) (x0:Hw):Option taU:=bif(bW x2 41)then bM (DR (x0.1,(x0.2.1,(x0.2.2.1,()))) [69]) fun y1=>some ((y1.1.1,(y1.1.2.1,(y1.1.2.2.1,()))),())else some ((x0.1,(x0.2.1,(x0.2.2.1,()))),())
def Ff (x2:Int) (x0:Hw) (x3 x1:Int):Option taU:=bif(bW x2 40)then bM (xe (x0.1,(x0.2.1,(x0.2.2.1,()))) [82] x3) fun y1=>some ((y1.1.1,(y1.1.2.1,(y1.1.2.2.1,()))),())else bif(bW x2 41)then bif(bW x1 82)then ve x0 else Fe x2 x0 else Fe x2 x0
def GY (x0:Hw) (x1 x2 x3:Int):Option taU:=bif(bW x1 84)then BI x0 x1 x2 x3 else bif(bW x1 67)then BI x0 x1 x2 x3 else bif(bW x1 80)then BI x0 x1 x2 x3 else bif(bW x1 88)then bM (Jz (x0.1,(x0.2.1,(x0.2.2.1,())))) fun y0=>bif(!(bW x2 10))then bM (xW (y0.1.1,(y0.1.2.1,(y0.1.2.2.1,()))) false) fun y1=>some ((y1.1.1,(y1.1.2.1,(y1.1.2.2.1,()))),())else some ((y0.1.1,(y0.1.2.1,(y0.1.2.2.1,()))),())else bif(bW x1 83)then bif(bW x2 39)then ve x0 else some ((x0.1,(x0.2.1,(x0.2.2.1,()))),())else bif(bW x1 35)then bif(bW x2 10)then bM (Jz (x0.1,(x0.2.1,(x0.2.2.1,())))) fun y0=>bM (xW y0.1 true) fun y1=>some ((y1.1.1,(y1.1.2.1,(y1.1.2.2.1,()))),())else some ((x0.1,(x0.2.1,(x0.2.2.1,()))),())else bif(bW x1 66)then bif(bW x2 96)then ve x0 else bif(bW x2 92)then bM (xe (x0.1,(x0.2.1,(x0.2.2.1,()))) [88] x3) fun y0=>some ((y0.1.1,(y0.1.2.1,(y0.1.2.2.1,()))),())else some ((x0.1,(x0.2.1,(x0.2.2.1,()))),())else bM (VL x2) fun y0=>bif(!(iq y0.1 []))then bM (VL x2) fun y1=>bM (xe (x0.1,(x0.2.1,(x0.2.2.1,()))) y1.1 x3) fun y2=>bif(bW x2 x2)then some ((y2.1.1,(y2.1.2.1,(y2.1.2.2.1,()))),())else none else bif(bW x1 65)then Ff x2 x0 x3 x1 else bif(bW x1 82)then Ff x2 x0 x3 x1 else bif(bW x1 68)then bif(bW x2 34)then ve x0 else some ((x0.1,(x0.2.1,(x0.2.2.1,()))),())else bif(bW x2 34)then bM (xe (x0.1,(x0.2.1,(x0.2.2.1,()))) [68] x3) fun y1=>some ((y1.1.1,(y1.1.2.1,(y1.1.2.2.1,()))),())else bif(bW x2 125)then ve x0 else bif(bW x2 39)then bif(bW x1 86)then bM (xe (x0.1,(x0.2.1,(x0.2.2.1,()))) [83] x3) fun y1=>some ((y1.1.1,(y1.1.2.1,(y1.1.2.2.1,()))),())else some ((x0.1,(x0.2.1,(x0.2.2.1,()))),())else some ((x0.1,(x0.2.1,(x0.2.2.1,()))),())
def avp:Sum:=⟨[.pair .str tyK,.int .u8,.int .u8,dD],tzG,fun x=>GY x.1 x.2.1 x.2.2.1 x.2.2.2.1⟩
noncomputable def aBZ:Env:=gp prog tt 173 [(170,abE),(171,ahi),(172,abG),(233,avE),(234,ahm),(235,ahn)] [] []
theorem al9:dK aBZ:=eA f173 (aD Ny (aD WH (aD Nz (aD apb (aD WM (aD WN aN))))))
theorem aoX:dY prog 173 avp:=sA al9
def Rx (x0:Hw) (x1 x2:Int):Option taU:=bif(gV x0.1 (eG .i64 (bP x0.1) 1))then bif(bW (cO x0.1 (eG .i64 (bP x0.1) 1)) 76)then bif(bW x1 40)then bM (DR (x0.1,(x0.2.1,(x0.2.2.1,()))) [79]) fun y0=>bM (xW y0.1 true) fun y1=>some ((y1.1.1,(y1.1.2.1,(y1.1.2.2.1,()))),())else bif(bW x1 123)then bif(gV x0.1 (eG .i64 (bP x0.1) 2))then bif(bW (cO x0.1 (eG .i64 (bP x0.1) 2)) 68)then bM (DR (x0.1,(x0.2.1,(x0.2.2.1,()))) [73]) fun y0=>some ((y0.1.1,(y0.1.2.1,(y0.1.2.2.1,()))),())else bif(gV x0.1 (eG .i64 (bP x0.1) 2))then bif(bW (cO x0.1 (eG .i64 (bP x0.1) 2)) 73)then bM (DR (x0.1,(x0.2.1,(x0.2.2.1,()))) [73]) fun y0=>some ((y0.1.1,(y0.1.2.1,(y0.1.2.2.1,()))),())else bM (DR (x0.1,(x0.2.1,(x0.2.2.1,()))) [86]) fun y0=>some ((y0.1.1,(y0.1.2.1,(y0.1.2.2.1,()))),())else none else none else bM (Jz (x0.1,(x0.2.1,(x0.2.2.1,())))) fun y0=>bif(bW x1 36)then some ((y0.1.1,(y0.1.2.1,(y0.1.2.2.1,()))),())else bif(gV y0.1.1 (eG .i64 (bP y0.1.1) 1))then bM (GY (y0.1.1,(y0.1.2.1,(y0.1.2.2.1,()))) (cO y0.1.1 (eG .i64 (bP y0.1.1) 1)) x1 x2) fun y1=>some ((y1.1.1,(y1.1.2.1,(y1.1.2.2.1,()))),())else none else bif(bW (cO x0.1 (eG .i64 (bP x0.1) 1)) 79)then bif(bW x1 40)then bM (DR (x0.1,(x0.2.1,(x0.2.2.1,()))) [65]) fun y0=>bM (xW y0.1 false) fun y1=>some ((y1.1.1,(y1.1.2.1,(y1.1.2.2.1,()))),())else bM (DR (x0.1,(x0.2.1,(x0.2.2.1,()))) [67]) fun y0=>bM (GY (y0.1.1,(y0.1.2.1,(y0.1.2.2.1,()))) 67 x1 x2) fun y1=>some ((y1.1.1,(y1.1.2.1,(y1.1.2.2.1,()))),())else bif(bW (cO x0.1 (eG .i64 (bP x0.1) 1)) 69)then bif(bW x1 41)then bM (Jz (x0.1,(x0.2.1,(x0.2.2.1,())))) fun y0=>some ((y0.1.1,(y0.1.2.1,(y0.1.2.2.1,()))),())else bM (DR (x0.1,(x0.2.1,(x0.2.2.1,()))) [65]) fun y0=>bM (GY (y0.1.1,(y0.1.2.1,(y0.1.2.2.1,()))) 65 x1 x2) fun y1=>some ((y1.1.1,(y1.1.2.1,(y1.1.2.2.1,()))),())else bM (GY (x0.1,(x0.2.1,(x0.2.2.1,()))) (cO x0.1 (eG .i64 (bP x0.1) 1)) x1 x2) fun y0=>some ((y0.1.1,(y0.1.2.1,(y0.1.2.2.1,()))),())else none
def abA:Sum:=⟨[.pair .str tyK,.int .u8,dD],tzG,fun x=>Rx x.1 x.2.1 x.2.2.1⟩
noncomputable def aBI:Env:=gp prog tt 109 [(170,abE),(171,ahi),(172,abG),(173,avp)] [] []
theorem alF:dK aBI:=eA f109 (aD Ny (aD WH (aD Nz (aD aoX aN))))
theorem Ns:dY prog 109 abA:=sA alF
noncomputable def aFC:Code:=(f310.body).getD .skip
noncomputable def aqJ:Code:=cA (cA (cB (cA (cB (aFC)))))
def ath:dZ:=⟨[1,2,5,100002],[],[],[],[4],[]⟩
def Zh:SP:=⟨us [.u,.v dD,.ptr 1000002 0,.u,.u,.v dD] 15,[.box 1000002 81 [.v .str,.v (.list dD),.v .bool]]⟩
def ZZ:SP:=⟨us [] 21,[]⟩
def aaJ:SP:=⟨us [.u,.u,.u,.u,.v dD] 16,[]⟩
def Qi {γ:Type} (rec:Int->Int->di->jJ->Bool->Option γ) (kE:Option γ) (kR:Int->Option γ) (v0 v1:Int) (v2:di) (v3:jJ) (v4:Bool):Option γ:=bif(iG v1 (bP v3))then bif(gV v3 v1)then bif(bW (fZ v3 0 v1) v0)then kR v1 else rec v0 (dA .i64 v1 1) v2 v3 v4 else none else kE
def FP:Nat->Int->Int->di->jJ->Bool->Option (ZZ.den⊕aaJ.den)
 |0,_,_,_,_,_=>none
 |n+1,v0,v1,v2,v3,v4=>Qi (FP n) (some (.inl ((),()))) (fun r0=>some (.inr ((r0,()),()))) v0 v1 v2 v3 v4
def ayx (n:Nat) (v:Zh.den):=FP n v.1.1 v.1.2.1 v.2.1.1 v.2.1.2.1 v.2.1.2.2.1
noncomputable def ajq:dI:=gQ ath Zh ZZ aaJ (.exit 0) (ayx bU) 6
def acR (x0:Hw) (x1:Int):Option Di:=bM (FP bU x1 1 x0.1 x0.2.1 x0.2.2.1) fun y0=>dV y0 (fun a1=>some (0,())) (fun b1=>some (b1.1.1,()))
def avY:Sum:=⟨[.pair .str tyK,dD],UN,fun x=>acR x.1 x.2.1⟩
noncomputable def afD:Env:=gp prog tt 310 [] [(2,ath)] [(2,ajq)]
def akF {γ:Type} (a:Zh.den->Option γ) (b:ZZ.den->Option γ) (c:aaJ.den->Option γ) (v:Zh.den):Option γ:=Qi (fun v0 v1 v2 v3 v4=>a ((v0,v1,()),((v2,v3,v4,()),()))) (b ((),())) (fun r0=>c ((r0,()),())) v.1.1 v.1.2.1 v.2.1.1 v.2.1.2.1 v.2.1.2.2.1
theorem azn:dX afD 310 aqJ ajq:=Bi (akF) (h2:=by intros;simp only[akF,Qi,dm,dn,bK,cZ,dw])
theorem aD4:dU afD 310 aFC:=qj [aqJ] (aD (fM (azn)) aN)
theorem anh:dK afD:=eA f310 aN (aD4)
theorem apw:dY prog 310 avY:=sA anh
noncomputable def aFD:Code:=(f311.body).getD .skip
noncomputable def aqK:Code:=cA (cA (cB (cA (cB (cB (cB (aFD)))))))
def ati:dZ:=⟨[0,3,100006],[],[],[],[2],[]⟩
def Zi:SP:=⟨us [.v (.int .u8),.u,.u,.v dD] 13,[]⟩
def Z4:SP:=⟨us [] 17,[]⟩
def aaK:SP:=⟨us [.u,.u,.v dD] 14,[]⟩
def abh {γ:Type} (rec:Int->Int->Option γ) (kE:Option γ) (kR:Int->Option γ) (v0 v1:Int):Option γ:=bif(iG v1 15)then bif(gV [84,67,80,79,83,68,66,86,73,65,82,69,76,88,35] v1)then bif(bW (cO [84,67,80,79,83,68,66,86,73,65,82,69,76,88,35] v1) v0)then kR v1 else rec v0 (dA .i64 v1 1)else none else kE
def Yw:Nat->Int->Int->Option (Z4.den⊕aaK.den)
 |0,_,_=>none
 |n+1,v0,v1=>abh (Yw n) (some (.inl ((),()))) (fun r0=>some (.inr ((r0,()),()))) v0 v1
def ayy (n:Nat) (v:Zi.den):=Yw n v.1.1 v.1.2.1
noncomputable def ajr:dI:=gQ ati Zi Z4 aaK (.exit 0) (ayy bU) 6
def aiw (x0:Int):Option Di:=bif(bW x0 79)then some (1,())else bif(bW x0 69)then some (9,())else bM (Yw bU x0 0) fun y0=>dV y0 (fun a1=>some (0,())) (fun b1=>some (b1.1.1,()))
def avZ:Sum:=⟨[.int .u8],UN,fun x=>aiw x.1⟩
noncomputable def afE:Env:=gp prog tt 311 [] [(6,ati)] [(6,ajr)]
def akG {γ:Type} (a:Zi.den->Option γ) (b:Z4.den->Option γ) (c:aaK.den->Option γ) (v:Zi.den):Option γ:=abh (fun v0 v1=>a ((v0,v1,()),())) (b ((),())) (fun r0=>c ((r0,()),())) v.1.1 v.1.2.1
theorem azo:dX afE 311 aqK ajr:=Bi (akG) (h2:=by intros;simp only[akG,abh,dm,dn,bK,cZ,dw])
theorem aD5:dU afE 311 aFD:=qj [aqK] (aD (fM (azo)) aN)
theorem ani:dK afE:=eA f311 aN (aD5)
theorem apx:dY prog 311 avZ:=sA ani
noncomputable def b16:Code:=(f16.body).getD .skip
noncomputable def az1:Code:=cA (cA (cB (cA (cB (cB (b16))))))
def aAi:dZ:=⟨[0,3,100004],[],[],[],[2],[]⟩
def ajL:SP:=⟨us [.v .str,.u,.u,.v dD] 27,[]⟩
def agI:SP:=⟨us [] 31,[]⟩
def agT:SP:=⟨us [.u,.u,.v .bool] 28,[]⟩
def abg {γ:Type} (rec:di->Int->Option γ) (kE:Option γ) (kR:Bool->Option γ) (v0:di) (v1:Int):Option γ:=bif(iG v1 (bP v0))then bif(gV v0 v1)then bM (X5 (cO v0 v1)) fun y0=>bif(!(bW y0.1 5))then bif(gV v0 v1)then bM (X5 (cO v0 v1)) fun y1=>bif(!(bW y1.1 6))then kR false else rec v0 (dA .i64 v1 1)else none else rec v0 (dA .i64 v1 1)else none else kE
def MB:Nat->di->Int->Option (agI.den⊕agT.den)
 |0,_,_=>none
 |n+1,v0,v1=>abg (MB n) (some (.inl ((),()))) (fun r0=>some (.inr ((r0,()),()))) v0 v1
def aEi (n:Nat) (v:ajL.den):=MB n v.1.1 v.1.2.1
noncomputable def atT:dI:=gQ aAi ajL agI agT (.exit 0) (aEi bU) 6
def afV (x0:di):Option qM:=bif(bW (bP x0) 0)then some (false,())else bif(gV x0 0)then bM (X5 (cO x0 0)) fun y0=>bif(!(bW y0.1 5))then some (false,())else bM (MB bU x0 1) fun y1=>dV y1 (fun a2=>some (true,())) (fun b2=>some (b2.1.1,()))else none
def aeK:Sum:=⟨[.str],tzE,fun x=>afV x.1⟩
noncomputable def arb:Env:=gp prog tt 16 [(44,aeL)] [(4,aAi)] [(4,atT)]
def auI {γ:Type} (a:ajL.den->Option γ) (b:agI.den->Option γ) (c:agT.den->Option γ) (v:ajL.den):Option γ:=abg (fun v0 v1=>a ((v0,v1,()),())) (b ((),())) (fun r0=>c ((r0,()),())) v.1.1 v.1.2.1
theorem aEC:dX arb 16 az1 atT:=Bi (auI) (h2:=by intros;simp only[auI,abg,dm,dn,bK,cZ,dw])
theorem aGa:dU arb 16 b16:=qj [az1] (aD (fM (aEC)) aN)
theorem arc:dK arb:=eA f16 (aD Ls aN) (aGa)
theorem Lr:dY prog 16 aeK:=sA arc
noncomputable def aFG:Code:=(Tryz.f338.body).getD .skip
noncomputable def aqO:Code:=cA (cA (cB (cA (cB (cB (aFG))))))
def atn:dZ:=⟨[0,1,5,6,100003],[],[5],[],[4],[]⟩
def Zm:SP:=⟨us [.v .str,.v dD,.u,.u,.u,.v dD,.v dD] 17,[]⟩
def Z9:SP:=⟨us [.u,.u,.u,.u,.u,.v dD] 18,[]⟩
def aaO:SP:=⟨us [.u,.u,.u,.u,.v dD] 19,[]⟩
def Qk {γ:Type} (rec:di->Int->Int->Int->Option γ) (kE kR:Int->Option γ) (v0:di) (v1 v2 v3:Int):Option γ:=bif(leI v3 (eG .i64 (bP v0) v1))then bif(gm (bP v0) v1 (dA .i64 v1 v3))then bM (afV (sub v0 v1 (dA .i64 v1 v3))) fun y0=>bif y0.1 then rec v0 v1 v3 (dA .i64 v3 1)else rec v0 v1 v2 (dA .i64 v3 1)else none else kE v2
def FU:Nat->di->Int->Int->Int->Option (Z9.den⊕aaO.den)
 |0,_,_,_,_=>none
 |n+1,v0,v1,v2,v3=>Qk (FU n) (fun e0=>some (.inl ((e0,()),()))) (fun r0=>some (.inr ((r0,()),()))) v0 v1 v2 v3
def ayC (n:Nat) (v:Zm.den):=FU n v.1.1 v.1.2.1 v.1.2.2.1 v.1.2.2.2.1
noncomputable def ajv:dI:=gQ atn Zm Z9 aaO (.exit 0) (ayC bU) 6
def aiD (x0:di) (x1:Int):Option Di:=bM (FU bU x0 x1 0 1) fun y0=>dV y0 (fun a1=>some (a1.1.1,())) (fun b1=>some (b1.1.1,()))
def awc:Sum:=⟨[.str,dD],UN,fun x=>aiD x.1 x.2.1⟩
noncomputable def afH:Env:=gp prog tt 338 [(16,aeK)] [(3,atn)] [(3,ajv)]
def akK {γ:Type} (a:Zm.den->Option γ) (b:Z9.den->Option γ) (c:aaO.den->Option γ) (v:Zm.den):Option γ:=Qk (fun v0 v1 v2 v3=>a ((v0,v1,v2,v3,()),())) (fun e0=>b ((e0,()),())) (fun r0=>c ((r0,()),())) v.1.1 v.1.2.1 v.1.2.2.1 v.1.2.2.2.1
theorem azs:dX afH 338 aqO ajv:=Bi (akK) (h2:=by intros;simp only[akK,Qk,dm,dn,bK,cZ,dw])
theorem aD9:dU afH 338 aFG:=qj [aqO] (aD (fM (azs)) aN)
theorem anx:dK afH:=eA Tryz.f338 (aD Lr aN) (aD9)
theorem apG:dY prog 338 awc:=sA anx
def aix (x0:di) (x1:Int):Option Di:=bM (aiD x0 x1) fun y0=>bif(bW y0.1 0)then bif(iG x1 (bP x0))then bif(gV x0 x1)then bM (X5 (cO x0 x1)) fun y1=>bif(bW y1.1 6)then some (1,())else bif(gV x0 x1)then bM (LZ (cO x0 x1) [64,42,35,63,45,36,33]) fun y2=>bif y2.1 then some (1,())else some (y0.1,())else none else none else some (y0.1,())else some (y0.1,())
def av1:Sum:=⟨[.str,dD],UN,fun x=>aix x.1 x.2.1⟩
noncomputable def aCI:Env:=gp prog tt 312 [(44,aeL),(91,aeP),(338,awc)] [] []
theorem anj:dK aCI:=eA f312 (aD Ls (aD Lt (aD apG aN)))
theorem apy:dY prog 312 av1:=sA anj
noncomputable def ap8:Code:=(f271.body).getD .skip
noncomputable def aqF:Code:=cA (cA (cB (cA (cB (cB (ap8))))))
noncomputable def ahN:Code:=cA (cA (cB (cA (cB (cB (cB (cA (cA (cB (cA (cA (cB (cA (cB (cB (cB (cB (ap8))))))))))))))))))
noncomputable def ahO:Code:=cA (cA (cB (cA (cB (cB (cB (cB (cA (cA (cB (cA (cA (cB (cA (cB (cB (cB (cB (ap8)))))))))))))))))))
noncomputable def aqG:Code:=cA (cA (cB (cA (cB (cB (cB (cB (ap8))))))))
def atd:dZ:=⟨[0,3,4,100003],[],[0,3],[],[2],[(2,I9)]⟩
def aiO:dZ:=⟨[0,3,5,6,7,8,9,100014],[],[0,3,5,6,7,8],[],[2],[(2,I9)]⟩
def aiP:dZ:=⟨[0,3,5,6,7,8,10,100019],[],[0,3,5,6,8],[],[2],[(2,I9)]⟩
def ate:dZ:=⟨[0,3,5,6,100008],[(5,I9)],[5],[],[2],[(2,I9)]⟩
def Zd:SP:=⟨us [.v .str,.u,.u,.slc 1000012,.v dD] 117,[.arr 1000012 (.pair .str tyK)]⟩
def ZV:SP:=⟨us [.v .str,.u,.u,.slc 1000012] 118,[.arr 1000012 (.pair .str tyK)]⟩
def aaF:SP:=⟨us [.u,.u,.v Vm] 119,[]⟩
def Qd {γ:Type} (rec:di->Int->(List Hw)->Option γ) (kE:di->(List Hw)->Option γ) (kR:(List jg)->Option γ) (v0:di) (v1:Int) (v2:List Hw):Option γ:=bif(iG v1 (bP v0))then bif(gV v2 v1)then bif(gV v0 v1)then bif(oD (dG v1) v2)then bM (Rx ((dL v2 ([],([],(false,()))) (dG v1)).1,((dL v2 ([],([],(false,()))) (dG v1)).2.1,((dL v2 ([],([],(false,()))) (dG v1)).2.2.1,()))) (cO v0 v1) v1) fun y0=>bif(eQ (cu v2 [y0.1]) 48)then rec v0 (dA .i64 v1 1) (cu v2 [y0.1])else none else none else none else none else kE v0 v2
def FN:Nat->di->Int->(List Hw)->Option (ZV.den⊕aaF.den)
 |0,_,_,_=>none
 |n+1,v0,v1,v2=>Qd (FN n) (fun e0 e1=>some (.inl ((e0,()),(e1,())))) (fun r0=>some (.inr ((r0,()),()))) v0 v1 v2
def ayt (n:Nat) (v:Zd.den):=FN n v.1.1 v.1.2.1 v.2.1
noncomputable def ajm:dI:=gQ atd Zd ZV aaF (.exit 0) (ayt bU) 6
def O9:SP:=⟨us [.v .str,.u,.u,.slc 1000012,.u,.slc 1800005,.v dD,.v dD,.ptr 1000008 0,.v dD] 112,[.box 1000008 215 [.v dD,.v dD,.v dD,.v dD,.v .bool],.arr 1800005 I9,.arr 1000012 (.pair .str tyK)]⟩
def Tj:SP:=⟨us [.v .str,.u,.u,.slc 1000012,.u,.slc 1800005,.v dD,.v dD,.ptr 1000008 0] 113,[.box 1000008 215 [.v dD,.v dD,.v dD,.v dD,.v .bool],.arr 1800005 I9,.arr 1000012 (.pair .str tyK)]⟩
def Tz:SP:=⟨us [.u,.u,.v Vm] 119,[]⟩
def KY {γ:Type} (rec:di->Int->Int->Int->Int->Int->Int->Int->Bool->(List jg)->(List Hw)->Option γ) (kE:di->Int->Int->Int->Int->Int->Int->Bool->(List jg)->(List Hw)->Option γ) (kR:(List jg)->Option γ) (v0:di) (v1 v2 v3 v4 v5 v6 v7:Int) (v8:Bool) (v9:List jg) (v10:List Hw):Option γ:=bif(iG v3 (bP v9))then bif(iG 1 v2)then bif(gV v9 v3)then bif(oD (dG v3) v9)then bif(gV v10 (dA .i64 v1 1))then bif(oD (dG (dA .i64 v1 1)) v10)then bif(gV (dL v10 ([],([],(false,()))) (dG (dA .i64 v1 1))).2.1 (eG .i64 v2 1))then bif(bW (dL v9 (0,(0,(0,(0,(false,()))))) (dG v3)).2.1 (fZ (dL v10 ([],([],(false,()))) (dG (dA .i64 v1 1))).2.1 0 (eG .i64 v2 1)))then rec v0 v1 v2 (dA .i64 v3 1) v4 v5 v6 v3 v8 v9 v10 else rec v0 v1 v2 (dA .i64 v3 1) v4 v5 v6 v7 v8 v9 v10 else none else none else none else none else none else rec v0 v1 v2 (dA .i64 v3 1) v4 v5 v6 v7 v8 v9 v10 else kE v0 v1 v2 v4 v5 v6 v7 v8 v9 v10
def Ap:Nat->di->Int->Int->Int->Int->Int->Int->Int->Bool->(List jg)->(List Hw)->Option (Tj.den⊕Tz.den)
 |0,_,_,_,_,_,_,_,_,_,_,_=>none
 |n+1,v0,v1,v2,v3,v4,v5,v6,v7,v8,v9,v10=>KY (Ap n) (fun e0 e1 e2 e3 e4 e5 e6 e7 e8 e9=>some (.inl ((e0,e1,e2,()),((e3,e4,e5,e6,e7,()),e8,e9,())))) (fun r0=>some (.inr ((r0,()),()))) v0 v1 v2 v3 v4 v5 v6 v7 v8 v9 v10
def atL (n:Nat) (v:O9.den):=Ap n v.1.1 v.1.2.1 v.1.2.2.1 v.1.2.2.2.1 v.2.1.1 v.2.1.2.1 v.2.1.2.2.1 v.2.1.2.2.2.1 v.2.1.2.2.2.2.1 v.2.2.1 v.2.2.2.1
noncomputable def adT:dI:=gQ aiO O9 Tj Tz (.exit 4) (atL bU) 12
def Pg:SP:=⟨us [.v .str,.u,.u,.slc 1000012,.u,.slc 1800005,.v dD,.v dD,.ptr 1000008 0,.u,.v dD] 111,[.box 1000008 215 [.v dD,.v dD,.v dD,.v dD,.v .bool],.arr 1800005 I9,.arr 1000012 (.pair .str tyK)]⟩
def Tm:SP:=⟨us [.v .str,.u,.u,.slc 1000012,.u,.slc 1800005,.v dD,.u,.ptr 1000008 0] 113,[.box 1000008 215 [.v dD,.v dD,.v dD,.v dD,.v .bool],.arr 1800005 I9,.arr 1000012 (.pair .str tyK)]⟩
def TA:SP:=⟨us [.u,.u,.v Vm] 119,[]⟩
def AY {γ:Type} (rec:di->Int->Int->Int->Int->Int->Int->Int->Bool->(List jg)->(List Hw)->Option γ) (kE:di->Int->Int->Int->Int->Int->Bool->(List jg)->(List Hw)->Option γ) (kR:(List jg)->Option γ) (v0:di) (v1 v2 v3 v4 v5 v6 v7:Int) (v8:Bool) (v9:List jg) (v10:List Hw):Option γ:=bif(leI v3 (bP v0))then bif(gV v10 v3)then bif(oD (dG v3) v10)then bM (acR ((dL v10 ([],([],(false,()))) (dG v3)).1,((dL v10 ([],([],(false,()))) (dG v3)).2.1,((dL v10 ([],([],(false,()))) (dG v3)).2.2.1,()))) v1) fun y0=>bif(bW y0.1 0)then kE v0 v1 v4 v5 v3 v7 false v9 v10 else bif(gV v10 v3)then bif(oD (dG v3) v10)then bif(gV (dL v10 ([],([],(false,()))) (dG v3)).1 v2)then bM (aiw (cO (dL v10 ([],([],(false,()))) (dG v3)).1 v2)) fun y1=>rec v0 v1 v2 (dA .i64 v3 1) y1.1 v5 v6 v7 v8 v9 v10 else none else none else none else none else none else kE v0 v1 v4 v5 v6 v7 v8 v9 v10
def xq:Nat->di->Int->Int->Int->Int->Int->Int->Int->Bool->(List jg)->(List Hw)->Option (Tm.den⊕TA.den)
 |0,_,_,_,_,_,_,_,_,_,_,_=>none
 |n+1,v0,v1,v2,v3,v4,v5,v6,v7,v8,v9,v10=>AY (xq n) (fun e0 e1 e2 e3 e4 e5 e6 e7 e8=>some (.inl ((e0,e1,()),((e2,e3,e4,e5,e6,()),e7,e8,())))) (fun r0=>some (.inr ((r0,()),()))) v0 v1 v2 v3 v4 v5 v6 v7 v8 v9 v10
def atN (n:Nat) (v:Pg.den):=xq n v.1.1 v.1.2.1 v.1.2.2.1 v.1.2.2.2.1 v.2.1.1 v.2.1.2.1 v.2.1.2.2.1 v.2.1.2.2.2.1 v.2.1.2.2.2.2.1 v.2.2.1 v.2.2.2.1
noncomputable def adU:dI:=gQ aiP Pg Tm TA (.exit 6) (atN bU) 18
def Ze:SP:=⟨us [.v .str,.u,.u,.slc 1000012,.u,.slc 1800005,.v dD] 115,[.arr 1800005 I9,.arr 1000012 (.pair .str tyK)]⟩
def ZW:SP:=⟨us [.u,.u,.u,.u,.u,.slc 1800005] 116,[.arr 1800005 I9]⟩
def aaG:SP:=⟨us [.u,.u,.v Vm] 119,[]⟩
def Qe {γ:Type} (rec:di->Int->(List jg)->(List Hw)->Option γ) (kE kR:(List jg)->Option γ) (v0:di) (v1:Int) (v2:List jg) (v3:List Hw):Option γ:=bif(iG v1 (bP v0))then bif(gV v3 (dA .i64 v1 1))then bif(oD (dG (dA .i64 v1 1)) v3)then bM (acR ((dL v3 ([],([],(false,()))) (dG (dA .i64 v1 1))).1,((dL v3 ([],([],(false,()))) (dG (dA .i64 v1 1))).2.1,((dL v3 ([],([],(false,()))) (dG (dA .i64 v1 1))).2.2.1,()))) v1) fun y0=>bif(bW y0.1 0)then rec v0 (dA .i64 v1 1) v2 v3 else bM (Ap bU v0 v1 y0.1 0 0 v1 (bP v0) (-1) true v2 v3) fun y1=>dV y1 (fun a2=>bM (xq bU a2.1.1 a2.1.2.1 a2.1.2.2.1 (dA .i64 a2.1.2.1 1) a2.2.1.1 a2.2.1.2.1 a2.2.1.2.2.1 a2.2.1.2.2.2.1 a2.2.1.2.2.2.2.1 a2.2.2.1 a2.2.2.2.1) fun y3=>dV y3 (fun a4=>bif(bW a4.2.1.1 12)then bM (aix a4.1.1 (dA .i64 a4.1.2.1 1)) fun y5=>bif(eQ (cu a4.2.2.1 [(a4.2.1.1,(a4.2.1.2.1,((dA .i64 (dA .i64 a4.1.2.1 1) y5.1),(a4.2.1.2.2.2.1,(false,())))))]) 40)then rec a4.1.1 (dA .i64 a4.1.2.1 1) (cu a4.2.2.1 [(a4.2.1.1,(a4.2.1.2.1,((dA .i64 (dA .i64 a4.1.2.1 1) y5.1),(a4.2.1.2.2.2.1,(false,())))))]) a4.2.2.2.1 else none else bif(eQ (cu a4.2.2.1 [(a4.2.1.1,(a4.2.1.2.1,(a4.2.1.2.2.1,(a4.2.1.2.2.2.1,(a4.2.1.2.2.2.2.1,())))))]) 40)then rec a4.1.1 (dA .i64 a4.1.2.1 1) (cu a4.2.2.1 [(a4.2.1.1,(a4.2.1.2.1,(a4.2.1.2.2.1,(a4.2.1.2.2.2.1,(a4.2.1.2.2.2.2.1,())))))]) a4.2.2.2.1 else none) (fun b4=>kR b4.1.1)) (fun b2=>kR b2.1.1)else none else none else kE v2
def BO:Nat->di->Int->(List jg)->(List Hw)->Option (ZW.den⊕aaG.den)
 |0,_,_,_,_=>none
 |n+1,v0,v1,v2,v3=>Qe (BO n) (fun e0=>some (.inl ((),(e0,())))) (fun r0=>some (.inr ((r0,()),()))) v0 v1 v2 v3
def ayu (n:Nat) (v:Ze.den):=BO n v.1.1 v.1.2.1 v.2.1 v.2.2.1
noncomputable def ajn:dI:=gQ ate Ze ZW aaG (.exit 2) (ayu bU) 24
def ain (x0:di):Option ((List jg)×Unit):=bM Rw fun y0=>bM (FN bU x0 0 [y0.1]) fun y1=>dV y1 (fun a2=>bM (BO bU a2.1.1 0 [] a2.2.1) fun y3=>dV y3 (fun a4=>some (a4.2.1,())) (fun b4=>some (b4.1.1,()))) (fun b2=>some (b2.1.1,()))
def avM:Sum:=⟨[.str],[(.list I9,false)],fun x=>ain x.1⟩
noncomputable def LQ:Env:=gp prog tt 271 [(108,abz),(109,abA),(310,avY),(311,avZ),(312,av1)] [(3,atd),(14,aiO),(19,aiP),(8,ate)] [(3,ajm),(14,adT),(19,adU),(8,ajn)]
def akB {γ:Type} (a:Zd.den->Option γ) (b:ZV.den->Option γ) (c:aaF.den->Option γ) (v:Zd.den):Option γ:=Qd (fun v0 v1 v2=>a ((v0,v1,()),(v2,()))) (fun e0 e1=>b ((e0,()),(e1,()))) (fun r0=>c ((r0,()),())) v.1.1 v.1.2.1 v.2.1
theorem azj:dX LQ 271 aqF ajm:=Bi (akB) (h2:=by intros;simp only[akB,Qd,dm,dn,bK,cZ,dw])
def aez {γ:Type} (a:O9.den->Option γ) (b:Tj.den->Option γ) (c:Tz.den->Option γ) (v:O9.den):Option γ:=KY (fun v0 v1 v2 v3 v4 v5 v6 v7 v8 v9 v10=>a ((v0,v1,v2,v3,()),((v4,v5,v6,v7,v8,()),v9,v10,()))) (fun e0 e1 e2 e3 e4 e5 e6 e7 e8 e9=>b ((e0,e1,e2,()),((e3,e4,e5,e6,e7,()),e8,e9,()))) (fun r0=>c ((r0,()),())) v.1.1 v.1.2.1 v.1.2.2.1 v.1.2.2.2.1 v.2.1.1 v.2.1.2.1 v.2.1.2.2.1 v.2.1.2.2.2.1 v.2.1.2.2.2.2.1 v.2.2.1 v.2.2.2.1
theorem aul:dX LQ 271 ahN adT:=Bi (aez) (h2:=by intros;simp only[aez,KY,dm,dn,bK,cZ,dw])
def aeA {γ:Type} (a:Pg.den->Option γ) (b:Tm.den->Option γ) (c:TA.den->Option γ) (v:Pg.den):Option γ:=AY (fun v0 v1 v2 v3 v4 v5 v6 v7 v8 v9 v10=>a ((v0,v1,v2,v3,()),((v4,v5,v6,v7,v8,()),v9,v10,()))) (fun e0 e1 e2 e3 e4 e5 e6 e7 e8=>b ((e0,e1,()),((e2,e3,e4,e5,e6,()),e7,e8,()))) (fun r0=>c ((r0,()),())) v.1.1 v.1.2.1 v.1.2.2.1 v.1.2.2.2.1 v.2.1.1 v.2.1.2.1 v.2.1.2.2.1 v.2.1.2.2.2.1 v.2.1.2.2.2.2.1 v.2.2.1 v.2.2.2.1
theorem aum:dX LQ 271 ahO adU:=Bi (aeA) (h2:=by intros;simp only[aeA,AY,dm,dn,bK,cZ,dw])
def akC {γ:Type} (a:Ze.den->Option γ) (b:ZW.den->Option γ) (c:aaG.den->Option γ) (v:Ze.den):Option γ:=Qe (fun v0 v1 v2 v3=>a ((v0,v1,()),(v2,v3,()))) (fun e0=>b ((),(e0,()))) (fun r0=>c ((r0,()),())) v.1.1 v.1.2.1 v.2.1 v.2.2.1
theorem azk:dX LQ 271 aqG ajn:=Bi (akC) (h2:=by intros;simp only[akC,Qe,dm,dn,bK,cZ,dw])
theorem aD0:dU LQ 271 ap8:=qj [aqF,ahN,ahO,aqG] (aD (fM (azj)) (aD (fM (aul)) (aD (fM (aum)) (aD (fM (azk)) aN))))
theorem amW:dK LQ:=eA f271 (aD Nr (aD Ns (aD apw (aD apx (aD apy aN))))) (aD0)
theorem apk:dY prog 271 avM:=sA amW
noncomputable def b53:Code:=(f53.body).getD .skip
noncomputable def az4:Code:=cA (cA (cB (cA (cB (cB (b53))))))
def aAl:dZ:=⟨[0,2,3,4,100003],[],[2,3],[],[2],[]⟩
def ajO:SP:=⟨us [.v .str,.u,.ptr 1000002 0,.ptr 1000003 0,.v dD] 14,[.box 1000003 81 [.v .str,.v (.list dD),.v .bool],.box 1000002 81 [.v .str,.nils,.v .bool]]⟩
def agL:SP:=⟨us [.u,.u,.ptr 1000002 0,.ptr 1000003 0] 15,[.box 1000003 81 [.v .str,.v (.list dD),.v .bool],.box 1000002 81 [.v .str,.nils,.v .bool]]⟩
def agW:SP:=⟨us [] 19,[]⟩
def abm {γ:Type} (rec:di->Int->di->jJ->Bool->di->Bool->Option γ) (kE:di->jJ->Bool->di->Bool->Option γ) (kR:Option γ) (v0:di) (v1:Int) (v2:di) (v3:jJ) (v4:Bool) (v5:di) (v6:Bool):Option γ:=bif(iG v1 (bP v0))then bif(gV v0 v1)then bM (Rx (v2,(v3,(v4,()))) (cO v0 v1) v1) fun y0=>rec v0 (dA .i64 v1 1) y0.1.1 y0.1.2.1 y0.1.2.2.1 v5 v6 else none else kE v2 v3 v4 v5 v6
def SB:Nat->di->Int->di->jJ->Bool->di->Bool->Option (agL.den⊕agW.den)
 |0,_,_,_,_,_,_,_=>none
 |n+1,v0,v1,v2,v3,v4,v5,v6=>abm (SB n) (fun e0 e1 e2 e3 e4=>some (.inl ((),((e0,e1,e2,()),(e3,e4,()),())))) (some (.inr ((),()))) v0 v1 v2 v3 v4 v5 v6
def aEl (n:Nat) (v:ajO.den):=SB n v.1.1 v.1.2.1 v.2.1.1 v.2.1.2.1 v.2.1.2.2.1 v.2.2.1.1 v.2.2.1.2.1
noncomputable def atW:dI:=gQ aAl ajO agL agW (.exit 0) (aEl bU) 6
def axe (x0:di):Option taU:=bM Rw fun y0=>bM (SB bU x0 0 y0.1.1 y0.1.2.1 y0.1.2.2.1 [] false) fun y1=>dV y1 (fun a2=>some ((a2.2.1.1,(a2.2.1.2.1,(a2.2.1.2.2.1,()))),())) (fun b2=>none)
def aAK:Sum:=⟨[.str],tzG,fun x=>axe x.1⟩
noncomputable def arl:Env:=gp prog tt 53 [(108,abz),(109,abA)] [(3,aAl)] [(3,atW)]
def auL {γ:Type} (a:ajO.den->Option γ) (b:agL.den->Option γ) (c:agW.den->Option γ) (v:ajO.den):Option γ:=abm (fun v0 v1 v2 v3 v4 v5 v6=>a ((v0,v1,()),((v2,v3,v4,()),(v5,v6,()),()))) (fun e0 e1 e2 e3 e4=>b ((),((e0,e1,e2,()),(e3,e4,()),()))) (c ((),())) v.1.1 v.1.2.1 v.2.1.1 v.2.1.2.1 v.2.1.2.2.1 v.2.2.1.1 v.2.2.1.2.1
theorem aEF:dX arl 53 az4 atW:=Bi (auL) (h2:=by intros;simp only[auL,abm,dm,dn,bK,cZ,dw])
theorem aGd:dU arl 53 b53:=qj [az4] (aD (fM (aEF)) aN)
theorem arn:dK arl:=eA f53 (aD Nr (aD Ns aN)) (aGd)
theorem awi:dY prog 53 aAK:=sA arn
noncomputable def aFu:Code:=(f152.body).getD .skip
noncomputable def aqn:Code:=cA (cA (cB (cA (cB (cB (aFu))))))
def asV:dZ:=⟨[0,5,6,100003],[],[0],[],[4],[]⟩
def YW:SP:=⟨us [.v .str,.u,.u,.u,.u,.ptr 1000005 0,.v dD] 37,[.box 1000005 81 [.v .str,.v (.list dD),.v .bool]]⟩
def Pv:SP:=⟨us [.v .str] 43,[]⟩
def PE:SP:=⟨us [.u,.u,.u,.u,.v dD] 39,[]⟩
def AQ {γ:Type} (v0:di) (v1:Int) (v2:di) (v3:jJ) (v4:Bool) (rec:di->Int->di->jJ->Bool->Option γ):Option γ:=bif(gV v0 v1)then bM (Rx (v2,(v3,(v4,()))) (cO v0 v1) v1) fun y1=>rec v0 (dA .i64 v1 1) y1.1.1 y1.1.2.1 y1.1.2.2.1 else none
def PV {γ:Type} (rec:di->Int->di->jJ->Bool->Option γ) (kE:di->Option γ) (kR:Int->Option γ) (v0:di) (v1:Int) (v2:di) (v3:jJ) (v4:Bool):Option γ:=bif(iG v1 (bP v0))then bif(gV v0 v1)then bM (acD (cO v0 v1)) fun y0=>bif y0.1 then bif(iq v2 [84])then kR v1 else bif(iq v2 [84,76])then bif(gV v0 v1)then bif(!(bW (cO v0 v1) 40))then kR v1 else AQ v0 v1 v2 v3 v4 rec else none else AQ v0 v1 v2 v3 v4 rec else AQ v0 v1 v2 v3 v4 rec else none else kE v0
def FD:Nat->di->Int->di->jJ->Bool->Option (Pv.den⊕PE.den)
 |0,_,_,_,_,_=>none
 |n+1,v0,v1,v2,v3,v4=>PV (FD n) (fun e0=>some (.inl ((e0,()),()))) (fun r0=>some (.inr ((r0,()),()))) v0 v1 v2 v3 v4
def ayc (n:Nat) (v:YW.den):=FD n v.1.1 v.1.2.1 v.2.1.1 v.2.1.2.1 v.2.1.2.2.1
noncomputable def ai5:dI:=gQ asV YW Pv PE (.exit 0) (ayc bU) 6
def VI (x0:di) (x1:Int):Option Di:=bM Rw fun y0=>bM (FD bU x0 x1 y0.1.1 y0.1.2.1 y0.1.2.2.1) fun y1=>dV y1 (fun a2=>some ((bP a2.1.1),())) (fun b2=>some (b2.1.1,()))
def avj:Sum:=⟨[.str,dD],UN,fun x=>VI x.1 x.2.1⟩
noncomputable def afl:Env:=gp prog tt 152 [(108,abz),(109,abA),(213,ahl)] [(3,asV)] [(3,ai5)]
def akk {γ:Type} (a:YW.den->Option γ) (b:Pv.den->Option γ) (c:PE.den->Option γ) (v:YW.den):Option γ:=PV (fun v0 v1 v2 v3 v4=>a ((v0,v1,()),((v2,v3,v4,()),()))) (fun e0=>b ((e0,()),())) (fun r0=>c ((r0,()),())) v.1.1 v.1.2.1 v.2.1.1 v.2.1.2.1 v.2.1.2.2.1
theorem ay2:dX afl 152 aqn ai5:=Bi (akk) (h2:=by intros;simp only[akk,PV,dm,dn,bK,cZ,dw,AQ])
theorem aDI:dU afl 152 aFu:=qj [aqn] (aD (fM (ay2)) aN)
theorem alX:dK afl:=eA f152 (aD Nr (aD Ns (aD WL aN))) (aDI)
theorem aoR:dY prog 152 avj:=sA alX
end
section
open Go.RowKit
theorem dC {a b:Int} (h1: -9223372036854775808<=a+b) (h2:a+b<=9223372036854775807):dA .i64 a b=a+b:=by
 unfold dA;rw[IntKind.wrap_i64];omega
theorem iJ {a b:Int} (h1: -9223372036854775808<=a-b) (h2:a-b<=9223372036854775807):eG .i64 a b=a-b:=by
 unfold eG;rw[IntKind.wrap_i64];omega
theorem ax1 {a b:Int}:leI a b=true↔a<=b:=by simp[leI]
theorem ayM {a b:Int}:iG a b=true↔a<b:=by simp[iG]
theorem aw5 {a b:Int}:bW a b=true↔a=b:=by simp[bW]
theorem axr {α:Type} {l:List α} {i:Int}:gV l i=true↔0<=i/\i<l.length:=by simp[gV]
theorem ayN {α:Type} {l:List α} {i:Nat}:oD i l=true↔i<l.length:=by simp[oD,OY]
theorem aox {n lo hi:Int}:gm n lo hi=true↔0<=lo/\lo<=hi/\hi<=n:=by simp[gm]
theorem bZ {α:Type} {b:Bool} {x y:α} (h:b=true):(bif b then x else y)=x:=by rw[h];rfl
theorem dE {α:Type} {b:Bool} {x y:α} (h:b=false):(bif b then x else y)=y:=by rw[h];rfl
theorem qV {a b:Int} (h:a<=b):leI a b=true:=ax1.2 h
theorem Sr {a b:Int} (h:b<a):leI a b=false:=by simp[leI];omega
theorem fH {a b:Int} (h:a<b):iG a b=true:=ayM.2 h
theorem kZ {a b:Int} (h:b<=a):iG a b=false:=by simp[iG];omega
theorem Dc {a b:Int} (h: ¬a<=b):leI a b=false:=Sr (by omega)
theorem iy {a b:Int} (h: ¬a<b):iG a b=false:=kZ (by omega)
theorem fV {a b:Int} (h:a=b):bW a b=true:=aw5.2 h
theorem dW {a b:Int} (h:a≠b):bW a b=false:=by simp[bW];exact h
theorem eP {α:Type} {l:List α} {i:Int} (h:0<=i) (h2:i<l.length):gV l i=true:=axr.2 ⟨h,h2⟩
theorem qE {α:Type} {l:List α} {i:Nat} (h:i<l.length):oD i l=true:=ayN.2 h
theorem gB {n lo hi:Int} (h:0<=lo) (h1:lo<=hi) (h2:hi<=n):gm n lo hi=true:=aox.2 ⟨h,h1,h2⟩
theorem bT {α:Type} {l:List α}:bP l=(l.length:Int):=rfl
theorem dO {n:Nat} (h:n<1000000000000000000000000):n<bU:=by unfold bU;omega
theorem Ag {α:Type} {l:List α} {d x:α} {i:Int} (h:i=l.length):fZ (l++[x]) d i=x:=by
 unfold fZ;subst h;simp[List.getD]
end
section
open Bool renaming and_true → ax
open List renaming length_append → ae, length_singleton → ai, length_cons → ak
open Go.RowKit
abbrev gq:=List uM
def lo (s:gq):List oG:=(s.map fun f=>(f.1,f.2,())).reverse
def letter (m:Int):UInt8:=([84,67,80,79,83,68,66,86,73,65,82,69,76,88,35]:di).getD m.toNat 0
def so (s:gq):di:=(s.map fun f=>letter f.1).reverse
def po (s:gq):List Int:=(s.map (·.2)).reverse
theorem tq (f:uM) (s:gq):lo (f::s)=lo s++[(f.1,f.2,())]:=by simp[lo]
theorem nS (f:uM) (s:gq):so (f::s)=so s++[letter f.1]:=by simp[so]
theorem ru (f:uM) (s:gq):po (f::s)=po s++[f.2]:=by simp[po]
theorem mJ (s:gq):(lo s).length=s.length:=by simp[lo]
theorem zH (s:gq):(so s).length=s.length:=by simp[so]
theorem TE (s:gq):(po s).length=s.length:=by simp[po]
def CY (b:Int):Bool:=decide (b=32)||decide (b=9)||decide (b=10)||decide (b=124)||decide (b=38)||decide (b=59)||decide (b=60)||decide (b=62)||decide (b=40)||decide (b=41)
def isByte (b:Int):Prop:=0<=b/\b<256
theorem QN {b:Int} (h:isByte b): ∃n:Fin 256,b=((n.val:Nat):Int):=⟨⟨b.toNat,by have:=h.2;have:=h.1;omega⟩,by have:=h.1;simp;omega⟩
theorem lV (s:di) (i:Int):isByte (cO s i):=by
 unfold cO isByte;have:=UInt8.toNat_lt (s.getD i.toNat 0);omega
theorem aFL: ∀n:Fin 256,GZ ((n.val:Nat):Int)=some (CY ((n.val:Nat):Int),()):=by decide+kernel
theorem aFM: ∀n:Fin 256,acD ((n.val:Nat):Int)=some (CY ((n.val:Nat):Int),()):=by decide+kernel
theorem aq8 {b:Int} (h:isByte b):GZ b=some (CY b,()):=by
 obtain⟨n,rfl⟩:=QN h;exact aFL n
theorem aq9 {b:Int} (h:isByte b):acD b=some (CY b,()):=by
 obtain⟨n,rfl⟩:=QN h;exact aFM n
theorem V6 {α:Type} {l:List α} (x:α) (h:l.length<1000000):dG (eG .i64 (bP (l++[x])) 1)=l.length:=by
 have hl:(((l++[x]).length:Nat):Int)=l.length+1:=by simp
 rw[bT,hl,iJ (by omega) (by omega)];simp[dG]
theorem WF {α:Type} {l:List α} (x:α) (h:l.length<1000000):sub (l++[x]) 0 (eG .i64 (bP (l++[x])) 1)=l:=by
 have hl:(((l++[x]).length:Nat):Int)=l.length+1:=by simp
 rw[bT,hl,iJ (by omega) (by omega)];have:((l.length:Int)+1-1).toNat=l.length:=by omega
 simp[sub,this]
theorem wJ {α:Type} {l:List α} (x:α) (h:l.length<1000000):eG .i64 (bP (l++[x])) 1=l.length:=by
 have hl:(((l++[x]).length:Nat):Int)=l.length+1:=by simp
 rw[bT,hl,iJ (by omega) (by omega)];omega
theorem ajW {s:gq} (hb:s.length<1000000) (fr:Bool) (at_ m:Int):wZ (lo s) fr at_ m=some ((lo ((m,at_)::s),(fr,(at_,()))),()):=by
 have h:eQ (cu (lo s) [(m,(at_,()))]) 16=true:=by
  simp only[eQ,cu,ae,mJ,ai,decide_eq_true_eq,lm];omega
 unfold wZ;rw[h];simp[bW,cu,tq]
theorem PH {f g:Int×Int} {r:gq} (hb:(f::g::r).length<1000000) (fr:Bool) (at_:Int):wY (lo (f::g::r)) fr at_=some ((lo (g::r),(fr,(at_,()))),()):=by
 have hl:(lo (g::r)).length=r.length+1:=by rw[mJ];rfl
 have hb':r.length+2<1000000:=by simpa using hb
 unfold wY;rw[tq f,wJ _ (by omega),bZ (fH (by rw[bT];simp only[ae,hl,ai];omega)),bZ (gB (by omega) (by omega) (by rw[bT];simp;omega))];simp[takeN,dG]
theorem su {f:Int×Int} {r:gq} (hb:(f::r).length<1000000) (fr:Bool) (at_ m:Int):uU (lo (f::r)) fr at_ m=some ((lo ((m,f.2)::r),(fr,(at_,()))),()):=by
 have hl:(lo r).length=r.length:=mJ r;have hb':r.length+1<1000000:=by simpa using hb
 unfold uU;rw[tq f,wJ _ (by omega),bZ (eP (by omega) (by simp;omega)),bZ (qE (by simp[dG]))];simp[dG,dL,iH,tq]
theorem aem {f g:Int×Int} {r:gq} (hb:(f::g::r).length<1000000) (fr:Bool) (at_:Int):aif (lo (f::g::r)) fr at_=some ((lo (f::g::r),(fr,(at_,()))),(g.1,())):=by
 have hl:(lo r).length=r.length:=mJ r;have hb':r.length+2<1000000:=by simpa using hb
 have e:BQ (eG .i64 (bP (lo (f::g::r))) 2) 0=r.length:=by
  rw[bT,iJ (by rw[mJ];simp;omega) (by rw[mJ];simp;omega),mJ];simp only[BQ,ak];split<;>omega
 unfold aif;rw[e,tq f,tq g,bZ (eP (by omega) (by simp[hl];omega)),bZ (qE (by simp[dG,hl]))];simp[dG,dL,List.getD,<-hl]
theorem Gi {f:Int×Int} {r:gq} (hb:(f::r).length<1000000) (fr:Bool) (c:UInt8):DR (so (f::r),(po (f::r),(fr,()))) [c]=some ((so r++[c],(po (f::r),(fr,()))),()):=by
 have hl:(so r).length=r.length:=zH r;have hb':r.length+1<1000000:=by simpa using hb
 unfold DR;simp only;rw[nS,WF _ (by omega),wJ _ (by omega),bZ (gB (by omega) (by omega) (by rw[bT];simp;omega)),bZ (by simp[iU,lm,hl];omega)];rfl
theorem aa2 {f:Int×Int} {r:gq} (hb:(f::r).length<1000000) (fr:Bool):Jz (so (f::r),(po (f::r),(fr,())))=some ((so r,(po r,(fr,()))),()):=by
 have hl:(so r).length=r.length:=zH r;have hp:(po r).length=r.length:=TE r;have hb':r.length+1<1000000:=by simpa using hb
 unfold Jz;simp only;rw[nS,ru,WF _ (by omega),wJ _ (by omega),bZ (gB (by omega) (by omega) (by rw[bT];simp;omega)),bZ (gB (by omega) (by omega) (by rw[bT];simp;omega))];simp[sub,hl,hp]
theorem DI {α:Type} {f:α->α->Bool} (h: ∀x,f x x=true): ∀l:List α,wU f l l=true
 |[]=>rfl
 |x::l=>by simp[wU,h,DI h l]
theorem Ri: ∀(t:Ty) (x:t.den),XJ t x x=true
 |.unit,_=>rfl
 |.bool,x=>by simp[XJ]
 |.int _,x=>by simp[XJ,bW]
 |.str,x=>by simp[XJ,iq]
 |.list t,x=>DI (Ri t) x
 |.pair a b,x=>by simp[XJ,Ri]
theorem ik (t:Ty) (x:List t.den):nV t x x=true:=DI (Ri t) x
theorem fG (x:Int):bW x x=true:=by simp[bW]
theorem pI (x:di):iq x x=true:=by simp[iq]
theorem iK (x:Bool):jy x x=true:=by simp[jy]
theorem azM {s:gq} (hb:s.length<1000000) (fr:Bool) (c:UInt8) (at_:Int):xe (so s,(po s,(fr,()))) [c] at_=some ((so s++[c],(po s++[at_],(fr,()))),()):=by
 have hl:(so s).length=s.length:=zH s;have hp:(po s).length=s.length:=TE s;have h1:iU (so s) [c]=true:=by simp[iU,lm,hl];omega
 have h2:eQ (cu [] (po s)) 8=true:=by simp[eQ,cu,lm,hp];omega
 have h3:eQ (cu (cu [] (po s)) [at_]) 8=true:=by simp[eQ,cu,lm,hp];omega
 (unfold xe;delta mF kL)
 simp only[fG,pI,iK,ik,h1,h2,h3,cond_true,ax,bK];simp[cu]
theorem PN (a:di) (b:List Int) (fr fr':Bool):xW (a,(b,(fr,()))) fr'=some ((a,(b,(fr',()))),()):=rfl
end
section
open Go.RowKit
def DZ (s:gq) (b at_:Int):Option gq:=if b=92 then some ((13,at_)::s)else if b=36 then some ((12,at_)::s)else if b=96 then some ((6,at_)::s)else none
def KF (m:Int) (s:gq) (fr:Bool) (b at_:Int):gq×Bool:=if b=92 then((13,at_)::s,fr)else if b=35/\fr=true then((14,at_)::s,fr)else if b=40 then(if m=0 then s else(2,at_)::s,true)else if b=41 then(if m=0 then s else s.tail, !decide (m=1))else if b=39 then((4,at_)::s,false)else if b=34 then((5,at_)::s,false)else if b=36 then((12,at_)::s,false)else if b=96 then((6,at_)::s,false)else(s,CY b)
def jv (m:Int) (s:gq) (fr:Bool) (b at_:Int):gq×Bool:=
 if m=0\/m=1\/m=2 then KF m s fr b at_
 else if m=13 then(s.tail,fr&&decide (b=10))
 else if m=4 then(if b=39 then s.tail else s,fr)
 else if m=14 then(if b=10 then(s.tail,true)else(s,fr))
 else if m=6 then(if b=96 then s.tail else if b=92 then(13,at_)::s else s,fr)
 else match DZ s b at_ with
  |some s'=>(s',fr)
  |none=>
   if m=9\/m=10 then(if b=40 then(10,at_)::s else if b=41 then(if m=10 then s.tail else(11,(s.headD (0,0)).2)::s.tail)else s,fr)
   else(if b=34 then(if m=5 then s.tail else(5,at_)::s)else if b=125/\m≠5 then s.tail else if b=39/\m=7 then(4,at_)::s else s,fr)
def gu (s:gq) (fr:Bool) (b at_:Int):gq×Bool:=
 match s with
 |[]=>([],fr)
 |f::r=>
  if f.1=12 then
   (if b=40 then((3,f.2)::r,true)
   else if b=123 then((if(r.headD (0,0)).1=5\/(r.headD (0,0)).1=8 then 8 else 7,f.2)::r,fr)
   else if b=36 then(r,fr)
   else jv (r.headD (0,0)).1 r fr b at_)
  else if f.1=3 then(if b=40 then((9,f.2)::r,false)else jv 1 ((1,f.2)::r) fr b at_)
  else if f.1=11 then(if b=41 then(r,fr)else jv 9 ((9,f.2)::r) fr b at_)
  else jv f.1 (f::r) fr b at_
theorem nZ (b:Int):b=10\/b=34\/b=35\/b=36\/b=39\/b=40\/b=41\/b=92\/b=96\/b=123\/b=125\/
  (b≠10/\b≠34/\b≠35/\b≠36/\b≠39/\b≠40/\b≠41/\b≠92/\b≠96/\b≠123/\b≠125):=by omega
theorem iE (a b:Int):bW a b=decide (a=b):=by
 unfold bW;by_cases h:a=b<;>simp[h]
def pst (x:gq×Bool) (at_:Int):(List oG×Bool×Int×Unit):=(lo x.1,(x.2,(at_,())))
def Dp (x:gq×Bool):di×(List Int×qM):=(so x.1,(po x.1,(x.2,())))
theorem ag7 {m:Int} {f:Int×Int} {r:gq} (hm:m=0\/((m=1\/m=2)/\ ∃g r',r=g::r')) (hb:(f::r).length<1000000) (fr:Bool) {b:Int} (hby:isByte b) (at_:Int):
  VK (lo (f::r)) fr at_ m b=some (pst (KF m (f::r) fr b at_) at_,()):=by
 have e:=aq8 hby;rcases hm with rfl|⟨rfl|rfl,g,r,rfl⟩<;>rcases nZ b with rfl|rfl|rfl|rfl|rfl|rfl|rfl|rfl|rfl|rfl|rfl|⟨h1,h2,h3,h4,h5,h6,h7,h8,h9,h10,h11⟩<;>cases fr<;>
  simp_all [VK,RF,KF,pst,iE,ajW,PH,CY,bK,JB]
theorem azF {m:Int} {f:Int×Int} {r:gq} (hm:m=0\/((m=1\/m=2\/m=4\/m=5\/m=6\/m=7\/m=8\/m=9\/m=10\/m=13\/m=14)/\ ∃g r',r=g::r')) (hb:(f::r).length<1000000) (fr:Bool) {b:Int} (hby:isByte b) (at_:Int):
  NW (lo (f::r)) fr at_ m b=some (pst (jv m (f::r) fr b at_) at_,()):=by
 rcases hm with rfl|⟨rfl|rfl|hm,g,r,rfl⟩
 ·simp[NW,jv,iE,ag7 (.inl rfl) hb fr hby at_,pst,bK,BH]
 ·simp[NW,jv,iE,ag7 (.inr ⟨.inl rfl,g,r,rfl⟩) hb fr hby at_,pst,bK,BH]
 ·simp[NW,jv,iE,ag7 (.inr ⟨.inr rfl,g,r,rfl⟩) hb fr hby at_,pst,bK,BH]
 ·rcases hm with rfl|rfl|rfl|rfl|rfl|rfl|rfl|rfl|rfl<;>rcases nZ b with rfl|rfl|rfl|rfl|rfl|rfl|rfl|rfl|rfl|rfl|rfl|⟨h1,h2,h3,h4,h5,h6,h7,h8,h9,h10,h11⟩<;>cases fr<;>
  simp_all [NW,aig,aih,RF,jv,DZ,pst,iE,ajW,PH,su,bK,BH,XU,XV]
def Sz (m:Int):Prop:=m=0\/m=1\/m=2\/m=5\/m=6\/m=7\/m=8\/m=9\/m=10
def iL:gq->Prop
 |[]=>False
 |[f]=>f.1=0
 |f::g::r=>1<=f.1/\f.1<=14/\Sz g.1/\iL (g::r)
theorem aFW: ∃k,bU=k+2:=by
 have h:2<=bU:=by unfold bU;omega
 exact⟨bU-2,by omega⟩
theorem ad7 {l:List oG} {x:Int×Int×Unit} (h:l.length<1000000):dL (l++[x]) (0,(0,())) (dG (eG .i64 (bP (l++[x])) 1))=x:=by
 rw[V6 x h];simp[dL]
theorem X9 {α:Type} {l:List α} {x:α} (h:l.length<1000000):gV (l++[x]) (eG .i64 (bP (l++[x])) 1)=true:=by
 rw[wJ x h];exact eP (by omega) (by simp;omega)
theorem ajG {α:Type} {l:List α} {x:α} (h:l.length<1000000):oD (dG (eG .i64 (bP (l++[x])) 1)) (l++[x])=true:=by
 rw[V6 x h];exact qE (by simp)
theorem yD {f:Int×Int} {r:gq} (n:Nat) (hm:f.1=0\/((f.1=1\/f.1=2\/f.1=4\/f.1=5\/f.1=6\/f.1=7\/f.1=8\/f.1=9\/f.1=10\/f.1=13\/f.1=14)/\ ∃g r',r=g::r')) (hb:(f::r).length<1000000) (fr:Bool) {b:Int} (hby:isByte b) (at_:Int):
  wG (n+1) b fr at_ (lo (f::r))=some (.inl ((),((),()),(((jv f.1 (f::r) fr b at_).2,at_,()),lo (jv f.1 (f::r) fr b at_).1,()))):=by
 have hl:(lo r).length<1000000:=by rw[mJ];simp at hb;omega
 have n12:f.1≠12:=by rcases hm with h|⟨h,_⟩<;>omega
 have n3:f.1≠3:=by rcases hm with h|⟨h,_⟩<;>omega
 have n11:f.1≠11:=by rcases hm with h|⟨h,_⟩<;>omega
 have hp:=azF hm hb fr hby at_;rw[wG,AP];rw[show lo (f::r)=lo r++[(f.1,f.2,())] from tq f r,X9 hl,ajG hl,ad7 hl];simp only[cond_true,iE,n12,n3,n11,decide_false,cond_false];rw[<-tq,hp,bK];rfl
theorem aom {f:Int×Int} {r:gq} (hg:iL (f::r)) (hl:Sz f.1):f.1=0\/((f.1=1\/f.1=2\/f.1=4\/f.1=5\/f.1=6\/f.1=7\/f.1=8\/f.1=9\/f.1=10\/f.1=13\/f.1=14)/\ ∃g r',r=g::r'):=by
 cases r with
 |nil=>exact .inl hg
 |cons g r=>
  unfold Sz at hl;have:=hg.1;exact .inr ⟨by omega,g,r,rfl⟩
theorem afT {s:gq} (hg:iL s) (hb:s.length<1000000) (fr:Bool) {b:Int} (hby:isByte b) {at_:Int} (h0:0<=at_) (h1:at_<1000000000):VH (lo s) fr at_ b=some (pst (gu s fr b at_) (at_+1),()):=by
 obtain⟨k,hk⟩:=aFW;cases s with
 |nil=>cases hg
 |cons f r=>
 have hl:(lo r).length<1000000:=by rw[mJ];simp at hb;omega
 have hne:bW (bP (lo (f::r))) 0=false:=dW (by rw[bT,mJ];simp;omega);have ha:dA .i64 at_ 1=at_+1:=dC (by omega) (by omega);unfold VH;rw[hne,cond_false,hk];by_cases hp:f.1=12\/f.1=3\/f.1=11
 ·cases r with
  |nil=>have:f.1=0:=hg;omega
  |cons g r=>
  have hlow:=aom hg.2.2.2 hg.2.2.1;have hb2:(g::r).length<1000000:=by simp at hb ⊢;omega
  rw[show k+2=(k+1)+1 from rfl,wG,AP,show lo (f::g::r)=lo (g::r)++[(f.1,f.2,())] from tq f _,X9 hl,ajG hl,ad7 hl,<-tq];rcases hp with e|e|e
  ·have hd:NV (lo (f::g::r)) fr at_ b=some ((if b=40 then(lo ((3,f.2)::g::r),(true,(at_,())))else if b=123 then(lo ((if g.1=5\/g.1=8 then 8 else 7,f.2)::g::r),(fr,(at_,())))else(lo (g::r),(fr,(at_,())))),(decide (b=40\/b=123\/b=36),())):=by
    by_cases e1:b=40
    ·subst e1;simp[NV,iE,su hb,bK]
    ·by_cases e2:b=123
     ·subst e2;by_cases e5:g.1=5
      ·simp[NV,iE,su hb,aem hb,bK,e5]
      ·by_cases e8:g.1=8<;>simp[NV,iE,su hb,aem hb,bK,e5,e8]
     ·by_cases e3:b=36<;>simp[NV,iE,PH hb,bK,e1,e2,e3]
   simp only[cond_true,iE,e,decide_true];rw[hd,bK];by_cases e1:b=40\/b=123\/b=36
   ·simp only[e1,decide_true,cond_true,bK,dV,ha];rcases e1 with rfl|rfl|rfl<;>simp[gu,e,pst,ha]
   ·have e1':b≠40/\b≠123/\b≠36:=by omega
    simp only[e1'.1,e1'.2.1,e1'.2.2,or_self,decide_false,cond_false,if_false];rw[yD _ hlow hb2 fr hby at_,bK];simp[dV,gu,e,e1'.1,e1'.2.1,e1'.2.2,pst,ha]
  ·simp only[cond_true,iE,e,decide_true,show decide ((3:Int)=12)=false from rfl,cond_false];by_cases e1:b=40
   ·simp only[e1,decide_true,cond_true,su hb,bK,dV,ha];simp[gu,e,pst,ha]
   ·simp only[e1,decide_false,cond_false,su hb,bK];rw[yD k (f:=(1,f.2)) (.inr ⟨.inl rfl,g,r,rfl⟩) (by simpa using hb) fr hby at_,bK];simp[dV,gu,e,e1,pst,ha]
  ·simp only[cond_true,iE,e,decide_true,show decide ((11:Int)=12)=false from rfl,show decide ((11:Int)=3)=false from rfl,cond_false];by_cases e1:b=41
   ·simp only[e1,decide_true,cond_true,PH hb,bK,dV,ha];simp[gu,e,pst,ha]
   ·simp only[e1,decide_false,cond_false,su hb,bK];rw[yD k (f:=(9,f.2)) (.inr ⟨by simp,g,r,rfl⟩) (by simpa using hb) fr hby at_,bK];simp[dV,gu,e,e1,pst,ha]
 ·have hm:f.1=0\/((f.1=1\/f.1=2\/f.1=4\/f.1=5\/f.1=6\/f.1=7\/f.1=8\/f.1=9\/f.1=10\/f.1=13\/f.1=14)/\ ∃g r',r=g::r'):=by
   cases r with
   |nil=>exact .inl hg
   |cons g r=>have h1:=hg.1;have h2:=hg.2.1;exact .inr ⟨by omega,g,r,rfl⟩
  rw[yD _ hm hb fr hby at_,bK];have n12:f.1≠12:=by omega
  have n3:f.1≠3:=by omega
  have n11:f.1≠11:=by omega
  simp[dV,gu,n12,n3,n11,pst,ha]
end
section
open Go.RowKit
theorem akX (f:uM) (r:gq) (h:r.length<1000000):cO (so (f::r)) (eG .i64 (bP (so (f::r))) 1)=((letter f.1).toNat:Int):=by
 rw[nS,wJ _ (by rw[zH];exact h)];simp[cO,List.getD]
theorem aAD (f:uM) (r:gq) (h:r.length<1000000):gV (so (f::r)) (eG .i64 (bP (so (f::r))) 1)=true:=by
 rw[nS];exact X9 (by rw[zH];exact h)
theorem au6 (f g:uM) (r:gq) (h:r.length<900000):gV (so (f::g::r)) (eG .i64 (bP (so (f::g::r))) 2)=true/\cO (so (f::g::r)) (eG .i64 (bP (so (f::g::r))) 2)=((letter g.1).toNat:Int):=by
 have hl:(((so (f::g::r)).length:Nat):Int)=r.length+2:=by rw[zH];simp;omega
 rw[bT,hl,iJ (by omega) (by omega),show((r.length:Int)+2-2)=r.length by omega];refine⟨eP (by omega) (by rw[hl];omega), ?_⟩;rw[nS,nS];simp[cO,List.getD,zH]
theorem lets:letter 0=84/\letter 1=67/\letter 2=80/\letter 3=79/\letter 4=83/\letter 5=68/\letter 6=66/\letter 7=86/\letter 8=73/\letter 9=65/\letter 10=82/\letter 11=69/\letter 12=76/\letter 13=88/\letter 14=35:=by decide
theorem AL {s:gq} (hb:s.length<1000000) (fr:Bool) (m:Int) (c:UInt8) (hc:c=letter m) (at_:Int):xe (so s,(po s,(fr,()))) [c] at_=some ((so ((m,at_)::s),(po ((m,at_)::s),(fr,()))),()):=by
 subst hc;rw[azM hb,nS,ru]
theorem ag8 {m:Int} {f:Int×Int} {r:gq} (hm:m=0\/m=1\/m=2) (hb:(f::r).length<1000000) (fr:Bool) {b:Int} (hby:isByte b) (at_:Int):
  aii (so (f::r),(po (f::r),(fr,()))) ((letter m).toNat:Int) b at_=some (Dp (KF m (f::r) fr b at_),()):=by
 have e:=aq9 hby;have p13:=AL hb fr 13 88 rfl at_;have p4:=AL hb fr 4 83 rfl at_;have p5:=AL hb fr 5 68 rfl at_;have p12:=AL hb fr 12 76 rfl at_;have p6:=AL hb fr 6 66 rfl at_;have p14:=AL hb fr 14 35 rfl at_;have p2:=AL hb fr 2 80 rfl at_;have pp:=aa2 hb fr;have hlt:=lets;rcases hm with rfl|rfl|rfl<;>rcases nZ b with rfl|rfl|rfl|rfl|rfl|rfl|rfl|rfl|rfl|rfl|rfl|⟨h1,h2,h3,h4,h5,h6,h7,h8,h9,h10,h11⟩<;>cases fr<;>
  simp_all [aii,VL,KF,Dp,iE,PN,CY,bK,pI,ik,iK,XW,XX]
theorem PK {m:Int} {f:Int×Int} {r:gq} (hf:f.1=m) (hm:m=0\/m=1\/m=2\/m=4\/m=5\/m=6\/m=7\/m=8\/m=9\/m=10\/m=13\/m=14) (hb:(f::r).length<1000000) (fr:Bool) {b:Int} (hby:isByte b) (at_:Int):
  GY (so (f::r),(po (f::r),(fr,()))) ((letter m).toNat:Int) b at_=some (Dp (jv m (f::r) fr b at_),()):=by
 have hlt:=lets;have p13:=AL hb fr 13 88 rfl at_;have p12:=AL hb fr 12 76 rfl at_;have p6:=AL hb fr 6 66 rfl at_;have p10:=AL hb fr 10 82 rfl at_;have p5:=AL hb fr 5 68 rfl at_;have p4:=AL hb fr 4 83 rfl at_;have pp:=aa2 hb fr;have tt:=Gi hb fr 69;have e11:so r++[69]=so ((11,f.2)::r):=by rw[nS];rfl
 have e11':po (f::r)=po ((11,f.2)::r):=by simp[ru]
 rcases hm with rfl|rfl|rfl|hm
 ·have hp:=ag8 (.inl rfl) hb fr hby at_;simp[GY,jv,iE,bK,Dp,BI,ve,Fe,Ff]at hp ⊢;rw[hp];simp[bK,hlt]
 ·have hp:=ag8 (.inr (.inl rfl)) hb fr hby at_;simp[GY,jv,iE,bK,Dp,BI,ve,Fe,Ff]at hp ⊢;rw[hp];simp[bK,hlt]
 ·have hp:=ag8 (.inr (.inr rfl)) hb fr hby at_;simp[GY,jv,iE,bK,Dp,BI,ve,Fe,Ff]at hp ⊢;rw[hp];simp[bK,hlt]
 ·rcases hm with rfl|rfl|rfl|rfl|rfl|rfl|rfl|rfl|rfl<;>rcases nZ b with rfl|rfl|rfl|rfl|rfl|rfl|rfl|rfl|rfl|rfl|rfl|⟨h1,h2,h3,h4,h5,h6,h7,h8,h9,h10,h11⟩<;>cases fr<;>
  simp_all [GY,VL,jv,DZ,Dp,iE,PN,bK,pI,ik,iK,iq,BI,ve,Fe,Ff]
end
section
open Go.RowKit
theorem Fh {f:Int×Int} {r:gq} (h:iL (f::r)):0<=f.1/\f.1<=14:=by
 cases r with
 |nil=>have:f.1=0:=h;omega
 |cons g r=>have:=h.1;have:=h.2.1;omega
theorem letter_eq {m:Int} (h0:0<=m) (h1:m<=14):decide (((letter m).toNat:Int)=76)=decide (m=12)/\decide (((letter m).toNat:Int)=79)=decide (m=3)/\decide (((letter m).toNat:Int)=69)=decide (m=11)/\
  decide (((letter m).toNat:Int)=68)=decide (m=5)/\decide (((letter m).toNat:Int)=73)=decide (m=8):=by
 have:m=0\/m=1\/m=2\/m=3\/m=4\/m=5\/m=6\/m=7\/m=8\/m=9\/m=10\/m=11\/m=12\/m=13\/m=14:=by omega
 rcases this with rfl|rfl|rfl|rfl|rfl|rfl|rfl|rfl|rfl|rfl|rfl|rfl|rfl|rfl|rfl<;>decide
theorem afU {s:gq} (hg:iL s) (hb:s.length<900000) (fr:Bool) {b:Int} (hby:isByte b) (at_:Int):Rx (so s,(po s,(fr,()))) b at_=some (Dp (gu s fr b at_),()):=by
 cases s with
 |nil=>cases hg
 |cons f r=>
 have hb1:(f::r).length<1000000:=by omega
 have hr:r.length<1000000:=by simp at hb;omega
 obtain⟨g0,g1⟩:=Fh hg;obtain⟨l1,l2,l3,-,-⟩:=letter_eq g0 g1;unfold Rx;simp only;rw[aAD f r hr,akX f r hr];simp only[cond_true,iE,l1,l2,l3];by_cases e:f.1=12
 ·cases r with
  |nil=>have:f.1=0:=hg;omega
  |cons g r=>
  have hlow:=hg.2.2.1;have hb2:(g::r).length<1000000:=by simp at hb ⊢;omega
  obtain⟨q0,q1⟩:=Fh hg.2.2.2;obtain⟨-,-,-,l4,l5⟩:=letter_eq q0 q1;obtain⟨b1,b2⟩:=au6 f g r (by simp at hb;omega);simp only[e,decide_true,cond_true];by_cases e1:b=40
  ·subst e1;simp only[decide_true,cond_true,Gi hb1,bK,PN];simp[gu,e,Dp,nS,ru,lets]
  ·by_cases e2:b=123
   ·subst e2;simp only[e1,decide_true,decide_false,cond_true,cond_false,b1,b2,l4,l5,Gi hb1,bK];by_cases e5:g.1=5
    ·simp[gu,e,Dp,nS,ru,lets,e5]
    ·by_cases e8:g.1=8<;>simp[gu,e,Dp,nS,ru,lets,e5,e8]
   ·simp only[e1,e2,decide_false,cond_false,aa2 hb1,bK];by_cases e3:b=36
    ·subst e3;simp[gu,e,Dp]
    ·simp only[e3,decide_false,cond_false];rw[aAD g r (by simp at hr;omega),akX g r (by simp at hr;omega)];have hm:g.1=0\/g.1=1\/g.1=2\/g.1=4\/g.1=5\/g.1=6\/g.1=7\/g.1=8\/g.1=9\/g.1=10\/g.1=13\/g.1=14:=by unfold Sz at hlow;omega
     rw[cond_true,PK rfl hm hb2 fr hby at_,bK];simp[gu,e,e1,e2,e3,Dp]
 ·simp only[e,decide_false,cond_false];by_cases e3:f.1=3
  ·simp only[e3,decide_true,cond_true];by_cases e1:b=40
   ·subst e1;simp only[decide_true,cond_true,Gi hb1,bK,PN];simp[gu,e3,Dp,nS,ru,lets]
   ·simp only[e1,decide_false,cond_false,Gi hb1,bK];have h1:=PK (f:=(1,f.2)) (r:=r) rfl (.inr (.inl rfl)) (by simpa using hb1) fr hby at_;rw[nS,ru]at h1;simp only[lets]at h1;rw[show((67:Int))=(((67:UInt8).toNat:Nat):Int) from rfl,ru f r,h1,bK];simp[gu,e3,e1,Dp]
  ·simp only[e3,decide_false,cond_false];by_cases e11:f.1=11
   ·simp only[e11,decide_true,cond_true];by_cases e1:b=41
    ·subst e1;simp only[decide_true,cond_true,aa2 hb1,bK];simp[gu,e11,Dp]
    ·simp only[e1,decide_false,cond_false,Gi hb1,bK];have h1:=PK (f:=(9,f.2)) (r:=r) rfl (by simp) (by simpa using hb1) fr hby at_;rw[nS,ru]at h1;simp only[lets]at h1;rw[show((65:Int))=(((65:UInt8).toNat:Nat):Int) from rfl,ru f r,h1,bK];simp[gu,e11,e1,Dp]
   ·simp only[e11,decide_false,cond_false];have hm:f.1=0\/f.1=1\/f.1=2\/f.1=4\/f.1=5\/f.1=6\/f.1=7\/f.1=8\/f.1=9\/f.1=10\/f.1=13\/f.1=14:=by omega
    rw[PK rfl hm hb1 fr hby at_,bK];simp[gu,e,e3,e11,Dp]
theorem aoc {s:gq} (hg:iL s) (hl: ∃f r,s=f::r/\Sz f.1) {m at_:Int} (h1:1<=m) (h2:m<=14):iL ((m,at_)::s):=by
 obtain⟨f,r,rfl,hf⟩:=hl;exact⟨h1,h2,hf,hg⟩
theorem DX {f:Int×Int} {r:gq} (hg:iL (f::r)) (hr:r≠[]) {m at_:Int} (h1:1<=m) (h2:m<=14):iL ((m,at_)::r):=by
 cases r with
 |nil=>exact absurd rfl hr
 |cons g r=>exact⟨h1,h2,hg.2.2.1,hg.2.2.2⟩
theorem Fj {f:Int×Int} {r:gq} (hg:iL (f::r)) (hr:r≠[]):iL r:=by
 cases r with
 |nil=>exact absurd rfl hr
 |cons g r=>exact hg.2.2.2
theorem oL {f:Int×Int} {r:gq} (hg:iL (f::r)) (h:f.1≠0):r≠[]:=by
 rintro rfl;exact h hg
theorem BJ {m:Int} {f:Int×Int} {r:gq} (hf:f.1=m) (hg:iL (f::r)) (hm:m≠12/\m≠3/\m≠11) (fr:Bool) (b at_:Int):
  iL (jv m (f::r) fr b at_).1/\(jv m (f::r) fr b at_).1.length<=(f::r).length+1:=by
 obtain⟨g0,g1⟩:=Fh hg;have hr:f.1≠0->r≠[]:=oL hg;have cases_m:m=0\/m=1\/m=2\/m=4\/m=5\/m=6\/m=7\/m=8\/m=9\/m=10\/m=13\/m=14:=by omega
 have push: ∀k,Sz f.1->1<=k->k<=14->iL ((k,at_)::f::r):=fun k hl h1 h2=>aoc hg ⟨f,r,rfl,hl⟩ h1 h2;have lowf:m=0\/m=1\/m=2\/m=5\/m=6\/m=7\/m=8\/m=9\/m=10->Sz f.1:=fun h=>by unfold Sz;rw[hf];exact h
 have tl:m≠0->iL r:=fun h=>Fj hg (hr (by rw[hf];exact h));have st: ∀k,m≠0->1<=k->k<=14->iL ((k,f.2)::r):=fun k h h1 h2=>DX hg (hr (by rw[hf];exact h)) h1 h2;rcases cases_m with e|e|e|e|e|e|e|e|e|e|e|e<;>subst e<;>rcases nZ b with rfl|rfl|rfl|rfl|rfl|rfl|rfl|rfl|rfl|rfl|rfl|⟨h1,h2,h3,h4,h5,h6,h7,h8,h9,h10,h11⟩<;>cases fr<;>
  simp_all [jv,KF,DZ]<;>first|omega|(refine⟨?_,by omega⟩;assumption)
end
section
open List renaming length_cons → ak, map_cons → az, drop_of_length_le → aI, drop_eq_getElem_cons → aO, drop_zero → aX, eq_nil_of_length_eq_zero → bJ
open Go.RowKit
theorem good_step {s:gq} (hg:iL s) (fr:Bool) (b at_:Int):iL (gu s fr b at_).1/\(gu s fr b at_).1.length<=s.length+1:=by
 cases s with
 |nil=>cases hg
 |cons f r=>
 simp only[gu];split
 ·rename_i e
  have hr:r≠[]:=oL hg (by omega);have hs: ∀k,1<=k->k<=14->iL ((k,f.2)::r):=fun k h1 h2=>DX hg hr h1 h2;have ht:=Fj hg hr;split
  ·exact⟨hs 3 (by omega) (by omega),by simp⟩
  ·split
   ·constructor
    ·split<;>exact hs _ (by omega) (by omega)
    ·simp
   ·split
    ·exact⟨ht,by simp;omega⟩
    ·cases r with
     |nil=>exact absurd rfl hr
     |cons g r=>
      have hlow:=hg.2.2.1;have h:=BJ rfl ht (by unfold Sz at hlow;omega) fr b at_;exact⟨h.1,by have:=h.2;simp at this ⊢;omega⟩
 ·split
  ·rename_i e
   have hr:r≠[]:=oL hg (by omega);split
   ·exact⟨DX hg hr (by omega) (by omega),by simp⟩
   ·have h:=BJ (f:=(1,f.2)) rfl (DX hg hr (by omega) (by omega)) (by omega) fr b at_;exact⟨h.1,by have:=h.2;simpa using this⟩
  ·split
   ·rename_i e
    have hr:r≠[]:=oL hg (by omega);split
    ·exact⟨Fj hg hr,by simp;omega⟩
    ·have h:=BJ (f:=(9,f.2)) rfl (DX hg hr (by omega) (by omega)) (by omega) fr b at_;exact⟨h.1,by have:=h.2;simpa using this⟩
   ·exact BJ rfl hg (by omega) fr b at_
def md (s:gq):List Int:=s.map (·.1)
theorem Kq (m:Int) {s s':gq} (h:md s=md s') (fr:Bool) (b a a':Int):md (jv m s fr b a).1=md (jv m s' fr b a').1/\(jv m s fr b a).2=(jv m s' fr b a').2:=by
 have ht:md s.tail=md s'.tail:=by
  have:=congrArg List.tail h;simpa [md] using this
 have cases_m:m=0\/m=1\/m=2\/m=4\/m=5\/m=6\/m=7\/m=9\/m=10\/m=13\/m=14\/(m≠0/\m≠1/\m≠2/\m≠4/\m≠5/\m≠6/\m≠7/\m≠9/\m≠10/\m≠13/\m≠14):=by omega
 have hc: ∀k (p q:Int),md ((k,p)::s)=md ((k,q)::s'):=fun k p q=>by simp only[md,az]at h ⊢;rw[h]
 have hd: ∀k (p q:Int),md ((k,p)::s.tail)=md ((k,q)::s'.tail):=fun k p q=>by simp only[md,az]at ht ⊢;rw[ht]
 rcases cases_m with rfl|rfl|rfl|rfl|rfl|rfl|rfl|rfl|rfl|rfl|rfl|⟨m1,m2,m3,m4,m5,m6,m7,m8,m9,m10,m11⟩<;>rcases nZ b with rfl|rfl|rfl|rfl|rfl|rfl|rfl|rfl|rfl|rfl|rfl|⟨h1,h2,h3,h4,h5,h6,h7,h8,h9,h10,h11⟩<;>cases fr<;>
  simp_all [jv,KF,DZ]<;>first|exact h|exact ht|exact hc _ _ _|exact hd _ _ _
theorem ayO {s s':gq} (h:md s=md s') (fr:Bool) (b a a':Int):md (gu s fr b a).1=md (gu s' fr b a').1/\(gu s fr b a).2=(gu s' fr b a').2:=by
 cases s with
 |nil=>cases s' with
  |nil=>exact⟨rfl,rfl⟩
  |cons _ _=>simp[md]at h
 |cons f r=>cases s' with
  |nil=>simp[md]at h
  |cons f' r'=>
   have h1:f.1=f'.1:=by simp[md]at h;exact h.1
   have h2:md r=md r':=by simp[md]at h ⊢;exact h.2
   have h3:(r.headD (0,0)).1=(r'.headD (0,0)).1:=by
    cases r<;>cases r'<;>simp[md]at h2 ⊢;exact h2.1
   have hc: ∀k (p q:Int),md ((k,p)::r)=md ((k,q)::r'):=fun k p q=>by simp only[md,az]at h2 ⊢;rw[h2]
   simp only[gu,<-h1,<-h3];split
   ·split
    ·exact⟨hc _ _ _,rfl⟩
    ·split
     ·exact⟨hc _ _ _,rfl⟩
     ·split
      ·exact⟨h2,rfl⟩
      ·exact Kq _ h2 _ _ _ _
   ·split
    ·split
     ·exact⟨hc _ _ _,rfl⟩
     ·exact Kq _ (hc _ _ _) _ _ _ _
    ·split
     ·split
      ·exact⟨h2,rfl⟩
      ·exact Kq _ (hc _ _ _) _ _ _ _
     ·exact Kq _ h _ _ _ _
def jl (b:UInt8):Int:=(b.toNat:Int)
def mV:di->Int->gq×Bool->gq×Bool
 |[],_,x=>x
 |b::l,a,x=>mV l (a+1) (gu x.1 x.2 (jl b) a)
def fJ:gq×Bool:=([(0,0)],true)
theorem kG:iL fJ.1:=rfl
theorem drop_at {s:List UInt8} {i:Int} (h0:0<=i) (h:i<s.length): ∃b,s.drop i.toNat=b::s.drop (i+1).toNat/\cO s i=jl b:=by
 have hi:i.toNat<s.length:=by omega
 refine⟨s[i.toNat], ?_, ?_⟩
 ·rw[aO hi];congr 2;omega
 ·simp[cO,jl,List.getD,hi]
theorem DC {s:List UInt8} {i:Int} (h:s.length<=i):s.drop i.toNat=[]:=aI (by omega)
theorem aAw (s:di) (hs:s.length<=100000): ∀(N:Nat) (i:Int) (x:gq×Bool),(s.length:Int)-i<N->0<=i->i<=s.length->iL x.1->(x.1.length:Int)<=i+1->
  SA N s (bP s) i x.2 i (lo x.1)=some (.inl ((),(((mV (s.drop i.toNat) i x).2,(s.length:Int),()),lo (mV (s.drop i.toNat) i x).1,())))
 |0,i,x,h,_,_,_,_=>by omega
 |N+1,i,x,h,h0,hi,hg,hl=>by
  rw[SA,abl];by_cases e:i<s.length
  ·obtain⟨b,hd,hb⟩:=drop_at h0 e;rw[bZ (fH (b:=bP s) e),bZ (eP h0 e),afT hg (by omega) x.2 (lV s i) h0 (by omega),bK,hd,mV,<-hb];simp only[pst];rw[dC (by omega) (by omega)];have hst:=good_step hg x.2 (cO s i) i;exact aAw s hs N (i+1) (gu x.1 x.2 (cO s i) i) (by omega) (by omega) (by omega) hst.1 (by have:=hst.2;omega)
  ·have hi':i=s.length:=by omega
   rw[dE (kZ (b:=bP s) (by rw[bT];omega)),DC (by omega),mV,hi']
theorem aAx (s:di) (hs:s.length<=100000) (v5:di) (v6:Bool): ∀(N:Nat) (i:Int) (x:gq×Bool),(s.length:Int)-i<N->0<=i->i<=s.length->iL x.1->(x.1.length:Int)<=i+1->
  SB N s i (so x.1) (po x.1) x.2 v5 v6=some (.inl ((),((so (mV (s.drop i.toNat) i x).1,po (mV (s.drop i.toNat) i x).1,(mV (s.drop i.toNat) i x).2,()),(v5,v6,()),())))
 |0,i,x,h,_,_,_,_=>by omega
 |N+1,i,x,h,h0,hi,hg,hl=>by
  rw[SB,abm];by_cases e:i<s.length
  ·obtain⟨b,hd,hb⟩:=drop_at h0 e;rw[bZ (fH (b:=bP s) e),bZ (eP h0 e),afU hg (by omega) x.2 (lV s i) i,bK,hd,mV,<-hb];simp only[Dp];rw[dC (by omega) (by omega)];have hst:=good_step hg x.2 (cO s i) i;exact aAx s hs v5 v6 N (i+1) (gu x.1 x.2 (cO s i) i) (by omega) (by omega) (by omega) hst.1 (by have:=hst.2;omega)
  ·rw[dE (kZ (b:=bP s) (by rw[bT];omega)),DC (by omega),mV]
theorem DW: ∀(l:di) (a:Int) (x:gq×Bool),iL x.1->iL (mV l a x).1/\(mV l a x).1.length<=x.1.length+l.length
 |[],a,x,h=>⟨h,by simp[mV]⟩
 |b::l,a,x,h=>by
  have h1:=good_step h x.2 (jl b) a;have h2:=DW l (a+1) (gu x.1 x.2 (jl b) a) h1.1;exact⟨h2.1,by have:=h1.2;have:=h2.2;simp only[mV,ak];omega⟩
theorem NS {n:Nat} (h:n<=1000000000):n<bU:=by unfold bU;omega
theorem aFn (s:di) (hs:s.length<=100000):axd s=some (lo (mV s 0 fJ).1,((mV s 0 fJ).2,())):=by
 have h:=aAw s hs bU 0 fJ (by have:=NS (n:=s.length) (by omega);omega) (by omega) (by omega) kG (by simp[fJ]);have hg:=DW s 0 fJ kG;unfold axd;rw[show([(0,(0,()))]:List oG)=lo fJ.1 from rfl,show(true:Bool)=fJ.2 from rfl,h,bK];simp only[dV,Int.toNat_zero,aX];have hlen:(lo (mV s 0 fJ).1).length≠0:=by
  rw[mJ];intro e;rw[bJ e]at hg;exact hg.1
 rw[dE (dW (by rw[bT];omega))];have hc:oI (lo (mV s 0 fJ).1)=some (lo (mV s 0 fJ).1,()):=by
  unfold oI rO;have:eQ (lo (mV s 0 fJ).1) 16=true:=by
   have:=hg.2;have h1:fJ.1.length=1:=rfl;simp only[eQ,mJ,decide_eq_true_eq,lm];omega
  rw[this];rfl
 rw[hc,bK];cases hf:(mV s 0 fJ).2 with
 |true=>simp[acx,bK]
 |false=>simp[acx,bK,iE,bT,hlen]
theorem aFo (s:di) (hs:s.length<=100000):axe s=some (Dp (mV s 0 fJ),()):=by
 have h:=aAx s hs [] false bU 0 fJ (by have:=NS (n:=s.length) (by omega);omega) (by omega) (by omega) kG (by simp[fJ]);unfold axe;rw[show Rw=some ((so fJ.1,(po fJ.1,(fJ.2,()))),()) from rfl,bK];simp only;rw[h,bK];simp[dV,Dp]
end
section
open Bool renaming false_eq_true → aj, and_true → ax, not_true → aB, not_false → aG, false_and → bz
open List renaming length_cons → ak
open Nat renaming le_refl → ah
open Go.RowKit
def rG (s:gq) (b:Int):Bool:=CY b&&(match s with
 |[_]=>true
 |[f,_]=>decide (f.1=12)&& !decide (b=40)
 |_=>false)
def zU:di->Int->gq×Bool->Nat
 |[],_,_=>0
 |b::l,a,x=>if rG x.1 (jl b)then 0 else zU l (a+1) (gu x.1 x.2 (jl b) a)+1
theorem ahV: ∀(l:di) (a:Int) (x:gq×Bool),zU l a x<=l.length
 |[],_,_=>ah _
 |b::l,a,x=>by
  simp only[zU,ak];split
  ·omega
  ·have:=ahV l (a+1) (gu x.1 x.2 (jl b) a);omega
theorem aq7 {s s':gq} (h:md s=md s') (b:Int):rG s b=rG s' b:=by
 match s,s' with
 |[],[]=>rfl
 |[_],[_]=>rfl
 |[f,_],[f',_]=>simp[md]at h;simp[rG,h.1]
 |_::_::_::_,_::_::_::_=>rfl
 |[],_::_=>simp[md]at h
 |_::_,[]=>simp[md]at h
 |[_],_::_::_=>simp[md]at h
 |_::_::_,[_]=>simp[md]at h
 |[_,_],_::_::_::_=>simp[md]at h
 |_::_::_::_,[_,_]=>simp[md]at h
theorem ahW: ∀(l:di) (a a':Int) (x x':gq×Bool),md x.1=md x'.1->x.2=x'.2->zU l a x=zU l a' x'
 |[],_,_,_,_,_,_=>rfl
 |b::l,a,a',x,x',h1,h2=>by
  have hs:=ayO h1 x.2 (jl b) a a';simp only[zU,aq7 h1,<-h2];rw[ahW l (a+1) (a'+1) _ _ hs.1 hs.2]
theorem aw1 {s:gq} (hg:iL s) (hb:s.length<1000000) (fr:Bool) (at_:Int) {b:Int} (hby:isByte b):ait (lo s) fr at_ b=some ((lo s,(fr,(at_,()))),(rG s b,())):=by
 unfold ait;rw[aq8 hby,bK];cases he:CY b with
 |false=>simp[rG,he]
 |true=>
  match s with
  |[]=>cases hg
  |[f]=>simp[rG,he,iE,bT,lo]
  |[f,g]=>
   have h1:gV (lo [f,g]) 1=true:=eP (by omega) (by simp[lo]);have h2:oD (dG 1) (lo [f,g])=true:=qE (by simp[lo,dG]);have h3:dL (lo [f,g]) (0,(0,())) (dG 1)=(f.1,f.2,()):=by simp[lo,dG,dL]
   have h4:(lo [f,g]).length=2:=by simp[lo]
   simp only[iE,bT,h1,h2,h3,h4,cond_true];by_cases e:f.1=12<;>simp[rG,he,e]
  |f::g::h::r=>
   have h4:(((lo (f::g::h::r)).length:Nat):Int)=r.length+3:=by rw[mJ];simp;omega
   simp only[iE,bT,h4];have n1: ¬((r.length:Int)+3=1):=by omega
   have n2: ¬((r.length:Int)+3=2):=by omega
   simp[rG,n1,n2]
theorem aq5 (s:di) (hs:s.length<=100000): ∀(N:Nat) (i a:Int) (x:gq×Bool),(s.length:Int)-i<N->0<=i->i<=s.length->0<=a->a<=i->iL x.1->(x.1.length:Int)<=a+1->
  ∃o,JY N s i x.2 a (lo x.1)=some o/\dV o (fun a1=>some (a1.1.1,())) (fun b1=>some (b1.1.1,()))=some (i+zU (s.drop i.toNat) a x,())
 |0,i,a,x,h,_,_,_,_,_,_=>by omega
 |N+1,i,a,x,h,h0,hi,ha0,ha,hg,hl=>by
  rw[JY,Qc];by_cases e:i<s.length
  ·obtain⟨b,hd,hb⟩:=drop_at h0 e;rw[bZ (fH (b:=bP s) e),bZ (eP h0 e),aw1 hg (by omega) x.2 a (lV s i),bK,hd,zU,<-hb];cases hw:rG x.1 (cO s i)with
   |true=>exact⟨_,rfl,by simp[dV]⟩
   |false=>
    simp only[cond_false,aj,if_false];rw[bZ (eP h0 e),afT hg (by omega) x.2 (lV s i) (by omega) (by omega),bK];simp only[pst];rw[dC (by omega) (by omega)];have hst:=good_step hg x.2 (cO s i) a;obtain⟨o,h1,h2⟩:=aq5 s hs N (i+1) (a+1) (gu x.1 x.2 (cO s i) a) (by omega) (by omega) (by omega) (by omega) (by omega) hst.1 (by have:=hst.2;omega);refine⟨o,h1,h2.trans ?_⟩;congr 2
    push_cast
    omega
  ·rw[dE (kZ (b:=bP s) (by rw[bT];omega)),DC (by omega)];exact⟨_,rfl,by simp[dV,zU]⟩
theorem aFj (s:di) (hs:s.length<=100000) {i:Int} (h0:0<=i) (hi:i<=s.length):acL s i=some (i+zU (s.drop i.toNat) i fJ,()):=by
 obtain⟨o,h1,h2⟩:=aq5 s hs bU i 0 fJ (by have:=NS (n:=s.length) (by omega);omega) h0 hi (by omega) h0 kG (by simp[fJ]);unfold acL;rw[dE (kZ h0),dE (kZ (a:=bP s) hi),show([(0,(0,()))]:List oG)=lo fJ.1 from rfl,show(true:Bool)=fJ.2 from rfl,h1,bK,h2,ahW _ i 0 fJ fJ rfl rfl]
theorem au7 {s:gq} (hg:iL s):iq (so s) [84]=(match s with|[_]=>true|_=>false):=by
 match s with
 |[]=>cases hg
 |[f]=>have h:f.1=0:=hg;simp[so,iq,h,lets]
 |f::g::r=>
  have:(so (f::g::r)).length≠1:=by rw[zH];simp
  simp only[iq];exact beq_eq_false_iff_ne.2 fun e=>this (by rw[e];rfl)
theorem akY {s:gq} (hg:iL s):iq (so s) [84,76]=(match s with|[f,_]=>decide (f.1=12)|_=>false):=by
 match s with
 |[]=>cases hg
 |[f]=>
  have:(so [f]).length≠2:=by rw[zH];simp
  simp only[iq];exact beq_eq_false_iff_ne.2 fun e=>this (by rw[e];rfl)
 |[f,g]=>
  have h:g.1=0:=hg.2.2.2;obtain⟨g0,g1⟩:=Fh hg;have h2:f.1=0\/f.1=1\/f.1=2\/f.1=3\/f.1=4\/f.1=5\/f.1=6\/f.1=7\/f.1=8\/f.1=9\/f.1=10\/f.1=11\/f.1=12\/f.1=13\/f.1=14:=by omega
  rcases h2 with e|e|e|e|e|e|e|e|e|e|e|e|e|e|e<;>simp[so,iq,h,e,lets]
 |f::g::h::r=>
  have:(so (f::g::h::r)).length≠2:=by rw[zH];simp
  simp only[iq];exact beq_eq_false_iff_ne.2 fun e=>this (by rw[e];rfl)
theorem aq6 (s:di) (hs:s.length<=100000): ∀(N:Nat) (i:Int) (x:gq×Bool),(s.length:Int)-i<N->0<=i->i<=s.length->iL x.1->(x.1.length:Int)<=i+1->
  ∃o,FD N s i (so x.1) (po x.1) x.2=some o/\dV o (fun a2=>some ((bP a2.1.1),())) (fun b2=>some (b2.1.1,()))=some (i+zU (s.drop i.toNat) i x,())
 |0,i,x,h,_,_,_,_=>by omega
 |N+1,i,x,h,h0,hi,hg,hl=>by
  (rewrite [FD,PV];delta AQ)
  by_cases e:i<s.length
  ·obtain⟨b,hd,hb⟩:=drop_at h0 e;have hst:=good_step hg x.2 (cO s i) i;obtain⟨o,h1,h2⟩:=aq6 s hs N (i+1) (gu x.1 x.2 (cO s i) i) (by omega) (by omega) (by omega) hst.1 (by have:=hst.2;omega);rw[bZ (fH (b:=bP s) e),bZ (eP h0 e),aq9 (lV s i),bK,hd,zU,<-hb,au7 hg,akY hg,eP h0 e,afU hg (by omega) x.2 (lV s i) i,bK];simp only[Dp,cond_true];rw[dC (by omega) (by omega)];have hgo: ∃o,FD N s (i+1) (so (gu x.1 x.2 (cO s i) i).1) (po (gu x.1 x.2 (cO s i) i).1) (gu x.1 x.2 (cO s i) i).2=some o/\dV o (fun a2=>some ((bP a2.1.1),())) (fun b2=>some (b2.1.1,()))=some (i+((zU (s.drop (i+1).toNat) (i+1) (gu x.1 x.2 (cO s i) i)+1:Nat):Int),()):=
    ⟨o,h1,h2.trans (by congr 2;push_cast;omega)⟩
   have hst2: ∃o,(some (Sum.inr ((i,()),())):Option (Pv.den⊕PE.den))=some o/\dV o (fun a2=>some ((bP a2.1.1),())) (fun b2=>some (b2.1.1,()))=some (i+((0:Nat):Int),()):=⟨_,rfl,by simp[dV]⟩;cases he:CY (cO s i)with
   |false=>simp only[rG,he,bz,cond_false,aj,if_false];exact hgo
   |true=>
    generalize hx:x.1=st at*
    match st with
    |[]=>cases hg
    |[f]=>simp only[rG,he,cond_true,ax,if_true];exact hst2
    |[f,g]=>
     by_cases e12:f.1=12
     ·by_cases e40:cO s i=40
      ·simp only[rG,he,cond_true,cond_false,iE,e12,e40,decide_true,aB,Bool.and_false,aj,if_false]at hgo ⊢;exact hgo
      ·simp only[rG,he,cond_true,cond_false,iE,e12,e40,decide_true,decide_false,aG,ax,if_true];exact hst2
     ·simp only[rG,he,cond_true,cond_false,e12,decide_false,bz,Bool.and_false,aj,if_false];exact hgo
    |f::g::h::r=>simp only[rG,he,cond_true,cond_false,Bool.and_false,aj,if_false];exact hgo
  ·rw[dE (kZ (b:=bP s) (by rw[bT];omega)),DC (by omega)];exact⟨_,rfl,by simp[dV,zU,bT];omega⟩
theorem aFk (s:di) (hs:s.length<=100000) {i:Int} (h0:0<=i) (hi:i<=s.length):VI s i=some (i+zU (s.drop i.toNat) i fJ,()):=by
 obtain⟨o,h1,h2⟩:=aq6 s hs bU i fJ (by have:=NS (n:=s.length) (by omega);omega) h0 hi kG (by simp[fJ];omega);unfold VI;rw[show Rw=some ((so fJ.1,(po fJ.1,(fJ.2,()))),()) from rfl,bK];simp only;rw[h1,bK,h2]
end
section
open Bool renaming and_eq_true → af, not_true → aB, not_false → aG, false_or → aV
open Int renaming toNat_natCast → aP
open List renaming length_cons → ak, length_drop → aF, drop_of_length_le → aI, length_take → aJ, drop_eq_getElem_cons → aO, length_nil → aY, takeWhile_cons → bF
open Go.RowKit
def UK (c:UInt8):Bool:=(97<=c&&c<=122)||(65<=c&&c<=90)||c==95
def UJ (c:UInt8):Bool:=48<=c&&c<=57
def RS (c:UInt8):Bool:=UK c||UJ c
def isP (c:UInt8):Bool:=c==64||c==42||c==35||c==63||c==45||c==36||c==33
def awW:Bool:=(List.range 256).all fun b=>match acN (b:Int),acO (b:Int),X5 (b:Int)with
 |some (x,_),some (y,_),some (k,_)=>(x==UK (UInt8.ofNat b))&&((y==UJ (UInt8.ofNat b))&&((decide (k=5)==UK (UInt8.ofNat b))&&(decide (k=6)==UJ (UInt8.ofNat b))))
 |_,_,_=>false
theorem aq0:awW=true:=by kernel_rfl
theorem uq (c:UInt8):acN (c.toNat:Int)=some (UK c,())/\acO (c.toNat:Int)=some (UJ c,())/\ ∃k,X5 (c.toNat:Int)=some (k,())/\bW k 5=UK c/\bW k 6=UJ c:=by
 have h:=List.all_eq_true.1 aq0 c.toNat (List.mem_range.2 (by have:=c.toNat_lt;omega));have hc:UInt8.ofNat c.toNat=c:=by simp
 rw[hc]at h;split at h
 ·rename_i x u y v k w h1 h2 h3
  simp only[af,beq_iff_eq]at h;obtain⟨e1,e2,e3,e4⟩:=h;refine⟨by rw[h1,e1],by rw[h2,e2],k,h3, ?_, ?_⟩
  ·rw[<-e3];simp[bW];rfl
  ·rw[<-e4];simp[bW];rfl
 ·cases h
def aGo:Bool:=(List.range 256).all fun b=>match LZ (b:Int) [64,42,35,63,45,36,33]with
 |some (x,_)=>(x==isP (UInt8.ofNat b))&&(isP (UInt8.ofNat b)==(bW (b:Int) 64||(bW (b:Int) 42||(bW (b:Int) 35||(bW (b:Int) 63||(bW (b:Int) 45||(bW (b:Int) 36||bW (b:Int) 33)))))))
 |_=>false
theorem aEN:aGo=true:=by kernel_rfl
theorem auv (c:UInt8):LZ (c.toNat:Int) [64,42,35,63,45,36,33]=some (isP c,())/\isP c=(bW (c.toNat:Int) 64||(bW (c.toNat:Int) 42||(bW (c.toNat:Int) 35||(bW (c.toNat:Int) 63||(bW (c.toNat:Int) 45||(bW (c.toNat:Int) 36||bW (c.toNat:Int) 33)))))):=by
 have h:=List.all_eq_true.1 aEN c.toNat (List.mem_range.2 (by have:=c.toNat_lt;omega));have hc:UInt8.ofNat c.toNat=c:=by simp
 rw[hc]at h;split at h
 ·rename_i x u h1
  simp only[af,beq_iff_eq]at h;exact⟨by rw[h1,h.1],h.2⟩
 ·cases h
theorem byte_at {s:List UInt8} {i:Nat} (h:i<s.length):cO s (i:Int)=(s[i].toNat:Int):=by
 unfold cO;rw[aP,List.getD_eq_getElem?_getD,List.getElem?_eq_getElem h];rfl
def runN (s:di):Nat:=(s.takeWhile RS).length
def EL (s:di):Nat:=(s.takeWhile UK).length
def kP (s:di):Nat:=(s.takeWhile UJ).length
theorem Bh (p:UInt8->Bool) (s:di):(s.takeWhile p).length<=s.length:=by
 induction s with
 |nil=>simp
 |cons c v ih=>rw[bF];split<;>simp<;>omega
theorem ET (p:UInt8->Bool): ∀(s:di) (i:Nat) (h:i<s.length),i<(s.takeWhile p).length->p s[i]=true
 |[],i,h,_=>by simp at h
 |c::v,i,h,h2=>by
  rw[bF]at h2;split at h2
  ·rename_i hc
   match i with
   |0=>exact hc
   |i+1=>exact ET p v i (by simpa using h) (by simpa using h2)
  ·simp at h2
theorem zI (p:UInt8->Bool): ∀(s:di) (h:(s.takeWhile p).length<s.length),p s[(s.takeWhile p).length]=false
 |[],h=>by simp at h
 |c::v,h=>by
  by_cases hc:p c=true
  ·have e:List.takeWhile p (c::v)=c::v.takeWhile p:=by rw[bF,if_pos hc]
   have h':(v.takeWhile p).length<v.length:=by rw[e]at h;simpa using h
   have:=zI p v h';simp only[e,ak,List.getElem_cons_succ];exact this
  ·have e:List.takeWhile p (c::v)=[]:=by rw[bF,if_neg hc]
   simp only[e,aY,List.getElem_cons_zero];simpa using hc
theorem aJ1 (p:UInt8->Bool) (s:di) (n:Nat) (hn:n<=s.length) (h1: ∀i (h:i<s.length),i<n->p s[i]=true) (h2: ∀h:n<s.length,p s[n]=false):(s.takeWhile p).length=n:=by
 have a:=Bh p s;by_cases c:(s.takeWhile p).length<n
 ·have:=zI p s (by omega);rw[h1 _ (by omega) c]at this;cases this
 ·by_cases d:n<(s.takeWhile p).length
  ·have e:=ET p s n (by omega) d;rw[h2 (by omega)]at e;cases e
  ·omega
def nl (s:di):Nat:=if EL s=0 then 0 else runN s
theorem aex {s:List UInt8} (h:EL s≠0):runN s≠0:=by
 unfold EL at h;unfold runN
 match s with
 |[]=>simp at h
 |c::v=>
  rw[bF]at h ⊢;split at h
  ·rename_i hc
   rw[if_pos (by simp[RS,hc])];simp
  ·simp at h
theorem aAu (s:di):nl s<=s.length:=by
 unfold nl;split
 ·omega
 ·exact Bh _ _
theorem Xj {s:List UInt8} (hs:s.length<1000000) {a k:Nat} (h:a+k<s.length): ∃hk:k<(s.drop a).length,cO s (dA .i64 (a:Int) (k:Int))=(((s.drop a)[k]).toNat:Int):=by
 have hk:k<(s.drop a).length:=by rw[aF];omega
 refine⟨hk, ?_⟩;rw[dC (by omega) (by omega),show(a:Int)+(k:Int)=((a+k:Nat):Int) by omega,byte_at h,List.getElem_drop]
theorem aAF {s:List UInt8} (hs:s.length<1000000) {at_:Nat} (ha:at_<=s.length) (a:di) (b:Int) (c:di) (d:Int): ∀(N k:Nat),s.length-k<N->k<=EL (s.drop at_)->
  ni N s (at_:Int) (k:Int) a b c d=some (.inl ((((EL (s.drop at_):Nat):Int),()),((a,b,c,d,()),(),()),()))
 |0,k,h,hk=>by
  have hle:=Bh UK (s.drop at_);have:=aF (i:=at_) (l:=s);unfold EL at hk;omega
 |N+1,k,h,hk=>by
  have hle:=Bh UK (s.drop at_);have hld:=aF (i:=at_) (l:=s);rw[ni,tN];have hk':k<=((s.drop at_).takeWhile UK).length:=hk;have e0:dA .i64 (at_:Int) (k:Int)=(at_:Int)+k:=dC (by omega) (by omega);by_cases h1:at_+k<s.length
  ·obtain⟨hkd,hb⟩:=Xj hs h1;rw[hb,e0,bZ (fH (by rw[bT];omega)),bZ (eP (by omega) (by omega)),(uq _).1,bK];by_cases h2:k<EL (s.drop at_)
   ·rw[ET UK _ k hkd h2];simp only[aB,cond_false];rw[dC (by omega) (by omega),show(k:Int)+1=((k+1:Nat):Int) by omega];exact aAF hs ha a b c d N (k+1) (by omega) (by omega)
   ·obtain rfl:k=EL (s.drop at_):=by omega
    have:=zI UK _ hkd;rw[show UK (s.drop at_)[EL (s.drop at_)]=false from this];rfl
  ·obtain rfl:k=EL (s.drop at_):=by unfold EL at hk ⊢;omega
   rw[e0,dE (iy (by rw[bT];omega))]
theorem aAG {s:List UInt8} (hs:s.length<1000000) {at_:Nat} (ha:at_<=s.length) (a:di) (b:Int) (c:di) (d:Int): ∀(N k:Nat),s.length-k<N->k<=runN (s.drop at_)->
  mg N s (at_:Int) (k:Int) a b c d=some (.inl ((((runN (s.drop at_):Nat):Int),()),((a,b,c,d,()),(),()),()))
 |0,k,h,hk=>by
  have hle:=Bh RS (s.drop at_);have:=aF (i:=at_) (l:=s);unfold runN at hk;omega
 |N+1,k,h,hk=>by
  have hle:=Bh RS (s.drop at_);have hld:=aF (i:=at_) (l:=s);rw[mg,yG];have hk':k<=((s.drop at_).takeWhile RS).length:=hk;have e0:dA .i64 (at_:Int) (k:Int)=(at_:Int)+k:=dC (by omega) (by omega);by_cases h1:at_+k<s.length
  ·obtain⟨hkd,hb⟩:=Xj hs h1;have ea:dA .i64 (k:Int) 1=((k+1:Nat):Int):=by rw[dC (by omega) (by omega)];rfl
   rw[hb,e0,bZ (fH (by rw[bT];omega)),bZ (eP (by omega) (by omega)),(uq _).1,bK,(uq _).2.1];by_cases h2:k<runN (s.drop at_)
   ·have ih:=aAG hs ha a b c d N (k+1) (by omega) (by omega);have hn:=ET RS _ k hkd h2;rw[ea];cases hL:UK (s.drop at_)[k]with
    |true=>exact ih
    |false=>
     have hD:UJ (s.drop at_)[k]=true:=by unfold RS at hn;rw[hL]at hn;exact hn
     simp only[cond_false];rw[bK,hD];exact ih
   ·obtain rfl:k=runN (s.drop at_):=by omega
    have:=zI RS _ hkd;have h3:RS (s.drop at_)[runN (s.drop at_)]=false:=this;simp only[RS,Bool.or_eq_false_iff]at h3;rw[h3.1];simp only[cond_false];rw[bK,h3.2];rfl
  ·obtain rfl:k=runN (s.drop at_):=by unfold runN at hk ⊢;omega
   rw[e0,dE (iy (by rw[bT];omega))]
theorem aAE {s:List UInt8} (hs:s.length<1000000) {at_:Nat} (ha:at_<=s.length) (a:di) (b:Int) (c:di) (d:Int): ∀(N k:Nat),s.length-k<N->k<=kP (s.drop at_)->
  qA N s (at_:Int) (k:Int) a b c d=some (.inl ((((kP (s.drop at_):Nat):Int),()),((a,b,c,d,()),(),()),()))
 |0,k,h,hk=>by
  have hle:=Bh UJ (s.drop at_);have:=aF (i:=at_) (l:=s);unfold kP at hk;omega
 |N+1,k,h,hk=>by
  have hle:=Bh UJ (s.drop at_);have hld:=aF (i:=at_) (l:=s);rw[qA,yH];have hk':k<=((s.drop at_).takeWhile UJ).length:=hk;have e0:dA .i64 (at_:Int) (k:Int)=(at_:Int)+k:=dC (by omega) (by omega);by_cases h1:at_+k<s.length
  ·obtain⟨hkd,hb⟩:=Xj hs h1;rw[hb,e0,bZ (fH (by rw[bT];omega)),bZ (eP (by omega) (by omega)),(uq _).2.1,bK];by_cases h2:k<kP (s.drop at_)
   ·rw[ET UJ _ k hkd h2];simp only[aB,cond_false];rw[dC (by omega) (by omega),show(k:Int)+1=((k+1:Nat):Int) by omega];exact aAE hs ha a b c d N (k+1) (by omega) (by omega)
   ·obtain rfl:k=kP (s.drop at_):=by omega
    have:=zI UJ _ hkd;rw[show UJ (s.drop at_)[kP (s.drop at_)]=false from this];rfl
  ·obtain rfl:k=kP (s.drop at_):=by unfold kP at hk ⊢;omega
   rw[e0,dE (iy (by rw[bT];omega))]
theorem ab2 {s:List UInt8} (hs:s.length<1000000) {a:Nat} (ha:a<=s.length):DU s a=some (((kP (s.drop a):Nat):Int),()):=by
 rw[DU,dE (iy (by omega))];by_cases h0:a=s.length
 ·subst h0;rw[bZ (qV (by rw[bT];omega)),List.drop_length];rfl
 rw[dE (Dc (by rw[bT];omega)),show qA bU s a 0 s a s a=_ from aAE hs ha s a s a bU 0 (dO (by omega)) (by omega),bK];rfl
theorem ap2 {s:List UInt8} (hs:s.length<1000000) {a:Nat} (ha:a<=s.length):Rz s a=some (((nl (s.drop a):Nat):Int),()):=by
 (rewrite [Rz];delta XT;rw[dE (iy (by omega))])
 by_cases h0:a=s.length
 ·subst h0;rw[bZ (qV (by rw[bT];omega)),List.drop_length];rfl
 rw[dE (Dc (by rw[bT];omega)),show ni bU s a 0 s a s a=_ from aAF hs ha s a s a bU 0 (dO (by omega)) (by omega),bK];unfold dV;simp only;unfold nl;by_cases h1:EL (s.drop a)=0
 ·rw[if_pos h1,h1];rfl
 ·rw[if_neg h1,dE (dW (by omega)),dE (iy (by omega)),dE (Dc (by rw[bT];omega)),show mg bU s a 0 _ _ _ _=_ from aAG hs ha _ _ _ _ bU 0 (dO (by omega)) (by omega)];rfl
theorem Oe {s:List UInt8} (hs:s.length<1000000): ∀(N k:Nat),s.length-k<N->k<=runN s->
  MB N s (k:Int)=some (if runN s=s.length then .inl ((),())else .inr ((false,()),()))
 |0,k,h,hk=>by have:=Bh RS s;unfold runN at hk;omega
 |N+1,k,h,hk=>by
  have hle:=Bh RS s;have hk':k<=(s.takeWhile RS).length:=hk;rw[MB,abg];by_cases h1:k<s.length
  ·obtain⟨c,hc,h5,h6⟩:=(uq s[k]).2.2;have hin:gV s (k:Int)=true:=eP (by omega) (by omega);rw[bZ (fH (by rw[bT];omega)),hin,byte_at h1,hc,bK,h5];by_cases h2:k<runN s
   ·have ih:=Oe hs N (k+1) (by omega) (by omega);have hn:=ET RS s k h1 h2;have ea:dA .i64 (k:Int) 1=((k+1:Nat):Int):=by rw[dC (by omega) (by omega)];rfl
    rw[ea];cases hL:UK s[k]with
    |true=>exact ih
    |false=>
     have hD:UJ s[k]=true:=by unfold RS at hn;rw[hL]at hn;exact hn
     rw[cond_true];simp only[aG,cond_true];rw[bK,h6,hD];exact ih
   ·obtain rfl:k=runN s:=by omega
    have:=zI RS s h1;have h3:RS s[runN s]=false:=this;simp only[RS,Bool.or_eq_false_iff]at h3;rw[h3.1,if_neg (by omega)];simp only[aG,cond_true];rw[bK,h6,h3.2];rfl
  ·obtain rfl:k=runN s:=by unfold runN at hk ⊢;omega
   rw[dE (iy (by rw[bT];omega)),if_pos (by unfold runN at*;omega)]
theorem asA {s:List UInt8} (h0:s≠[]):EL s=0↔UK (s.headD 0)=false:=by
 match s,h0 with
 |c::v,_=>
  unfold EL;rw[bF];split<;>rename_i h<;>simp[h]
theorem xg {s:List UInt8} (hs:s.length<1000000):afV s=some (decide (nl s≠0/\nl s=s.length),()):=by
 rw[afV];by_cases h0:s=[]
 ·subst h0;rfl
 have hp:0<s.length:=List.length_pos_iff.2 h0;obtain⟨_,_,c,hc1,hc2,hc3⟩:=uq s[0];have hb:cO s 0=(s[0].toNat:Int):=byte_at (i:=0) hp;have hh:s.headD 0=s[0]:=by
  match s,h0 with
  |c::v,_=>rfl
 rw[dE (dW (by rw[bT];omega)),bZ (eP (by omega) (by omega)),hb,hc1,bK];simp only;rw[hc2];unfold nl;cases hL:UK s[0]with
 |false=>
  rw[if_pos ((asA h0).2 (by rw[hh];exact hL))];simp
 |true=>
  have h1:EL s≠0:=fun h=>by have:=(asA h0).1 h;rw[hh,hL]at this;cases this
  have h2:=aex h1;simp only[aB,cond_false];rw[if_neg h1,show MB bU s 1=_ from Oe hs bU 1 (dO (by omega)) (by omega)];by_cases h3:runN s=s.length
  ·rw[if_pos h3,decide_eq_true ⟨h2,h3⟩];rfl
  ·rw[if_neg h3,decide_eq_false (fun h=>h3 h.2)];rfl
theorem abW (p:UInt8->Bool): ∀(s:di) (k:Nat),((s.take k).takeWhile p).length=min k (s.takeWhile p).length
 |[],k=>by simp
 |c::v,0=>by simp
 |c::v,k+1=>by
  rw[List.take_succ_cons,bF,bF];split
  ·rw[ak,ak,abW p v k];omega
  ·simp
theorem ayR (t:di) {k:Nat} (h1:1<=k) (hk:k<=t.length):(nl (t.take k)≠0/\nl (t.take k)=(t.take k).length)↔k<=nl t:=by
 have hl:(t.take k).length=k:=by rw[aJ];omega
 have a:=abW UK t k;have b:=abW RS t k;unfold nl EL runN;rw[a,b,hl];have hpos:(t.takeWhile UK).length≠0->(t.takeWhile RS).length≠0:=fun h=>aex h;by_cases e:(t.takeWhile UK).length=0
 ·simp[e];omega
 ·have:=hpos e;rw[if_neg (by omega),if_neg e];omega
theorem SL {s:List UInt8} (hs:s.length<1000000) {a:Nat} (ha:a<=s.length): ∀(N k:Nat),s.length-a+1-k<N->1<=k->k<=s.length-a+1->
  FU N s a ((min (k-1) (nl (s.drop a)):Nat):Int) (k:Int)=some (.inl ((((nl (s.drop a):Nat):Int),()),()))
 |0,k,h,_,_=>by omega
 |N+1,k,h,h1,h2=>by
  have hn:=aAu (s.drop a);rw[aF]at hn;rw[FU,Qk,bT,iJ (by omega) (by omega)];by_cases e:k<=s.length-a
  ·have es:sub s (a:Int) (dA .i64 (a:Int) (k:Int))=(s.drop a).take k:=by
    rw[dC (by omega) (by omega),sub,show((a:Int)+k).toNat=a+k by omega,show((a:Int)).toNat=a by omega,List.drop_take,Nat.add_sub_cancel_left]
   have ih:=SL hs ha N (k+1) (by omega) (by omega) (by omega);rw[bZ (qV (by omega)),bZ (gB (by omega) (by rw[dC (by omega) (by omega)];omega) (by rw[dC (by omega) (by omega)];omega)),es,
    xg (by rw[aJ,aF];omega),bK,dC (by omega) (by omega),show(k:Int)+1=((k+1:Nat):Int) by omega]
   have hiff:=ayR (s.drop a) h1 (by rw[aF];omega);by_cases e2:k<=nl (s.drop a)
   ·rw[bZ (decide_eq_true (hiff.2 e2))];rw[show min (k+1-1) (nl (s.drop a))=k by omega]at ih;exact ih
   ·rw[dE (decide_eq_false (fun h=>e2 (hiff.1 h)))];rw[show min (k+1-1) (nl (s.drop a))=min (k-1) (nl (s.drop a)) by omega]at ih;exact ih
  ·rw[dE (Dc (by omega)),show min (k-1) (nl (s.drop a))=nl (s.drop a) by omega]
theorem aA8 {s:List UInt8} (hs:s.length<1000000) {a:Nat} (ha:a<=s.length):aiD s a=some (((nl (s.drop a):Nat):Int),()):=by
 rw[aiD];have h:=SL hs ha bU 1 (dO (by omega)) (by omega) (by omega);rw[show min (1-1) (nl (s.drop a))=0 by omega]at h;rw[show FU bU s a 0 1=_ from h,bK];rfl
def prl (s:di):Nat:=if nl s≠0 then nl s else match s with
 |c::_=>if isP c||UJ c then 1 else 0
 |[]=>0
theorem ag6 (s:di):prl s<=s.length:=by
 unfold prl;split
 ·exact aAu s
 ·split
  ·split<;>simp
  ·simp
theorem LM {s:List UInt8} {a:Nat} (h:a<s.length):s.drop a=s[a]::s.drop (a+1):=aO h
theorem awJ {s:List UInt8} (hs:s.length<1000000) {a:Nat} (ha:a<=s.length):aix s a=some (((prl (s.drop a):Nat):Int),()):=by
 rw[aix,aA8 hs ha,bK];unfold prl;by_cases e:nl (s.drop a)=0
 ·rw[bZ (fV (by omega)),if_neg (by omega)];by_cases h:a<s.length
  ·obtain⟨k,hk,h5,h6⟩:=(uq s[a]).2.2;have hin:gV s (a:Int)=true:=eP (by omega) (by omega);rw[bZ (fH (by rw[bT];omega)),hin,byte_at h,hk,bK,h6,(auv _).1,bK,e,LM h];simp only[cond_true];cases UJ s[a]<;>cases isP s[a]<;>rfl
  ·rw[dE (iy (by rw[bT];omega)),e];rw[aI (by omega)]
 ·rw[dE (dW (by omega)),if_pos e]
theorem awI {s:List UInt8} (hs:s.length<1000000) {a:Nat} (ha:a<=s.length):VJ s a=some (((prl (s.drop a):Nat):Int),()):=by
 rw[VJ,ap2 hs ha,bK];unfold prl;by_cases e:nl (s.drop a)=0
 ·rw[dE (iy (by omega)),if_neg (by omega),dE (iy (by omega))];by_cases h:a<s.length
  ·rw[dE (Dc (by rw[bT];omega)),bZ (eP (by omega) (by omega)),byte_at h,ab2 hs ha,bK];have hd:GN ((kP (s.drop a):Nat):Int) 1=if UJ s[a]then 1 else 0:=by
    unfold kP;rw[LM h,bF];cases UJ s[a]with
    |true=>simp[GN];omega
    |false=>simp[GN]
   have hp:=(auv s[a]).2;rw[hd,LM h];simp only;cases h1:bW (s[a].toNat:Int) 64<;>cases h2:bW (s[a].toNat:Int) 42<;>cases h3:bW (s[a].toNat:Int) 35<;>cases h4:bW (s[a].toNat:Int) 63<;>cases h5:bW (s[a].toNat:Int) 45<;>cases h6:bW (s[a].toNat:Int) 36<;>cases h7:bW (s[a].toNat:Int) 33<;>
    (rw[h1,h2,h3,h4,h5,h6,h7]at hp;simp only[Bool.or_true,Bool.or_false,aV,Bool.true_or]at hp;rw[hp];cases UJ s[a]<;>rfl)
  ·rw[bZ (qV (by rw[bT];omega)),aI (by omega)];rfl
 ·rw[bZ (fH (by omega)),if_pos e]
end
section
open Bool renaming and_true → ax
open List renaming length_append → ae, length_cons → ak, length_take → aJ, getElem_mem → aQ, length_nil → aY, mem_of_mem_take → bC
open Nat renaming le_refl → ah, le_trans → aW
open Go.RowKit
abbrev kS:=Int×Int×Int×Int×Bool×Unit
abbrev GV:=Int×Int×Unit
def dP:kS:=(0,(0,(0,(0,(false,())))))
def dF:GV:=(0,(0,()))
def counts (m:Int):Int:=if m=3 then 1 else if m=11 then 9 else m
theorem ack (m:Int):VP m=some (counts m,()):=by
 unfold VP counts;simp only[iE];by_cases h1:m=3
 ·simp[h1]
 ·by_cases h2:m=11<;>simp[h1,h2]
theorem F8 {α:Type} {l:List α} {d x:α} {i:Nat} (h:i<l.length):dL (iH l i x) d i=x:=by
 unfold dL iH;rw[List.getD_eq_getElem?_getD,List.getElem?_set_self h];rfl
theorem aeH {α:Type} {l:List α} {i:Nat} {x y:α}:iH (iH l i x) i y=iH l i y:=by
 unfold iH;rw[List.set_set]
theorem aiI {α:Type} {l:List α} {i:Nat} {x:α} {k:Int}:gV (iH l i x) k=gV l k:=by
 unfold gV iH;rw[List.length_set]
theorem ajF {α:Type} {l:List α} {i k:Nat} {x:α}:oD k (iH l i x)=oD k l:=by
 unfold oD iH;rw[List.length_set]
theorem tK {α:Type} {l:List α} {i:Nat} {x:α}:(iH l i x).length=l.length:=by
 unfold iH;rw[List.length_set]
theorem aco (n:Nat):eqN n n=true:=by simp[eqN]
def OW (L:List kS) (j:Nat) (a:Int):List kS:=iH L j ((dL L dP j).1,(dL L dP j).2.1,a,(dL L dP j).2.2.2.1,false,())
def V5 (L:List kS) (j:Nat) (m:Int):List kS:=iH L j (m,(dL L dP j).2)
theorem Gj (L:List kS) (j:Nat) (a:Int):(OW L j a).length=L.length:=tK
theorem F5 (L:List kS) (j:Nat) (m:Int):(V5 L j m).length=L.length:=tK
def oZ (F:List GV) (a:Int):Nat->List kS->List Int->List kS×List Int
 |0,L,H=>(L,H)
 |n+1,L,H=>
  if n+1<=F.length/\(F.getD n dF).2.1=(dL L dP (H.getD n 0).toNat).2.1 then(L,H)
  else oZ F a n (OW L (H.getD n 0).toNat (a+1)) (H.take n)
def Au (F:List GV) (H:List Int):Nat->Nat->List kS->List kS
 |0,_,L=>L
 |k+1,i,L=>Au F H k (i+1) (V5 L (H.getD i 0).toNat (counts (F.getD i dF).1))
theorem aeG (F:List GV) {a:Int} (ha0:0<=a) (ha:a<1000000) (hF:F.length<1000000): ∀(N n:Nat) (L:List kS) (H:List Int),n<N->n=H.length->n<1000000->L.length<1000000->
  (∀j∈H,0<=j/\j<L.length)->
  FI N F a (n:Int) L H=some (.inl ((F,()),((),()),((),(oZ F a n L H).1,(oZ F a n L H).2,())))
 |0,n,L,H,h,_,_,_,_=>by omega
 |N+1,0,L,H,h,_,_,_,_=>by
  (rewrite [FI,KW];delta AV sJ sH je;rw[dE (iy (by omega))]);rfl
 |N+1,n+1,L,H,h,hn,hb,hL,hH=>by
  have hlt:n<H.length:=by omega
  have hs:eG .i64 ((n+1:Nat):Int) 1=(n:Int):=by rw[iJ (by omega) (by omega)];omega
  have hmem:H.getD n 0∈H:=by rw[List.getD_eq_getElem?_getD,List.getElem?_eq_getElem hlt];exact aQ hlt
  obtain⟨hj0,hj1⟩:=hH _ hmem;have hnt:dL H 0 (dG (n:Int))=H.getD n 0:=rfl;have hgt:fZ F (0,(0,())) (n:Int)=F.getD n dF:=rfl;have hin:gV L (H.getD n 0)=true:=eP hj0 hj1;have hl:oD (dG (H.getD n 0)) L=true:=qE (by simp only[dG];omega);have hp:gm (bP H) 0 (n:Int)=true:=gB (by omega) (by omega) (by rw[bT];omega);have hsub:sub H 0 (n:Int)=H.take n:=by simp[sub]
  have hat:dA .i64 a 1=a+1:=dC (by omega) (by omega);have hnl:dG (H.getD n 0)<L.length:=by simp only[dG];omega
  have ji: ∀x,dL (iH L (dG (H.getD n 0)) x) (0,(0,(0,(0,(false,()))))) (dG (H.getD n 0))=x:=fun x=>F8 hnl;have go:=aeG F ha0 ha hF N n (OW L (H.getD n 0).toNat (a+1)) (H.take n) (by omega) (by rw[aJ];omega) (by omega) (by rw[Gj];exact hL)
   (fun j hj=>by rw[Gj];exact hH j (bC hj))
  (rewrite [FI,KW];delta AV sJ sH je;rw[oZ])
  simp only[hs,hnt,hgt,hin,hl,hp,hsub,hat,aiI,ajF,ji,aeH,cond_true];rw[bZ (fH (by omega)),bZ (eP (by omega) (by omega)),bZ (qE (by simp only[dG];omega))];by_cases e:n+1<=F.length
  ·rw[bZ (qV (by rw[bT];omega)),bZ (eP (by omega) (by omega))];by_cases e2:(F.getD n dF).2.1=(dL L dP (H.getD n 0).toNat).2.1
   ·rw[if_pos ⟨e,e2⟩];exact bZ (fV e2)
   ·rw[if_neg (fun h=>e2 h.2)];exact(dE (dW e2)).trans go
  ·rw[dE (Dc (by rw[bT];omega)),if_neg (fun h=>e h.1)];exact go
theorem aeF (F:List GV) (H:List Int) (hF:F.length<1000000) (hHl:H.length<1000000): ∀(k i N:Nat) (L:List kS),i+k=H.length->H.length<=F.length->L.length<1000000->(∀j∈H,0<=j/\j<L.length)->
  tC (N+k) F (bP F) (i:Int) L H=tC N F (bP F) (H.length:Int) (Au F H k i L) H
 |0,i,N,L,h,_,_,_=>by rw[Au,show i=H.length by omega];rfl
 |k+1,i,N,L,h,hle,hL,hH=>by
  have hi:i<H.length:=by omega
  have hmem:H.getD i 0∈H:=by rw[List.getD_eq_getElem?_getD,List.getElem?_eq_getElem hi];exact aQ hi
  obtain⟨hj0,hj1⟩:=hH _ hmem;have hnt:dL H 0 (dG (i:Int))=H.getD i 0:=rfl;have hgt:fZ F (0,(0,())) (i:Int)=F.getD i dF:=rfl;have hin:gV L (H.getD i 0)=true:=eP hj0 hj1;have hl:oD (dG (H.getD i 0)) L=true:=qE (by simp only[dG];omega);have go:=aeF F H hF hHl k (i+1) N (V5 L (H.getD i 0).toNat (counts (F.getD i dF).1)) (by omega) hle (by rw[F5];exact hL) (fun j hj=>by rw[F5];exact hH j hj)
  (rewrite [show N+(k+1)=(N+k)+1 by omega,tC,CS];delta lY lX kD;rw[Au,<-go])
  rw[bZ (fH (by rw[bT];omega)),bZ (eP (by omega) (by omega)),bZ (fH (by rw[bT];omega)),bZ (eP (by omega) (by omega)),bZ (qE (by simp only[dG];omega)),ack,bK,hnt,hin,hl];simp only[aiI,hin,cond_true,aco,ax,hgt];rw[dC (by omega) (by omega),show(i:Int)+1=((i+1:Nat):Int) by omega];rfl
theorem MK (F:List GV) (H:List Int): ∀(k i:Nat) (L:List kS),(Au F H k i L).length=L.length
 |0,_,_=>rfl
 |k+1,i,L=>by rw[Au,MK F H k,F5]
theorem Nk (F:List GV) (a:Int): ∀(n:Nat) (L:List kS) (H:List Int),(oZ F a n L H).1.length=L.length/\(oZ F a n L H).2.length<=H.length/\(∀j∈(oZ F a n L H).2,j∈H)
 |0,_,H=>⟨rfl,ah _,fun _ h=>h⟩
 |n+1,L,H=>by
  rw[oZ];split
  ·exact⟨rfl,ah _,fun _ h=>h⟩
  ·have h:=Nk F a n (OW L (H.getD n 0).toNat (a+1)) (H.take n);refine⟨h.1.trans (Gj _ _ _),aW h.2.1 (by rw[aJ];omega),fun j hj=>bC (h.2.2 j hj)⟩
def aa7 (L:List kS) (H:List Int) (F:List GV) (a:Int):List kS×List Int:=
 let r:=oZ F a H.length L H
 let L2:=Au F r.2 r.2.length 0 r.1
 if F.length=r.2.length then(L2,r.2)
 else(L2++[(counts (F.getD r.2.length dF).1,((F.getD r.2.length dF).2.1,(0,((if r.2.length=0 then-1 else r.2.getD (r.2.length-1) 0),(true,())))))],r.2++[(L2.length:Int)])
theorem aGx {L:List kS} {H:List Int} {F:List GV} {t:GV} {a:Int} (ha0:0<=a) (ha:a<1000000) (hF:F.length<1000000) (hL:L.length<1000000) (hHl:H.length<1000000) (hH: ∀j∈H,0<=j/\j<L.length)
  (h1:(oZ F a H.length L H).2.length<=F.length) (h2:F.length<=(oZ F a H.length L H).2.length+1):
  acE L H (t::F) a=some (((aa7 L H F a).1,((aa7 L H F a).2,())),()):=by
 have hsl:=Nk F a H.length L H;have e1:sub (t::F) 1 (bP (t::F))=F:=by simp[sub,bP]
 have hsh:=aeG F ha0 ha hF bU H.length L H (dO (by omega)) rfl hHl hL hH;unfold acE;rw[bZ (gB (by omega) (by rw[bT];simp;omega) (by rw[bT];omega)),e1,bT (l:=H),hsh,bK];simp only[dV];unfold aa7;generalize hr:oZ F a H.length L H=r at*;have hH2: ∀j∈r.2,0<=j/\j<r.1.length:=fun j hj=>by rw[hsl.1];exact hH j (hsl.2.2 j hj)
 have hm:=MK F r.2 r.2.length 0 r.1;obtain⟨K,hK⟩: ∃K,bU=(K+2)+r.2.length:=⟨bU-2-r.2.length,by have:=dO (n:=r.2.length+2) (by omega);omega⟩;have hmo:=aeF F r.2 hF (by omega) r.2.length 0 (K+2) r.1 (by omega) h1 (by omega) hH2;rw[<-hK]at hmo;rw[show(0:Int)=((0:Nat):Int) from rfl,hmo];by_cases e:F.length=r.2.length
 ·(rewrite [tC,CS];delta lY lX kD;rw[dE (iy (by rw[bT];omega)),if_pos e,bK])
 ·rw[if_neg e];have hi:r.2.length<F.length:=by omega
  generalize hL2:Au F r.2 r.2.length 0 r.1=L2 at*;have hgt:fZ F (0,(0,())) (r.2.length:Int)=F.getD r.2.length dF:=rfl;have hfit: ∀x:kS,eQ (cu L2 [x]) 40=true:=fun x=>by simp only[eQ,cu,ae,ak,aY,decide_eq_true_eq,lm];omega
  have hfit2: ∀x:Int,eQ (cu r.2 [x]) 8=true:=fun x=>by simp only[eQ,cu,ae,ak,aY,decide_eq_true_eq,lm];omega
  have hend: ∀L' H',(H'.length:Int)=r.2.length+1->tC (K+1) F (bP F) (dA .i64 (r.2.length:Int) 1) L' H'=some (.inl ((),((),()),((),L',H',()))):=fun L' H' h'=>by
   (rewrite [tC,CS];delta lY lX kD;rw[dE (iy (by rw[bT,dC (by omega) (by omega)];omega))])
  (rewrite [tC,CS];delta lY lX kD;rw[bZ (fH (by rw[bT];omega)),bZ (eP (by omega) (by omega)),dE (iy (by rw[bT];omega))])
  simp only[hgt,ack,bK,fG,hfit,hfit2,ax,cond_true,iK];by_cases e0:r.2.length=0
  ·rw[dE (iy (by omega)),if_pos e0,hend _ _ (by simp[cu]),bK];rfl
  ·have hs:eG .i64 (r.2.length:Int) 1=((r.2.length-1:Nat):Int):=by rw[iJ (by omega) (by omega)];omega
   rw[bZ (fH (by omega)),hs,bZ (eP (by omega) (by omega)),bZ (qE (by simp only[dG];omega)),if_neg e0,hend _ _ (by simp[cu]),bK];rfl
end
section
open List renaming append_assoc → ag
open Go.RowKit
def pq (s:gq):List GV:=(s.dropLast.map fun f=>(f.1,f.2,())).reverse
def Bj (s:gq):List Int:=(s.dropLast.map (·.2)).reverse
theorem tJ (s:gq):(pq s).map (·.2.1)=Bj s:=by
 simp only[pq,Bj,List.map_reverse,List.map_map];rfl
theorem aDx {s:gq} (hg:iL s): ∃t:GV,lo s=t::pq s:=by
 have hne:s≠[]:=by rintro rfl;exact hg
 refine⟨((s.getLast hne).1,(s.getLast hne).2,()), ?_⟩
 conv=>lhs;rw[<-List.dropLast_concat_getLast hne]
 simp[lo,pq]
theorem KD (f:uM) {r:gq} (h:r≠[]):Bj (f::r)=Bj r++[f.2]:=by
 cases r with
 |nil=>exact absurd rfl h
 |cons g r=>simp[Bj]
theorem azG (pre:gq) (f:uM) (r:gq): ∃l,Bj (pre++f::r)=Bj (f::r)++l:=by
 induction pre with
 |nil=>exact⟨[],by simp⟩
 |cons g pre ih=>
  obtain⟨l,h⟩:=ih;exact⟨l++[g.2],by rw[List.cons_append,KD g (by simp),h,ag]⟩
def Shape (s y:gq) (at_:Int):Prop:= ∃pre f r m',s=pre++f::r/\(y=(m',f.2)::r\/ ∃mm,y=(mm,at_)::(m',f.2)::r)
theorem yE {m:Int} {f:Int×Int} {r:gq} (hr:m=0\/r≠[]) (fr:Bool) (b at_:Int):Shape (f::r) (jv m (f::r) fr b at_).1 at_:=by
 have keep:Shape (f::r) (f::r) at_:=⟨[],f,r,f.1,rfl,.inl rfl⟩;have push: ∀k,Shape (f::r) ((k,at_)::f::r) at_:=fun k=>⟨[],f,r,f.1,rfl,.inr ⟨k,rfl⟩⟩;have chg: ∀k,Shape (f::r) ((k,f.2)::r) at_:=fun k=>⟨[],f,r,k,rfl,.inl rfl⟩;have tl:m≠0->Shape (f::r) r at_:=fun h=>by
  cases r with
  |nil=>exact absurd rfl (hr.resolve_left h)
  |cons g r=>exact⟨[f],g,r,g.1,rfl,.inl rfl⟩
 unfold jv KF DZ;rcases nZ b with rfl|rfl|rfl|rfl|rfl|rfl|rfl|rfl|rfl|rfl|rfl|⟨h1,h2,h3,h4,h5,h6,h7,h8,h9,h10,h11⟩<;>cases fr<;>simp_all<;>
  (repeat' split)<;>first|assumption|exact push _|exact chg _|(exact tl (by omega))|(simp_all;done)|exact keep|skip
theorem aoE {pre s y:gq} {at_:Int} (h:Shape s y at_):Shape (pre++s) y at_:=by
 obtain⟨p,f,r,m',hs,hy⟩:=h;exact⟨pre++p,f,r,m',by rw[hs,ag],hy⟩
theorem TS {a:Int} {f:Int×Int} {r y:gq} {at_:Int} (h:Shape ((a,f.2)::r) y at_):Shape (f::r) y at_:=by
 obtain⟨p,g,r',m',hs,hy⟩:=h;cases p with
 |nil=>
  obtain⟨h1,h2⟩:=List.cons.inj hs;subst h1 h2;exact⟨[],f,r,m',rfl,hy⟩
 |cons q p=>
  obtain⟨h1,h2⟩:=List.cons.inj hs;exact⟨f::p,g,r',m',by rw[h2];rfl,hy⟩
theorem ahg {s:gq} (hg:iL s) (fr:Bool) (b at_:Int):Shape s (gu s fr b at_).1 at_:=by
 cases s with
 |nil=>cases hg
 |cons f r=>
 have hs: ∀k,Shape (f::r) ((k,f.2)::r) at_:=fun k=>⟨[],f,r,k,rfl,.inl rfl⟩;have ht: ∀g r',r=g::r'->Shape (f::r) r at_:=fun g r' h=>by rw[h];exact⟨[f],g,r',g.1,rfl,.inl rfl⟩
 simp only[gu];split
 ·rename_i e
  have hr:r≠[]:=oL hg (by omega);cases r with
  |nil=>exact absurd rfl hr
  |cons g r=>
  split
  ·exact hs 3
  ·split
   ·split<;>exact hs _
   ·split
    ·exact ht g r rfl
    ·have hgr:=Fj hg hr;refine aoE (pre:=[f]) (yE ?_ fr b at_);by_cases h0:g.1=0
     ·exact .inl h0
     ·exact .inr (oL hgr h0)
 ·split
  ·rename_i e
   have hr:r≠[]:=oL hg (by omega);split
   ·exact hs 9
   ·exact TS (yE (.inr hr) fr b at_)
  ·split
   ·rename_i e
    have hr:r≠[]:=oL hg (by omega);split
    ·cases r with
     |nil=>exact absurd rfl hr
     |cons g r=>exact ht g r rfl
    ·exact TS (yE (.inr hr) fr b at_)
   ·refine yE ?_ fr b at_;by_cases h0:f.1=0
    ·exact .inl h0
    ·exact .inr (oL hg h0)
theorem KE {s:gq} (hg:iL s) (fr:Bool) (b at_:Int): ∃c,c<=(Bj s).length/\(Bj (gu s fr b at_).1=(Bj s).take c\/Bj (gu s fr b at_).1=(Bj s).take c++[at_]):=by
 obtain⟨pre,f,r,m',hs,hy⟩:=ahg hg fr b at_;obtain⟨l,hl⟩:=azG pre f r;rw[<-hs]at hl;have hpf:Bj ((m',f.2)::r)=Bj (f::r):=by
  cases r with
  |nil=>rfl
  |cons g r=>rw[KD (m',f.2) (r:=g::r) (by simp),KD f (r:=g::r) (by simp)]
 refine⟨(Bj (f::r)).length,by rw[hl];simp, ?_⟩;rw[hl,List.take_left']
 ·rcases hy with h|⟨mm,h⟩
  ·rw[h,hpf];exact .inl rfl
  ·rw[h,KD _ (by simp),hpf];exact .inr rfl
 ·rfl
end
section
open Int renaming toNat_natCast → aP
open List renaming length_append → ae, length_map → ay, length_take → aJ, getElem_mem → aQ
open Nat renaming le_refl → ah, lt_or_ge → aS
open Go.RowKit
theorem ajI {α:Type} {l:List α} {d:α} {i:Nat} (h:l.length<=i):dL l d i=d:=by
 unfold dL;rw[List.getD_eq_getElem?_getD,List.getElem?_eq_none h];rfl
theorem oP {α:Type} {l:List α} {d:α} {i:Nat} (h:i<l.length):dL l d i=l[i]:=by
 unfold dL;rw[List.getD_eq_getElem?_getD,List.getElem?_eq_getElem h];rfl
theorem getD_take {α:Type} {l:List α} {d:α} {i n:Nat} (h:i<n):(l.take n).getD i d=l.getD i d:=by
 rw[List.getD_eq_getElem?_getD,List.getD_eq_getElem?_getD,List.getElem?_take,if_pos h]
theorem Iy {α:Type} {l:List α} {d x:α} {i j:Nat} (h:i≠j):dL (iH l i x) d j=dL l d j:=by
 unfold dL iH;rw[List.getD_eq_getElem?_getD,List.getD_eq_getElem?_getD,List.getElem?_set_ne h]
def KQ (a:Int) (p:kS):kS:=(p.1,p.2.1,a,p.2.2.2.1,false,())
theorem Gl (L:List kS) (j:Nat) (a:Int) (k:Nat) (hj:j<L.length):dL (OW L j a) dP k=if j=k then KQ a (dL L dP k)else dL L dP k:=by
 unfold OW;by_cases h:j=k
 ·subst h;rw[if_pos rfl,F8 hj];rfl
 ·rw[if_neg h,Iy h]
theorem ML (L:List kS) (j:Nat) (m:Int) (k:Nat) (hj:j<L.length):dL (V5 L j m) dP k=if j=k then(m,(dL L dP k).2)else dL L dP k:=by
 unfold V5;by_cases h:j=k
 ·subst h;rw[if_pos rfl,F8 hj]
 ·rw[if_neg h,Iy h]
theorem TU (F:List GV) (a:Int) (H:List Int) (c:Nat) (hH: ∀n,n<H.length->0<=H.getD n 0): ∀(n:Nat) (L:List kS),c<=n->n<=H.length->
  (∀m,m<n->(H.getD m 0).toNat<L.length)->
  (∀m,m<c->m<F.length/\(F.getD m dF).2.1=(dL L dP (H.getD m 0).toNat).2.1)->
  (∀m,c<=m->m<n-> ¬(m+1<=F.length/\(F.getD m dF).2.1=(dL L dP (H.getD m 0).toNat).2.1))->
  (oZ F a n L (H.take n)).2=H.take c/\
  (∀j,(∃m,c<=m/\m<n/\(H.getD m 0).toNat=j)->dL (oZ F a n L (H.take n)).1 dP j=KQ (a+1) (dL L dP j))/\
  (∀j,(∀m,c<=m->m<n->(H.getD m 0).toNat≠j)->dL (oZ F a n L (H.take n)).1 dP j=dL L dP j)
 |0,L,hc,hn,hl,h1,h2=>by
  have:c=0:=by omega
  subst this;exact⟨rfl,fun j ⟨m,_,h,_⟩=>by omega,fun j _=>rfl⟩
 |n+1,L,hc,hn,hl,h1,h2=>by
  rw[oZ,getD_take (by omega)];by_cases e:c=n+1
  ·subst e;have:=h1 n (by omega);rw[if_pos ⟨by omega,this.2⟩];exact⟨rfl,fun j ⟨m,_,h,_⟩=>by omega,fun j _=>rfl⟩
  ·have hng:=h2 n (by omega) (by omega);have hjl:=hl n (by omega);have hfr: ∀k,(dL (OW L (H.getD n 0).toNat (a+1)) dP k).2.1=(dL L dP k).2.1:=fun k=>by
    rw[Gl _ _ _ _ hjl];split<;>rfl
   rw[if_neg hng,List.take_take,show min n (n+1)=n by omega];obtain⟨i1,i2,i3⟩:=TU F a H c hH n (OW L (H.getD n 0).toNat (a+1)) (by omega) (by omega) (fun m hm=>by rw[Gj];exact hl m (by omega))
    (fun m hm=>by rw[hfr];exact h1 m hm) (fun m hm hm2=>by rw[hfr];exact h2 m hm (by omega))
   refine⟨i1,fun j hj=> ?_,fun j hj=> ?_⟩
   ·by_cases hq: ∃m,c<=m/\m<n/\(H.getD m 0).toNat=j
    ·rw[i2 j hq,Gl _ _ _ _ hjl];split<;>rfl
    ·obtain⟨m,hm1,hm2,hm3⟩:=hj;have:m=n:=by
      apply Classical.byContradiction;intro hne;exact hq ⟨m,hm1,by omega,hm3⟩
     subst this;rw[i3 j (fun k hk hk2 hk3=>hq ⟨k,hk,hk2,hk3⟩),Gl _ _ _ _ hjl,if_pos hm3]
   ·rw[i3 j (fun k hk hk2=>hj k hk (by omega)),Gl _ _ _ _ hjl,if_neg (hj n (by omega) (by omega))]
theorem SK (F:List GV) (H:List Int) (hinj: ∀m n,m<H.length->n<H.length->(H.getD m 0).toNat=(H.getD n 0).toNat->m=n): ∀(k i:Nat) (L:List kS),i+k<=H.length->
  (∀m,m<H.length->(H.getD m 0).toNat<L.length)->
  (∀m,i<=m->m<i+k->dL (Au F H k i L) dP (H.getD m 0).toNat=(counts (F.getD m dF).1,(dL L dP (H.getD m 0).toNat).2))/\
  (∀j,(∀m,i<=m->m<i+k->(H.getD m 0).toNat≠j)->dL (Au F H k i L) dP j=dL L dP j)
 |0,i,L,h,hl=>⟨fun m h1 h2=>by omega,fun j _=>rfl⟩
 |k+1,i,L,h,hl=>by
  have hil:=hl i (by omega);obtain⟨i1,i2⟩:=SK F H hinj k (i+1) (V5 L (H.getD i 0).toNat (counts (F.getD i dF).1)) (by omega) (fun m hm=>by rw[F5];exact hl m hm);rw[Au];refine⟨fun m h1 h2=> ?_,fun j hj=> ?_⟩
  ·by_cases e:m=i
   ·subst e;rw[i2 _ (fun k hk hk2 hk3=>by have:=hinj k m (by omega) (by omega) hk3;omega),ML _ _ _ _ hil,if_pos rfl]
   ·rw[i1 m (by omega) (by omega),ML _ _ _ _ hil,if_neg (fun he=>e (hinj i m (by omega) (by omega) he).symm)]
  ·rw[i2 j (fun m hm hm2=>hj m (by omega) (by omega)),ML _ _ _ _ hil,if_neg (hj i (by omega) (by omega))]
def GX (F:List GV) (v:Int):Option Int:=(F.find? fun f=>f.2.1==v).map (·.1)
theorem Ru {F:List GV} (hd: ∀m n,m<F.length->n<F.length->(F.getD m dF).2.1=(F.getD n dF).2.1->m=n) {m:Nat} (hm:m<F.length):GX F (F.getD m dF).2.1=some (F.getD m dF).1:=by
 have hex: ∃f,F.find? (fun f=>f.2.1==(F.getD m dF).2.1)=some f:=by
  cases h:F.find? (fun f=>f.2.1==(F.getD m dF).2.1)with
  |some f=>exact⟨f,rfl⟩
  |none=>
   have:=List.find?_eq_none.1 h (F.getD m dF) (by rw[List.getD_eq_getElem?_getD,List.getElem?_eq_getElem hm];exact aQ hm);simp at this
 obtain⟨f,hf⟩:=hex;have h1:=List.find?_some hf;have h2:=List.mem_of_find?_eq_some hf;obtain⟨n,hn,hn2⟩:=List.getElem_of_mem h2;have e:F.getD n dF=f:=by rw[List.getD_eq_getElem?_getD,List.getElem?_eq_getElem hn];exact hn2
 have:n=m:=hd n m hn hm (by rw[e];simpa using h1);subst this;unfold GX;rw[hf,e];rfl
theorem Ij {F:List GV} {v:Int} (h: ∀m,m<F.length->(F.getD m dF).2.1≠v):GX F v=none:=by
 unfold GX;rw[List.find?_eq_none.2]
 ·rfl
 ·intro f hf;obtain⟨n,hn,hn2⟩:=List.getElem_of_mem hf;have:=h n hn;rw[List.getD_eq_getElem?_getD,List.getElem?_eq_getElem hn]at this;simpa [hn2] using this
def nK (F:List GV) (a:Int) (p:kS):kS:=
 if p.2.2.2.2.1=true then(match GX F p.2.1 with
  |some m=>(counts m,p.2)
  |none=>KQ (a+1) p)else p
def Yz (F:List GV) (a:Int):Bool:=match F.getLast? with
 |some f=>decide (f.2.1=a)
 |none=>false
def asD (L:List Int) (v:Int):Int:=((L.findIdx fun p=>p==v:Nat):Int)
def zf (F:List GV) (a:Int) (fr:List Int):kS:=(counts (F.getLastD dF).1,a,0,(if F.length=1 then-1 else asD fr (F.getD (F.length-2) dF).2.1),true,())
def Oa (F:List GV) (a:Int) (L:List kS):List kS:=L.map (nK F a)++if Yz F a=true then [zf F a (L.map (·.2.1))]else []
structure Inv (L:List kS) (H:List Int) (F:List GV) (k:Int):Prop where
 len:H.length=F.length
 nn: ∀n,n<H.length->0<=H.getD n 0/\(H.getD n 0).toNat<L.length
 frm: ∀n,n<H.length->(dL L dP (H.getD n 0).toNat).2.1=(F.getD n dF).2.1/\(dL L dP (H.getD n 0).toNat).2.2.2.2.1=true
 opn: ∀j,(dL L dP j).2.2.2.2.1=true-> ∃n,n<H.length/\(H.getD n 0).toNat=j
 lt: ∀j,j<L.length->(dL L dP j).2.1<k
 inj: ∀i j,i<L.length->j<L.length->(dL L dP i).2.1=(dL L dP j).2.1->i=j
 fd: ∀m n,m<F.length->n<F.length->(F.getD m dF).2.1=(F.getD n dF).2.1->m=n
theorem Inv.hd {L:List kS} {H:List Int} {F:List GV} {k:Int} (h:Inv L H F k): ∀m n,m<H.length->n<H.length->(H.getD m 0).toNat=(H.getD n 0).toNat->m=n:=fun m n hm hn e=>by
 have h1:=(h.frm m hm).1;have h2:=(h.frm n hn).1;rw[e,h2]at h1;exact(h.fd n m (by rw[<-h.len];exact hn) (by rw[<-h.len];exact hm) h1).symm
theorem oK {F:List GV} {n:Nat} (h:n<F.length):(F.getD n dF).2.1=(F.map (·.2.1)).getD n 0:=by
 rw[List.getD_eq_getElem?_getD,List.getD_eq_getElem?_getD,List.getElem?_map,List.getElem?_eq_getElem h];rfl
theorem aw9 {α:Type} {d:α} {l l':List α} (h:l.length=l'.length) (h2: ∀j,j<l.length->dL l d j=dL l' d j):l=l':=by
 apply List.ext_getElem h;intro n h1 h3;have:=h2 n h1;rwa [oP h1,oP h3]at this
theorem ac0 {L:List kS} (hinj: ∀i j,i<L.length->j<L.length->(dL L dP i).2.1=(dL L dP j).2.1->i=j) {j:Nat} (hj:j<L.length):asD (L.map (·.2.1)) (dL L dP j).2.1=(j:Int):=by
 have hm: ∀i,i<L.length->(L.map (·.2.1))[i]? =some (dL L dP i).2.1:=fun i hi=>by
  rw[List.getElem?_map,List.getElem?_eq_getElem hi,oP hi];rfl
 unfold asD;congr 1;have hlen:(L.map (·.2.1)).length=L.length:=ay ..;have hlt:(L.map (·.2.1)).findIdx (fun p=>p==(dL L dP j).2.1)<(L.map (·.2.1)).length:=by
  apply List.findIdx_lt_length_of_exists;refine⟨(dL L dP j).2.1, ?_,by simp⟩;exact List.mem_of_getElem? (hm j hj)
 have hg:=List.findIdx_getElem (w:=hlt);simp only[beq_iff_eq]at hg;have hlt':=hlt;rw[hlen]at hlt';have h2:=hm _ hlt';rw[List.getElem?_eq_getElem hlt]at h2;have h3:=Option.some.inj h2;exact hinj _ _ hlt' hj (h3.symm.trans hg)
theorem auU {L:List kS} {H:List Int} {F F':List GV} {k:Int} (h:Inv L H F k) {c:Nat} (hc:c<=F.length)
  (hF:F'.map (·.2.1)=(F.map (·.2.1)).take c\/F'.map (·.2.1)=(F.map (·.2.1)).take c++[k]):
  (oZ F' k H.length L H).2.length<=F'.length/\F'.length<=(oZ F' k H.length L H).2.length+1/\
  (aa7 L H F' k).1=Oa F' k L/\Inv (aa7 L H F' k).1 (aa7 L H F' k).2 F' (k+1):=by
 have hlF':F'.length=c\/F'.length=c+1:=by
  have h1:F'.length=(F'.map (·.2.1)).length:=(ay ..).symm;rcases hF with e|e<;>rw[h1,e]<;>simp<;>omega
 have hcH:c<=H.length:=by rw[h.len];exact hc
 have hst: ∀m,m<c->m<F'.length/\(F'.getD m dF).2.1=(F.getD m dF).2.1:=fun m hm=>by
  refine⟨by omega, ?_⟩;rw[oK (by omega),oK (F:=F) (by omega)];rcases hF with e|e
  ·rw[e,getD_take hm]
  ·rw[e,List.getD_eq_getElem?_getD,List.getElem?_append_left (by simp;omega),<-List.getD_eq_getElem?_getD,getD_take hm]
 have hnew:c<F'.length->(F'.getD c dF).2.1=k:=fun hm=>by
  rcases hF with e|e
  ·have:F'.length=(F'.map (·.2.1)).length:=(ay ..).symm;rw[e]at this;simp at this;omega
  ·rw[oK hm,e,List.getD_eq_getElem?_getD,List.getElem?_append_right (by simp;omega)];simp[Nat.min_eq_left hc]
 have hfk: ∀m,m<F.length->(F.getD m dF).2.1<k:=fun m hm=>by
  rw[<-(h.frm m (by rw[h.len];exact hm)).1];exact h.lt _ (h.nn m (by rw[h.len];exact hm)).2
 obtain⟨s1,s2,s3⟩:=TU F' k H c (fun n hn=>(h.nn n hn).1) H.length L hcH (ah _) (fun m hm=>(h.nn m hm).2)
  (fun m hm=>⟨(hst m hm).1,(hst m hm).2.trans (h.frm m (by omega)).1.symm⟩)
  (fun m hm1 hm2 ⟨hl,he⟩=>by
   have hm:m=c:=by omega
   subst hm;rw[hnew (by omega),(h.frm m hm2).1]at he;have:=hfk m (by rw[<-h.len];exact hm2);omega)
 rw[List.take_length]at s1 s2 s3;have hsl:=(Nk F' k H.length L H).1;have htl:(H.take c).length=c:=by rw[aJ];omega
 have hgt: ∀m,m<c->(H.take c).getD m 0=H.getD m 0:=fun m hm=>getD_take hm;obtain⟨m1,m2⟩:=SK F' (H.take c) (fun m n hm hn e=>by
   rw[htl]at hm hn;rw[hgt m hm,hgt n hn]at e;exact h.hd m n (by omega) (by omega) e) c 0 (oZ F' k H.length L H).1 (by omega) (fun m hm=>by
   rw[htl]at hm;rw[hgt m hm,hsl];exact(h.nn m (by omega)).2)
 have hml:=MK F' (H.take c) c 0 (oZ F' k H.length L H).1;have hpt: ∀j,j<L.length->dL (Au F' (H.take c) c 0 (oZ F' k H.length L H).1) dP j=nK F' k (dL L dP j):=fun j hj=>by
  unfold nK;have hfd': ∀m n,m<F'.length->n<F'.length->(F'.getD m dF).2.1=(F'.getD n dF).2.1->m=n:=fun m n hm hn e=>by
   rcases aS m c with h1|h1<;>rcases aS n c with h2|h2
   ·rw[(hst m h1).2,(hst n h2).2]at e;exact h.fd m n (by omega) (by omega) e
   ·have:n=c:=by omega
    subst this;rw[(hst m h1).2,hnew hn]at e;have:=hfk m (by omega);omega
   ·have:m=c:=by omega
    subst this;rw[(hst n h2).2,hnew hm]at e;have:=hfk n (by omega);omega
   ·omega
  by_cases ho:(dL L dP j).2.2.2.2.1=true
  ·rw[if_pos ho];obtain⟨n,hn,hnj⟩:=h.opn j ho;have hfrj:=(h.frm n hn).1;rw[hnj]at hfrj;rcases aS n c with hnc|hnc
   ·have e:=m1 n (by omega) (by omega);rw[hgt n hnc,hnj]at e;rw[e,s3 j (fun m hm hm2 hm3=>by have:=h.hd m n hm2 hn (hm3.trans hnj.symm);omega),hfrj,<-(hst n hnc).2,Ru hfd' (hst n hnc).1]
   ·rw[m2 j (fun m _ hm hm3=>by rw[hgt m (by omega)]at hm3;have:=h.hd m n (by omega) hn (hm3.trans hnj.symm);omega),s2 j ⟨n,hnc,hn,hnj⟩,Ij];intro m hm e;rw[hfrj]at e;rcases aS m c with h1|h1
    ·rw[(hst m h1).2]at e;have:=h.fd m n (by omega) (by rw[<-h.len];exact hn) e;omega
    ·have:m=c:=by omega
     subst this;rw[hnew hm]at e;have:=hfk n (by rw[<-h.len];exact hn);omega
  ·rw[if_neg ho];have hno: ∀m,m<H.length->(H.getD m 0).toNat≠j:=fun m hm e=>ho (by rw[<-e];exact(h.frm m hm).2);rw[m2 j (fun m _ hm hm3=>hno m (by omega) (by rw[<-hgt m (by omega)];exact hm3)),s3 j (fun m _ hm=>hno m hm)]
 have hl2:Au F' (H.take c) c 0 (oZ F' k H.length L H).1=L.map (nK F' k):=aw9 (d:=dP) (by rw[hml,hsl,ay]) fun j hj=>by
  rw[hml,hsl]at hj;rw[hpt j hj,oP (l:=L.map _) (by rw[ay];exact hj),List.getElem_map,oP hj]
 have hupf: ∀p,(nK F' k p).2.1=p.2.1:=fun p=>by
  unfold nK;split
  ·split<;>rfl
  ·rfl
 have hsee:(aa7 L H F' k)=if F'.length=c then(L.map (nK F' k),H.take c)else
   (L.map (nK F' k)++[(counts (F'.getD c dF).1,((F'.getD c dF).2.1,(0,((if c=0 then-1 else(H.take c).getD (c-1) 0),(true,())))))],H.take c++[(L.length:Int)]):=by
  unfold aa7;simp only[s1,htl,hl2,ay]
 have hupo: ∀p,(nK F' k p).2.2.2.2.1=true->p.2.2.2.2.1=true/\ ∃m,GX F' p.2.1=some m:=fun p hp=>by
  unfold nK at hp;split at hp
  ·rename_i ho
   split at hp
   ·rename_i m hm;exact⟨ho,m,hm⟩
   ·cases hp
  ·rename_i ho;exact absurd hp ho
 have hfd': ∀m n,m<F'.length->n<F'.length->(F'.getD m dF).2.1=(F'.getD n dF).2.1->m=n:=fun m n hm hn e=>by
  rcases aS m c with h1|h1<;>rcases aS n c with h2|h2
  ·rw[(hst m h1).2,(hst n h2).2]at e;exact h.fd m n (by omega) (by omega) e
  ·have:n=c:=by omega
   subst this;rw[(hst m h1).2,hnew hn]at e;have:=hfk m (by omega);omega
  ·have:m=c:=by omega
   subst this;rw[(hst n h2).2,hnew hm]at e;have:=hfk n (by omega);omega
  ·omega
 have hmapn: ∀j,j<L.length->dL (L.map (nK F' k)) dP j=nK F' k (dL L dP j):=fun j hj=>by
  rw[oP (l:=L.map _) (by rw[ay];exact hj),List.getElem_map,oP hj]
 have hgrow:Oa F' k L=L.map (nK F' k)++if Yz F' k=true then [zf F' k (L.map (·.2.1))]else []:=rfl
 have hkeep: ∀n,n<c->(nK F' k (dL L dP (H.getD n 0).toNat)).2.1=(F'.getD n dF).2.1/\(nK F' k (dL L dP (H.getD n 0).toNat)).2.2.2.2.1=true:=fun n hn=>by
  have hfr:=h.frm n (by omega);refine⟨by rw[hupf,hfr.1,(hst n hn).2], ?_⟩;unfold nK;rw[if_pos hfr.2,hfr.1,<-(hst n hn).2,Ru hfd' (hst n hn).1];exact hfr.2
 have hopn: ∀j,j<L.length->(nK F' k (dL L dP j)).2.2.2.2.1=true-> ∃n,n<c/\(H.getD n 0).toNat=j:=fun j hj ho=>by
  obtain⟨h1,m,hm⟩:=hupo _ ho;obtain⟨n,hn,hnj⟩:=h.opn j h1;have hfr:=(h.frm n hn).1;rw[hnj]at hfr;rcases aS n c with hnc|hnc
  ·exact⟨n,hnc,hnj⟩
  ·rw[hfr,Ij]at hm
   ·cases hm
   ·intro m hm2 e;rcases aS m c with h1|h1
    ·rw[(hst m h1).2]at e;have:=h.fd m n (by omega) (by rw[<-h.len];exact hn) e;omega
    ·have:m=c:=by omega
     subst this;rw[hnew hm2]at e;have:=hfk n (by rw[<-h.len];exact hn);omega
 have hdP: ∀{l:List kS} {j:Nat},(dL l dP j).2.2.2.2.1=true->j<l.length:=fun {l j} hj=>by
  rcases aS j l.length with h1|h1
  ·exact h1
  ·rw[ajI h1]at hj;cases hj
 refine⟨by rw[s1,htl];omega,by rw[s1,htl];omega, ?_⟩;by_cases e:F'.length=c
 ·have hnf:Yz F' k=false:=by
   unfold Yz;cases hl:F'.getLast? with
   |none=>rfl
   |some f=>
    have hne:F'≠[]:=by rintro rfl;cases hl
    have hp:0<F'.length:=List.length_pos_iff.2 hne;have:F'.getD (c-1) dF=f:=by
     rw[List.getLast?_eq_getElem?,e]at hl;rw[List.getD_eq_getElem?_getD,hl];rfl
    have h2:=(hst (c-1) (by omega)).2;rw[this]at h2;have:=hfk (c-1) (by omega);exact decide_eq_false (by omega)
  rw[hsee,if_pos e,hgrow,hnf];refine⟨by simp, ?_⟩;exact {
   len:=by rw[htl,e]
   nn:=fun n hn=>by rw[htl]at hn;rw[hgt n hn,ay];exact h.nn n (by omega)
   frm:=fun n hn=>by
    rw[htl]at hn;rw[hgt n hn,hmapn _ (h.nn n (by omega)).2];exact hkeep n hn
   opn:=fun j hj=>by
    have hl:=hdP hj;rw[ay]at hl;rw[hmapn j hl]at hj;obtain⟨n,hn,he⟩:=hopn j hl hj;exact⟨n,by rw[htl];exact hn,by rw[hgt n hn];exact he⟩
   lt:=fun j hj=>by
    rw[ay]at hj;rw[hmapn j hj,hupf];have:=h.lt j hj;omega
   inj:=fun i j hi hj he=>by
    rw[ay]at hi hj;rw[hmapn i hi,hmapn j hj,hupf,hupf]at he;exact h.inj i j hi hj he
   fd:=hfd'}
 ·have hc1:F'.length=c+1:=by omega
  have hgl:F'.getLast?=some (F'.getD c dF):=by
   rw[List.getLast?_eq_getElem?,hc1,List.getD_eq_getElem?_getD,show c+1-1=c by omega,List.getElem?_eq_getElem (by omega)];rfl
  have hgD:F'.getLastD dF=F'.getD c dF:=by rw[List.getLastD_eq_getLast?,hgl];rfl
  have hnk:=hnew (by omega);have hnf:Yz F' k=true:=by unfold Yz;rw[hgl];exact decide_eq_true hnk
  have hup:(if c=0 then-1 else(H.take c).getD (c-1) 0)=(if F'.length=1 then-1 else asD (L.map (·.2.1)) (F'.getD (F'.length-2) dF).2.1):=by
   by_cases c0:c=0
   ·rw[if_pos c0,if_pos (by omega)]
   ·have hn:=h.nn (c-1) (by omega);rw[if_neg c0,if_neg (by omega),hgt _ (by omega),show F'.length-2=c-1 by omega,(hst (c-1) (by omega)).2,<-(h.frm (c-1) (by omega)).1,ac0 h.inj hn.2];omega
  have hnp:(counts (F'.getD c dF).1,((F'.getD c dF).2.1,((0:Int),((if c=0 then-1 else(H.take c).getD (c-1) 0),(true,())))))=zf F' k (L.map (·.2.1)):=by
   unfold zf;rw[hup,hgD,hnk]
  rw[hsee,if_neg e,hgrow,hnf,hnp];refine⟨by simp, ?_⟩;have hll:(L.map (nK F' k)++[zf F' k (L.map (·.2.1))]).length=L.length+1:=by simp
  have hn1: ∀j,j<L.length->dL (L.map (nK F' k)++[zf F' k (L.map (·.2.1))]) dP j=nK F' k (dL L dP j):=fun j hj=>by
   rw[<-hmapn j hj];unfold dL;rw[List.getD_eq_getElem?_getD,List.getD_eq_getElem?_getD,List.getElem?_append_left (by rw[ay];exact hj)]
  have hn2:dL (L.map (nK F' k)++[zf F' k (L.map (·.2.1))]) dP L.length=zf F' k (L.map (·.2.1)):=by
   unfold dL;rw[List.getD_eq_getElem?_getD,List.getElem?_append_right (by simp)];simp
  have hh1: ∀n,n<c->(H.take c++[(L.length:Int)]).getD n 0=H.getD n 0:=fun n hn=>by
   rw[<-hgt n hn,List.getD_eq_getElem?_getD,List.getD_eq_getElem?_getD,List.getElem?_append_left (by rw[htl];exact hn)]
  have hh2:(H.take c++[(L.length:Int)]).getD c 0=L.length:=by
   rw[List.getD_eq_getElem?_getD,List.getElem?_append_right (by rw[htl];omega)];simp[htl]
  have hhl:(H.take c++[(L.length:Int)]).length=c+1:=by rw[ae,htl];rfl
  have hcase: ∀n,n<c+1->n<c\/n=c:=fun n hn=>by omega
  have hnpf:(zf F' k (L.map (·.2.1))).2.1=k:=rfl;exact {
   len:=by rw[hhl,hc1]
   nn:=fun n hn=>by
    rw[hhl]at hn;rw[hll];rcases hcase n hn with h1|rfl
    ·rw[hh1 n h1];have:=h.nn n (by omega);omega
    ·rw[hh2];omega
   frm:=fun n hn=>by
    rw[hhl]at hn;rcases hcase n hn with h1|rfl
    ·rw[hh1 n h1,hn1 _ (h.nn n (by omega)).2];exact hkeep n h1
    ·rw[hh2,aP,hn2];exact⟨hnk.symm,rfl⟩
   opn:=fun j hj=>by
    have hl:=hdP hj;rw[hll]at hl;rcases aS j L.length with h1|h1
    ·rw[hn1 j h1]at hj;obtain⟨n,hn,he⟩:=hopn j h1 hj;exact⟨n,by rw[hhl];omega,by rw[hh1 n hn];exact he⟩
    ·exact⟨c,by rw[hhl];omega,by rw[hh2];omega⟩
   lt:=fun j hj=>by
    rw[hll]at hj;rcases aS j L.length with h1|h1
    ·rw[hn1 j h1,hupf];have:=h.lt j h1;omega
    ·rw[show j=L.length by omega,hn2,hnpf];omega
   inj:=fun i j hi hj he=>by
    rw[hll]at hi hj;rcases aS i L.length with h1|h1<;>rcases aS j L.length with h2|h2
    ·rw[hn1 i h1,hn1 j h2,hupf,hupf]at he;exact h.inj i j h1 h2 he
    ·rw[hn1 i h1,hupf,show j=L.length by omega,hn2,hnpf]at he;have:=h.lt i h1;omega
    ·rw[hn1 j h2,hupf,show i=L.length by omega,hn2,hnpf]at he;have:=h.lt j h2;omega
    ·omega
   fd:=hfd'}
end
end Go.Proofs.YtihafdllichkeaaGreatDoor
