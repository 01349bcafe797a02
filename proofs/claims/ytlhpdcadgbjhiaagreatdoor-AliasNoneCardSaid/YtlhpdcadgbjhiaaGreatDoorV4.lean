/- Parts of the proof, joined and shortened by a program: the plain machine, the functions as it prints them, and the mathematics over them. -/
import Derived.Test.YtlhpdcadgbjhiaaGreatDoorV3
set_option linter.unusedVariables false
set_option linter.unusedSimpArgs false
set_option maxRecDepth 100000
set_option maxHeartbeats 4000000
namespace Go.Proofs.YtlhpdcadgbjhiaaGreatDoor
section
open Go.RowKit
end
section
open Go.RowKit
end
section
open Nat renaming lt_or_ge → aJ
open Go.RowKit
theorem aje {s:List UInt8} {f:Nat} (d:jf s f<s.length):s[jf s f]=10:=by
 have:=zC (· !=10) (s.drop f) (by grind [jf]);simp_all [jf]
theorem QD (s w:bH) (d:Bool): ∀(N a:Nat),s.length-a<N->a<=s.length->(rY s w d N a).1<=s.length/\((rY s w d N a).2=false->(rY s w d N a).1=s.length)/\(a<s.length->a<(rY s w d N a).1)
 |0,a,h,_=>by omega
 |N+1,a,h,j=>by
  rw[rY];by_cases e:a<s.length
  .have g:=Yg e;rw[am e];split
   .simp_all
   .have f:=QD s w d N (oL s a) (by omega) g.2;refine⟨f.1,f.2.1,fun _=> ?_⟩;rcases aJ (oL s a) s.length with i|i
    .omega
    .cases N with
     |zero=>omega
     |succ N=>simp_all [rY,aq]
  grind
end
section
open Go.RowKit
theorem FT {d:Type} {l:List d} {k:Nat} (h:l.length*k<=140737488355328):dZ l k=true:=by
 grind [dZ,mW]
end
section
open List renaming drop_eq_getElem_cons → aF, length_drop → aQ
open Go.RowKit
abbrev Tok:=Int×Int×Int×Bool×Unit
abbrev Dlm:=List UInt8×Bool×Unit
abbrev Wq:=Int×List Dlm×Bool×Unit
def dDl:Dlm:=([],(false,()))
def zI (s:bH) (a:Nat):Nat:=a+H5 (s.drop a) a fH
def ZG (s:bH) (a b:Nat):bH:=(s.take b).drop a
def atE (w:bH):Bool:=YX (uD w 0 fH).1
theorem Zm {s:List UInt8} {a:Nat} (h:a<=s.length):a<=zI s a/\zI s a<=s.length:=by
 grind [aby,zI]
def pO (s:bH) (a:Nat):Tok:=if zJ (s.drop a)≠0 then(1,a,((a+zJ (s.drop a):Nat):Int),false,())else if bU s a=10 then(2,a,((a+1:Nat):Int),false,())else if bU s a=35 then(3,a,(jf s a:Nat),false,())else if(Pv (s.drop a)).2≠0 then(4,a,((a+(Pv (s.drop a)).2:Nat):Int),false,())else if Un (s.drop a)≠0 then(5,a,((a+Un (s.drop a):Nat):Int),false,())else(6,a,(zI s a:Nat), !atE (ZG s a (zI s a)),())
def Fa (s:bH) (a:Nat) (x:Wq):Wq:=if zJ (s.drop a)≠0 then(x.1,x.2.1,false,())else if bU s a=10 then(0,x.2.1,decide (0<x.2.1.length),())else if bU s a=35 then(0,x.2.1,false,())else if(Pv (s.drop a)).2≠0 then((if(Pv (s.drop a)).1=4\/(Pv (s.drop a)).1=5 then(((Pv (s.drop a)).1:Nat):Int)else 0),x.2.1,false,())else if Un (s.drop a)≠0 then(0,x.2.1,false,())else(0,(if x.1=0 then x.2.1 else x.2.1++[(agP (ZG s a (zI s a)),decide (x.1=5),())]),false,())
def oQ (s:bH) (a:Nat) (x:Wq):Tok×Wq:=if x.2.2.1=true then(if(Jv s (x.2.1.headD dDl).1 (x.2.1.headD dDl).2.1 a).2=true then((7,a,((Jv s (x.2.1.headD dDl).1 (x.2.1.headD dDl).2.1 a).1:Nat),false,()),(x.1,x.2.1.tail,decide (1<x.2.1.length),()))else((7,a,((Jv s (x.2.1.headD dDl).1 (x.2.1.headD dDl).2.1 a).1:Nat),true,()),x))else(pO s a,Fa s a x)
theorem ajN {c:UInt8} {t:List UInt8} (h:Dx (c.toNat:Int)=true):(Pv (c::t)).2≠0:=by
 have d:ofF [c]≠0:=by
  have: ∀n:Fin 256,Dx ((n.val:Nat):Int)=true->ofF [UInt8.ofNat n.val]≠0:=by decide+kernel
  have:=this ⟨c.toNat,c.toNat_lt⟩ h;simpa using this
 have e: ∀n,(Qk (c::t) (n+1)).2≠0:=by
  intro n
  induction n with
  |zero=>simp_all [Qk]
  |succ n f=>
   grind [Qk]
 grind [Pv]
theorem BC {s:List UInt8} (o:s.length<=10000) {a:Nat} (g:a<s.length) (x:Wq):(a:Int)<(oQ s a x).1.2.2.1/\(oQ s a x).1.2.2.1<=s.length/\(oQ s a x).1.2.1=a:=by
 unfold oQ;split
 .have h:=QD s (x.2.1.headD dDl).1 (x.2.1.headD dDl).2.1 bD a (dC) (by omega);have i:=h.2.2 g;have d:=h.1;unfold Jv
  grind
 .unfold pO;have hd:=aF g;split
  .have:=SB (s.drop a)
   grind
  .split
   .grind
   .split
    .rename_i p
     have d:=F7 s a;have i:=F8 (s:=s) (a:=a) (by omega);have q:jf s a≠a:=by
      intro e;have:=aje (s:=s) (f:=a) (by omega);simp_all [byte_at]
     grind
    .split
     .have:=(acR (s.drop a)).1
      grind
     .split
      .rename_i u
       have d:=ac6 (s.drop a);rw[aQ]at d;have:Un (s.drop a)<=o5 (s.drop a):=by grind [Un]
       grind
      .rename_i v y _ z _
       have j:=Zm (s:=s) (a:=a) (by omega);have:H5 (s.drop a) a fH≠0:=by
        rw[hd,H5];have l:zF fH.1 (jD s[a])=false:=by
         unfold zF;have:Jm (jD s[a])=false:=by
          have A:ui (s[a].toNat:Int)=false:=by
           grind [Mc]
          have B:Dx (s[a].toNat:Int)=false:=by
           grind [ajN]
          simp_all [byte_at,ui,Dx,Jm,jD]
         rw[this];rfl
        rw[l];simp
       unfold zI at j ⊢
       grind
end
section
open Go.RowKit
theorem adF {s:List UInt8} {a b:Nat}:sub s (a:Int) (b:Int)=ZG s a b:=by simp[sub,ZG]
theorem WL {s:List UInt8} {a b:Nat}:(ZG s a b).length<=s.length:=by
 grind [ZG]
end
section
open Go.RowKit
def sH (s:bH):Nat->Nat->List Tok->Wq->List Tok×Wq
 |0,_,l,x=>(l,x)
 |n+1,a,l,x=>if a<s.length then sH s n (oQ s a x).1.2.2.1.toNat (l++[(oQ s a x).1]) (oQ s a x).2 else(l,x)
def jV (s:bH):List Tok×Wq:=sH s (s.length+1) 0 [] (0,[],false,())
def OkX (x:Wq):Prop:=x.2.2.1=true->x.2.1≠[]
theorem Y5 (s:bH) (a:Nat) {x:Wq} (h:OkX x):OkX (oQ s a x).2/\(oQ s a x).2.2.1.length<=x.2.1.length+1:=by
 obtain⟨d,e,f,u⟩:=x;unfold OkX at*;unfold oQ;simp only at h ⊢;split
 .grind
 .unfold Fa
  grind
theorem QJ {s:List UInt8} (d:s.length<=10000): ∀(n m a:Nat) (l:List Tok) (x:Wq),s.length<n+a->s.length<m+a->sH s n a l x=sH s m a l x
 |0,0,a,l,x,_,_=>rfl
 |0,m+1,a,l,x,h,_=>by rw[sH,sH,aq (by omega)]
 |n+1,0,a,l,x,_,h=>by rw[sH,sH,aq (by omega)]
 |n+1,m+1,a,l,x,f,g=>by
  rw[sH,sH];split
  .rename_i e
   have:=BC d e x;exact QJ d n m _ _ _ (by omega) (by omega)
  .rfl
structure OkT (s:bH) (t:Tok):Prop where
 f0:0<=t.2.1
 ft:t.2.1<t.2.2.1
 t1:t.2.2.1<=s.length
theorem acn {s:List UInt8} (g:s.length<=10000): ∀(n a:Nat) (l:List Tok) (x:Wq),OkX x->l.length<=a->a<=s.length->(∀t∈l,OkT s t)->(∀t∈(sH s n a l x).1,OkT s t)/\OkX (sH s n a l x).2/\(sH s n a l x).1.length<=s.length
 |0,a,l,x,d,hl,i,h=>⟨h,d,by grind [sH]⟩
 |n+1,a,l,x,d,hl,i,h=>by
  rw[sH];split
  .rename_i e
   have o:=BC g e x;exact acn g n _ _ _ (Y5 s a d).1 (by grind) (by omega) (fun t j=>by
    rcases List.mem_append.1 j with f|f
    .exact h t f
    .rw[List.mem_singleton.1 f];exact⟨by omega,by omega,by omega⟩)
  grind
theorem Ua {s:List UInt8} (d:s.length<=10000):(∀t∈(jV s).1,OkT s t)/\OkX (jV s).2/\(jV s).1.length<=s.length:=
 acn d _ _ _ _ (fun h=>by cases h) (by simp) (by omega) (fun t e=>by cases e)
def aiI (t:Tok):Bool:=decide (t.1=2)||decide (t.1=4)||decide (t.1=5)||decide (t.1=6)
def aoA (s:bH) (t:Tok):Int×List UInt8×Int×Int×Unit:=(t.1,sub s t.2.1 t.2.2.1,t.2.1,t.2.2.1,())
def fP (s:bH) (l:List Tok):List (Int×List UInt8×Int×Int×Unit):=(l.filter aiI).map (aoA s)
end
end Go.Proofs.YtlhpdcadgbjhiaaGreatDoor
