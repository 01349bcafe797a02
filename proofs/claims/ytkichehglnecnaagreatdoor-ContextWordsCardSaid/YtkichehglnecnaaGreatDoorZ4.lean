/- Parts of the proof, joined and shortened by a program: the plain machine, the functions as it prints them, and the mathematics over them. -/
import Derived.Ground.NamesProg
import Derived.Shelf.Strings.Replace
import Derived.Test.YtkichehglnecnaaGreatDoorZ3
set_option linter.unusedVariables false
set_option linter.unusedSimpArgs false
set_option maxRecDepth 100000
set_option maxHeartbeats 4000000
namespace Go.Proofs.YtkichehglnecnaaGreatDoor
section
open List renaming mem_cons_of_mem → aj, mem_cons_self → az
open Go.RowKit
def MW (k:Int) (f:lW):Prop:=f.1=0\/(0<=f.2/\f.2+1<=k/\((f.1=1\/f.1=3\/f.1=7\/f.1=8\/f.1=9\/f.1=11)->f.2+2<=k))
theorem MW.up {k:Int} {f:Int×Int} (h:MW k f):MW (k+1) f:=by unfold MW at*;omega
def YR (k:Int):Prop:=k=13\/k=12\/k=6\/k=14\/k=2\/k=4\/k=5\/k=10
def aLb (m:Int) (s y:fE) (a:Int):Prop:=y=s\/y=s.tail\/(∃k,YR k/\y=(k,a)::s)\/(m=9/\y=(11,(s.headD (0,0)).2)::s.tail)
theorem atc (m:Int) (s:fE) (fr:Bool) (b a:Int):aLb m s (xn m s fr b a).1 a:=by
 unfold xn
 repeat' split
 all_goals first
  |exact .inl rfl
  |exact .inr (.inl rfl)
  |exact .inr (.inr (.inl ⟨_,by unfold YR;decide,rfl⟩))
theorem alN (s:fE) (b a:Int):uf s b a=none\/ ∃k,YR k/\uf s b a=some ((k,a)::s):=by
 unfold uf
 repeat' split
 all_goals first
  |exact .inl rfl
  |exact .inr ⟨_,by unfold YR;decide,rfl⟩
theorem YH (m:Int) (s:fE) (fr:Bool) (b a:Int):aLb m s (iJ m s fr b a).1 a:=by
 unfold iJ;by_cases h1:m=0\/m=1\/m=2
 .simp_all [atc]
 .rw[aq h1];by_cases h2:m=13
  .rw[am h2];exact .inr (.inl rfl)
  .rw[aq h2];by_cases h3:m=4
   .rw[am h3];simp only;split
    .exact .inr (.inl rfl)
    .exact .inl rfl
   .rw[aq h3];by_cases h4:m=14
    .rw[am h4];split
     .exact .inr (.inl rfl)
     .exact .inl rfl
    .rw[aq h4];by_cases h5:m=6
     .rw[am h5];simp only;split
      .exact .inr (.inl rfl)
      .split
       .exact .inr (.inr (.inl ⟨13,by unfold YR;decide,rfl⟩))
       .exact .inl rfl
     .rw[aq h5];rcases alN s b a with e|⟨k,hk,e⟩
      .rw[e];simp only;by_cases h6:m=9\/m=10
       .rw[am h6];simp only;split
        .exact .inr (.inr (.inl ⟨10,by unfold YR;decide,rfl⟩))
        .split
         .split
          .exact .inr (.inl rfl)
          .exact .inr (.inr (.inr ⟨by omega,rfl⟩))
         .exact .inl rfl
       .rw[aq h6];simp only;split
        .split
         .exact .inr (.inl rfl)
         .exact .inr (.inr (.inl ⟨5,by unfold YR;decide,rfl⟩))
        .split
         .exact .inr (.inl rfl)
         .split
          .exact .inr (.inr (.inl ⟨4,by unfold YR;decide,rfl⟩))
          .exact .inl rfl
      .rw[e];exact .inr (.inr (.inl ⟨k,hk,rfl⟩))
theorem IZ {m:Int} {f:Int×Int} {r:fE} (hf:f.1=m) (fr:Bool) (b:Int) {a:Int} (j:0<=a) (h: ∀g∈f::r,MW a g): ∀g∈(iJ m (f::r) fr b a).1,MW (a+1) g:=by
 have i: ∀g∈f::r,MW (a+1) g:=fun g d=>(h g d).up;intro g d;rcases YH m (f::r) fr b a with e|e|⟨k,hk,e⟩|⟨l,e⟩<;>rw[e]at d
 .exact i g d
 .simp_all
 .rcases List.mem_cons.1 d with rfl|d
  .unfold MW;unfold YR at hk;simp only;omega
  .exact i g d
 .rcases List.mem_cons.1 d with rfl|d
  .simp_all [MW]
  simp_all
theorem awn {s:fE} (fr:Bool) (b:Int) {a:Int} (i:0<=a) (h: ∀g∈s,MW a g): ∀g∈(eQ s fr b a).1,MW (a+1) g:=by
 cases s with
 |nil=>intro g d;cases d
 |cons f r=>
  have q:=h f (az ..);have l: ∀g∈r,MW (a+1) g:=fun g d=>(h g (aj _ d)).up;have set: ∀k:Int,MW (a+1) (k,f.2)-> ∀g∈(k,f.2)::r,MW (a+1) g:=fun k hk g d=>by
   grind
  have j: ∀k:Int,MW a (k,f.2)-> ∀g∈(k,f.2)::r,MW a g:=fun k hk g d=>by
   grind
  unfold eQ;simp only;by_cases h12:f.1=12
  .rw[am h12];by_cases h40:b=40
   .rw[am h40];grind [MW]
   .rw[aq h40];by_cases h123:b=123
    .rw[am h123]
     grind [MW]
    .rw[aq h123];by_cases h36:b=36
     .simp_all
     .rw[aq h36];cases r with
      |nil=>
       intro g d;have m:=YH 0 [] fr b a;rw[show(([]:fE).headD (0,0)).1=0 from rfl]at d;rcases m with e|e|⟨k,hk,e⟩|⟨o,e⟩
       .simp_all
       .simp_all
       .rw[e,List.mem_singleton]at d;subst d;unfold MW;unfold YR at hk;simp only;omega
       .cases o
      |cons g r=>exact IZ rfl fr b i fun x p=>h x (aj _ p)
  .rw[aq h12];by_cases h3:f.1=3
   .rw[am h3];split
    .grind [MW]
    .exact IZ (f:=(1,f.2)) rfl fr b i (j 1 (by simp_all [MW]))
   .rw[aq h3];by_cases h11:f.1=11
    .rw[am h11];split
     .exact l
     .exact IZ (f:=(9,f.2)) rfl fr b i (j 9 (by simp_all [MW]))
    .rw[aq h11];exact IZ rfl fr b i h
theorem amR: ∀(l:bV) (a:Int) (x:fE×Bool),0<=a->(∀g∈x.1,MW a g)-> ∀g∈(gB l a x).1,MW (a+l.length) g
 |[],a,x,_,h=>by simpa [gB] using h
 |b::l,a,x,d,h=>by
  have:=amR l (a+1) (eQ x.1 x.2 (eX b) a) (by omega) (awn x.2 (eX b) d h)
  grind [gB]
theorem awo (w:bV): ∀g∈(gB w 0 dZ).1,MW w.length g:=by
 have:=amR w 0 dZ (by omega) fun g d=>by
  have:g=(0,0):=by simpa [dZ] using d
  subst this;exact .inl rfl
 simpa using this
end
section
open Option renaming some → a6, none → a7
open Bool renaming and_eq_true → af
open Nat renaming le_refl → ae, eq_of_beq_eq_true → ak, le_trans → aK, le_mul_of_pos_right → bH
open Tryz
open Go.RowKit Go.Shelf Go.Lib
def WG:Go.Shelf.Ren:=⟨fun|155=>81|154=>128|138=>171|165=>172|143=>173|166=>20|197=>174|169=>22|195=>221|218=>222|240=>39|241=>223|219=>224|260=>225|276=>77|277=>251|217=>236|225=>252|224=>253|267=>254|266=>261|314=>269|n=>n,fun|9=>9|3=>3|4=>4|72=>51|0=>0|76=>55|105=>207|21=>21|5=>5|70=>48|20=>20|37=>49|75=>53|127=>85|164=>122|46=>203|119=>238|139=>241|138=>240|146=>249|51=>201|80=>58|n=>n,fun|1=>3|3=>4|4=>5|n=>n⟩
theorem WF:Go.Proofs.Lays.n155 prog WG:={
 mixed:=by kernel_rfl
 f138:=func171.trans (congrArg a6 (by kernel_rfl))
 f143:=func173.trans (congrArg a6 (by kernel_rfl))
 f154:=func128.trans (congrArg a6 (by kernel_rfl))
 f155:=func81.trans (congrArg a6 (by kernel_rfl))
 f165:=func172.trans (congrArg a6 (by kernel_rfl))
 f166:=func20.trans (congrArg a6 (by kernel_rfl))
 f169:=func22.trans (congrArg a6 (by kernel_rfl))
 f195:=func221.trans (congrArg a6 (by kernel_rfl))
 f197:=func174.trans (congrArg a6 (by kernel_rfl))
 f217:=func236.trans (congrArg a6 (by kernel_rfl))
 f218:=func222.trans (congrArg a6 (by kernel_rfl))
 f219:=func224.trans (congrArg a6 (by kernel_rfl))
 f224:=func253.trans (congrArg a6 (by kernel_rfl))
 f225:=func252.trans (congrArg a6 (by kernel_rfl))
 f240:=func39.trans (congrArg a6 (by kernel_rfl))
 f241:=func223.trans (congrArg a6 (by kernel_rfl))
 f260:=func225.trans (congrArg a6 (by kernel_rfl))
 f266:=func261.trans (congrArg a6 (by kernel_rfl))
 f267:=func254.trans (congrArg a6 (by kernel_rfl))
 f276:=func77.trans (congrArg a6 (by kernel_rfl))
 f277:=func251.trans (congrArg a6 (by kernel_rfl))
 f314:=func269.trans (congrArg a6 (by kernel_rfl))
 t0:=underlying0
 a0:=isAgg0
 z0:=sizeOf0
 v0:=zeroValue0
 t3:=underlying3
 a3:=isAgg3
 z3:=sizeOf3
 v3:=zeroValue3
 t4:=underlying4
 a4:=isAgg4
 z4:=sizeOf4
 v4:=zeroValue4
 t5:=underlying5
 a5:=isAgg5
 z5:=sizeOf5
 v5:=zeroValue5
 t9:=underlying9
 a9:=isAgg9
 z9:=sizeOf9
 v9:=zeroValue9
 t20:=underlying20
 a20:=isAgg20
 z20:=sizeOf20
 v20:=zeroValue20
 t21:=underlying21
 a21:=isAgg21
 z21:=sizeOf21
 v21:=zeroValue21
 t37:=underlying49
 a37:=isAgg49
 z37:=sizeOf49
 v37:=zeroValue49
 t46:=underlying203
 a46:=isAgg203
 z46:=sizeOf203
 v46:=zeroValue203
 t51:=underlying201
 a51:=isAgg201
 z51:=sizeOf201
 v51:=zeroValue201
 t70:=underlying48
 a70:=isAgg48
 z70:=sizeOf48
 v70:=zeroValue48
 t72:=underlying51
 a72:=isAgg51
 z72:=sizeOf51
 v72:=zeroValue51
 t75:=underlying53
 a75:=isAgg53
 z75:=sizeOf53
 v75:=zeroValue53
 t76:=underlying55
 a76:=isAgg55
 z76:=sizeOf55
 v76:=zeroValue55
 t105:=underlying207
 a105:=isAgg207
 z105:=sizeOf207
 v105:=zeroValue207
 t119:=underlying238
 a119:=isAgg238
 z119:=sizeOf238
 t127:=underlying85
 a127:=isAgg85
 z127:=sizeOf85
 v127:=zeroValue85
 t138:=underlying240
 a138:=isAgg240
 z138:=sizeOf240
 v138:=zeroValue240
 t139:=underlying241
 a139:=isAgg241
 z139:=sizeOf241
 v139:=zeroValue241
 t146:=underlying249
 a146:=isAgg249
 z146:=sizeOf249
 v146:=zeroValue249
 t164:=underlying122
 a164:=isAgg122
 z164:=sizeOf122
 v164:=zeroValue122
 g1:=by kernel_rfl
 g3:=by kernel_rfl
 g4:=by kernel_rfl}
theorem aBB:Builder.Extra prog WG where
 sizeBuilder:=by kernel_rfl
 liesBuilder:=by kernel_rfl
 t5:=WF.t5
 a5:=WF.a5
 z5:=WF.z5
 v5:=WF.v5
 infoByte:=by kernel_rfl
 cellsByte:=by kernel_rfl
 sizeByte:=by kernel_rfl
 neB5:=by decide
def aaz (s d new:List UInt8):Option (List UInt8×Unit):=cond (decide (s.length<4294967281)&&decide (1<=d.length)&&decide (s.length+s.length*new.length<=140737488355328)) (a6 (Lib.replaceAll s d new,())) a7
def aAF:Sum:=⟨[.str,.str,.str],[(.str,false)],fun x=>aaz x.1 x.2.1 x.2.2.1⟩
theorem ais:dU prog 81 aAF:=by
 intro w j o x y i p q f;obtain⟨u,Y,s,v,z,Z,A,B,D,E,G,I,J⟩:=q;obtain rfl:E=[]:=J;subst G A;have K:o= #[u,z,D]:=by
  apply Array.ext';simpa using s
 subst K;have L:=v.str_inv;have M:=B.str_inv;have N:=I.str_inv;subst L M N;have f:aaz x.1 x.2.1 x.2.2.1=a6 y:=f;unfold aaz at f;obtain⟨g,f⟩:=dL f;simp only[af,decide_eq_true_eq]at g;cases f;obtain⟨m,O⟩:=i.2;have d: ∀l:List UInt8,(⟨l.toArray⟩:ByteArray).size=l.length:=fun l=>by simp[ByteArray.size]
 have S:Lib.countB ⟨x.1.toArray⟩ ⟨x.2.1.toArray⟩<=x.1.length:=by
  have:=Lib.countB_mul_le (⟨x.2.1.toArray⟩:ByteArray) (by rw[d];exact g.1.2) (⟨x.1.toArray⟩:ByteArray).size ⟨x.1.toArray⟩ (ae _);rw[d,d]at this;exact aK (bH _ (by omega)) this
 have U:=Any.strings_ReplaceAll WF aBB ⟨x.1.toArray⟩ ⟨x.2.1.toArray⟩ ⟨x.2.2.1.toArray⟩ m w (by rw[d];exact g.1.1) O (by rw[d];exact g.1.2)
  (by rw[d,d];have:=Nat.mul_le_mul_right x.2.2.1.length S;omega)
 refine .inl ⟨EJ Xk func81 (show f81.body=a6 ((f81.body).getD .skip) by kernel_rfl) _ _,U.mono fun e V ⟨W,X⟩=> ?_⟩;refine⟨(lu w j).at_ V,[.string ⟨(Lib.replaceAll x.1 x.2.1 x.2.2.1).toArray⟩],W,rfl,(Vs i p).ext X,rfl,rfl,rfl, ?_⟩;simp only[aAF,qQ,bQ,dh,and_true];exact VD.str_mk
noncomputable def sg2 (g:FuncId):Option Sum:=cond (Nat.beq g 81) (a6 aAF)<|sg1 g
theorem aOA: ∀g s,sg2 g=a6 s->dU prog g s:=fun g s h=>by
 unfold sg2 at h;rw[cond_eq_ite]at h;split at h
 .rename_i d
  obtain rfl:g=81:=ak d;cases h;exact ais
 exact alq g s h
end
end Go.Proofs.YtkichehglnecnaaGreatDoor
