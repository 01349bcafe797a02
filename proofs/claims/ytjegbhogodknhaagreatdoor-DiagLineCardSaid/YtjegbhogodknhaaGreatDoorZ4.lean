/- Parts of the proof, joined and shortened by a program: the plain machine, the functions as it prints them, and the mathematics over them. -/
import Derived.Ground.NamesProg
import Derived.Shelf.Strconv.Itoa3
import Derived.Shelf.Strings.Replace
import Derived.Test.YtjegbhogodknhaaGreatDoorZ3
set_option linter.unusedVariables false
set_option linter.unusedSimpArgs false
set_option maxRecDepth 100000
set_option maxHeartbeats 4000000
namespace Go.Proofs.YtjegbhogodknhaaGreatDoor
section
open Option renaming some → a6, none → a7
open Bool renaming and_eq_true → ah
open Nat renaming le_refl → af, eq_of_beq_eq_true → ax, le_trans → aK, le_mul_of_pos_right → bP
open Tryz
open Go.RowKit Go.Shelf Go.Lib
def ZW:Go.Shelf.Ren:=⟨fun|171=>21|243=>42|246=>68|283=>88|284=>89|285=>90|286=>91|129=>119|317=>118|318=>120|319=>121|320=>122|337=>156|338=>157|n=>n,fun|3=>3|9=>9|2=>2|4=>4|171=>122|0=>0|53=>123|37=>126|5=>5|173=>127|212=>157|51=>158|20=>20|213=>159|46=>154|232=>196|233=>197|n=>n,fun|17=>0|18=>1|19=>2|n=>n⟩
theorem asq:Go.Proofs.LaysM.n171 prog ZW:={
 mixed:=by kernel_rfl
 f129:=func119.trans (congrArg a6 (by kernel_rfl))
 f171:=func21.trans (congrArg a6 (by kernel_rfl))
 f243:=func42.trans (congrArg a6 (by kernel_rfl))
 f246:=func68.trans (congrArg a6 (by kernel_rfl))
 f283:=func88.trans (congrArg a6 (by kernel_rfl))
 f284:=func89.trans (congrArg a6 (by kernel_rfl))
 f285:=func90.trans (congrArg a6 (by kernel_rfl))
 f286:=func91.trans (congrArg a6 (by kernel_rfl))
 f317:=func118.trans (congrArg a6 (by kernel_rfl))
 f318:=func120.trans (congrArg a6 (by kernel_rfl))
 f319:=func121.trans (congrArg a6 (by kernel_rfl))
 f320:=func122.trans (congrArg a6 (by kernel_rfl))
 f337:=func156.trans (congrArg a6 (by kernel_rfl))
 f338:=func157.trans (congrArg a6 (by kernel_rfl))
 t0:=underlying0
 a0:=isAgg0
 z0:=sizeOf0
 v0:=zeroValue0
 t2:=underlying2
 a2:=isAgg2
 z2:=sizeOf2
 v2:=zeroValue2
 t3:=underlying3
 a3:=isAgg3
 z3:=sizeOf3
 v3:=zeroValue3
 t4:=underlying4
 a4:=isAgg4
 z4:=sizeOf4
 v4:=zeroValue4
 t5:=underlying5
 a5:=isAgg5
 z5:=sizeOf5
 v5:=zeroValue5
 t9:=underlying9
 a9:=isAgg9
 z9:=sizeOf9
 v9:=zeroValue9
 t20:=underlying20
 a20:=isAgg20
 z20:=sizeOf20
 v20:=zeroValue20
 t37:=underlying126
 a37:=isAgg126
 z37:=sizeOf126
 v37:=zeroValue126
 t46:=underlying154
 a46:=isAgg154
 z46:=sizeOf154
 v46:=zeroValue154
 t51:=underlying158
 a51:=isAgg158
 z51:=sizeOf158
 v51:=zeroValue158
 t53:=underlying123
 a53:=isAgg123
 z53:=sizeOf123
 v53:=zeroValue123
 t171:=underlying122
 a171:=isAgg122
 z171:=sizeOf122
 v171:=zeroValue122
 t173:=underlying127
 a173:=isAgg127
 z173:=sizeOf127
 v173:=zeroValue127
 t212:=underlying157
 a212:=isAgg157
 z212:=sizeOf157
 v212:=zeroValue157
 t213:=underlying159
 a213:=isAgg159
 z213:=sizeOf159
 t232:=underlying196
 a232:=isAgg196
 z232:=sizeOf196
 v232:=zeroValue196
 t233:=underlying197
 a233:=isAgg197
 z233:=sizeOf197
 v233:=zeroValue197
 g17:=by kernel_rfl
 g18:=by kernel_rfl
 g19:=by kernel_rfl
 i0:=by kernel_rfl
 i2:=by kernel_rfl
 i3:=by kernel_rfl
 i4:=by kernel_rfl
 i5:=by kernel_rfl
 i9:=by kernel_rfl
 i20:=by kernel_rfl
 i37:=by kernel_rfl
 i46:=by kernel_rfl
 i51:=by kernel_rfl
 i53:=by kernel_rfl
 i171:=by kernel_rfl
 i173:=by kernel_rfl
 i212:=by kernel_rfl
 i232:=by kernel_rfl
 i233:=by kernel_rfl
 m17:=by kernel_rfl
 m18:=by kernel_rfl
 m19:=by kernel_rfl}
def Ux:Go.Shelf.Ren:=⟨fun|155=>115|154=>154|138=>184|165=>185|143=>186|166=>110|197=>187|169=>114|195=>217|218=>218|240=>151|241=>219|219=>220|260=>221|276=>181|277=>247|217=>169|225=>248|224=>249|267=>250|266=>209|314=>260|n=>n,fun|9=>9|3=>3|4=>4|72=>146|0=>0|76=>149|105=>194|21=>21|5=>5|70=>144|20=>20|37=>126|75=>148|127=>173|164=>190|46=>154|119=>231|139=>234|138=>233|146=>238|51=>158|80=>152|n=>n,fun|1=>3|3=>4|4=>5|n=>n⟩
theorem Uw:Go.Proofs.Lays.n155 prog Ux:={
 mixed:=by kernel_rfl
 f138:=func184.trans (congrArg a6 (by kernel_rfl))
 f143:=func186.trans (congrArg a6 (by kernel_rfl))
 f154:=func154.trans (congrArg a6 (by kernel_rfl))
 f155:=func115.trans (congrArg a6 (by kernel_rfl))
 f165:=func185.trans (congrArg a6 (by kernel_rfl))
 f166:=func110.trans (congrArg a6 (by kernel_rfl))
 f169:=func114.trans (congrArg a6 (by kernel_rfl))
 f195:=func217.trans (congrArg a6 (by kernel_rfl))
 f197:=func187.trans (congrArg a6 (by kernel_rfl))
 f217:=func169.trans (congrArg a6 (by kernel_rfl))
 f218:=func218.trans (congrArg a6 (by kernel_rfl))
 f219:=func220.trans (congrArg a6 (by kernel_rfl))
 f224:=func249.trans (congrArg a6 (by kernel_rfl))
 f225:=func248.trans (congrArg a6 (by kernel_rfl))
 f240:=func151.trans (congrArg a6 (by kernel_rfl))
 f241:=func219.trans (congrArg a6 (by kernel_rfl))
 f260:=func221.trans (congrArg a6 (by kernel_rfl))
 f266:=func209.trans (congrArg a6 (by kernel_rfl))
 f267:=func250.trans (congrArg a6 (by kernel_rfl))
 f276:=func181.trans (congrArg a6 (by kernel_rfl))
 f277:=func247.trans (congrArg a6 (by kernel_rfl))
 f314:=func260.trans (congrArg a6 (by kernel_rfl))
 t0:=underlying0
 a0:=isAgg0
 z0:=sizeOf0
 v0:=zeroValue0
 t3:=underlying3
 a3:=isAgg3
 z3:=sizeOf3
 v3:=zeroValue3
 t4:=underlying4
 a4:=isAgg4
 z4:=sizeOf4
 v4:=zeroValue4
 t5:=underlying5
 a5:=isAgg5
 z5:=sizeOf5
 v5:=zeroValue5
 t9:=underlying9
 a9:=isAgg9
 z9:=sizeOf9
 v9:=zeroValue9
 t20:=underlying20
 a20:=isAgg20
 z20:=sizeOf20
 v20:=zeroValue20
 t21:=underlying21
 a21:=isAgg21
 z21:=sizeOf21
 v21:=zeroValue21
 t37:=underlying126
 a37:=isAgg126
 z37:=sizeOf126
 v37:=zeroValue126
 t46:=underlying154
 a46:=isAgg154
 z46:=sizeOf154
 v46:=zeroValue154
 t51:=underlying158
 a51:=isAgg158
 z51:=sizeOf158
 v51:=zeroValue158
 t70:=underlying144
 a70:=isAgg144
 z70:=sizeOf144
 v70:=zeroValue144
 t72:=underlying146
 a72:=isAgg146
 z72:=sizeOf146
 v72:=zeroValue146
 t75:=underlying148
 a75:=isAgg148
 z75:=sizeOf148
 v75:=zeroValue148
 t76:=underlying149
 a76:=isAgg149
 z76:=sizeOf149
 v76:=zeroValue149
 t105:=underlying194
 a105:=isAgg194
 z105:=sizeOf194
 v105:=zeroValue194
 t119:=underlying231
 a119:=isAgg231
 z119:=sizeOf231
 t127:=underlying173
 a127:=isAgg173
 z127:=sizeOf173
 v127:=zeroValue173
 t138:=underlying233
 a138:=isAgg233
 z138:=sizeOf233
 v138:=zeroValue233
 t139:=underlying234
 a139:=isAgg234
 z139:=sizeOf234
 v139:=zeroValue234
 t146:=underlying238
 a146:=isAgg238
 z146:=sizeOf238
 v146:=zeroValue238
 t164:=underlying190
 a164:=isAgg190
 z164:=sizeOf190
 v164:=zeroValue190
 g1:=by kernel_rfl
 g3:=by kernel_rfl
 g4:=by kernel_rfl}
def apT:Nat->Nat->List UInt8
 |0,_=>[]
 |f+1,u=>bif Nat.blt u 10 then [UInt8.ofNat (48+u)]else apT f (u/10)++[UInt8.ofNat (48+u %10)]
theorem Zc: ∀(f u:Nat),0<f->u<10^f->apT f u=Lib.decDigits u
 |0,u,h,_=>by omega
 |f+1,u,_,h=>by
  rw[apT,Lib.decDigits];by_cases hu:u<10
  .rw[dif_pos hu,show Nat.blt u 10=true from by simpa [Nat.blt_eq] using hu,aa]
  .rw[dif_neg hu,show Nat.blt u 10=false from Bool.eq_false_iff.2 (by simpa [Nat.blt_eq] using hu),ac];have d:0<f:=by
    rcases Nat.eq_zero_or_pos f with e|e
    .subst e;simp at h;omega
    .exact e
   rw[Zc f (u/10) d (by rw[Nat.pow_succ]at h;omega)]
def arJ (n:Int):List UInt8:=cond (decide (n<0)) (45::apT 20 n.natAbs)<|apT 20 n.toNat
theorem arK {n:Int} (e: -9223372036854775808<=n) (h2:n<=9223372036854775807):arJ n=Lib.itoa n:=by
 have d:(10:Nat)^20=100000000000000000000:=by decide
 unfold arJ Lib.itoa;rw[Zc 20 _ (by omega) (by rw[d];omega),Zc 20 _ (by omega) (by rw[d];omega)];by_cases h:n<0
 .rw[am h,decide_eq_true h];rfl
 .rw[aq h,decide_eq_false h];rfl
def arI (n:Int):Option (List UInt8×Unit):=cond (decide (-9223372036854775808<=n)&&decide (n<=9223372036854775807)) (a6 (arJ n,())) a7
def acL:Sum:=⟨[.int .i64],[(.str,false)],fun x=>arI x.1⟩
theorem aBr: ∀(k:Nat) (w:World),(w.drewN k).heap=w.heap:=fun k w=>rfl
theorem aig:eX prog 21 acL:=by
 intro w l m x y g p q f;obtain⟨u,v,z,A,B⟩:=q;obtain rfl:v=[]:=B;have D:m= #[u]:=by
  apply Array.ext';simpa using z
 subst D;have I:=A.int_inv;subst I;have f:arI x.1=a6 y:=f;unfold arI at f;obtain⟨d,f⟩:=dQ f;simp only[ah,decide_eq_true_eq]at d;cases f;rw[arK d.1 d.2];have J:=Any.strconv_Itoa asq x.1 d.1 d.2 w g.1;refine .inl ⟨xE Qi func21 (show f21.body=a6 ((f21.body).getD .skip) by kernel_rfl) _ _,J.mono fun e i ⟨K,k,j,L⟩=> ?_⟩;have M:Below w.heap.size w i:=by
  subst L;refine⟨rfl,rfl,rfl, ?_,fun b d=> ?_⟩
  .show w.heap.size<=(w.heap++j).size;simp
  .show(w.heap++j)[b]? =w.heap[b]?;exact Array.getElem?_append_left d
 refine⟨(lQ w l).at_ i,[.string ⟨(Lib.itoa x.1).toArray⟩],K,rfl,(Kt g p).ext M,rfl,rfl,rfl, ?_⟩;simp only[acL,qN,bW,dh,and_true];exact VD.str_mk
theorem awX:Builder.Extra prog Ux where
 sizeBuilder:=by kernel_rfl
 liesBuilder:=by kernel_rfl
 t5:=Uw.t5
 a5:=Uw.a5
 z5:=Uw.z5
 v5:=Uw.v5
 infoByte:=by kernel_rfl
 cellsByte:=by kernel_rfl
 sizeByte:=by kernel_rfl
 neB5:=by decide
def atU (s d new:List UInt8):Option (List UInt8×Unit):=cond (decide (s.length<4294967281)&&decide (1<=d.length)&&decide (s.length+s.length*new.length<=140737488355328)) (a6 (Lib.replaceAll s d new,())) a7
def avR:Sum:=⟨[.str,.str,.str],[(.str,false)],fun x=>atU x.1 x.2.1 x.2.2.1⟩
theorem avS:eX prog 115 avR:=by
 intro w j p x y i q v f;obtain⟨u,ad,z,A,B,ae,D,I,J,K,L,M,N⟩:=v;obtain rfl:K=[]:=N;subst L D;have O:p= #[u,B,J]:=by
  apply Array.ext';simpa using z
 subst O;have S:=A.str_inv;have U:=I.str_inv;have V:=M.str_inv;subst S U V;have f:atU x.1 x.2.1 x.2.2.1=a6 y:=f;unfold atU at f;obtain⟨g,f⟩:=dQ f;simp only[ah,decide_eq_true_eq]at g;cases f;obtain⟨m,W⟩:=i.2;have d: ∀l:List UInt8,(⟨l.toArray⟩:ByteArray).size=l.length:=fun l=>by simp[ByteArray.size]
 have X:Lib.countB ⟨x.1.toArray⟩ ⟨x.2.1.toArray⟩<=x.1.length:=by
  have:=Lib.countB_mul_le (⟨x.2.1.toArray⟩:ByteArray) (by rw[d];exact g.1.2) (⟨x.1.toArray⟩:ByteArray).size ⟨x.1.toArray⟩ (af _);rw[d,d]at this;exact aK (bP _ (by omega)) this
 have Y:=Any.strings_ReplaceAll Uw awX ⟨x.1.toArray⟩ ⟨x.2.1.toArray⟩ ⟨x.2.2.1.toArray⟩ m w (by rw[d];exact g.1.1) W (by rw[d];exact g.1.2)
  (by rw[d,d];have:=Nat.mul_le_mul_right x.2.2.1.length X;omega)
 refine .inl ⟨xE Qi func115 (show f115.body=a6 ((f115.body).getD .skip) by kernel_rfl) _ _,Y.mono fun e Z ⟨he,ab⟩=> ?_⟩;refine⟨(lQ w j).at_ Z,[.string ⟨(Lib.replaceAll x.1 x.2.1 x.2.2.1).toArray⟩],he,rfl,(Kt i q).ext ab,rfl,rfl,rfl, ?_⟩;simp only[avR,qN,bW,dh,and_true];exact VD.str_mk
noncomputable def sg2 (g:FuncId):Option Sum:=cond (Nat.beq g 21) (a6 acL)<|cond (Nat.beq g 115) (a6 avR)<|sg1 g
theorem aDV: ∀g s,sg2 g=a6 s->eX prog g s:=fun g s h=>by
 unfold sg2 at h;rw[cond_eq_ite]at h;split at h
 .rename_i d
  obtain rfl:g=21:=ax d;cases h;exact aig
 rw[cond_eq_ite]at h;split at h
 .rename_i d
  obtain rfl:g=115:=ax d;cases h;exact avS
 exact auC g s h
end
end Go.Proofs.YtjegbhogodknhaaGreatDoor
