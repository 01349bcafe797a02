/- Parts of the proof, joined and shortened by a program: the plain machine, the functions as it prints them, and the mathematics over them. -/
import Derived.Ground.NamesProg
import Derived.Shelf.Strconv.Itoa3
import Derived.Shelf.Strings.Replace
import Derived.Test.YtkichehglnecnaaGreatDoorY3
set_option linter.unusedVariables false
set_option linter.unusedSimpArgs false
set_option maxRecDepth 100000
set_option maxHeartbeats 4000000
namespace Go.Proofs.YtkichehglnecnaaGreatDoor
section
open Option renaming some → a6, none → a7
open Bool renaming and_eq_true → af
open Nat renaming le_refl → ae, eq_of_beq_eq_true → aj, le_trans → aG, le_mul_of_pos_right → bC
open Tryz
open Go.RowKit Go.Shelf Go.Lib
def YN:Go.Shelf.Ren:=⟨fun|171=>21|243=>40|246=>78|283=>121|284=>122|285=>123|286=>124|129=>165|317=>164|318=>166|319=>167|320=>168|337=>219|338=>220|n=>n,fun|3=>3|9=>9|2=>2|4=>4|171=>160|0=>0|53=>161|37=>49|5=>5|173=>164|212=>200|51=>201|20=>20|213=>202|46=>203|232=>235|233=>236|n=>n,fun|17=>0|18=>1|19=>2|n=>n⟩
theorem ar6:Go.Proofs.LaysM.n171 prog YN:={
 mixed:=by kernel_rfl
 f129:=func165.trans (congrArg a6 (by kernel_rfl))
 f171:=func21.trans (congrArg a6 (by kernel_rfl))
 f243:=func40.trans (congrArg a6 (by kernel_rfl))
 f246:=func78.trans (congrArg a6 (by kernel_rfl))
 f283:=func121.trans (congrArg a6 (by kernel_rfl))
 f284:=func122.trans (congrArg a6 (by kernel_rfl))
 f285:=func123.trans (congrArg a6 (by kernel_rfl))
 f286:=func124.trans (congrArg a6 (by kernel_rfl))
 f317:=func164.trans (congrArg a6 (by kernel_rfl))
 f318:=func166.trans (congrArg a6 (by kernel_rfl))
 f319:=func167.trans (congrArg a6 (by kernel_rfl))
 f320:=func168.trans (congrArg a6 (by kernel_rfl))
 f337:=func219.trans (congrArg a6 (by kernel_rfl))
 f338:=func220.trans (congrArg a6 (by kernel_rfl))
 t0:=underlying0
 a0:=isAgg0
 z0:=sizeOf0
 v0:=zeroValue0
 t2:=underlying2
 a2:=isAgg2
 z2:=sizeOf2
 v2:=zeroValue2
 t3:=underlying3
 a3:=isAgg3
 z3:=sizeOf3
 v3:=zeroValue3
 t4:=underlying4
 a4:=isAgg4
 z4:=sizeOf4
 v4:=zeroValue4
 t5:=underlying5
 a5:=isAgg5
 z5:=sizeOf5
 v5:=zeroValue5
 t9:=underlying9
 a9:=isAgg9
 z9:=sizeOf9
 v9:=zeroValue9
 t20:=underlying20
 a20:=isAgg20
 z20:=sizeOf20
 v20:=zeroValue20
 t37:=underlying49
 a37:=isAgg49
 z37:=sizeOf49
 v37:=zeroValue49
 t46:=underlying203
 a46:=isAgg203
 z46:=sizeOf203
 v46:=zeroValue203
 t51:=underlying201
 a51:=isAgg201
 z51:=sizeOf201
 v51:=zeroValue201
 t53:=underlying161
 a53:=isAgg161
 z53:=sizeOf161
 v53:=zeroValue161
 t171:=underlying160
 a171:=isAgg160
 z171:=sizeOf160
 v171:=zeroValue160
 t173:=underlying164
 a173:=isAgg164
 z173:=sizeOf164
 v173:=zeroValue164
 t212:=underlying200
 a212:=isAgg200
 z212:=sizeOf200
 v212:=zeroValue200
 t213:=underlying202
 a213:=isAgg202
 z213:=sizeOf202
 t232:=underlying235
 a232:=isAgg235
 z232:=sizeOf235
 v232:=zeroValue235
 t233:=underlying236
 a233:=isAgg236
 z233:=sizeOf236
 v233:=zeroValue236
 g17:=by kernel_rfl
 g18:=by kernel_rfl
 g19:=by kernel_rfl
 i0:=by kernel_rfl
 i2:=by kernel_rfl
 i3:=by kernel_rfl
 i4:=by kernel_rfl
 i5:=by kernel_rfl
 i9:=by kernel_rfl
 i20:=by kernel_rfl
 i37:=by kernel_rfl
 i46:=by kernel_rfl
 i51:=by kernel_rfl
 i53:=by kernel_rfl
 i171:=by kernel_rfl
 i173:=by kernel_rfl
 i212:=by kernel_rfl
 i232:=by kernel_rfl
 i233:=by kernel_rfl
 m17:=by kernel_rfl
 m18:=by kernel_rfl
 m19:=by kernel_rfl}
def SC:Go.Shelf.Ren:=⟨fun|155=>81|154=>128|138=>171|165=>172|143=>173|166=>20|197=>174|169=>22|195=>221|218=>222|240=>39|241=>223|219=>224|260=>225|276=>77|277=>251|217=>236|225=>252|224=>253|267=>254|266=>261|314=>269|n=>n,fun|9=>9|3=>3|4=>4|72=>51|0=>0|76=>55|105=>207|21=>21|5=>5|70=>48|20=>20|37=>49|75=>53|127=>85|164=>122|46=>203|119=>238|139=>241|138=>240|146=>249|51=>201|80=>58|n=>n,fun|1=>3|3=>4|4=>5|n=>n⟩
theorem SB:Go.Proofs.Lays.n155 prog SC:={
 mixed:=by kernel_rfl
 f138:=func171.trans (congrArg a6 (by kernel_rfl))
 f143:=func173.trans (congrArg a6 (by kernel_rfl))
 f154:=func128.trans (congrArg a6 (by kernel_rfl))
 f155:=func81.trans (congrArg a6 (by kernel_rfl))
 f165:=func172.trans (congrArg a6 (by kernel_rfl))
 f166:=func20.trans (congrArg a6 (by kernel_rfl))
 f169:=func22.trans (congrArg a6 (by kernel_rfl))
 f195:=func221.trans (congrArg a6 (by kernel_rfl))
 f197:=func174.trans (congrArg a6 (by kernel_rfl))
 f217:=func236.trans (congrArg a6 (by kernel_rfl))
 f218:=func222.trans (congrArg a6 (by kernel_rfl))
 f219:=func224.trans (congrArg a6 (by kernel_rfl))
 f224:=func253.trans (congrArg a6 (by kernel_rfl))
 f225:=func252.trans (congrArg a6 (by kernel_rfl))
 f240:=func39.trans (congrArg a6 (by kernel_rfl))
 f241:=func223.trans (congrArg a6 (by kernel_rfl))
 f260:=func225.trans (congrArg a6 (by kernel_rfl))
 f266:=func261.trans (congrArg a6 (by kernel_rfl))
 f267:=func254.trans (congrArg a6 (by kernel_rfl))
 f276:=func77.trans (congrArg a6 (by kernel_rfl))
 f277:=func251.trans (congrArg a6 (by kernel_rfl))
 f314:=func269.trans (congrArg a6 (by kernel_rfl))
 t0:=underlying0
 a0:=isAgg0
 z0:=sizeOf0
 v0:=zeroValue0
 t3:=underlying3
 a3:=isAgg3
 z3:=sizeOf3
 v3:=zeroValue3
 t4:=underlying4
 a4:=isAgg4
 z4:=sizeOf4
 v4:=zeroValue4
 t5:=underlying5
 a5:=isAgg5
 z5:=sizeOf5
 v5:=zeroValue5
 t9:=underlying9
 a9:=isAgg9
 z9:=sizeOf9
 v9:=zeroValue9
 t20:=underlying20
 a20:=isAgg20
 z20:=sizeOf20
 v20:=zeroValue20
 t21:=underlying21
 a21:=isAgg21
 z21:=sizeOf21
 v21:=zeroValue21
 t37:=underlying49
 a37:=isAgg49
 z37:=sizeOf49
 v37:=zeroValue49
 t46:=underlying203
 a46:=isAgg203
 z46:=sizeOf203
 v46:=zeroValue203
 t51:=underlying201
 a51:=isAgg201
 z51:=sizeOf201
 v51:=zeroValue201
 t70:=underlying48
 a70:=isAgg48
 z70:=sizeOf48
 v70:=zeroValue48
 t72:=underlying51
 a72:=isAgg51
 z72:=sizeOf51
 v72:=zeroValue51
 t75:=underlying53
 a75:=isAgg53
 z75:=sizeOf53
 v75:=zeroValue53
 t76:=underlying55
 a76:=isAgg55
 z76:=sizeOf55
 v76:=zeroValue55
 t105:=underlying207
 a105:=isAgg207
 z105:=sizeOf207
 v105:=zeroValue207
 t119:=underlying238
 a119:=isAgg238
 z119:=sizeOf238
 t127:=underlying85
 a127:=isAgg85
 z127:=sizeOf85
 v127:=zeroValue85
 t138:=underlying240
 a138:=isAgg240
 z138:=sizeOf240
 v138:=zeroValue240
 t139:=underlying241
 a139:=isAgg241
 z139:=sizeOf241
 v139:=zeroValue241
 t146:=underlying249
 a146:=isAgg249
 z146:=sizeOf249
 v146:=zeroValue249
 t164:=underlying122
 a164:=isAgg122
 z164:=sizeOf122
 v164:=zeroValue122
 g1:=by kernel_rfl
 g3:=by kernel_rfl
 g4:=by kernel_rfl}
def Jo:Nat->Nat->List UInt8
 |0,_=>[]
 |f+1,u=>bif Nat.blt u 10 then [UInt8.ofNat (48+u)]else Jo f (u/10)++[UInt8.ofNat (48+u %10)]
theorem XZ: ∀(f u:Nat),0<f->u<10^f->Jo f u=Lib.decDigits u
 |0,u,h,_=>by omega
 |f+1,u,_,h=>by
  rw[Jo,Lib.decDigits];by_cases hu:u<10
  .rw[dif_pos hu,show Nat.blt u 10=true from by simpa [Nat.blt_eq] using hu,aa]
  .rw[dif_neg hu,show Nat.blt u 10=false from Bool.eq_false_iff.2 (by simpa [Nat.blt_eq] using hu),ac];have d:0<f:=by
    rcases Nat.eq_zero_or_pos f with e|e
    .subst e;simp at h;omega
    .exact e
   rw[XZ f (u/10) d (by rw[Nat.pow_succ]at h;omega)]
def aiy (n:Int):List UInt8:=cond (decide (n<0)) (45::Jo 20 n.natAbs)<|Jo 20 n.toNat
theorem arn {n:Int} (e: -9223372036854775808<=n) (h2:n<=9223372036854775807):aiy n=Lib.itoa n:=by
 have d:(10:Nat)^20=100000000000000000000:=by decide
 unfold aiy Lib.itoa;rw[XZ 20 _ (by omega) (by rw[d];omega),XZ 20 _ (by omega) (by rw[d];omega)];by_cases h:n<0
 .rw[am h,decide_eq_true h];rfl
 .rw[aq h,decide_eq_false h];rfl
def Sm (n:Int):Option (List UInt8×Unit):=cond (decide (-9223372036854775808<=n)&&decide (n<=9223372036854775807)) (a6 (aiy n,())) a7
def QI:Sum:=⟨[.int .i64],[(.str,false)],fun x=>Sm x.1⟩
theorem aBh: ∀(k:Nat) (w:World),(w.drewN k).heap=w.heap:=fun k w=>rfl
theorem UG:dK prog 21 QI:=by
 intro w j l x y g m o f;obtain⟨u,p,q,s,v⟩:=o;obtain rfl:p=[]:=v;have z:l= #[u]:=by
  apply Array.ext';simpa using q
 subst z;have A:=s.int_inv;subst A;have f:Sm x.1=a6 y:=f;unfold Sm at f;obtain⟨d,f⟩:=dB f;simp only[af,decide_eq_true_eq]at d;cases f;rw[arn d.1 d.2];have B:=Any.strconv_Itoa ar6 x.1 d.1 d.2 w g.1;refine .inl ⟨qQ KC func21 (show f21.body=a6 ((f21.body).getD .skip) by kernel_rfl) _ _,B.mono fun e h ⟨D,k,i,E⟩=> ?_⟩;have G:Below w.heap.size w h:=by
  subst E;refine⟨rfl,rfl,rfl, ?_,fun b d=> ?_⟩
  .show w.heap.size<=(w.heap++i).size;simp
  .show(w.heap++i)[b]? =w.heap[b]?;exact Array.getElem?_append_left d
 refine⟨(jM w j).at_ h,[.string ⟨(Lib.itoa x.1).toArray⟩],D,rfl,(Jg g m).ext G,rfl,rfl,rfl, ?_⟩;simp only[QI,ou,bH,bP,and_true];exact VD.str_mk
theorem awi:Builder.Extra prog SC where
 sizeBuilder:=by kernel_rfl
 liesBuilder:=by kernel_rfl
 t5:=SB.t5
 a5:=SB.a5
 z5:=SB.z5
 v5:=SB.v5
 infoByte:=by kernel_rfl
 cellsByte:=by kernel_rfl
 sizeByte:=by kernel_rfl
 neB5:=by decide
def atu (s d new:List UInt8):Option (List UInt8×Unit):=cond (decide (s.length<4294967281)&&decide (1<=d.length)&&decide (s.length+s.length*new.length<=140737488355328)) (a6 (Lib.replaceAll s d new,())) a7
def avn:Sum:=⟨[.str,.str,.str],[(.str,false)],fun x=>atu x.1 x.2.1 x.2.2.1⟩
theorem avo:dK prog 81 avn:=by
 intro w i j x y h o p f;obtain⟨u,X,q,s,v,Y,z,A,B,D,E,G,I⟩:=p;obtain rfl:D=[]:=I;subst E z;have J:j= #[u,v,B]:=by
  apply Array.ext';simpa using q
 subst J;have K:=s.str_inv;have L:=A.str_inv;have M:=G.str_inv;subst K L M;have f:atu x.1 x.2.1 x.2.2.1=a6 y:=f;unfold atu at f;obtain⟨g,f⟩:=dB f;simp only[af,decide_eq_true_eq]at g;cases f;obtain⟨m,N⟩:=h.2;have d: ∀l:List UInt8,(⟨l.toArray⟩:ByteArray).size=l.length:=fun l=>by simp[ByteArray.size]
 have O:Lib.countB ⟨x.1.toArray⟩ ⟨x.2.1.toArray⟩<=x.1.length:=by
  have:=Lib.countB_mul_le (⟨x.2.1.toArray⟩:ByteArray) (by rw[d];exact g.1.2) (⟨x.1.toArray⟩:ByteArray).size ⟨x.1.toArray⟩ (ae _);rw[d,d]at this;exact aG (bC _ (by omega)) this
 have S:=Any.strings_ReplaceAll SB awi ⟨x.1.toArray⟩ ⟨x.2.1.toArray⟩ ⟨x.2.2.1.toArray⟩ m w (by rw[d];exact g.1.1) N (by rw[d];exact g.1.2)
  (by rw[d,d];have:=Nat.mul_le_mul_right x.2.2.1.length O;omega)
 refine .inl ⟨qQ KC func81 (show f81.body=a6 ((f81.body).getD .skip) by kernel_rfl) _ _,S.mono fun e U ⟨V,W⟩=> ?_⟩;refine⟨(jM w i).at_ U,[.string ⟨(Lib.replaceAll x.1 x.2.1 x.2.2.1).toArray⟩],V,rfl,(Jg h o).ext W,rfl,rfl,rfl, ?_⟩;simp only[avn,ou,bH,bP,and_true];exact VD.str_mk
noncomputable def sg2 (g:FuncId):Option Sum:=cond (Nat.beq g 21) (a6 QI)<|cond (Nat.beq g 81) (a6 avn)<|sg1 g
theorem aJb: ∀g s,sg2 g=a6 s->dK prog g s:=fun g s h=>by
 unfold sg2 at h;rw[cond_eq_ite]at h;split at h
 .rename_i d
  obtain rfl:g=21:=aj d;cases h;exact UG
 rw[cond_eq_ite]at h;split at h
 .rename_i d
  obtain rfl:g=81:=aj d;cases h;exact avo
 exact ag5 g s h
end
end Go.Proofs.YtkichehglnecnaaGreatDoor
