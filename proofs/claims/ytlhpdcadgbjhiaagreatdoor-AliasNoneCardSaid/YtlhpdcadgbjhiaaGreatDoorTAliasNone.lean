/-
  AliasNone: the given statement: for every input the Go function quillwortlaw28.AliasNone returns true, and each argument reads afterwards as it read before. No conditions.
-/
import Derived.Test.YtlhpdcadgbjhiaaGreatDoorRows
import Derived.Test.YtlhpdcadgbjhiaaGreatDoorCards
import Derived.Test.YtlhpdcadgbjhiaaGreatDoorTie
import Derived.LaidMore
import Derived.Stop.LaidErr
import Derived.Shelf.Vars
import Derived.Lay
import Derived.SevenTiedAt
import Derived.Stop.Joined
import Derived.ProofKit
import Derived.OpenShut
import Derived.ShutString
import Derived.ChangeOld
import Derived.Below
import Derived.Test.YtlhpdcadgbjhiaaGreatDoorV11
set_option linter.unusedVariables false
set_option linter.unusedSimpArgs false
set_option maxRecDepth 100000
set_option maxHeartbeats 4000000
namespace Go.Proofs.YtlhpdcadgbjhiaaGreatDoor.tAliasNone
open Go.ChangeShapes Go.WideShapes Go.ChangeAt Go.RowKit
open Go.ChangeMaps (open_string shut_string)
theorem own:ownKnob Tryz.prog.godebug=none:=by kernel_rfl
theorem laidOut:laidOutB Tryz.prog=true:=by kernel_rfl
theorem atu {W:World} (h:laidMetH Tryz.prog Rows.aliasNoneRow.laid W):agK W:=trivial
theorem att {W:World} (h:W.ShapedOpen Tryz.prog):agJ W:=
 cell_of_shapedOpen_int (g:=0) (t:=3) (zero:= #[.int .i64 0]) h (of_decide_eq_true (by kernel_rfl)) (by kernel_rfl) rfl (by kernel_rfl) (by kernel_rfl) (by kernel_rfl)
theorem walk {H:Type} (enc:TypeId×Value->H) (W:World) (base:Nat) (args:Array Value) (u J:List (DataW H)) (K:List MemPlace)
  (l: ∀(j:Nat) t v,Tryz.f4.params[j]? =some t->args[j]? =some v->Value.okWide Tryz.prog W .any base t v)
  (z:DataW.Whole enc Tryz.prog Tryz.f4.params.toList Rows.aliasNoneSpec.vars false W args.toList u J K) (L:laidMetH Tryz.prog Rows.aliasNoneRow.laid W) (M:W.ShapedOpen Tryz.prog):
  Calls Tryz.prog 4 args W fun e A=> ∃v,e=.returned v/\Rows.aliasNoneSpec.post enc Tryz.prog Tryz.f4 false true false false W args v A:=by
 have N:=z;obtain⟨p,q,B,O,rfl,af,ag⟩:=z;have D:DataW.TrodAll enc Tryz.prog W 0 (fun _=>true) true Tryz.f4.params.toList args.toList u p:=B;rw[Tryz.params4]at D l;obtain⟨f,ah,d0,ai,S,q0,aj,rfl,rfl,E,U⟩:=trodAll_cons D;obtain⟨d,ak,d1,al,V,q1,rfl,rfl,rfl,G,X⟩:=trodAll_cons U;obtain⟨rfl,rfl,rfl⟩:=trodAll_nil X;obtain rfl:args= #[f,d]:=by cases args;simp_all
 obtain⟨rfl,rfl⟩:=trodVars_none O;have I:=E;have Y: ∀x∈S,x.block<W.heap.size:=by obtain⟨m,o⟩:=I;exact DataW.trod_lt m _ _ _ o
 obtain⟨g,Z,z0⟩:=Og (T:=tt) tok (show tt.allK=true by kernel_rfl) (t:=22) (ty:=(.list (.pair .str (.pair .str .unit)))) (by kernel_rfl) (l 0 22 f rfl rfl) E;have k1:=G;have ab: ∀x∈V,x.block<W.heap.size:=by obtain⟨m,o⟩:=k1;exact DataW.trod_lt m _ _ _ o
 obtain⟨i,y1,z1⟩:=Og (T:=tt) tok (show tt.allK=true by kernel_rfl) (t:=9) (ty:=.str) (by kernel_rfl) (l 1 9 d rfl rfl) G;clear B;have ad:mM (jF W fun _=>False) [(.list (.pair .str (.pair .str .unit))),.str] (g,i,()) [f,d]:=⟨f,[d],rfl,Z,⟨d,[],rfl,y1,rfl⟩⟩;refine(WF (t:=.bool) (y:=true) alY rfl ((show OB MO 4 atG.ps atG.rs (g,i,())=fn4 g i by kernel_rfl).trans (ajd g i)) (args:= #[f,d]) ad ⟨atu L,att M⟩).mono fun e A ⟨ae,s⟩=> ?_;have he:e=.returned (.bool true):=ae;subst he;exact⟨_,rfl,_,_,_,[],_,[],N,trodAll_mk1 (shut_bool Tryz.underlying4 _),(trodAll_cons_mk (Below.trod laidOut (by kernel_rfl) (of_decide_eq_true (by kernel_rfl)) I s Y) (trodAll_cons_mk (Below.trod laidOut (by kernel_rfl) (of_decide_eq_true (by kernel_rfl)) k1 s ab) trodAll_mk0)),rfl,s.frame _,fun h=>by cases h⟩
theorem lifted (os:Os) (f:os.Started) (H:Type) (enc:TypeId×Value->H):
  ReturnsInHanded {} Tryz.checked os 4 .any (fun w args=>(Rows.aliasNoneSpec.pre enc Tryz.prog Tryz.f4 Rows.aliasNoneRow.domain false w args/\laidMetH Tryz.prog Rows.aliasNoneRow.laid w)/\sizedMet enc Tryz.prog Tryz.f4 (OpenSpec.ofChange Rows.aliasNoneSpec) false w args)
   (Rows.aliasNoneSpec.post enc Tryz.prog Tryz.f4 false true false false):=by
 refine returnsInHanded_of_calls own f (by kernel_rfl)
  (ChangeSpec.witness_shaped (enc:=enc) (C:=Tryz.checked) (os:=os) (X:=fun w _=>laidMetH Tryz.prog Rows.aliasNoneRow.laid w) false (World.laidAll Tryz.prog os Rows.aliasNoneRow.laid) #[.slice none 0 0,.string ⟨#[]⟩] 8 (World.laidAll_os _ _ _)
   (World.shaped_of_ZipB (by kernel_rfl) (by kernel_rfl)) (by kernel_rfl) (by kernel_rfl) (by kernel_rfl)
   (by rw[MakeChecks.laidMetH_plain _ _ _ (by kernel_rfl)];exact laidMet_laidAll _ (by kernel_rfl) (by kernel_rfl))) ?_
 intro w d i _ g _ h j _;obtain⟨_,_,_,l,o,_,_,_,_,p⟩:=h;obtain rfl:l=Tryz.f4:=Option.some.inj (o.symm.trans Tryz.func4);obtain⟨⟨⟨q,s,u,x,_⟩,y⟩,_⟩:=j;refine(walk enc (w.forCall d i) w.heap.size i.args q s u p (DataW.Whole.of_heap (w':=w.forCall d i) (by rfl) x) (laidMetH.of_heap (by rfl) y) g).mono fun e B ⟨v,z,A⟩=> ?_;subst z;exact ChangeSpec.post_blind A
noncomputable abbrev pP:=Tryz.pinned.checked.prog
noncomputable abbrev pF:=Tryz.f4
abbrev pS:=Rows.aliasNoneSpec
abbrev pR:=Rows.aliasNoneRow
theorem k1:(pR.wf (OpenSpec.ofChange pS))=true:=by kernel_rfl
theorem k2:(laidOutB pP)=true:=by kernel_rfl
theorem k3:(mapsRowed pP)=true:=by kernel_rfl
theorem k4:(pF.params.all (pP.readableRec ·))=true:=by kernel_rfl
theorem k5:(namedTie pP pR.named pS.vars)=true:=by kernel_rfl
theorem k6:(pR.stops==[])=true:=by kernel_rfl
theorem k7:(pP.stops==[])=true:=by kernel_rfl
theorem k8:(pR.knobs==[])=true:=by kernel_rfl
theorem k9:(pP.stopKnobs==[])=true:=by kernel_rfl
theorem k10:(pR.inPlace==pP.inPlace 4)=true:=by kernel_rfl
theorem k11:(pR.unfollowed==pP.unfollowed 4)=true:=by kernel_rfl
theorem k12:(pR.recurses==pP.recurses 4)=true:=by kernel_rfl
theorem k13:(pR.named==pP.varsNamed 4)=true:=by kernel_rfl
theorem k14:(pR.maps==(pF.params.toList++pS.plain.varTypes pP).any (pP.mapsRec ·))=true:=by kernel_rfl
theorem k15:(pR.ifaces==(pF.params.toList++pS.plain.varTypes pP).any (pP.ifacesRec ·))=true:=by kernel_rfl
theorem k16:(pR.mapsOut==pP.mapsAmong pF.resultTypes.toList)=true:=by kernel_rfl
theorem k17:(pR.loops==(pF.params.toList++pS.plain.varTypes pP).any (pP.loopsFrom ·))=true:=by kernel_rfl
theorem k18:(pR.wideKeys==(pF.params.toList++pS.plain.varTypes pP++pF.resultTypes.toList).any (pP.wideKeysFrom ·))=true:=by kernel_rfl
theorem k19:(pS.vars.all (pP.varReadable ·))=true:=by kernel_rfl
theorem k20:(pF.resultTypes.all (fun t=>pP.readableRec t&&decide (t<pP.types.size)))=true:=by kernel_rfl
theorem k21:(pR.ifacesOut==pF.resultTypes.toList.any (pP.ifacesRec ·))=true:=by kernel_rfl
theorem k22:(pR.loopsOut==pF.resultTypes.toList.any (pP.loopsFrom ·))=true:=by kernel_rfl
theorem k23:(pR.plainKeys==pP.plainKeys)=true:=by kernel_rfl
theorem k24:(pR.shortTexts.isNone)=true:=by kernel_rfl
theorem k25:(pP.stopsHeard)=true:=by kernel_rfl
theorem k26:(pP.mayEnter)=true:=by kernel_rfl
theorem k27:(pR.lifted==pP.liftsFinal)=true:=by kernel_rfl
theorem k28:(pP.make==some pR.make)=true:=by kernel_rfl
theorem k29:(pR.kinds==(if pR.domain.isEmpty then []else pF.params.toList.map fun t=>match pP.underlying t with|some (.int k)=>some k|_=>none))=true:=by kernel_rfl
theorem k30:(pR.pinned==pR.pinnedBy)=true:=by kernel_rfl
theorem k31:(pR.veiled==(pF.params.toList++pS.plain.varTypes pP++pF.resultTypes.toList).any (pP.veiledRec ·))=true:=by kernel_rfl
theorem k32:(pR.veiledFits pP pF.params.toList (pF.params.toList++pS.plain.varTypes pP++pF.resultTypes.toList))=true:=by kernel_rfl
theorem aT {a b:Bool} (d:a=true) (h2:b=true):(a&&b)=true:=by rw[d,h2];rfl
theorem closed:joinedFacts pP 4 pF pS pR=true:=(aT (aT (aT (aT (aT (aT (aT (aT (aT (aT (aT (aT (aT (aT (aT (aT (aT (aT (aT (aT (aT (aT (aT (aT (aT (aT (aT (aT (aT (aT (aT k1 k2) k3) k4) k5) k6) k7) k8) k9) k10) k11) k12) k13) k14) k15) k16) k17) k18) k19) k20) k21) k22) k23) k24) k25) k26) k27) k28) k29) k30) k31) k32)
theorem g1:Rows.aliasNoneRow.wfByText (OpenSpec.ofChange Rows.aliasNoneSpec)=true:=by kernel_rfl
theorem g2:Tryz.pinned.checked.prog.mainIs=some ((true, "f8444b3a549cb10e464e2b2a69288617ccc6501683642694d227d96109f55785").1,(true, "f8444b3a549cb10e464e2b2a69288617ccc6501683642694d227d96109f55785").2.toList):=by kernel_rfl
theorem g3:false=Tryz.pinned.checked.prog.looks []:=by kernel_rfl
theorem g4:Tryz.prog.funcNamed "quillwort/quillwortlaw28.AliasNone" =some 4:=by kernel_rfl
theorem g5:([22,9].all fun u=> !Tryz.prog.wantsStandIn u)=true:=by kernel_rfl
theorem g6:false=Rows.aliasNoneRow.goesBy Tryz.pinned.checked.prog:=by kernel_rfl
theorem afF:Rows.AliasNoneSaid:=
 OpenClaim.holds_of_wide 4 Tryz.f4 rfl rfl rfl rfl rfl rfl rfl ⟨rfl,rfl,rfl,rfl,rfl⟩ rfl rfl rfl rfl rfl g4 Tryz.func4 closed
  (of_decide_eq_true (by kernel_rfl)) (by unfold Func.isWrapper;first|(rw[am (by decide+kernel)];kernel_rfl)|(rw[aq (by decide+kernel)];exact⟨rfl,rfl⟩))
  (fun d e H enc _=>lifted d e H enc)
theorem holds:Rows.AliasNoneCardSaid:=
 Claim7.holds_tied_plain_at .later [] [.data,.pinned] true (true, "f8444b3a549cb10e464e2b2a69288617ccc6501683642694d227d96109f55785") false afF (fun _ h=>by cases h) g1 (fun _ h=>by cases h) aliasNone_row_tie rfl ⟨rfl,rfl⟩ g2 rfl
  (fun f fn e g=>by
   obtain rfl:f=4:=Option.some.inj (g4.symm.trans e)|>.symm;obtain rfl:fn=Tryz.f4:=(Option.some.inj (Tryz.func4.symm.trans g)).symm;exact⟨g3,fun j t d=>by
    rw[Tryz.params4]at d;have i:t∈[22,9]:=by simpa using Array.mem_of_getElem? d
    have l:=g5;exact(show Tryz.prog.wantsStandIn t=false by simpa using List.all_eq_true.1 l t i)⟩)
  g6
#print axioms holds
end Go.Proofs.YtlhpdcadgbjhiaaGreatDoor.tAliasNone
