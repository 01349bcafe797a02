/-
  DiagStates: the given statement: for every input the Go function quillwortlaw31.DiagStates returns true, and each argument reads afterwards as it read before. No conditions.
-/
import Derived.Test.YtihafdllichkeaaGreatDoorRows
import Derived.Test.YtihafdllichkeaaGreatDoorCards
import Derived.Test.YtihafdllichkeaaGreatDoorTie
import Derived.LaidMore
import Derived.Stop.LaidErr
import Derived.Lay
import Derived.SevenTiedAt
import Derived.Stop.Joined
import Derived.ProofKit
import Derived.OpenShut
import Derived.ShutString
import Derived.ChangeOld
import Derived.Below
import Derived.Test.YtihafdllichkeaaGreatDoorY6
set_option linter.unusedVariables false
set_option linter.unusedSimpArgs false
set_option maxRecDepth 100000
set_option maxHeartbeats 4000000
namespace Go.Proofs.YtihafdllichkeaaGreatDoor.tDiagStates
open Go.ChangeShapes Go.WideShapes Go.ChangeAt Go.RowKit
open Go.ChangeMaps (open_string shut_string)
theorem own:ownKnob Tryz.prog.godebug=none:=by kernel_rfl
theorem laidOut:laidOutB Tryz.prog=true:=by kernel_rfl
theorem ax0:Rows.diagStatesRow.laid.drop 2=("internal/strconv.uint64pow10",Lib.tabData .u64 Lib.pow10Tab)::Rows.diagStatesRow.laid.drop 3:=by kernel_rfl
theorem aEP {W:World} (h:laidMetH Tryz.prog Rows.diagStatesRow.laid W):Phi W:=by
 rw[MakeChecks.laidMetH_plain _ _ _ (by kernel_rfl)]at h;have h2:laidMet Tryz.prog (Rows.diagStatesRow.laid.drop 2) W:=(laidMet.tail (laidMet.tail h));rw[ax0]at h2;exact Lib.tabIs_of_head (g:=1) (t:=314) (e:=251) (n:=20) ajY (by kernel_rfl) (by kernel_rfl) (by kernel_rfl) (by kernel_rfl) (by kernel_rfl) h2
theorem lifted (os:Os) (started:os.Started) (H:Type) (enc:TypeId×Value->H):
  ReturnsInHanded {} Tryz.checked os 9 .any (fun w args=>(Rows.diagStatesSpec.pre enc Tryz.prog Tryz.f9 Rows.diagStatesRow.domain false w args/\laidMetH Tryz.prog Rows.diagStatesRow.laid w)/\sizedMet enc Tryz.prog Tryz.f9 (OpenSpec.ofChange Rows.diagStatesSpec) false w args)
   (Rows.diagStatesSpec.post enc Tryz.prog Tryz.f9 false true false false):=by
 refine returnsInHanded_of_change_and (C:=Tryz.checked) (X:=fun w _=>laidMetH Tryz.prog Rows.diagStatesRow.laid w) (fun _ _ _ hh h=>h.of_heap hh) own started (by kernel_rfl) Tryz.func9
  (ChangeSpec.witness_shaped (enc:=enc) (C:=Tryz.checked) (os:=os) (X:=fun w _=>laidMetH Tryz.prog Rows.diagStatesRow.laid w) false (World.laidAll Tryz.prog os Rows.diagStatesRow.laid) #[.string ⟨#[]⟩] 8 (World.laidAll_os _ _ _)
   (World.shaped_of_ZipB (by kernel_rfl) (by kernel_rfl)) (by kernel_rfl) (by kernel_rfl) (by kernel_rfl)
   (by rw[MakeChecks.laidMetH_plain _ _ _ (by kernel_rfl)];exact laidMet_laidAll _ (by kernel_rfl) (by kernel_rfl))) ?_
 intro W base args ds gs before hval0 hW hcnd _ hL _;have hval: ∀(j:Nat) t v,Tryz.f9.params[j]? =some t->args[j]? =some v->Value.okWide Tryz.prog W .any base t v:=hval0;have hW':=hW;obtain⟨p,q,hA0,hV,rfl,hfz,hnd⟩:=hW;have hA:DataW.TrodAll enc Tryz.prog W 0 (fun _=>true) true Tryz.f9.params.toList args.toList ds p:=hA0;rw[Tryz.params9]at hA hval;obtain⟨v0,vs0,d0,ds0,p0,q0,hargs,rfl,rfl,h0,r0⟩:=trodAll_cons hA;obtain⟨rfl,rfl,rfl⟩:=trodAll_nil r0;obtain rfl:args= #[v0]:=by cases args;simp_all
 obtain⟨rfl,rfl⟩:=trodVars_none hV;have k0:=h0;have lt0: ∀x∈p0,x.block<W.heap.size:=by obtain⟨m,hm⟩:=k0;exact DataW.trod_lt m _ _ _ hm
 obtain⟨x0,y0,z0⟩:=agH (T:=tt) tok (show tt.allK=true by kernel_rfl) (t:=9) (ty:=.str) (by kernel_rfl) (hval 0 9 v0 rfl rfl) h0;clear hA0 hval0;have hdv:pz (kM W fun _=>False) [.str] (x0,()) [v0]:=⟨v0,[],rfl,y0,rfl⟩;refine(acf (t:=.bool) (y:=true) aw2 rfl ((show aa4 aFS 9 [.str] [(.bool,false)] (x0,())=fn9 x0 by kernel_rfl).trans (agj x0)) (args:= #[v0]) hdv (aEP hL)).mono fun e W' ⟨he0,bel⟩=> ?_;have he:e=.returned (.bool true):=he0;subst he;exact⟨_,rfl,_,_,_,[],_,[],hW',trodAll_mk1 (shut_bool Tryz.underlying4 _),(trodAll_cons_mk (Below.trod laidOut (by kernel_rfl) (of_decide_eq_true (by kernel_rfl)) k0 bel lt0) trodAll_mk0),rfl,bel.frame _,fun h=>by cases h⟩
theorem k1:(Rows.diagStatesRow.wf (OpenSpec.ofChange Rows.diagStatesSpec))=true:=by kernel_rfl
theorem k2:(laidOutB Tryz.pinned.checked.prog)=true:=by kernel_rfl
theorem k3:(mapsRowed Tryz.pinned.checked.prog)=true:=by kernel_rfl
theorem k4:(Tryz.f9.params.all (Tryz.pinned.checked.prog.readableRec ·))=true:=by kernel_rfl
theorem k5:(namedTie Tryz.pinned.checked.prog Rows.diagStatesRow.named Rows.diagStatesSpec.vars)=true:=by kernel_rfl
theorem k6:(Rows.diagStatesRow.stops==[])=true:=by kernel_rfl
theorem k7:(Tryz.pinned.checked.prog.stops==[])=true:=by kernel_rfl
theorem k8:(Rows.diagStatesRow.knobs==[])=true:=by kernel_rfl
theorem k9:(Tryz.pinned.checked.prog.stopKnobs==[])=true:=by kernel_rfl
theorem k10:(Rows.diagStatesRow.inPlace==Tryz.pinned.checked.prog.inPlace 9)=true:=by kernel_rfl
theorem k11:(Rows.diagStatesRow.unfollowed==Tryz.pinned.checked.prog.unfollowed 9)=true:=by kernel_rfl
theorem k12:(Rows.diagStatesRow.recurses==Tryz.pinned.checked.prog.recurses 9)=true:=by kernel_rfl
theorem k13:(Rows.diagStatesRow.named==Tryz.pinned.checked.prog.varsNamed 9)=true:=by kernel_rfl
theorem k14:(Rows.diagStatesRow.maps==(Tryz.f9.params.toList++Rows.diagStatesSpec.plain.varTypes Tryz.pinned.checked.prog).any (Tryz.pinned.checked.prog.mapsRec ·))=true:=by kernel_rfl
theorem k15:(Rows.diagStatesRow.ifaces==(Tryz.f9.params.toList++Rows.diagStatesSpec.plain.varTypes Tryz.pinned.checked.prog).any (Tryz.pinned.checked.prog.ifacesRec ·))=true:=by kernel_rfl
theorem k16:(Rows.diagStatesRow.mapsOut==Tryz.pinned.checked.prog.mapsAmong Tryz.f9.resultTypes.toList)=true:=by kernel_rfl
theorem k17:(Rows.diagStatesRow.loops==(Tryz.f9.params.toList++Rows.diagStatesSpec.plain.varTypes Tryz.pinned.checked.prog).any (Tryz.pinned.checked.prog.loopsFrom ·))=true:=by kernel_rfl
theorem k18:(Rows.diagStatesRow.wideKeys==(Tryz.f9.params.toList++Rows.diagStatesSpec.plain.varTypes Tryz.pinned.checked.prog++Tryz.f9.resultTypes.toList).any (Tryz.pinned.checked.prog.wideKeysFrom ·))=true:=by kernel_rfl
theorem k19:(Rows.diagStatesSpec.vars.all (Tryz.pinned.checked.prog.varReadable ·))=true:=by kernel_rfl
theorem k20:(Tryz.f9.resultTypes.all (fun t=>Tryz.pinned.checked.prog.readableRec t&&decide (t<Tryz.pinned.checked.prog.types.size)))=true:=by kernel_rfl
theorem k21:(Rows.diagStatesRow.ifacesOut==Tryz.f9.resultTypes.toList.any (Tryz.pinned.checked.prog.ifacesRec ·))=true:=by kernel_rfl
theorem k22:(Rows.diagStatesRow.loopsOut==Tryz.f9.resultTypes.toList.any (Tryz.pinned.checked.prog.loopsFrom ·))=true:=by kernel_rfl
theorem k23:(Rows.diagStatesRow.plainKeys==Tryz.pinned.checked.prog.plainKeys)=true:=by kernel_rfl
theorem k24:(Rows.diagStatesRow.shortTexts.isNone)=true:=by kernel_rfl
theorem k25:(Tryz.pinned.checked.prog.stopsHeard)=true:=by kernel_rfl
theorem k26:(Tryz.pinned.checked.prog.mayEnter)=true:=by kernel_rfl
theorem k27:(Rows.diagStatesRow.lifted==Tryz.pinned.checked.prog.liftsFinal)=true:=by kernel_rfl
theorem k28:(Tryz.pinned.checked.prog.make==some Rows.diagStatesRow.make)=true:=by kernel_rfl
theorem k29:(Rows.diagStatesRow.kinds==(if Rows.diagStatesRow.domain.isEmpty then []else Tryz.f9.params.toList.map fun t=>match Tryz.pinned.checked.prog.underlying t with|some (.int k)=>some k|_=>none))=true:=by kernel_rfl
theorem k30:(Rows.diagStatesRow.pinned==Rows.diagStatesRow.pinnedBy)=true:=by kernel_rfl
theorem k31:(Rows.diagStatesRow.veiled==(Tryz.f9.params.toList++Rows.diagStatesSpec.plain.varTypes Tryz.pinned.checked.prog++Tryz.f9.resultTypes.toList).any (Tryz.pinned.checked.prog.veiledRec ·))=true:=by kernel_rfl
theorem k32:(Rows.diagStatesRow.veiledFits Tryz.pinned.checked.prog Tryz.f9.params.toList (Tryz.f9.params.toList++Rows.diagStatesSpec.plain.varTypes Tryz.pinned.checked.prog++Tryz.f9.resultTypes.toList))=true:=by kernel_rfl
theorem aT {a b:Bool} (h1:a=true) (h2:b=true):(a&&b)=true:=by rw[h1,h2];rfl
theorem closed:joinedFacts Tryz.pinned.checked.prog 9 Tryz.f9 Rows.diagStatesSpec Rows.diagStatesRow=true:=(aT (aT (aT (aT (aT (aT (aT (aT (aT (aT (aT (aT (aT (aT (aT (aT (aT (aT (aT (aT (aT (aT (aT (aT (aT (aT (aT (aT (aT (aT (aT k1 k2) k3) k4) k5) k6) k7) k8) k9) k10) k11) k12) k13) k14) k15) k16) k17) k18) k19) k20) k21) k22) k23) k24) k25) k26) k27) k28) k29) k30) k31) k32)
theorem g1:Rows.diagStatesRow.wfByText (OpenSpec.ofChange Rows.diagStatesSpec)=true:=by kernel_rfl
theorem g2:Tryz.pinned.checked.prog.mainIs=some ((true, "3deec93d29f5db085e6782650d04dedf41c22b86502da39cbc86be60fcfa29d6").1,(true, "3deec93d29f5db085e6782650d04dedf41c22b86502da39cbc86be60fcfa29d6").2.toList):=by kernel_rfl
theorem g3:false=Tryz.pinned.checked.prog.looks []:=by kernel_rfl
theorem g4:Tryz.prog.funcNamed "quillwort/quillwortlaw31.DiagStates" =some 9:=by kernel_rfl
theorem g5:([9].all fun u=> !Tryz.prog.wantsStandIn u)=true:=by kernel_rfl
theorem g6:false=Rows.diagStatesRow.goesBy Tryz.pinned.checked.prog:=by kernel_rfl
theorem aoB:Rows.DiagStatesSaid:=
 OpenClaim.holds_of_wide 9 Tryz.f9 rfl rfl rfl rfl rfl rfl rfl ⟨rfl,rfl,rfl,rfl,rfl⟩ rfl rfl rfl rfl rfl g4 Tryz.func9 closed
  (of_decide_eq_true (by kernel_rfl)) (by unfold Func.isWrapper;first|(rw[if_pos (by decide+kernel)];kernel_rfl)|(rw[if_neg (by decide+kernel)];exact⟨rfl,rfl⟩))
  (fun os started H enc _=>lifted os started H enc)
theorem holds:Rows.DiagStatesCardSaid:=
 Claim7.holds_tied_plain_at .later [] [.data,.data,.data,.data,.pinned] true (true, "3deec93d29f5db085e6782650d04dedf41c22b86502da39cbc86be60fcfa29d6") false aoB (fun _ h=>by cases h) g1 (fun _ h=>by cases h) diagStates_row_tie rfl ⟨rfl,rfl⟩ g2 rfl
  (fun f fn hf hfn=>by
   obtain rfl:f=9:=Option.some.inj (g4.symm.trans hf)|>.symm;obtain rfl:fn=Tryz.f9:=(Option.some.inj (Tryz.func9.symm.trans hfn)).symm;exact⟨g3,fun j t ht=>by
    rw[Tryz.params9]at ht;have hm:t∈[9]:=by simpa using Array.mem_of_getElem? ht
    have hall:=g5;exact(show Tryz.prog.wantsStandIn t=false by simpa using List.all_eq_true.1 hall t hm)⟩)
  g6
#print axioms holds
end Go.Proofs.YtihafdllichkeaaGreatDoor.tDiagStates
