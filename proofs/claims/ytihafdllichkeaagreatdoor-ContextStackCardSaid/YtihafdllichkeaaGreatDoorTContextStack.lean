/-
  ContextStack: the given statement: for every input the Go function quillwortlaw21.ContextStack returns true, and each argument reads afterwards as it read before. No conditions.
-/
import Derived.Test.YtihafdllichkeaaGreatDoorRows
import Derived.Test.YtihafdllichkeaaGreatDoorCards
import Derived.Test.YtihafdllichkeaaGreatDoorTie
import Derived.LaidMore
import Derived.Lay
import Derived.SevenTiedAt
import Derived.Stop.Joined
import Derived.ProofKit
import Derived.OpenShut
import Derived.ShutString
import Derived.ChangeOld
import Derived.Below
import Derived.Test.YtihafdllichkeaaGreatDoorZ6
namespace Go.Proofs.YtihafdllichkeaaGreatDoor.tContextStack
open Go.ChangeShapes Go.WideShapes Go.ChangeAt Go.RowKit
open Go.ChangeMaps (open_string shut_string)
set_option linter.unusedVariables false
set_option linter.unusedSimpArgs false
theorem own:ownKnob Tryz.prog.godebug=none:=by kernel_rfl
theorem laidOut:laidOutB Tryz.prog=true:=by kernel_rfl
set_option maxRecDepth 100000
theorem lifted (os:Os) (started:os.Started) (H:Type) (enc:TypeId×Value->H):
  ReturnsInHanded {} Tryz.checked os 5 .any (fun w args=>(Rows.contextStackSpec.pre enc Tryz.prog Tryz.f5 Rows.contextStackRow.domain false w args/\laidMetH Tryz.prog Rows.contextStackRow.laid w)/\sizedMet enc Tryz.prog Tryz.f5 (OpenSpec.ofChange Rows.contextStackSpec) false w args)
   (Rows.contextStackSpec.post enc Tryz.prog Tryz.f5 false true false false):=by
 refine returnsInHanded_of_change_and (C:=Tryz.checked) (X:=fun w _=>laidMetH Tryz.prog Rows.contextStackRow.laid w) (fun _ _ _ hh h=>h.of_heap hh) own started (by kernel_rfl) Tryz.func5
  (ChangeSpec.witness_shaped (enc:=enc) (C:=Tryz.checked) (os:=os) (X:=fun w _=>laidMetH Tryz.prog Rows.contextStackRow.laid w) false (World.laidAll Tryz.prog os Rows.contextStackRow.laid) #[.string ⟨#[]⟩,.int .i64 0] 8 (World.laidAll_os _ _ _)
   (World.shaped_of_ZipB (by kernel_rfl) (by kernel_rfl)) (by kernel_rfl) (by kernel_rfl) (by kernel_rfl)
   (by rw[MakeChecks.laidMetH_plain _ _ _ (by kernel_rfl)];exact laidMet_laidAll _ (by kernel_rfl) (by kernel_rfl))) ?_
 intro W base args ds gs before hval0 hW hcnd _ hL _
 have hval: ∀(j:Nat) t v,Tryz.f5.params[j]? =some t->args[j]? =some v->Value.okWide Tryz.prog W .any base t v:=hval0
 have hW':=hW
 obtain⟨p,q,hA0,hV,rfl,hfz,hnd⟩:=hW
 have hA:DataW.TrodAll enc Tryz.prog W 0 (fun _=>true) true Tryz.f5.params.toList args.toList ds p:=hA0
 rw[Tryz.params5]at hA hval
 obtain⟨v0,vs0,d0,ds0,p0,q0,hargs,rfl,rfl,h0,r0⟩:=trodAll_cons hA
 obtain⟨v1,vs1,d1,ds1,p1,q1,rfl,rfl,rfl,h1,r1⟩:=trodAll_cons r0
 obtain⟨rfl,rfl,rfl⟩:=trodAll_nil r1
 obtain rfl:args= #[v0,v1]:=by cases args;simp_all
 obtain⟨rfl,rfl⟩:=trodVars_none hV
 have k0:=h0
 have lt0: ∀x∈p0,x.block<W.heap.size:=by obtain⟨m,hm⟩:=k0;exact DataW.trod_lt m _ _ _ hm
 obtain⟨x0,y0,z0⟩:=Jj (T:=tt) tok (show tt.allK=true by kernel_rfl) (t:=9) (ty:=.str) (by kernel_rfl) (hval 0 9 v0 rfl rfl) h0
 have k1:=h1
 have lt1: ∀x∈p1,x.block<W.heap.size:=by obtain⟨m,hm⟩:=k1;exact DataW.trod_lt m _ _ _ hm
 obtain⟨x1,y1,z1⟩:=Jj (T:=tt) tok (show tt.allK=true by kernel_rfl) (t:=3) (ty:=(.int .i64)) (by kernel_rfl) (hval 1 3 v1 rfl rfl) h1
 clear hA0 hval0
 have hdv:kV (iK W fun _=>False) [.str,(.int .i64)] (x0,x1,()) [v0,v1]:=⟨v0,[v1],rfl,y0,⟨v1,[],rfl,y1,rfl⟩⟩
 refine(TP (t:=.bool) (y:=true) Yi rfl ((show ik as2 5 am2.ps am2.rs (x0,x1,())=fn5 x0 x1 by kernel_rfl).trans (abb x0 x1)) (args:= #[v0,v1]) hdv).mono fun e W' ⟨he0,bel⟩=> ?_
 have he:e=.returned (.bool true):=he0
 subst he
 exact⟨_,rfl,_,_,_,[],_,[],hW',trodAll_mk1 (shut_bool Tryz.underlying4 _),(trodAll_cons_mk (Below.trod laidOut (by kernel_rfl) (of_decide_eq_true (by kernel_rfl)) k0 bel lt0) (trodAll_cons_mk (Below.trod laidOut (by kernel_rfl) (of_decide_eq_true (by kernel_rfl)) k1 bel lt1) trodAll_mk0)),rfl,bel.frame _,fun h=>by cases h⟩
theorem k1:(Rows.contextStackRow.wf (OpenSpec.ofChange Rows.contextStackSpec))=true:=by kernel_rfl
theorem k2:(laidOutB Tryz.pinned.checked.prog)=true:=by kernel_rfl
theorem k3:(mapsRowed Tryz.pinned.checked.prog)=true:=by kernel_rfl
theorem k4:(Tryz.f5.params.all (Tryz.pinned.checked.prog.readableRec ·))=true:=by kernel_rfl
theorem k5:(namedTie Tryz.pinned.checked.prog Rows.contextStackRow.named Rows.contextStackSpec.vars)=true:=by kernel_rfl
theorem k6:(Rows.contextStackRow.stops==[])=true:=by kernel_rfl
theorem k7:(Tryz.pinned.checked.prog.stops==[])=true:=by kernel_rfl
theorem k8:(Rows.contextStackRow.knobs==[])=true:=by kernel_rfl
theorem k9:(Tryz.pinned.checked.prog.stopKnobs==[])=true:=by kernel_rfl
theorem k10:(Rows.contextStackRow.inPlace==Tryz.pinned.checked.prog.inPlace 5)=true:=by kernel_rfl
theorem k11:(Rows.contextStackRow.unfollowed==Tryz.pinned.checked.prog.unfollowed 5)=true:=by kernel_rfl
theorem k12:(Rows.contextStackRow.recurses==Tryz.pinned.checked.prog.recurses 5)=true:=by kernel_rfl
theorem k13:(Rows.contextStackRow.named==Tryz.pinned.checked.prog.varsNamed 5)=true:=by kernel_rfl
theorem k14:(Rows.contextStackRow.maps==(Tryz.f5.params.toList++Rows.contextStackSpec.plain.varTypes Tryz.pinned.checked.prog).any (Tryz.pinned.checked.prog.mapsRec ·))=true:=by kernel_rfl
theorem k15:(Rows.contextStackRow.ifaces==(Tryz.f5.params.toList++Rows.contextStackSpec.plain.varTypes Tryz.pinned.checked.prog).any (Tryz.pinned.checked.prog.ifacesRec ·))=true:=by kernel_rfl
theorem k16:(Rows.contextStackRow.mapsOut==Tryz.pinned.checked.prog.mapsAmong Tryz.f5.resultTypes.toList)=true:=by kernel_rfl
theorem k17:(Rows.contextStackRow.loops==(Tryz.f5.params.toList++Rows.contextStackSpec.plain.varTypes Tryz.pinned.checked.prog).any (Tryz.pinned.checked.prog.loopsFrom ·))=true:=by kernel_rfl
theorem k18:(Rows.contextStackRow.wideKeys==(Tryz.f5.params.toList++Rows.contextStackSpec.plain.varTypes Tryz.pinned.checked.prog++Tryz.f5.resultTypes.toList).any (Tryz.pinned.checked.prog.wideKeysFrom ·))=true:=by kernel_rfl
theorem k19:(Rows.contextStackSpec.vars.all (Tryz.pinned.checked.prog.varReadable ·))=true:=by kernel_rfl
theorem k20:(Tryz.f5.resultTypes.all (fun t=>Tryz.pinned.checked.prog.readableRec t&&decide (t<Tryz.pinned.checked.prog.types.size)))=true:=by kernel_rfl
theorem k21:(Rows.contextStackRow.ifacesOut==Tryz.f5.resultTypes.toList.any (Tryz.pinned.checked.prog.ifacesRec ·))=true:=by kernel_rfl
theorem k22:(Rows.contextStackRow.loopsOut==Tryz.f5.resultTypes.toList.any (Tryz.pinned.checked.prog.loopsFrom ·))=true:=by kernel_rfl
theorem k23:(Rows.contextStackRow.plainKeys==Tryz.pinned.checked.prog.plainKeys)=true:=by kernel_rfl
theorem k24:(Rows.contextStackRow.shortTexts.isNone)=true:=by kernel_rfl
theorem k25:(Tryz.pinned.checked.prog.stopsHeard)=true:=by kernel_rfl
theorem k26:(Tryz.pinned.checked.prog.mayEnter)=true:=by kernel_rfl
theorem k27:(Rows.contextStackRow.lifted==Tryz.pinned.checked.prog.liftsFinal)=true:=by kernel_rfl
theorem k28:(Tryz.pinned.checked.prog.make==some Rows.contextStackRow.make)=true:=by kernel_rfl
theorem k29:(Rows.contextStackRow.kinds==(if Rows.contextStackRow.domain.isEmpty then []else Tryz.f5.params.toList.map fun t=>match Tryz.pinned.checked.prog.underlying t with|some (.int k)=>some k|_=>none))=true:=by kernel_rfl
theorem k30:(Rows.contextStackRow.pinned==Rows.contextStackRow.pinnedBy)=true:=by kernel_rfl
theorem k31:(Rows.contextStackRow.veiled==(Tryz.f5.params.toList++Rows.contextStackSpec.plain.varTypes Tryz.pinned.checked.prog++Tryz.f5.resultTypes.toList).any (Tryz.pinned.checked.prog.veiledRec ·))=true:=by kernel_rfl
theorem k32:(Rows.contextStackRow.veiledFits Tryz.pinned.checked.prog Tryz.f5.params.toList (Tryz.f5.params.toList++Rows.contextStackSpec.plain.varTypes Tryz.pinned.checked.prog++Tryz.f5.resultTypes.toList))=true:=by kernel_rfl
theorem aT {a b:Bool} (h1:a=true) (h2:b=true):(a&&b)=true:=by rw[h1,h2];rfl
theorem closed:joinedFacts Tryz.pinned.checked.prog 5 Tryz.f5 Rows.contextStackSpec Rows.contextStackRow=true:=(aT (aT (aT (aT (aT (aT (aT (aT (aT (aT (aT (aT (aT (aT (aT (aT (aT (aT (aT (aT (aT (aT (aT (aT (aT (aT (aT (aT (aT (aT (aT k1 k2) k3) k4) k5) k6) k7) k8) k9) k10) k11) k12) k13) k14) k15) k16) k17) k18) k19) k20) k21) k22) k23) k24) k25) k26) k27) k28) k29) k30) k31) k32)
theorem g1:Rows.contextStackRow.wfByText (OpenSpec.ofChange Rows.contextStackSpec)=true:=by kernel_rfl
theorem g2:Tryz.pinned.checked.prog.mainIs=some ((true, "3deec93d29f5db085e6782650d04dedf41c22b86502da39cbc86be60fcfa29d6").1,(true, "3deec93d29f5db085e6782650d04dedf41c22b86502da39cbc86be60fcfa29d6").2.toList):=by kernel_rfl
theorem g3:false=Tryz.pinned.checked.prog.looks []:=by kernel_rfl
theorem g4:Tryz.prog.funcNamed "quillwort/quillwortlaw21.ContextStack" =some 5:=by kernel_rfl
theorem g5:([9,3].all fun u=> !Tryz.prog.wantsStandIn u)=true:=by kernel_rfl
theorem g6:false=Rows.contextStackRow.goesBy Tryz.pinned.checked.prog:=by kernel_rfl
theorem abt:Rows.ContextStackSaid:=
 OpenClaim.holds_of_wide 5 Tryz.f5 rfl rfl rfl rfl rfl rfl rfl ⟨rfl,rfl,rfl,rfl,rfl⟩ rfl rfl rfl rfl rfl g4 Tryz.func5 closed
  (of_decide_eq_true (by kernel_rfl)) (by unfold Func.isWrapper;first|(rw[if_pos (by decide+kernel)];kernel_rfl)|(rw[if_neg (by decide+kernel)];exact⟨rfl,rfl⟩))
  (fun os started H enc _=>lifted os started H enc)
theorem holds:Rows.ContextStackCardSaid:=
 Claim7.holds_tied_plain_at .later [] [.data,.pinned] true (true, "3deec93d29f5db085e6782650d04dedf41c22b86502da39cbc86be60fcfa29d6") false abt (fun _ h=>by cases h) g1 (fun _ h=>by cases h) contextStack_row_tie rfl ⟨rfl,rfl⟩ g2 rfl
  (fun f fn hf hfn=>by
   obtain rfl:f=5:=Option.some.inj (g4.symm.trans hf)|>.symm
   obtain rfl:fn=Tryz.f5:=(Option.some.inj (Tryz.func5.symm.trans hfn)).symm
   exact⟨g3,fun j t ht=>by
    rw[Tryz.params5]at ht
    have hm:t∈[9,3]:=by simpa using Array.mem_of_getElem? ht
    have hall:=g5
    exact(show Tryz.prog.wantsStandIn t=false by simpa using List.all_eq_true.1 hall t hm)⟩)
  g6
#print axioms holds
end Go.Proofs.YtihafdllichkeaaGreatDoor.tContextStack
