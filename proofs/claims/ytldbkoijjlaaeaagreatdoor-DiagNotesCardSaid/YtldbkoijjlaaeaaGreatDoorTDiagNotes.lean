/-
  DiagNotes: the given statement: for every input the Go function quillwortlaw31.DiagNotes returns true, and each argument reads afterwards as it read before. No conditions.
-/
import Derived.Test.YtldbkoijjlaaeaaGreatDoorRows
import Derived.Test.YtldbkoijjlaaeaaGreatDoorCards
import Derived.Test.YtldbkoijjlaaeaaGreatDoorTie
import Derived.LaidMore
import Derived.Stop.LaidErr
import Derived.Shelf.Vars
import Derived.Lay
import Derived.SevenTiedAt
import Derived.Stop.Joined
import Derived.ProofKit
import Derived.OpenShut
import Derived.ShutString
import Derived.ChangeOld
import Derived.Below
import Derived.Test.YtldbkoijjlaaeaaGreatDoorV6
set_option linter.unusedVariables false
set_option linter.unusedSimpArgs false
set_option maxRecDepth 100000
set_option maxHeartbeats 4000000
namespace Go.Proofs.YtldbkoijjlaaeaaGreatDoor.tDiagNotes
open Go.ChangeShapes Go.WideShapes Go.ChangeAt Go.RowKit
open Go.ChangeMaps (open_string shut_string)
theorem own:ownKnob Tryz.prog.godebug=none:=by kernel_rfl
theorem laidOut:laidOutB Tryz.prog=true:=by kernel_rfl
theorem azI:Rows.diagNotesRow.laid.drop 2=("internal/strconv.uint64pow10",Lib.tabData .u64 Lib.pow10Tab)::Rows.diagNotesRow.laid.drop 3:=by kernel_rfl
theorem aIZ {W:World} (h:laidMetH Tryz.prog Rows.diagNotesRow.laid W):ang W:=by
 rw[MakeChecks.laidMetH_plain _ _ _ (by kernel_rfl)]at h;have h2:laidMet Tryz.prog (Rows.diagNotesRow.laid.drop 2) W:=(laidMet.tail (laidMet.tail h));rw[azI]at h2;exact Lib.tabIs_of_head (g:=0) (t:=167) (e:=143) (n:=20) alX (by kernel_rfl) (by kernel_rfl) (by kernel_rfl) (by kernel_rfl) (by kernel_rfl) h2
theorem aIY {W:World} (h:W.ShapedOpen Tryz.prog):aqv W:=
 cell_of_shapedOpen_int (g:=3) (t:=3) (zero:= #[.int .i64 0]) h (of_decide_eq_true (by kernel_rfl)) (by kernel_rfl) rfl (by kernel_rfl) (by kernel_rfl) (by kernel_rfl)
theorem walk {H:Type} (enc:TypeId×Value->H) (W:World) (base:Nat) (args:Array Value) (ds gs:List (DataW H)) (before:List MemPlace)
  (hval: ∀(j:Nat) t v,Tryz.f5.params[j]? =some t->args[j]? =some v->Value.okWide Tryz.prog W .any base t v)
  (hW:DataW.Whole enc Tryz.prog Tryz.f5.params.toList Rows.diagNotesSpec.vars false W args.toList ds gs before) (hL:laidMetH Tryz.prog Rows.diagNotesRow.laid W) (hsh:W.ShapedOpen Tryz.prog):
  Calls Tryz.prog 5 args W fun e W'=> ∃v,e=.returned v/\Rows.diagNotesSpec.post enc Tryz.prog Tryz.f5 false true false false W args v W':=by
 have hW':=hW;obtain⟨p,q,hA0,hV,rfl,hfz,hnd⟩:=hW;have hA:DataW.TrodAll enc Tryz.prog W 0 (fun _=>true) true Tryz.f5.params.toList args.toList ds p:=hA0;rw[Tryz.params5]at hA hval;obtain⟨v0,vs0,d0,ds0,p0,q0,hargs,rfl,rfl,h0,r0⟩:=trodAll_cons hA;obtain⟨rfl,rfl,rfl⟩:=trodAll_nil r0;obtain rfl:args= #[v0]:=by cases args;simp_all
 obtain⟨rfl,rfl⟩:=trodVars_none hV;have k0:=h0;have lt0: ∀x∈p0,x.block<W.heap.size:=by obtain⟨m,hm⟩:=k0;exact DataW.trod_lt m _ _ _ hm
 obtain⟨x0,y0,z0⟩:=ahI (T:=tt) tok (show tt.allK=true by kernel_rfl) (t:=9) (ty:=.str) (by kernel_rfl) (hval 0 9 v0 rfl rfl) h0;clear hA0;have hdv:qw (lw W fun _=>False) [.str] (x0,()) [v0]:=⟨v0,[],rfl,y0,rfl⟩;refine(adw (t:=.bool) (y:=true) ayR rfl ((show U8 ayQ 5 aJa.ps aJa.rs (x0,())=fn5 x0 by kernel_rfl).trans (aoK x0)) (args:= #[v0]) hdv ⟨aIZ hL,aIY hsh⟩).mono fun e W' ⟨he0,bel⟩=> ?_;have he:e=.returned (.bool true):=he0;subst he;exact⟨_,rfl,_,_,_,[],_,[],hW',trodAll_mk1 (shut_bool Tryz.underlying4 _),(trodAll_cons_mk (Below.trod laidOut (by kernel_rfl) (of_decide_eq_true (by kernel_rfl)) k0 bel lt0) trodAll_mk0),rfl,bel.frame _,fun h=>by cases h⟩
theorem lifted (os:Os) (started:os.Started) (H:Type) (enc:TypeId×Value->H):
  ReturnsInHanded {} Tryz.checked os 5 .any (fun w args=>(Rows.diagNotesSpec.pre enc Tryz.prog Tryz.f5 Rows.diagNotesRow.domain false w args/\laidMetH Tryz.prog Rows.diagNotesRow.laid w)/\sizedMet enc Tryz.prog Tryz.f5 (OpenSpec.ofChange Rows.diagNotesSpec) false w args)
   (Rows.diagNotesSpec.post enc Tryz.prog Tryz.f5 false true false false):=by
 refine returnsInHanded_of_calls own started (by kernel_rfl)
  (ChangeSpec.witness_shaped (enc:=enc) (C:=Tryz.checked) (os:=os) (X:=fun w _=>laidMetH Tryz.prog Rows.diagNotesRow.laid w) false (World.laidAll Tryz.prog os Rows.diagNotesRow.laid) #[.string ⟨#[]⟩] 8 (World.laidAll_os _ _ _)
   (World.shaped_of_ZipB (by kernel_rfl) (by kernel_rfl)) (by kernel_rfl) (by kernel_rfl) (by kernel_rfl)
   (by rw[MakeChecks.laidMetH_plain _ _ _ (by kernel_rfl)];exact laidMet_laidAll _ (by kernel_rfl) (by kernel_rfl))) ?_
 intro w tape i _ hsh _ hok hpre _;obtain⟨_,_,_,fn',hfn',_,_,_,_,hv⟩:=hok;obtain rfl:fn'=Tryz.f5:=Option.some.inj (hfn'.symm.trans Tryz.func5);obtain⟨⟨⟨ds,gs,before,hw,_⟩,hx⟩,_⟩:=hpre;refine(walk enc (w.forCall tape i) w.heap.size i.args ds gs before hv (DataW.Whole.of_heap (w':=w.forCall tape i) (by rfl) hw) (laidMetH.of_heap (by rfl) hx) hsh).mono fun e W' ⟨v,he,hp⟩=> ?_;subst he;exact ChangeSpec.post_blind hp
theorem k1:(Rows.diagNotesRow.wf (OpenSpec.ofChange Rows.diagNotesSpec))=true:=by kernel_rfl
theorem k2:(laidOutB Tryz.pinned.checked.prog)=true:=by kernel_rfl
theorem k3:(mapsRowed Tryz.pinned.checked.prog)=true:=by kernel_rfl
theorem k4:(Tryz.f5.params.all (Tryz.pinned.checked.prog.readableRec ·))=true:=by kernel_rfl
theorem k5:(namedTie Tryz.pinned.checked.prog Rows.diagNotesRow.named Rows.diagNotesSpec.vars)=true:=by kernel_rfl
theorem k6:(Rows.diagNotesRow.stops==[])=true:=by kernel_rfl
theorem k7:(Tryz.pinned.checked.prog.stops==[])=true:=by kernel_rfl
theorem k8:(Rows.diagNotesRow.knobs==[])=true:=by kernel_rfl
theorem k9:(Tryz.pinned.checked.prog.stopKnobs==[])=true:=by kernel_rfl
theorem k10:(Rows.diagNotesRow.inPlace==Tryz.pinned.checked.prog.inPlace 5)=true:=by kernel_rfl
theorem k11:(Rows.diagNotesRow.unfollowed==Tryz.pinned.checked.prog.unfollowed 5)=true:=by kernel_rfl
theorem k12:(Rows.diagNotesRow.recurses==Tryz.pinned.checked.prog.recurses 5)=true:=by kernel_rfl
theorem k13:(Rows.diagNotesRow.named==Tryz.pinned.checked.prog.varsNamed 5)=true:=by kernel_rfl
theorem k14:(Rows.diagNotesRow.maps==(Tryz.f5.params.toList++Rows.diagNotesSpec.plain.varTypes Tryz.pinned.checked.prog).any (Tryz.pinned.checked.prog.mapsRec ·))=true:=by kernel_rfl
theorem k15:(Rows.diagNotesRow.ifaces==(Tryz.f5.params.toList++Rows.diagNotesSpec.plain.varTypes Tryz.pinned.checked.prog).any (Tryz.pinned.checked.prog.ifacesRec ·))=true:=by kernel_rfl
theorem k16:(Rows.diagNotesRow.mapsOut==Tryz.pinned.checked.prog.mapsAmong Tryz.f5.resultTypes.toList)=true:=by kernel_rfl
theorem k17:(Rows.diagNotesRow.loops==(Tryz.f5.params.toList++Rows.diagNotesSpec.plain.varTypes Tryz.pinned.checked.prog).any (Tryz.pinned.checked.prog.loopsFrom ·))=true:=by kernel_rfl
theorem k18:(Rows.diagNotesRow.wideKeys==(Tryz.f5.params.toList++Rows.diagNotesSpec.plain.varTypes Tryz.pinned.checked.prog++Tryz.f5.resultTypes.toList).any (Tryz.pinned.checked.prog.wideKeysFrom ·))=true:=by kernel_rfl
theorem k19:(Rows.diagNotesSpec.vars.all (Tryz.pinned.checked.prog.varReadable ·))=true:=by kernel_rfl
theorem k20:(Tryz.f5.resultTypes.all (fun t=>Tryz.pinned.checked.prog.readableRec t&&decide (t<Tryz.pinned.checked.prog.types.size)))=true:=by kernel_rfl
theorem k21:(Rows.diagNotesRow.ifacesOut==Tryz.f5.resultTypes.toList.any (Tryz.pinned.checked.prog.ifacesRec ·))=true:=by kernel_rfl
theorem k22:(Rows.diagNotesRow.loopsOut==Tryz.f5.resultTypes.toList.any (Tryz.pinned.checked.prog.loopsFrom ·))=true:=by kernel_rfl
theorem k23:(Rows.diagNotesRow.plainKeys==Tryz.pinned.checked.prog.plainKeys)=true:=by kernel_rfl
theorem k24:(Rows.diagNotesRow.shortTexts.isNone)=true:=by kernel_rfl
theorem k25:(Tryz.pinned.checked.prog.stopsHeard)=true:=by kernel_rfl
theorem k26:(Tryz.pinned.checked.prog.mayEnter)=true:=by kernel_rfl
theorem k27:(Rows.diagNotesRow.lifted==Tryz.pinned.checked.prog.liftsFinal)=true:=by kernel_rfl
theorem k28:(Tryz.pinned.checked.prog.make==some Rows.diagNotesRow.make)=true:=by kernel_rfl
theorem k29:(Rows.diagNotesRow.kinds==(if Rows.diagNotesRow.domain.isEmpty then []else Tryz.f5.params.toList.map fun t=>match Tryz.pinned.checked.prog.underlying t with|some (.int k)=>some k|_=>none))=true:=by kernel_rfl
theorem k30:(Rows.diagNotesRow.pinned==Rows.diagNotesRow.pinnedBy)=true:=by kernel_rfl
theorem k31:(Rows.diagNotesRow.veiled==(Tryz.f5.params.toList++Rows.diagNotesSpec.plain.varTypes Tryz.pinned.checked.prog++Tryz.f5.resultTypes.toList).any (Tryz.pinned.checked.prog.veiledRec ·))=true:=by kernel_rfl
theorem k32:(Rows.diagNotesRow.veiledFits Tryz.pinned.checked.prog Tryz.f5.params.toList (Tryz.f5.params.toList++Rows.diagNotesSpec.plain.varTypes Tryz.pinned.checked.prog++Tryz.f5.resultTypes.toList))=true:=by kernel_rfl
theorem aT {a b:Bool} (h1:a=true) (h2:b=true):(a&&b)=true:=by rw[h1,h2];rfl
theorem closed:joinedFacts Tryz.pinned.checked.prog 5 Tryz.f5 Rows.diagNotesSpec Rows.diagNotesRow=true:=(aT (aT (aT (aT (aT (aT (aT (aT (aT (aT (aT (aT (aT (aT (aT (aT (aT (aT (aT (aT (aT (aT (aT (aT (aT (aT (aT (aT (aT (aT (aT k1 k2) k3) k4) k5) k6) k7) k8) k9) k10) k11) k12) k13) k14) k15) k16) k17) k18) k19) k20) k21) k22) k23) k24) k25) k26) k27) k28) k29) k30) k31) k32)
theorem g1:Rows.diagNotesRow.wfByText (OpenSpec.ofChange Rows.diagNotesSpec)=true:=by kernel_rfl
theorem g2:Tryz.pinned.checked.prog.mainIs=some ((true, "571af468023e225c90bf875f1c8780c345e245cc524c45cd081f23976d7c5e05").1,(true, "571af468023e225c90bf875f1c8780c345e245cc524c45cd081f23976d7c5e05").2.toList):=by kernel_rfl
theorem g3:false=Tryz.pinned.checked.prog.looks []:=by kernel_rfl
theorem g4:Tryz.prog.funcNamed "quillwort/quillwortlaw31.DiagNotes" =some 5:=by kernel_rfl
theorem g5:([9].all fun u=> !Tryz.prog.wantsStandIn u)=true:=by kernel_rfl
theorem g6:false=Rows.diagNotesRow.goesBy Tryz.pinned.checked.prog:=by kernel_rfl
theorem apb:Rows.DiagNotesSaid:=
 OpenClaim.holds_of_wide 5 Tryz.f5 rfl rfl rfl rfl rfl rfl rfl ⟨rfl,rfl,rfl,rfl,rfl⟩ rfl rfl rfl rfl rfl g4 Tryz.func5 closed
  (of_decide_eq_true (by kernel_rfl)) (by unfold Func.isWrapper;first|(rw[if_pos (by decide+kernel)];kernel_rfl)|(rw[if_neg (by decide+kernel)];exact⟨rfl,rfl⟩))
  (fun os started H enc _=>lifted os started H enc)
theorem holds:Rows.DiagNotesCardSaid:=
 Claim7.holds_tied_plain_at .later [] [.data,.data,.data,.data,.pinned] true (true, "571af468023e225c90bf875f1c8780c345e245cc524c45cd081f23976d7c5e05") false apb (fun _ h=>by cases h) g1 (fun _ h=>by cases h) diagNotes_row_tie rfl ⟨rfl,rfl⟩ g2 rfl
  (fun f fn hf hfn=>by
   obtain rfl:f=5:=Option.some.inj (g4.symm.trans hf)|>.symm;obtain rfl:fn=Tryz.f5:=(Option.some.inj (Tryz.func5.symm.trans hfn)).symm;exact⟨g3,fun j t ht=>by
    rw[Tryz.params5]at ht;have hm:t∈[9]:=by simpa using Array.mem_of_getElem? ht
    have hall:=g5;exact(show Tryz.prog.wantsStandIn t=false by simpa using List.all_eq_true.1 hall t hm)⟩)
  g6
#print axioms holds
end Go.Proofs.YtldbkoijjlaaeaaGreatDoor.tDiagNotes
