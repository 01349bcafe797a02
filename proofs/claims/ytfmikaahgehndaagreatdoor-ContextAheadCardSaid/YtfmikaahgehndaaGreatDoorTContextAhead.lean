/-
  ContextAhead: the given statement: for every input the Go function quillwortlaw21.ContextAhead returns true, and each argument reads afterwards as it read before. No conditions.
-/
import Derived.Test.YtfmikaahgehndaaGreatDoorRows
import Derived.Test.YtfmikaahgehndaaGreatDoorCards
import Derived.Test.YtfmikaahgehndaaGreatDoorTie
import Derived.LaidMore
import Derived.Stop.LaidErr
import Derived.Shelf.Vars
import Derived.Lay
import Derived.SevenTiedAt
import Derived.Stop.Joined
import Derived.ProofKit
import Derived.OpenShut
import Derived.ShutString
import Derived.ChangeOld
import Derived.Below
import Derived.Test.YtfmikaahgehndaaGreatDoorV5
set_option linter.unusedVariables false
set_option linter.unusedSimpArgs false
set_option maxRecDepth 100000
set_option maxHeartbeats 4000000
namespace Go.Proofs.YtfmikaahgehndaaGreatDoor.tContextAhead
open Go.ChangeShapes Go.WideShapes Go.ChangeAt Go.RowKit
open Go.ChangeMaps (open_string shut_string)
theorem own:ownKnob Tryz.prog.godebug=none:=by kernel_rfl
theorem laidOut:laidOutB Tryz.prog=true:=by kernel_rfl
theorem acf {W:World} (h:laidMetH Tryz.prog Rows.contextAheadRow.laid W):ac7 W:=trivial
theorem ace {W:World} (h:W.ShapedOpen Tryz.prog):ac6 W:=
 cell_of_shapedOpen_int (g:=0) (t:=3) (zero:= #[.int .i64 0]) h (of_decide_eq_true (by kernel_rfl)) (by kernel_rfl) rfl (by kernel_rfl) (by kernel_rfl) (by kernel_rfl)
theorem walk {H:Type} (enc:TypeId×Value->H) (W:World) (base:Nat) (args:Array Value) (ds gs:List (DataW H)) (before:List MemPlace)
  (hval: ∀(j:Nat) t v,Tryz.f4.params[j]? =some t->args[j]? =some v->Value.okWide Tryz.prog W .any base t v)
  (hW:DataW.Whole enc Tryz.prog Tryz.f4.params.toList Rows.contextAheadSpec.vars false W args.toList ds gs before) (hL:laidMetH Tryz.prog Rows.contextAheadRow.laid W) (hsh:W.ShapedOpen Tryz.prog):
  Calls Tryz.prog 4 args W fun e W'=> ∃v,e=.returned v/\Rows.contextAheadSpec.post enc Tryz.prog Tryz.f4 false true false false W args v W':=by
 have hW':=hW;obtain⟨p,q,hA0,hV,rfl,hfz,hnd⟩:=hW;have hA:DataW.TrodAll enc Tryz.prog W 0 (fun _=>true) true Tryz.f4.params.toList args.toList ds p:=hA0;rw[Tryz.params4]at hA hval;obtain⟨v0,vs0,d0,ds0,p0,q0,hargs,rfl,rfl,h0,r0⟩:=trodAll_cons hA;obtain⟨v1,vs1,d1,ds1,p1,q1,rfl,rfl,rfl,h1,r1⟩:=trodAll_cons r0;obtain⟨v2,vs2,d2,ds2,p2,q2,rfl,rfl,rfl,h2,r2⟩:=trodAll_cons r1;obtain⟨rfl,rfl,rfl⟩:=trodAll_nil r2;obtain rfl:args= #[v0,v1,v2]:=by cases args;simp_all
 obtain⟨rfl,rfl⟩:=trodVars_none hV;have k0:=h0;have lt0: ∀x∈p0,x.block<W.heap.size:=by obtain⟨m,hm⟩:=k0;exact DataW.trod_lt m _ _ _ hm
 obtain⟨x0,y0,z0⟩:=lq (T:=tt) tok (show tt.allK=true by kernel_rfl) (t:=9) (ty:=.str) (by kernel_rfl) (hval 0 9 v0 rfl rfl) h0;have k1:=h1;have lt1: ∀x∈p1,x.block<W.heap.size:=by obtain⟨m,hm⟩:=k1;exact DataW.trod_lt m _ _ _ hm
 obtain⟨x1,y1,z1⟩:=lq (T:=tt) tok (show tt.allK=true by kernel_rfl) (t:=9) (ty:=.str) (by kernel_rfl) (hval 1 9 v1 rfl rfl) h1;have k2:=h2;have lt2: ∀x∈p2,x.block<W.heap.size:=by obtain⟨m,hm⟩:=k2;exact DataW.trod_lt m _ _ _ hm
 obtain⟨x2,y2,z2⟩:=lq (T:=tt) tok (show tt.allK=true by kernel_rfl) (t:=9) (ty:=.str) (by kernel_rfl) (hval 2 9 v2 rfl rfl) h2;clear hA0;have hdv:oh (kJ W fun _=>False) [.str,.str,.str] (x0,x1,x2,()) [v0,v1,v2]:=⟨v0,[v1,v2],rfl,y0,⟨v1,[v2],rfl,y1,⟨v2,[],rfl,y2,rfl⟩⟩⟩;refine(Dc (t:=.bool) (y:=true) asH rfl ((show N9 aBt 4 aC7.ps aC7.rs (x0,x1,x2,())=fn4 x0 x1 x2 by kernel_rfl).trans (aky x0 x1 x2)) (args:= #[v0,v1,v2]) hdv ⟨acf hL,ace hsh⟩).mono fun e W' ⟨he0,bel⟩=> ?_;have he:e=.returned (.bool true):=he0;subst he;exact⟨_,rfl,_,_,_,[],_,[],hW',trodAll_mk1 (shut_bool Tryz.underlying4 _),(trodAll_cons_mk (Below.trod laidOut (by kernel_rfl) (of_decide_eq_true (by kernel_rfl)) k0 bel lt0) (trodAll_cons_mk (Below.trod laidOut (by kernel_rfl) (of_decide_eq_true (by kernel_rfl)) k1 bel lt1) (trodAll_cons_mk (Below.trod laidOut (by kernel_rfl) (of_decide_eq_true (by kernel_rfl)) k2 bel lt2) trodAll_mk0))),rfl,bel.frame _,fun h=>by cases h⟩
theorem lifted (os:Os) (started:os.Started) (H:Type) (enc:TypeId×Value->H):
  ReturnsInHanded {} Tryz.checked os 4 .any (fun w args=>(Rows.contextAheadSpec.pre enc Tryz.prog Tryz.f4 Rows.contextAheadRow.domain false w args/\laidMetH Tryz.prog Rows.contextAheadRow.laid w)/\sizedMet enc Tryz.prog Tryz.f4 (OpenSpec.ofChange Rows.contextAheadSpec) false w args)
   (Rows.contextAheadSpec.post enc Tryz.prog Tryz.f4 false true false false):=by
 refine returnsInHanded_of_calls own started (by kernel_rfl)
  (ChangeSpec.witness_shaped (enc:=enc) (C:=Tryz.checked) (os:=os) (X:=fun w _=>laidMetH Tryz.prog Rows.contextAheadRow.laid w) false (World.laidAll Tryz.prog os Rows.contextAheadRow.laid) #[.string ⟨#[]⟩,.string ⟨#[]⟩,.string ⟨#[]⟩] 8 (World.laidAll_os _ _ _)
   (World.shaped_of_ZipB (by kernel_rfl) (by kernel_rfl)) (by kernel_rfl) (by kernel_rfl) (by kernel_rfl)
   (by rw[MakeChecks.laidMetH_plain _ _ _ (by kernel_rfl)];exact laidMet_laidAll _ (by kernel_rfl) (by kernel_rfl))) ?_
 intro w tape i _ hsh _ hok hpre _;obtain⟨_,_,_,fn',hfn',_,_,_,_,hv⟩:=hok;obtain rfl:fn'=Tryz.f4:=Option.some.inj (hfn'.symm.trans Tryz.func4);obtain⟨⟨⟨ds,gs,before,hw,_⟩,hx⟩,_⟩:=hpre;refine(walk enc (w.forCall tape i) w.heap.size i.args ds gs before hv (DataW.Whole.of_heap (w':=w.forCall tape i) (by rfl) hw) (laidMetH.of_heap (by rfl) hx) hsh).mono fun e W' ⟨v,he,hp⟩=> ?_;subst he;exact ChangeSpec.post_blind hp
theorem k1:(Rows.contextAheadRow.wf (OpenSpec.ofChange Rows.contextAheadSpec))=true:=by kernel_rfl
theorem k2:(laidOutB Tryz.pinned.checked.prog)=true:=by kernel_rfl
theorem k3:(mapsRowed Tryz.pinned.checked.prog)=true:=by kernel_rfl
theorem k4:(Tryz.f4.params.all (Tryz.pinned.checked.prog.readableRec ·))=true:=by kernel_rfl
theorem k5:(namedTie Tryz.pinned.checked.prog Rows.contextAheadRow.named Rows.contextAheadSpec.vars)=true:=by kernel_rfl
theorem k6:(Rows.contextAheadRow.stops==[])=true:=by kernel_rfl
theorem k7:(Tryz.pinned.checked.prog.stops==[])=true:=by kernel_rfl
theorem k8:(Rows.contextAheadRow.knobs==[])=true:=by kernel_rfl
theorem k9:(Tryz.pinned.checked.prog.stopKnobs==[])=true:=by kernel_rfl
theorem k10:(Rows.contextAheadRow.inPlace==Tryz.pinned.checked.prog.inPlace 4)=true:=by kernel_rfl
theorem k11:(Rows.contextAheadRow.unfollowed==Tryz.pinned.checked.prog.unfollowed 4)=true:=by kernel_rfl
theorem k12:(Rows.contextAheadRow.recurses==Tryz.pinned.checked.prog.recurses 4)=true:=by kernel_rfl
theorem k13:(Rows.contextAheadRow.named==Tryz.pinned.checked.prog.varsNamed 4)=true:=by kernel_rfl
theorem k14:(Rows.contextAheadRow.maps==(Tryz.f4.params.toList++Rows.contextAheadSpec.plain.varTypes Tryz.pinned.checked.prog).any (Tryz.pinned.checked.prog.mapsRec ·))=true:=by kernel_rfl
theorem k15:(Rows.contextAheadRow.ifaces==(Tryz.f4.params.toList++Rows.contextAheadSpec.plain.varTypes Tryz.pinned.checked.prog).any (Tryz.pinned.checked.prog.ifacesRec ·))=true:=by kernel_rfl
theorem k16:(Rows.contextAheadRow.mapsOut==Tryz.pinned.checked.prog.mapsAmong Tryz.f4.resultTypes.toList)=true:=by kernel_rfl
theorem k17:(Rows.contextAheadRow.loops==(Tryz.f4.params.toList++Rows.contextAheadSpec.plain.varTypes Tryz.pinned.checked.prog).any (Tryz.pinned.checked.prog.loopsFrom ·))=true:=by kernel_rfl
theorem k18:(Rows.contextAheadRow.wideKeys==(Tryz.f4.params.toList++Rows.contextAheadSpec.plain.varTypes Tryz.pinned.checked.prog++Tryz.f4.resultTypes.toList).any (Tryz.pinned.checked.prog.wideKeysFrom ·))=true:=by kernel_rfl
theorem k19:(Rows.contextAheadSpec.vars.all (Tryz.pinned.checked.prog.varReadable ·))=true:=by kernel_rfl
theorem k20:(Tryz.f4.resultTypes.all (fun t=>Tryz.pinned.checked.prog.readableRec t&&decide (t<Tryz.pinned.checked.prog.types.size)))=true:=by kernel_rfl
theorem k21:(Rows.contextAheadRow.ifacesOut==Tryz.f4.resultTypes.toList.any (Tryz.pinned.checked.prog.ifacesRec ·))=true:=by kernel_rfl
theorem k22:(Rows.contextAheadRow.loopsOut==Tryz.f4.resultTypes.toList.any (Tryz.pinned.checked.prog.loopsFrom ·))=true:=by kernel_rfl
theorem k23:(Rows.contextAheadRow.plainKeys==Tryz.pinned.checked.prog.plainKeys)=true:=by kernel_rfl
theorem k24:(Rows.contextAheadRow.shortTexts.isNone)=true:=by kernel_rfl
theorem k25:(Tryz.pinned.checked.prog.stopsHeard)=true:=by kernel_rfl
theorem k26:(Tryz.pinned.checked.prog.mayEnter)=true:=by kernel_rfl
theorem k27:(Rows.contextAheadRow.lifted==Tryz.pinned.checked.prog.liftsFinal)=true:=by kernel_rfl
theorem k28:(Tryz.pinned.checked.prog.make==some Rows.contextAheadRow.make)=true:=by kernel_rfl
theorem k29:(Rows.contextAheadRow.kinds==(if Rows.contextAheadRow.domain.isEmpty then []else Tryz.f4.params.toList.map fun t=>match Tryz.pinned.checked.prog.underlying t with|some (.int k)=>some k|_=>none))=true:=by kernel_rfl
theorem k30:(Rows.contextAheadRow.pinned==Rows.contextAheadRow.pinnedBy)=true:=by kernel_rfl
theorem k31:(Rows.contextAheadRow.veiled==(Tryz.f4.params.toList++Rows.contextAheadSpec.plain.varTypes Tryz.pinned.checked.prog++Tryz.f4.resultTypes.toList).any (Tryz.pinned.checked.prog.veiledRec ·))=true:=by kernel_rfl
theorem k32:(Rows.contextAheadRow.veiledFits Tryz.pinned.checked.prog Tryz.f4.params.toList (Tryz.f4.params.toList++Rows.contextAheadSpec.plain.varTypes Tryz.pinned.checked.prog++Tryz.f4.resultTypes.toList))=true:=by kernel_rfl
theorem aT {a b:Bool} (h1:a=true) (h2:b=true):(a&&b)=true:=by rw[h1,h2];rfl
theorem closed:joinedFacts Tryz.pinned.checked.prog 4 Tryz.f4 Rows.contextAheadSpec Rows.contextAheadRow=true:=(aT (aT (aT (aT (aT (aT (aT (aT (aT (aT (aT (aT (aT (aT (aT (aT (aT (aT (aT (aT (aT (aT (aT (aT (aT (aT (aT (aT (aT (aT (aT k1 k2) k3) k4) k5) k6) k7) k8) k9) k10) k11) k12) k13) k14) k15) k16) k17) k18) k19) k20) k21) k22) k23) k24) k25) k26) k27) k28) k29) k30) k31) k32)
theorem g1:Rows.contextAheadRow.wfByText (OpenSpec.ofChange Rows.contextAheadSpec)=true:=by kernel_rfl
theorem g2:Tryz.pinned.checked.prog.mainIs=some ((true, "0fef6acfa858a6169a2c5b7f6c25daaec5cec5e216bb7946d3e811366dca14a2").1,(true, "0fef6acfa858a6169a2c5b7f6c25daaec5cec5e216bb7946d3e811366dca14a2").2.toList):=by kernel_rfl
theorem g3:false=Tryz.pinned.checked.prog.looks []:=by kernel_rfl
theorem g4:Tryz.prog.funcNamed "quillwort/quillwortlaw21.ContextAhead" =some 4:=by kernel_rfl
theorem g5:([9,9,9].all fun u=> !Tryz.prog.wantsStandIn u)=true:=by kernel_rfl
theorem g6:false=Rows.contextAheadRow.goesBy Tryz.pinned.checked.prog:=by kernel_rfl
theorem Ac:Rows.ContextAheadSaid:=
 OpenClaim.holds_of_wide 4 Tryz.f4 rfl rfl rfl rfl rfl rfl rfl ⟨rfl,rfl,rfl,rfl,rfl⟩ rfl rfl rfl rfl rfl g4 Tryz.func4 closed
  (of_decide_eq_true (by kernel_rfl)) (by unfold Func.isWrapper;first|(rw[if_pos (by decide+kernel)];kernel_rfl)|(rw[if_neg (by decide+kernel)];exact⟨rfl,rfl⟩))
  (fun os started H enc _=>lifted os started H enc)
theorem holds:Rows.ContextAheadCardSaid:=
 Claim7.holds_tied_plain_at .later [] [.data,.pinned] true (true, "0fef6acfa858a6169a2c5b7f6c25daaec5cec5e216bb7946d3e811366dca14a2") false Ac (fun _ h=>by cases h) g1 (fun _ h=>by cases h) contextAhead_row_tie rfl ⟨rfl,rfl⟩ g2 rfl
  (fun f fn hf hfn=>by
   obtain rfl:f=4:=Option.some.inj (g4.symm.trans hf)|>.symm;obtain rfl:fn=Tryz.f4:=(Option.some.inj (Tryz.func4.symm.trans hfn)).symm;exact⟨g3,fun j t ht=>by
    rw[Tryz.params4]at ht;have hm:t∈[9,9,9]:=by simpa using Array.mem_of_getElem? ht
    have hall:=g5;exact(show Tryz.prog.wantsStandIn t=false by simpa using List.all_eq_true.1 hall t hm)⟩)
  g6
#print axioms holds
end Go.Proofs.YtfmikaahgehndaaGreatDoor.tContextAhead
