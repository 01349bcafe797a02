/-
  InsertOutside: the given statement: for every input the Go function quillwortlaw23.InsertOutside returns true, and each argument reads afterwards as it read before. No conditions.
-/
import Derived.Test.YtfmikaahgehndaaGreatDoorRows
import Derived.Test.YtfmikaahgehndaaGreatDoorCards
import Derived.Test.YtfmikaahgehndaaGreatDoorTie
import Derived.LaidMore
import Derived.Stop.LaidErr
import Derived.Shelf.Vars
import Derived.Lay
import Derived.SevenTiedAt
import Derived.Stop.Joined
import Derived.ProofKit
import Derived.OpenShut
import Derived.ShutString
import Derived.ChangeOld
import Derived.Below
import Derived.Test.YtfmikaahgehndaaGreatDoorV5
set_option linter.unusedVariables false
set_option linter.unusedSimpArgs false
set_option maxRecDepth 100000
set_option maxHeartbeats 4000000
namespace Go.Proofs.YtfmikaahgehndaaGreatDoor.tInsertOutside
open Go.ChangeShapes Go.WideShapes Go.ChangeAt Go.RowKit
open Go.ChangeMaps (open_string shut_string)
theorem own:ownKnob Tryz.prog.godebug=none:=by kernel_rfl
theorem laidOut:laidOutB Tryz.prog=true:=by kernel_rfl
theorem acf {W:World} (h:laidMetH Tryz.prog Rows.insertOutsideRow.laid W):ac7 W:=trivial
theorem ace {W:World} (h:W.ShapedOpen Tryz.prog):ac6 W:=
 cell_of_shapedOpen_int (g:=0) (t:=3) (zero:= #[.int .i64 0]) h (of_decide_eq_true (by kernel_rfl)) (by kernel_rfl) rfl (by kernel_rfl) (by kernel_rfl) (by kernel_rfl)
theorem walk {H:Type} (enc:TypeId×Value->H) (W:World) (base:Nat) (args:Array Value) (ds gs:List (DataW H)) (before:List MemPlace)
  (hval: ∀(j:Nat) t v,Tryz.f7.params[j]? =some t->args[j]? =some v->Value.okWide Tryz.prog W .any base t v)
  (hW:DataW.Whole enc Tryz.prog Tryz.f7.params.toList Rows.insertOutsideSpec.vars false W args.toList ds gs before) (hL:laidMetH Tryz.prog Rows.insertOutsideRow.laid W) (hsh:W.ShapedOpen Tryz.prog):
  Calls Tryz.prog 7 args W fun e W'=> ∃v,e=.returned v/\Rows.insertOutsideSpec.post enc Tryz.prog Tryz.f7 false true false false W args v W':=by
 have hW':=hW;obtain⟨p,q,hA0,hV,rfl,hfz,hnd⟩:=hW;have hA:DataW.TrodAll enc Tryz.prog W 0 (fun _=>true) true Tryz.f7.params.toList args.toList ds p:=hA0;rw[Tryz.params7]at hA hval;obtain⟨v0,vs0,d0,ds0,p0,q0,hargs,rfl,rfl,h0,r0⟩:=trodAll_cons hA;obtain⟨v1,vs1,d1,ds1,p1,q1,rfl,rfl,rfl,h1,r1⟩:=trodAll_cons r0;obtain⟨v2,vs2,d2,ds2,p2,q2,rfl,rfl,rfl,h2,r2⟩:=trodAll_cons r1;obtain⟨v3,vs3,d3,ds3,p3,q3,rfl,rfl,rfl,h3,r3⟩:=trodAll_cons r2;obtain⟨rfl,rfl,rfl⟩:=trodAll_nil r3;obtain rfl:args= #[v0,v1,v2,v3]:=by cases args;simp_all
 obtain⟨rfl,rfl⟩:=trodVars_none hV;have k0:=h0;have lt0: ∀x∈p0,x.block<W.heap.size:=by obtain⟨m,hm⟩:=k0;exact DataW.trod_lt m _ _ _ hm
 obtain⟨x0,y0,z0⟩:=lq (T:=tt) tok (show tt.allK=true by kernel_rfl) (t:=9) (ty:=.str) (by kernel_rfl) (hval 0 9 v0 rfl rfl) h0;have k1:=h1;have lt1: ∀x∈p1,x.block<W.heap.size:=by obtain⟨m,hm⟩:=k1;exact DataW.trod_lt m _ _ _ hm
 obtain⟨x1,y1,z1⟩:=lq (T:=tt) tok (show tt.allK=true by kernel_rfl) (t:=3) (ty:=(.int .i64)) (by kernel_rfl) (hval 1 3 v1 rfl rfl) h1;have k2:=h2;have lt2: ∀x∈p2,x.block<W.heap.size:=by obtain⟨m,hm⟩:=k2;exact DataW.trod_lt m _ _ _ hm
 obtain⟨x2,y2,z2⟩:=lq (T:=tt) tok (show tt.allK=true by kernel_rfl) (t:=9) (ty:=.str) (by kernel_rfl) (hval 2 9 v2 rfl rfl) h2;have k3:=h3;have lt3: ∀x∈p3,x.block<W.heap.size:=by obtain⟨m,hm⟩:=k3;exact DataW.trod_lt m _ _ _ hm
 obtain⟨x3,y3,z3⟩:=lq (T:=tt) tok (show tt.allK=true by kernel_rfl) (t:=4) (ty:=.bool) (by kernel_rfl) (hval 3 4 v3 rfl rfl) h3;clear hA0;have hdv:oh (kJ W fun _=>False) [.str,(.int .i64),.str,.bool] (x0,x1,x2,x3,()) [v0,v1,v2,v3]:=⟨v0,[v1,v2,v3],rfl,y0,⟨v1,[v2,v3],rfl,y1,⟨v2,[v3],rfl,y2,⟨v3,[],rfl,y3,rfl⟩⟩⟩⟩;refine(Dc (t:=.bool) (y:=true) asI rfl ((show N9 aBB 7 aC8.ps aC8.rs (x0,x1,x2,x3,())=fn7 x0 x1 x2 x3 by kernel_rfl).trans (abC x0 x1 x2 x3)) (args:= #[v0,v1,v2,v3]) hdv ⟨acf hL,ace hsh⟩).mono fun e W' ⟨he0,bel⟩=> ?_;have he:e=.returned (.bool true):=he0;subst he;exact⟨_,rfl,_,_,_,[],_,[],hW',trodAll_mk1 (shut_bool Tryz.underlying4 _),(trodAll_cons_mk (Below.trod laidOut (by kernel_rfl) (of_decide_eq_true (by kernel_rfl)) k0 bel lt0) (trodAll_cons_mk (Below.trod laidOut (by kernel_rfl) (of_decide_eq_true (by kernel_rfl)) k1 bel lt1) (trodAll_cons_mk (Below.trod laidOut (by kernel_rfl) (of_decide_eq_true (by kernel_rfl)) k2 bel lt2) (trodAll_cons_mk (Below.trod laidOut (by kernel_rfl) (of_decide_eq_true (by kernel_rfl)) k3 bel lt3) trodAll_mk0)))),rfl,bel.frame _,fun h=>by cases h⟩
theorem lifted (os:Os) (started:os.Started) (H:Type) (enc:TypeId×Value->H):
  ReturnsInHanded {} Tryz.checked os 7 .any (fun w args=>(Rows.insertOutsideSpec.pre enc Tryz.prog Tryz.f7 Rows.insertOutsideRow.domain false w args/\laidMetH Tryz.prog Rows.insertOutsideRow.laid w)/\sizedMet enc Tryz.prog Tryz.f7 (OpenSpec.ofChange Rows.insertOutsideSpec) false w args)
   (Rows.insertOutsideSpec.post enc Tryz.prog Tryz.f7 false true false false):=by
 refine returnsInHanded_of_calls own started (by kernel_rfl)
  (ChangeSpec.witness_shaped (enc:=enc) (C:=Tryz.checked) (os:=os) (X:=fun w _=>laidMetH Tryz.prog Rows.insertOutsideRow.laid w) false (World.laidAll Tryz.prog os Rows.insertOutsideRow.laid) #[.string ⟨#[]⟩,.int .i64 0,.string ⟨#[]⟩,.bool false] 8 (World.laidAll_os _ _ _)
   (World.shaped_of_ZipB (by kernel_rfl) (by kernel_rfl)) (by kernel_rfl) (by kernel_rfl) (by kernel_rfl)
   (by rw[MakeChecks.laidMetH_plain _ _ _ (by kernel_rfl)];exact laidMet_laidAll _ (by kernel_rfl) (by kernel_rfl))) ?_
 intro w tape i _ hsh _ hok hpre _;obtain⟨_,_,_,fn',hfn',_,_,_,_,hv⟩:=hok;obtain rfl:fn'=Tryz.f7:=Option.some.inj (hfn'.symm.trans Tryz.func7);obtain⟨⟨⟨ds,gs,before,hw,_⟩,hx⟩,_⟩:=hpre;refine(walk enc (w.forCall tape i) w.heap.size i.args ds gs before hv (DataW.Whole.of_heap (w':=w.forCall tape i) (by rfl) hw) (laidMetH.of_heap (by rfl) hx) hsh).mono fun e W' ⟨v,he,hp⟩=> ?_;subst he;exact ChangeSpec.post_blind hp
theorem k1:(Rows.insertOutsideRow.wf (OpenSpec.ofChange Rows.insertOutsideSpec))=true:=by kernel_rfl
theorem k2:(laidOutB Tryz.pinned.checked.prog)=true:=by kernel_rfl
theorem k3:(mapsRowed Tryz.pinned.checked.prog)=true:=by kernel_rfl
theorem k4:(Tryz.f7.params.all (Tryz.pinned.checked.prog.readableRec ·))=true:=by kernel_rfl
theorem k5:(namedTie Tryz.pinned.checked.prog Rows.insertOutsideRow.named Rows.insertOutsideSpec.vars)=true:=by kernel_rfl
theorem k6:(Rows.insertOutsideRow.stops==[])=true:=by kernel_rfl
theorem k7:(Tryz.pinned.checked.prog.stops==[])=true:=by kernel_rfl
theorem k8:(Rows.insertOutsideRow.knobs==[])=true:=by kernel_rfl
theorem k9:(Tryz.pinned.checked.prog.stopKnobs==[])=true:=by kernel_rfl
theorem k10:(Rows.insertOutsideRow.inPlace==Tryz.pinned.checked.prog.inPlace 7)=true:=by kernel_rfl
theorem k11:(Rows.insertOutsideRow.unfollowed==Tryz.pinned.checked.prog.unfollowed 7)=true:=by kernel_rfl
theorem k12:(Rows.insertOutsideRow.recurses==Tryz.pinned.checked.prog.recurses 7)=true:=by kernel_rfl
theorem k13:(Rows.insertOutsideRow.named==Tryz.pinned.checked.prog.varsNamed 7)=true:=by kernel_rfl
theorem k14:(Rows.insertOutsideRow.maps==(Tryz.f7.params.toList++Rows.insertOutsideSpec.plain.varTypes Tryz.pinned.checked.prog).any (Tryz.pinned.checked.prog.mapsRec ·))=true:=by kernel_rfl
theorem k15:(Rows.insertOutsideRow.ifaces==(Tryz.f7.params.toList++Rows.insertOutsideSpec.plain.varTypes Tryz.pinned.checked.prog).any (Tryz.pinned.checked.prog.ifacesRec ·))=true:=by kernel_rfl
theorem k16:(Rows.insertOutsideRow.mapsOut==Tryz.pinned.checked.prog.mapsAmong Tryz.f7.resultTypes.toList)=true:=by kernel_rfl
theorem k17:(Rows.insertOutsideRow.loops==(Tryz.f7.params.toList++Rows.insertOutsideSpec.plain.varTypes Tryz.pinned.checked.prog).any (Tryz.pinned.checked.prog.loopsFrom ·))=true:=by kernel_rfl
theorem k18:(Rows.insertOutsideRow.wideKeys==(Tryz.f7.params.toList++Rows.insertOutsideSpec.plain.varTypes Tryz.pinned.checked.prog++Tryz.f7.resultTypes.toList).any (Tryz.pinned.checked.prog.wideKeysFrom ·))=true:=by kernel_rfl
theorem k19:(Rows.insertOutsideSpec.vars.all (Tryz.pinned.checked.prog.varReadable ·))=true:=by kernel_rfl
theorem k20:(Tryz.f7.resultTypes.all (fun t=>Tryz.pinned.checked.prog.readableRec t&&decide (t<Tryz.pinned.checked.prog.types.size)))=true:=by kernel_rfl
theorem k21:(Rows.insertOutsideRow.ifacesOut==Tryz.f7.resultTypes.toList.any (Tryz.pinned.checked.prog.ifacesRec ·))=true:=by kernel_rfl
theorem k22:(Rows.insertOutsideRow.loopsOut==Tryz.f7.resultTypes.toList.any (Tryz.pinned.checked.prog.loopsFrom ·))=true:=by kernel_rfl
theorem k23:(Rows.insertOutsideRow.plainKeys==Tryz.pinned.checked.prog.plainKeys)=true:=by kernel_rfl
theorem k24:(Rows.insertOutsideRow.shortTexts.isNone)=true:=by kernel_rfl
theorem k25:(Tryz.pinned.checked.prog.stopsHeard)=true:=by kernel_rfl
theorem k26:(Tryz.pinned.checked.prog.mayEnter)=true:=by kernel_rfl
theorem k27:(Rows.insertOutsideRow.lifted==Tryz.pinned.checked.prog.liftsFinal)=true:=by kernel_rfl
theorem k28:(Tryz.pinned.checked.prog.make==some Rows.insertOutsideRow.make)=true:=by kernel_rfl
theorem k29:(Rows.insertOutsideRow.kinds==(if Rows.insertOutsideRow.domain.isEmpty then []else Tryz.f7.params.toList.map fun t=>match Tryz.pinned.checked.prog.underlying t with|some (.int k)=>some k|_=>none))=true:=by kernel_rfl
theorem k30:(Rows.insertOutsideRow.pinned==Rows.insertOutsideRow.pinnedBy)=true:=by kernel_rfl
theorem k31:(Rows.insertOutsideRow.veiled==(Tryz.f7.params.toList++Rows.insertOutsideSpec.plain.varTypes Tryz.pinned.checked.prog++Tryz.f7.resultTypes.toList).any (Tryz.pinned.checked.prog.veiledRec ·))=true:=by kernel_rfl
theorem k32:(Rows.insertOutsideRow.veiledFits Tryz.pinned.checked.prog Tryz.f7.params.toList (Tryz.f7.params.toList++Rows.insertOutsideSpec.plain.varTypes Tryz.pinned.checked.prog++Tryz.f7.resultTypes.toList))=true:=by kernel_rfl
theorem aT {a b:Bool} (h1:a=true) (h2:b=true):(a&&b)=true:=by rw[h1,h2];rfl
theorem closed:joinedFacts Tryz.pinned.checked.prog 7 Tryz.f7 Rows.insertOutsideSpec Rows.insertOutsideRow=true:=(aT (aT (aT (aT (aT (aT (aT (aT (aT (aT (aT (aT (aT (aT (aT (aT (aT (aT (aT (aT (aT (aT (aT (aT (aT (aT (aT (aT (aT (aT (aT k1 k2) k3) k4) k5) k6) k7) k8) k9) k10) k11) k12) k13) k14) k15) k16) k17) k18) k19) k20) k21) k22) k23) k24) k25) k26) k27) k28) k29) k30) k31) k32)
theorem g1:Rows.insertOutsideRow.wfByText (OpenSpec.ofChange Rows.insertOutsideSpec)=true:=by kernel_rfl
theorem g2:Tryz.pinned.checked.prog.mainIs=some ((true, "0fef6acfa858a6169a2c5b7f6c25daaec5cec5e216bb7946d3e811366dca14a2").1,(true, "0fef6acfa858a6169a2c5b7f6c25daaec5cec5e216bb7946d3e811366dca14a2").2.toList):=by kernel_rfl
theorem g3:false=Tryz.pinned.checked.prog.looks []:=by kernel_rfl
theorem g4:Tryz.prog.funcNamed "quillwort/quillwortlaw23.InsertOutside" =some 7:=by kernel_rfl
theorem g5:([9,3,9,4].all fun u=> !Tryz.prog.wantsStandIn u)=true:=by kernel_rfl
theorem g6:false=Rows.insertOutsideRow.goesBy Tryz.pinned.checked.prog:=by kernel_rfl
theorem Ac:Rows.InsertOutsideSaid:=
 OpenClaim.holds_of_wide 7 Tryz.f7 rfl rfl rfl rfl rfl rfl rfl ⟨rfl,rfl,rfl,rfl,rfl⟩ rfl rfl rfl rfl rfl g4 Tryz.func7 closed
  (of_decide_eq_true (by kernel_rfl)) (by unfold Func.isWrapper;first|(rw[if_pos (by decide+kernel)];kernel_rfl)|(rw[if_neg (by decide+kernel)];exact⟨rfl,rfl⟩))
  (fun os started H enc _=>lifted os started H enc)
theorem holds:Rows.InsertOutsideCardSaid:=
 Claim7.holds_tied_plain_at .later [] [.data,.pinned] true (true, "0fef6acfa858a6169a2c5b7f6c25daaec5cec5e216bb7946d3e811366dca14a2") false Ac (fun _ h=>by cases h) g1 (fun _ h=>by cases h) insertOutside_row_tie rfl ⟨rfl,rfl⟩ g2 rfl
  (fun f fn hf hfn=>by
   obtain rfl:f=7:=Option.some.inj (g4.symm.trans hf)|>.symm;obtain rfl:fn=Tryz.f7:=(Option.some.inj (Tryz.func7.symm.trans hfn)).symm;exact⟨g3,fun j t ht=>by
    rw[Tryz.params7]at ht;have hm:t∈[9,3,9,4]:=by simpa using Array.mem_of_getElem? ht
    have hall:=g5;exact(show Tryz.prog.wantsStandIn t=false by simpa using List.all_eq_true.1 hall t hm)⟩)
  g6
#print axioms holds
end Go.Proofs.YtfmikaahgehndaaGreatDoor.tInsertOutside
