/-
  InsertPuts: the given statement: for every input the Go function quillwortlaw23.InsertPuts returns true, and each argument reads afterwards as it read before. No conditions.
-/
import Derived.Test.YtdfhjhkcjecmlaaGreatDoorRows
import Derived.Test.YtdfhjhkcjecmlaaGreatDoorCards
import Derived.Test.YtdfhjhkcjecmlaaGreatDoorTie
import Derived.LaidMore
import Derived.Stop.LaidErr
import Derived.Shelf.Vars
import Derived.Lay
import Derived.SevenTiedAt
import Derived.Stop.Joined
import Derived.ProofKit
import Derived.OpenShut
import Derived.ShutString
import Derived.ChangeOld
import Derived.Below
import Derived.Test.YtdfhjhkcjecmlaaGreatDoorZ11
set_option linter.unusedVariables false
set_option linter.unusedSimpArgs false
set_option maxRecDepth 100000
set_option maxHeartbeats 4000000
namespace Go.Proofs.YtdfhjhkcjecmlaaGreatDoor.tInsertPuts
open Go.ChangeShapes Go.WideShapes Go.ChangeAt Go.RowKit
open Go.ChangeMaps (open_string shut_string)
theorem own:ownKnob Tryz.prog.godebug=none:=by kernel_rfl
theorem laidOut:laidOutB Tryz.prog=true:=by kernel_rfl
theorem aNU {W:World} (h:laidMetH Tryz.prog Rows.insertPutsRow.laid W):atW W:=trivial
theorem aNT {W:World} (h:W.ShapedOpen Tryz.prog):atV W:=
 cell_of_shapedOpen_int (g:=0) (t:=3) (zero:= #[.int .i64 0]) h (of_decide_eq_true (by kernel_rfl)) (by kernel_rfl) rfl (by kernel_rfl) (by kernel_rfl) (by kernel_rfl)
theorem walk {H:Type} (enc:TypeId×Value->H) (W:World) (base:Nat) (args:Array Value) (D S:List (DataW H)) (U:List MemPlace)
  (l: ∀(j:Nat) t v,Tryz.f3.params[j]? =some t->args[j]? =some v->Value.okWide Tryz.prog W .any base t v)
  (E:DataW.Whole enc Tryz.prog Tryz.f3.params.toList Rows.insertPutsSpec.vars false W args.toList D S U) (V:laidMetH Tryz.prog Rows.insertPutsRow.laid W) (X:W.ShapedOpen Tryz.prog):
  Calls Tryz.prog 3 args W fun e G=> ∃v,e=.returned v/\Rows.insertPutsSpec.post enc Tryz.prog Tryz.f3 false true false false W args v G:=by
 have Y:=E;obtain⟨p,q,I,Z,rfl,ai,aj⟩:=E;have J:DataW.TrodAll enc Tryz.prog W 0 (fun _=>true) true Tryz.f3.params.toList args.toList D p:=I;rw[Tryz.params3]at J l;obtain⟨o,ak,d0,al,p0,q0,an,rfl,rfl,K,r0⟩:=trodAll_cons J;obtain⟨i,ao,d1,au,p1,q1,rfl,rfl,rfl,L,r1⟩:=trodAll_cons r0;obtain⟨f,av,d2,aw,p2,q2,rfl,rfl,rfl,M,r2⟩:=trodAll_cons r1;obtain⟨d,ax,d3,ay,p3,q3,rfl,rfl,rfl,N,r3⟩:=trodAll_cons r2;obtain⟨rfl,rfl,rfl⟩:=trodAll_nil r3;obtain rfl:args= #[o,i,f,d]:=by cases args;simp_all
 obtain⟨rfl,rfl⟩:=trodVars_none Z;have O:=K;have ab: ∀x∈p0,x.block<W.heap.size:=by obtain⟨m,g⟩:=O;exact DataW.trod_lt m _ _ _ g
 obtain⟨u,y0,z0⟩:=EQ (T:=tt) tok (show tt.allK=true by kernel_rfl) (t:=9) (ty:=.str) (by kernel_rfl) (l 0 9 o rfl rfl) K;have k1:=L;have ad: ∀x∈p1,x.block<W.heap.size:=by obtain⟨m,g⟩:=k1;exact DataW.trod_lt m _ _ _ g
 obtain⟨z,y1,z1⟩:=EQ (T:=tt) tok (show tt.allK=true by kernel_rfl) (t:=3) (ty:=(.int .i64)) (by kernel_rfl) (l 1 3 i rfl rfl) L;have k2:=M;have ae: ∀x∈p2,x.block<W.heap.size:=by obtain⟨m,g⟩:=k2;exact DataW.trod_lt m _ _ _ g
 obtain⟨A,y2,z2⟩:=EQ (T:=tt) tok (show tt.allK=true by kernel_rfl) (t:=9) (ty:=.str) (by kernel_rfl) (l 2 9 f rfl rfl) M;have k3:=N;have af: ∀x∈p3,x.block<W.heap.size:=by obtain⟨m,g⟩:=k3;exact DataW.trod_lt m _ _ _ g
 obtain⟨B,y3,z3⟩:=EQ (T:=tt) tok (show tt.allK=true by kernel_rfl) (t:=4) (ty:=.bool) (by kernel_rfl) (l 3 4 d rfl rfl) N;clear I;have ag:sD (mW W fun _=>False) [.str,(.int .i64),.str,.bool] (u,z,A,B,()) [o,i,f,d]:=⟨o,[i,f,d],rfl,y0,⟨i,[f,d],rfl,y1,⟨f,[d],rfl,y2,⟨d,[],rfl,y3,rfl⟩⟩⟩⟩;refine(agl (t:=.bool) (y:=true) aCJ rfl ((show TY aMP 3 aOi.ps aOi.rs (u,z,A,B,())=fn3 u z A B by kernel_rfl).trans (ayk u z A B)) (args:= #[o,i,f,d]) ag ⟨aNU V,aNT X⟩).mono fun e G ⟨ah,s⟩=> ?_;have he:e=.returned (.bool true):=ah;subst he;exact⟨_,rfl,_,_,_,[],_,[],Y,trodAll_mk1 (shut_bool Tryz.underlying4 _),(trodAll_cons_mk (Below.trod laidOut (by kernel_rfl) (of_decide_eq_true (by kernel_rfl)) O s ab) (trodAll_cons_mk (Below.trod laidOut (by kernel_rfl) (of_decide_eq_true (by kernel_rfl)) k1 s ad) (trodAll_cons_mk (Below.trod laidOut (by kernel_rfl) (of_decide_eq_true (by kernel_rfl)) k2 s ae) (trodAll_cons_mk (Below.trod laidOut (by kernel_rfl) (of_decide_eq_true (by kernel_rfl)) k3 s af) trodAll_mk0)))),rfl,s.frame _,fun h=>by cases h⟩
theorem lifted (os:Os) (f:os.Started) (H:Type) (enc:TypeId×Value->H):
  ReturnsInHanded {} Tryz.checked os 3 .any (fun w args=>(Rows.insertPutsSpec.pre enc Tryz.prog Tryz.f3 Rows.insertPutsRow.domain false w args/\laidMetH Tryz.prog Rows.insertPutsRow.laid w)/\sizedMet enc Tryz.prog Tryz.f3 (OpenSpec.ofChange Rows.insertPutsSpec) false w args)
   (Rows.insertPutsSpec.post enc Tryz.prog Tryz.f3 false true false false):=by
 refine returnsInHanded_of_calls own f (by kernel_rfl)
  (ChangeSpec.witness_shaped (enc:=enc) (C:=Tryz.checked) (os:=os) (X:=fun w _=>laidMetH Tryz.prog Rows.insertPutsRow.laid w) false (World.laidAll Tryz.prog os Rows.insertPutsRow.laid) #[.string ⟨#[]⟩,.int .i64 0,.string ⟨#[]⟩,.bool false] 8 (World.laidAll_os _ _ _)
   (World.shaped_of_ZipB (by kernel_rfl) (by kernel_rfl)) (by kernel_rfl) (by kernel_rfl) (by kernel_rfl)
   (by rw[MakeChecks.laidMetH_plain _ _ _ (by kernel_rfl)];exact laidMet_laidAll _ (by kernel_rfl) (by kernel_rfl))) ?_
 intro w d i _ g _ h j _;obtain⟨_,_,_,l,m,_,_,_,_,o⟩:=h;obtain rfl:l=Tryz.f3:=Option.some.inj (m.symm.trans Tryz.func3);obtain⟨⟨⟨p,q,s,u,_⟩,x⟩,_⟩:=j;refine(walk enc (w.forCall d i) w.heap.size i.args p q s o (DataW.Whole.of_heap (w':=w.forCall d i) (by rfl) u) (laidMetH.of_heap (by rfl) x) g).mono fun e A ⟨v,y,z⟩=> ?_;subst y;exact ChangeSpec.post_blind z
noncomputable abbrev pP:=Tryz.pinned.checked.prog
noncomputable abbrev pF:=Tryz.f3
abbrev pS:=Rows.insertPutsSpec
abbrev pR:=Rows.insertPutsRow
theorem k1:(pR.wf (OpenSpec.ofChange pS))=true:=by kernel_rfl
theorem k2:(laidOutB pP)=true:=by kernel_rfl
theorem k3:(mapsRowed pP)=true:=by kernel_rfl
theorem k4:(pF.params.all (pP.readableRec ·))=true:=by kernel_rfl
theorem k5:(namedTie pP pR.named pS.vars)=true:=by kernel_rfl
theorem k6:(pR.stops==[])=true:=by kernel_rfl
theorem k7:(pP.stops==[])=true:=by kernel_rfl
theorem k8:(pR.knobs==[])=true:=by kernel_rfl
theorem k9:(pP.stopKnobs==[])=true:=by kernel_rfl
theorem k10:(pR.inPlace==pP.inPlace 3)=true:=by kernel_rfl
theorem k11:(pR.unfollowed==pP.unfollowed 3)=true:=by kernel_rfl
theorem k12:(pR.recurses==pP.recurses 3)=true:=by kernel_rfl
theorem k13:(pR.named==pP.varsNamed 3)=true:=by kernel_rfl
theorem k14:(pR.maps==(pF.params.toList++pS.plain.varTypes pP).any (pP.mapsRec ·))=true:=by kernel_rfl
theorem k15:(pR.ifaces==(pF.params.toList++pS.plain.varTypes pP).any (pP.ifacesRec ·))=true:=by kernel_rfl
theorem k16:(pR.mapsOut==pP.mapsAmong pF.resultTypes.toList)=true:=by kernel_rfl
theorem k17:(pR.loops==(pF.params.toList++pS.plain.varTypes pP).any (pP.loopsFrom ·))=true:=by kernel_rfl
theorem k18:(pR.wideKeys==(pF.params.toList++pS.plain.varTypes pP++pF.resultTypes.toList).any (pP.wideKeysFrom ·))=true:=by kernel_rfl
theorem k19:(pS.vars.all (pP.varReadable ·))=true:=by kernel_rfl
theorem k20:(pF.resultTypes.all (fun t=>pP.readableRec t&&decide (t<pP.types.size)))=true:=by kernel_rfl
theorem k21:(pR.ifacesOut==pF.resultTypes.toList.any (pP.ifacesRec ·))=true:=by kernel_rfl
theorem k22:(pR.loopsOut==pF.resultTypes.toList.any (pP.loopsFrom ·))=true:=by kernel_rfl
theorem k23:(pR.plainKeys==pP.plainKeys)=true:=by kernel_rfl
theorem k24:(pR.shortTexts.isNone)=true:=by kernel_rfl
theorem k25:(pP.stopsHeard)=true:=by kernel_rfl
theorem k26:(pP.mayEnter)=true:=by kernel_rfl
theorem k27:(pR.lifted==pP.liftsFinal)=true:=by kernel_rfl
theorem k28:(pP.make==some pR.make)=true:=by kernel_rfl
theorem k29:(pR.kinds==(if pR.domain.isEmpty then []else pF.params.toList.map fun t=>match pP.underlying t with|some (.int k)=>some k|_=>none))=true:=by kernel_rfl
theorem k30:(pR.pinned==pR.pinnedBy)=true:=by kernel_rfl
theorem k31:(pR.veiled==(pF.params.toList++pS.plain.varTypes pP++pF.resultTypes.toList).any (pP.veiledRec ·))=true:=by kernel_rfl
theorem k32:(pR.veiledFits pP pF.params.toList (pF.params.toList++pS.plain.varTypes pP++pF.resultTypes.toList))=true:=by kernel_rfl
theorem aT {a b:Bool} (d:a=true) (h2:b=true):(a&&b)=true:=by rw[d,h2];rfl
theorem closed:joinedFacts pP 3 pF pS pR=true:=(aT (aT (aT (aT (aT (aT (aT (aT (aT (aT (aT (aT (aT (aT (aT (aT (aT (aT (aT (aT (aT (aT (aT (aT (aT (aT (aT (aT (aT (aT (aT k1 k2) k3) k4) k5) k6) k7) k8) k9) k10) k11) k12) k13) k14) k15) k16) k17) k18) k19) k20) k21) k22) k23) k24) k25) k26) k27) k28) k29) k30) k31) k32)
theorem g1:Rows.insertPutsRow.wfByText (OpenSpec.ofChange Rows.insertPutsSpec)=true:=by kernel_rfl
theorem g2:Tryz.pinned.checked.prog.mainIs=some ((true, "bdf4e210c91e467fb4542b84dd20e3228b912a58587be6d915a50cf4c21e6666").1,(true, "bdf4e210c91e467fb4542b84dd20e3228b912a58587be6d915a50cf4c21e6666").2.toList):=by kernel_rfl
theorem g3:false=Tryz.pinned.checked.prog.looks []:=by kernel_rfl
theorem g4:Tryz.prog.funcNamed "quillwort/quillwortlaw23.InsertPuts" =some 3:=by kernel_rfl
theorem g5:([9,3,9,4].all fun u=> !Tryz.prog.wantsStandIn u)=true:=by kernel_rfl
theorem g6:false=Rows.insertPutsRow.goesBy Tryz.pinned.checked.prog:=by kernel_rfl
theorem asG:Rows.InsertPutsSaid:=
 OpenClaim.holds_of_wide 3 Tryz.f3 rfl rfl rfl rfl rfl rfl rfl ⟨rfl,rfl,rfl,rfl,rfl⟩ rfl rfl rfl rfl rfl g4 Tryz.func3 closed
  (of_decide_eq_true (by kernel_rfl)) (by unfold Func.isWrapper;first|(rw[am (by decide+kernel)];kernel_rfl)|(rw[aq (by decide+kernel)];exact⟨rfl,rfl⟩))
  (fun d e H enc _=>lifted d e H enc)
theorem holds:Rows.InsertPutsCardSaid:=
 Claim7.holds_tied_plain_at .later [] [.data,.pinned] true (true, "bdf4e210c91e467fb4542b84dd20e3228b912a58587be6d915a50cf4c21e6666") false asG (fun _ h=>by cases h) g1 (fun _ h=>by cases h) insertPuts_row_tie rfl ⟨rfl,rfl⟩ g2 rfl
  (fun f fn e g=>by
   obtain rfl:f=3:=Option.some.inj (g4.symm.trans e)|>.symm;obtain rfl:fn=Tryz.f3:=(Option.some.inj (Tryz.func3.symm.trans g)).symm;exact⟨g3,fun j t d=>by
    rw[Tryz.params3]at d;have i:t∈[9,3,9,4]:=by simpa using Array.mem_of_getElem? d
    have l:=g5;exact(show Tryz.prog.wantsStandIn t=false by simpa using List.all_eq_true.1 l t i)⟩)
  g6
#print axioms holds
end Go.Proofs.YtdfhjhkcjecmlaaGreatDoor.tInsertPuts
