/-
  TreeShows: the given statement: for every input the Go function quillwortlaw11.TreeShows returns true, and each argument reads afterwards as it read before. No conditions.
-/
import Derived.Test.YtnmaceljkegenaaDoorRows
import Derived.Test.YtnmaceljkegenaaDoorCards
import Derived.Test.YtnmaceljkegenaaDoorTie
import Derived.LaidMore
import Derived.Stop.LaidErr
import Derived.Lay
import Derived.SevenTiedAt
import Derived.Stop.Joined
import Derived.Test.YtnmaceljkegenaaDoorTh
import Derived.Test.YtnmaceljkegenaaDoorBd
import Derived.ProofKit
import Derived.OpenShut
import Derived.ShutString
import Derived.ChangeOld
import Derived.Below
namespace Go.Proofs.YtnmaceljkegenaaDoor.tTreeShows
open Go.ChangeShapes Go.WideShapes Go.ChangeAt Go.RowKit
open Go.ChangeMaps (open_string shut_string)
set_option linter.unusedVariables false
set_option linter.unusedSimpArgs false

theorem own : ownKnob Tryd.prog.godebug = none := by kernel_rfl
theorem laidOut : laidOutB Tryd.prog = true := by kernel_rfl

set_option maxRecDepth 100000
theorem laid_eq : Rows.treeShowsRow.laid.drop 2 = ("internal/strconv.uint64pow10", Lib.tabData .u64 Lib.pow10Tab) :: Rows.treeShowsRow.laid.drop 3 := by kernel_rfl
theorem phi_of {W : World} (h : laidMetH Tryd.prog Rows.treeShowsRow.laid W) : Phi W := by
  rw [MakeChecks.laidMetH_plain _ _ _ (by kernel_rfl)] at h
  have h2 : laidMet Tryd.prog (Rows.treeShowsRow.laid.drop 2) W := (laidMet.tail (laidMet.tail h))
  rw [laid_eq] at h2
  exact Lib.tabIs_of_head (g := 1) (t := 66) (e := 59) (n := 20) pow10_g (by kernel_rfl) (by kernel_rfl) (by kernel_rfl) (by kernel_rfl) (by kernel_rfl) h2

theorem lifted (os : Os) (started : os.Started) (H : Type) (enc : TypeId × Value → H) :
    ReturnsInHanded {} Tryd.checked os 3 .any (fun w args => (Rows.treeShowsSpec.pre enc Tryd.prog Tryd.f3 Rows.treeShowsRow.domain false w args ∧ laidMetH Tryd.prog Rows.treeShowsRow.laid w) ∧ sizedMet enc Tryd.prog Tryd.f3 (OpenSpec.ofChange Rows.treeShowsSpec) false w args)
      (Rows.treeShowsSpec.post enc Tryd.prog Tryd.f3 false true false false) := by
  refine returnsInHanded_of_change_and (C := Tryd.checked) (X := fun w _ => laidMetH Tryd.prog Rows.treeShowsRow.laid w) (fun _ _ _ hh h => h.of_heap hh) own started (by kernel_rfl) Tryd.func3
    (ChangeSpec.witness_shaped (enc := enc) (C := Tryd.checked) (os := os) (X := fun w _ => laidMetH Tryd.prog Rows.treeShowsRow.laid w) false (World.laidAll Tryd.prog os Rows.treeShowsRow.laid) #[.slice none 0 0] 8 (World.laidAll_os _ _ _)
      (World.shaped_of_ZipB (by kernel_rfl) (by kernel_rfl)) (by kernel_rfl) (by kernel_rfl) (by kernel_rfl)
      (by rw [MakeChecks.laidMetH_plain _ _ _ (by kernel_rfl)]; exact laidMet_laidAll _ (by kernel_rfl) (by kernel_rfl))) ?_
  intro W base args ds gs before hval0 hW hcnd _ hL _
  have hval : ∀ (j : Nat) t v, Tryd.f3.params[j]? = some t → args[j]? = some v → Value.okWide Tryd.prog W .any base t v := hval0
  have hW' := hW
  obtain ⟨p, q, hA0, hV, rfl, hfz, hnd⟩ := hW
  have hA : DataW.TrodAll enc Tryd.prog W 0 (fun _ => true) true Tryd.f3.params.toList args.toList ds p := hA0
  rw [Tryd.params3] at hA hval
  obtain ⟨v0, vs0, d0, ds0, p0, q0, hargs, rfl, rfl, h0, r0⟩ := trodAll_cons hA
  obtain ⟨rfl, rfl, rfl⟩ := trodAll_nil r0
  obtain rfl : args = #[v0] := by cases args; simp_all
  obtain ⟨rfl, rfl⟩ := trodVars_none hV
  have k0 := h0
  have lt0 : ∀ x ∈ p0, x.block < W.heap.size := by obtain ⟨m, hm⟩ := k0; exact DataW.trod_lt m _ _ _ hm
  obtain ⟨x0, y0, z0⟩ := open_plain (T := tt) tok (show tt.allK = true by kernel_rfl) (t := 22) (ty := (.list (.pair (.int .i64) (.pair (.int .i64) (.pair (.int .i64) (.pair (.int .i64) .unit)))))) (by kernel_rfl) (hval 0 22 v0 rfl rfl) h0
  clear hA0 hval0
  have hdv : DVals (base0 W fun _ => False) [(.list (.pair (.int .i64) (.pair (.int .i64) (.pair (.int .i64) (.pair (.int .i64) .unit)))))] (x0, ()) [v0] := ⟨v0, [], rfl, y0, rfl⟩
  refine (call_of_run (t := .bool) (y := true) env3_ok rfl ((show runF env3 3 sum3.ps sum3.rs (x0, ()) = fn3 x0 by kernel_rfl).trans (law_shows x0 z0)) (args := #[v0]) hdv (phi_of hL)).mono fun e W' ⟨he0, bel⟩ => ?_
  have he : e = .returned (.bool true) := he0
  subst he
  exact ⟨_, rfl, _, _, _, [], _, [], hW', trodAll_mk1 (shut_bool Tryd.underlying4 _), (trodAll_cons_mk (Below.trod laidOut (by kernel_rfl) (of_decide_eq_true (by kernel_rfl)) k0 bel lt0) trodAll_mk0), rfl, bel.frame _, fun h => by cases h⟩

theorem k1 : (Rows.treeShowsRow.wf (OpenSpec.ofChange Rows.treeShowsSpec)) = true := by kernel_rfl
theorem k2 : (laidOutB Tryd.pinned.checked.prog) = true := by kernel_rfl
theorem k3 : (mapsRowed Tryd.pinned.checked.prog) = true := by kernel_rfl
theorem k4 : (Tryd.f3.params.all (Tryd.pinned.checked.prog.readableRec ·)) = true := by kernel_rfl
theorem k5 : (namedTie Tryd.pinned.checked.prog Rows.treeShowsRow.named Rows.treeShowsSpec.vars) = true := by kernel_rfl
theorem k6 : (Rows.treeShowsRow.stops == []) = true := by kernel_rfl
theorem k7 : (Tryd.pinned.checked.prog.stops == []) = true := by kernel_rfl
theorem k8 : (Rows.treeShowsRow.knobs == []) = true := by kernel_rfl
theorem k9 : (Tryd.pinned.checked.prog.stopKnobs == []) = true := by kernel_rfl
theorem k10 : (Rows.treeShowsRow.inPlace == Tryd.pinned.checked.prog.inPlace 3) = true := by kernel_rfl
theorem k11 : (Rows.treeShowsRow.unfollowed == Tryd.pinned.checked.prog.unfollowed 3) = true := by kernel_rfl
theorem k12 : (Rows.treeShowsRow.recurses == Tryd.pinned.checked.prog.recurses 3) = true := by kernel_rfl
theorem k13 : (Rows.treeShowsRow.named == Tryd.pinned.checked.prog.varsNamed 3) = true := by kernel_rfl
theorem k14 : (Rows.treeShowsRow.maps == (Tryd.f3.params.toList ++ Rows.treeShowsSpec.plain.varTypes Tryd.pinned.checked.prog).any (Tryd.pinned.checked.prog.mapsRec ·)) = true := by kernel_rfl
theorem k15 : (Rows.treeShowsRow.ifaces == (Tryd.f3.params.toList ++ Rows.treeShowsSpec.plain.varTypes Tryd.pinned.checked.prog).any (Tryd.pinned.checked.prog.ifacesRec ·)) = true := by kernel_rfl
theorem k16 : (Rows.treeShowsRow.mapsOut == Tryd.pinned.checked.prog.mapsAmong Tryd.f3.resultTypes.toList) = true := by kernel_rfl
theorem k17 : (Rows.treeShowsRow.loops == (Tryd.f3.params.toList ++ Rows.treeShowsSpec.plain.varTypes Tryd.pinned.checked.prog).any (Tryd.pinned.checked.prog.loopsFrom ·)) = true := by kernel_rfl
theorem k18 : (Rows.treeShowsRow.wideKeys == (Tryd.f3.params.toList ++ Rows.treeShowsSpec.plain.varTypes Tryd.pinned.checked.prog ++ Tryd.f3.resultTypes.toList).any (Tryd.pinned.checked.prog.wideKeysFrom ·)) = true := by kernel_rfl
theorem k19 : (Rows.treeShowsSpec.vars.all (Tryd.pinned.checked.prog.varReadable ·)) = true := by kernel_rfl
theorem k20 : (Tryd.f3.resultTypes.all (fun t => Tryd.pinned.checked.prog.readableRec t && decide (t < Tryd.pinned.checked.prog.types.size))) = true := by kernel_rfl
theorem k21 : (Rows.treeShowsRow.ifacesOut == Tryd.f3.resultTypes.toList.any (Tryd.pinned.checked.prog.ifacesRec ·)) = true := by kernel_rfl
theorem k22 : (Rows.treeShowsRow.loopsOut == Tryd.f3.resultTypes.toList.any (Tryd.pinned.checked.prog.loopsFrom ·)) = true := by kernel_rfl
theorem k23 : (Rows.treeShowsRow.plainKeys == Tryd.pinned.checked.prog.plainKeys) = true := by kernel_rfl
theorem k24 : (Rows.treeShowsRow.shortTexts.isNone) = true := by kernel_rfl
theorem k25 : (Tryd.pinned.checked.prog.stopsHeard) = true := by kernel_rfl
theorem k26 : (Tryd.pinned.checked.prog.mayEnter) = true := by kernel_rfl
theorem k27 : (Rows.treeShowsRow.lifted == Tryd.pinned.checked.prog.liftsFinal) = true := by kernel_rfl
theorem k28 : (Tryd.pinned.checked.prog.make == some Rows.treeShowsRow.make) = true := by kernel_rfl
theorem k29 : (Rows.treeShowsRow.kinds == (if Rows.treeShowsRow.domain.isEmpty then [] else Tryd.f3.params.toList.map fun t => match Tryd.pinned.checked.prog.underlying t with | some (.int k) => some k | _ => none)) = true := by kernel_rfl
theorem k30 : (Rows.treeShowsRow.pinned == Rows.treeShowsRow.pinnedBy) = true := by kernel_rfl
theorem k31 : (Rows.treeShowsRow.veiled == (Tryd.f3.params.toList ++ Rows.treeShowsSpec.plain.varTypes Tryd.pinned.checked.prog ++ Tryd.f3.resultTypes.toList).any (Tryd.pinned.checked.prog.veiledRec ·)) = true := by kernel_rfl
theorem k32 : (Rows.treeShowsRow.veiledFits Tryd.pinned.checked.prog Tryd.f3.params.toList (Tryd.f3.params.toList ++ Rows.treeShowsSpec.plain.varTypes Tryd.pinned.checked.prog ++ Tryd.f3.resultTypes.toList)) = true := by kernel_rfl
theorem aT {a b : Bool} (h1 : a = true) (h2 : b = true) : (a && b) = true := by rw [h1, h2]; rfl
theorem closed : joinedFacts Tryd.pinned.checked.prog 3 Tryd.f3 Rows.treeShowsSpec Rows.treeShowsRow = true := (aT (aT (aT (aT (aT (aT (aT (aT (aT (aT (aT (aT (aT (aT (aT (aT (aT (aT (aT (aT (aT (aT (aT (aT (aT (aT (aT (aT (aT (aT (aT k1 k2) k3) k4) k5) k6) k7) k8) k9) k10) k11) k12) k13) k14) k15) k16) k17) k18) k19) k20) k21) k22) k23) k24) k25) k26) k27) k28) k29) k30) k31) k32)
theorem g1 : Rows.treeShowsRow.wfByText (OpenSpec.ofChange Rows.treeShowsSpec) = true := by kernel_rfl
theorem g2 : Tryd.pinned.checked.prog.mainIs = some ((true, "fee2a748d8bd5c898fffc42dfdf39b0023dc1f96fc6daa5e3d7fb4b2d4380d6f").1, (true, "fee2a748d8bd5c898fffc42dfdf39b0023dc1f96fc6daa5e3d7fb4b2d4380d6f").2.toList) := by kernel_rfl
theorem g3 : false = Tryd.pinned.checked.prog.looks [] := by kernel_rfl
theorem g4 : Tryd.prog.funcNamed "quillwort/quillwortlaw11.TreeShows" = some 3 := by kernel_rfl
theorem g5 : ([22].all fun u => !Tryd.prog.wantsStandIn u) = true := by kernel_rfl
theorem g6 : false = Rows.treeShowsRow.goesBy Tryd.pinned.checked.prog := by kernel_rfl
theorem row_holds : Rows.TreeShowsSaid :=
  OpenClaim.holds_of_wide 3 Tryd.f3 rfl rfl rfl rfl rfl rfl rfl ⟨rfl, rfl, rfl, rfl, rfl⟩ rfl rfl rfl rfl rfl g4 Tryd.func3 closed
    (of_decide_eq_true (by kernel_rfl)) (by unfold Func.isWrapper; first | (rw [if_pos (by decide +kernel)]; kernel_rfl) | (rw [if_neg (by decide +kernel)]; exact ⟨rfl, rfl⟩))
    (fun os started H enc _ => lifted os started H enc)

theorem holds : Rows.TreeShowsCardSaid :=
  Claim7.holds_tied_plain_at .later [] [.data, .data, .data] true (true, "fee2a748d8bd5c898fffc42dfdf39b0023dc1f96fc6daa5e3d7fb4b2d4380d6f") false row_holds (fun _ h => by cases h) g1 (fun _ h => by cases h) treeShows_row_tie rfl ⟨rfl, rfl⟩ g2 rfl
    (fun f fn hf hfn => by
      obtain rfl : f = 3 := Option.some.inj (g4.symm.trans hf) |>.symm
      obtain rfl : fn = Tryd.f3 := (Option.some.inj (Tryd.func3.symm.trans hfn)).symm
      exact ⟨g3, fun j t ht => by
        rw [Tryd.params3] at ht
        have hm : t ∈ [22] := by simpa using Array.mem_of_getElem? ht
        have hall := g5
        exact (show Tryd.prog.wantsStandIn t = false by simpa using List.all_eq_true.1 hall t hm)⟩)
    g6
#print axioms holds
end Go.Proofs.YtnmaceljkegenaaDoor.tTreeShows
