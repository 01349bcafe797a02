import Derived.Test.YtnmaceljkegenaaDoorProg
import Derived.Test.YtnmaceljkegenaaDoorBd
import Derived.Shelf.Strings.Builder1
namespace Go.Proofs.YtnmaceljkegenaaDoor
open Go.RowKit
set_option linter.unusedVariables false
set_option maxRecDepth 100000

def ti1 : TI := ⟨true, .fn, 1, 8, none, [.nilfn], false, false, true⟩
def ti2 : TI := ⟨true, (.int .i64), 1, 8, some (.int .i64), [.val (.int .i64) 0], false, false, true⟩
def ti3 : TI := ti2
def ti4 : TI := ⟨true, .bool, 1, 1, some .bool, [.val .bool false], false, false, true⟩
def ti5 : TI := ⟨true, (.int .u8), 1, 1, some (.int .u8), [.val (.int .u8) 0], false, false, true⟩
def ti7 : TI := ⟨true, (.struct [(0, 2), (1, 3), (2, 4), (3, 6)]), 4, 24, none, [.val (.int .i64) 0, .val (.int .i64) 0, .val .bool false, .val (.int .u8) 0], false, false, true⟩
def ti8 : TI := ti7
def ti9 : TI := ⟨true, .str, 1, 16, some .str, [.val .str []], false, false, true⟩
def ti10 : TI := ti9
def ti11 : TI := ti9
def ti12 : TI := ⟨true, (.int .u64), 1, 8, some (.int .u64), [.val (.int .u64) 0], false, false, true⟩
def ti13 : TI := ⟨true, (.struct [(0, 9), (1, 12)]), 2, 24, some (.pair .str (.pair (.int .u64) .unit)), [.val .str [], .val (.int .u64) 0], false, false, true⟩
def ti14 : TI := ti13
def ti15 : TI := ⟨true, (.ptr 76), 1, 8, none, [.nilp], false, false, true⟩
def ti16 : TI := ⟨true, (.ptr 79), 1, 8, none, [.nilp], false, false, true⟩
def ti17 : TI := ⟨true, (.ptr 87), 1, 8, none, [.nilp], false, false, true⟩
def ti18 : TI := ⟨true, (.struct [(0, 17)]), 1, 8, none, [.nilp], false, false, true⟩
def ti19 : TI := ti18
def ti21 : TI := ⟨true, (.int .i32), 1, 4, some (.int .i32), [.val (.int .i32) 0], false, false, true⟩
def ti22 : TI := ⟨true, (.slice 27), 1, 24, some (.list (.pair (.int .i64) (.pair (.int .i64) (.pair (.int .i64) (.pair (.int .i64) .unit))))), [.nils], false, false, true⟩
def ti23 : TI := ti1
def ti24 : TI := ti1
def ti25 : TI := ti1
def ti26 : TI := ⟨true, (.struct [(0, 3), (1, 3), (2, 3), (3, 3)]), 4, 32, some (.pair (.int .i64) (.pair (.int .i64) (.pair (.int .i64) (.pair (.int .i64) .unit)))), [.val (.int .i64) 0, .val (.int .i64) 0, .val (.int .i64) 0, .val (.int .i64) 0], false, false, true⟩
def ti27 : TI := ⟨true, (.struct [(0, 3), (1, 3), (2, 3), (3, 3)]), 4, 32, some (.pair (.int .i64) (.pair (.int .i64) (.pair (.int .i64) (.pair (.int .i64) .unit)))), [.val (.int .i64) 0, .val (.int .i64) 0, .val (.int .i64) 0, .val (.int .i64) 0], true, false, true⟩
def ti28 : TI := ti1
def ti29 : TI := ti2
def ti31 : TI := ti1
def ti32 : TI := ti1
def ti33 : TI := ti1
def ti34 : TI := ⟨true, (.ptr 37), 1, 8, none, [.nilp], false, false, true⟩
def ti35 : TI := ⟨true, (.slice 5), 1, 24, some (.list (.int .u8)), [.nils], false, false, true⟩
def ti36 : TI := ⟨true, (.struct [(0, 34), (1, 35)]), 2, 32, none, [.nilp, .nils], false, false, true⟩
def ti37 : TI := ⟨true, (.struct [(0, 34), (1, 35)]), 2, 32, none, [.nilp, .nils], false, true, true⟩
def ti38 : TI := ⟨true, (.slice 3), 1, 24, some (.list (.int .i64)), [.nils], false, false, true⟩
def ti41 : TI := ti1
def ti42 : TI := ti1
def ti43 : TI := ti1
def ti44 : TI := ti1
def ti45 : TI := ti1
def ti47 : TI := ti1
def ti48 : TI := ti1
def ti50 : TI := ti1
def ti51 : TI := ⟨true, (.ptr 5), 1, 8, none, [.nilp], false, false, true⟩
def ti52 : TI := ti1
def ti54 : TI := ti1
def ti56 : TI := ti1
def ti57 : TI := ti1
def ti59 : TI := ti12
def ti60 : TI := ti1
def ti61 : TI := ti1
def ti63 : TI := ti1
def ti64 : TI := ti1
def ti65 : TI := ti1
def ti67 : TI := ⟨true, (.int .u32), 1, 4, some (.int .u32), [.val (.int .u32) 0], false, false, true⟩
def ti69 : TI := ti1
def ti70 : TI := ti12
def ti71 : TI := ti1
def ti72 : TI := ti1
def ti75 : TI := ⟨true, (.struct [(0, 17), (1, 17), (2, 17), (3, 9)]), 4, 40, none, [.nilp, .nilp, .nilp, .val .str []], false, false, true⟩
def ti76 : TI := ti75
def ti80 : TI := ti1
def ti83 : TI := ti1
def ti84 : TI := ti21
def ti85 : TI := ti21
def ti86 : TI := ⟨true, (.struct [(0, 12), (1, 12), (2, 67), (3, 81), (4, 5), (5, 5), (6, 82), (7, 83), (8, 51), (9, 84), (10, 85)]), 11, 48, none, [.val (.int .u64) 0, .val (.int .u64) 0, .val (.int .u32) 0, .val (.int .u8) 0, .val (.int .u8) 0, .val (.int .u8) 0, .val (.int .u8) 0, .nilfn, .nilp, .val (.int .i32) 0, .val (.int .i32) 0], false, false, true⟩
def ti87 : TI := ti86
def tt : TT := (.node 37 ti37 (.node 18 ti18 (.node 10 ti10 (.node 5 ti5 (.node 3 ti3 (.node 2 ti2 (.node 1 ti1 .nil .nil) .nil) (.node 4 ti4 .nil .nil)) (.node 8 ti8 (.node 7 ti7 .nil .nil) (.node 9 ti9 .nil .nil))) (.node 14 ti14 (.node 12 ti12 (.node 11 ti11 .nil .nil) (.node 13 ti13 .nil .nil)) (.node 16 ti16 (.node 15 ti15 .nil .nil) (.node 17 ti17 .nil .nil)))) (.node 28 ti28 (.node 24 ti24 (.node 22 ti22 (.node 21 ti21 (.node 19 ti19 .nil .nil) .nil) (.node 23 ti23 .nil .nil)) (.node 26 ti26 (.node 25 ti25 .nil .nil) (.node 27 ti27 .nil .nil))) (.node 33 ti33 (.node 31 ti31 (.node 29 ti29 .nil .nil) (.node 32 ti32 .nil .nil)) (.node 35 ti35 (.node 34 ti34 .nil .nil) (.node 36 ti36 .nil .nil))))) (.node 61 ti61 (.node 50 ti50 (.node 44 ti44 (.node 42 ti42 (.node 41 ti41 (.node 38 ti38 .nil .nil) .nil) (.node 43 ti43 .nil .nil)) (.node 47 ti47 (.node 45 ti45 .nil .nil) (.node 48 ti48 .nil .nil))) (.node 56 ti56 (.node 52 ti52 (.node 51 ti51 .nil .nil) (.node 54 ti54 .nil .nil)) (.node 59 ti59 (.node 57 ti57 .nil .nil) (.node 60 ti60 .nil .nil)))) (.node 75 ti75 (.node 69 ti69 (.node 65 ti65 (.node 64 ti64 (.node 63 ti63 .nil .nil) .nil) (.node 67 ti67 .nil .nil)) (.node 71 ti71 (.node 70 ti70 .nil .nil) (.node 72 ti72 .nil .nil))) (.node 84 ti84 (.node 80 ti80 (.node 76 ti76 .nil .nil) (.node 83 ti83 .nil .nil)) (.node 86 ti86 (.node 85 ti85 .nil .nil) (.node 87 ti87 .nil .nil))))))

theorem zero_of {P : Program} {t : TypeId} {j : TypeInfo} {k : IntKind} (h : (P.info? t).map (·.zero) = some (some (.int k 0))) (hj : P.info? t = some j) : j.zero = some (.int k 0) := by rw [hj] at h; simpa using h
/-- what is asked of a type, each by reckoning -/
theorem tkN {P : Program} {T : TT} {t : TypeId} {i : TI} (h1 : (P.info? t).map (fun f => (f.size, f.bytes, f.zero.map fun z => (z.cells.toList.map constC, z.cells.toList.all Value.oneCell'))) = some (i.size, i.bytes, some (i.zero, true)) := by kernel_rfl)
    (h2 : (P.underlying t).map descK = some (some i.k) := by kernel_rfl) (h3 : (match i.ty with | none => none | some _ => i.ty) = (match i.ty with | none => none | some _ => tyOfK T i.k) := by kernel_rfl) (h4 : (match i.ty with | none => true | some y => Nat.beq y.size i.size) = true := by kernel_rfl) (h5 : (i.isAgg || Nat.beq i.size 1) = true := by kernel_rfl)
    (h6 : (!i.eq || (!P.eqGuardType P.depth t && (!P.stoodInHeld t && ((P.underlying t).map (fun d => match d with | .struct fs => fs.toList.all fun f => f.name != "_" | _ => false)).getD false))) = true := by kernel_rfl)
    (h7 : (P.underlying t).map (fun d => match d with | .struct fs => fs.toList.all fun f => (P.info? f.type).isSome | _ => true) = some true := by kernel_rfl) (h8 : Nat.beq i.zero.length i.size = true := by kernel_rfl)
    (h9 : (match i.ty with | some (.int .u8) => Nat.beq t byteTy | _ => true) = true := by kernel_rfl) (h10 : (!i.bld || Nat.beq t bldTy) = true := by kernel_rfl)
    (h11 : (match i.k with | .int _ => (P.info? t).map (fun j : TypeInfo => j.zero) | _ => none) = (match i.k with | .int k => some (some (Value.int k 0)) | _ => none) := by kernel_rfl) : TIok P T t i := fun _ => by
  refine ⟨h1, h2, ?_, fun y hy => ?_, ?_, fun he => ?_, h7, Nat.eq_of_beq_eq_true h8, fun hu => ?_, fun hb => ?_, fun k hk j hj => ?_⟩
  · cases hi : i.ty with
    | none => exact .inl rfl
    | some y => rw [hi] at h3; exact .inr h3
  · rw [hy] at h4; exact Nat.eq_of_beq_eq_true h4
  · rw [Bool.or_eq_true] at h5; exact h5.imp id Nat.eq_of_beq_eq_true
  · rw [he] at h6
    simp only [Bool.not_true, Bool.false_or, Bool.and_eq_true, Bool.not_eq_true'] at h6
    refine ⟨h6.1, h6.2.1, ?_⟩
    have h := h6.2.2
    generalize (P.underlying t).map _ = o at h ⊢
    cases o with
    | none => cases h
    | some b => exact congrArg some h
  · rw [hu] at h9; exact Nat.eq_of_beq_eq_true h9
  · rw [hb] at h10; exact Nat.eq_of_beq_eq_true h10
  · rw [hk] at h11; exact zero_of h11 hj

theorem tok : TOk Tryd.prog tt := TOk.of_all (⟨tkN, ⟨tkN, ⟨tkN, ⟨tkN, ⟨tkN, ⟨tkN, ⟨tkN, trivial, trivial⟩, trivial⟩, ⟨tkN, trivial, trivial⟩⟩, ⟨tkN, ⟨tkN, trivial, trivial⟩, ⟨tkN, trivial, trivial⟩⟩⟩, ⟨tkN, ⟨tkN, ⟨tkN, trivial, trivial⟩, ⟨tkN, trivial, trivial⟩⟩, ⟨tkN, ⟨tkN, trivial, trivial⟩, ⟨tkN, trivial, trivial⟩⟩⟩⟩, ⟨tkN, ⟨tkN, ⟨tkN, ⟨tkN, ⟨tkN, trivial, trivial⟩, trivial⟩, ⟨tkN, trivial, trivial⟩⟩, ⟨tkN, ⟨tkN, trivial, trivial⟩, ⟨tkN, trivial, trivial⟩⟩⟩, ⟨tkN, ⟨tkN, ⟨tkN, trivial, trivial⟩, ⟨tkN, trivial, trivial⟩⟩, ⟨tkN, ⟨tkN, trivial, trivial⟩, ⟨tkN, trivial, trivial⟩⟩⟩⟩⟩, ⟨tkN, ⟨tkN, ⟨tkN, ⟨tkN, ⟨tkN, ⟨tkN, trivial, trivial⟩, trivial⟩, ⟨tkN, trivial, trivial⟩⟩, ⟨tkN, ⟨tkN, trivial, trivial⟩, ⟨tkN, trivial, trivial⟩⟩⟩, ⟨tkN, ⟨tkN, ⟨tkN, trivial, trivial⟩, ⟨tkN, trivial, trivial⟩⟩, ⟨tkN, ⟨tkN, trivial, trivial⟩, ⟨tkN, trivial, trivial⟩⟩⟩⟩, ⟨tkN, ⟨tkN, ⟨tkN, ⟨tkN, ⟨tkN, trivial, trivial⟩, trivial⟩, ⟨tkN, trivial, trivial⟩⟩, ⟨tkN, ⟨tkN, trivial, trivial⟩, ⟨tkN, trivial, trivial⟩⟩⟩, ⟨tkN, ⟨tkN, ⟨tkN, trivial, trivial⟩, ⟨tkN, trivial, trivial⟩⟩, ⟨tkN, ⟨tkN, trivial, trivial⟩, ⟨tkN, trivial, trivial⟩⟩⟩⟩⟩⟩)

def noGorB (P : Program) : Bool := P.funcs.toList.all fun fn => fn.body.isNone || !(fn.name == "runtime.NumGoroutine")
theorem noGor_of {P : Program} (h : noGorB P = true) : NoGor P := fun f fn c hf hb => by
  have h1 := List.all_eq_true.1 h fn (by have := Array.mem_of_getElem? hf; simpa using this)
  simpa [hb] using h1
theorem noGor : NoGor Tryd.prog := noGor_of (by kernel_rfl)
theorem mixed : Tryd.prog.follows .mixedOrders = true := by kernel_rfl
noncomputable def sg0 (g : FuncId) : Option Sum := bif Nat.beq g 27 then some sumIB else none
theorem sg0_ok : ∀ g s, sg0 g = some s → SumOk Tryd.prog g s := fun g s h => by
  unfold sg0 at h
  rw [cond_eq_ite] at h
  split at h
  · rename_i hg
    obtain rfl : g = 27 := Nat.eq_of_beq_eq_true hg
    cases h
    exact (sumIB_ok Tryd.func27 (by kernel_rfl) (by kernel_rfl) (by kernel_rfl) (by kernel_rfl))
  cases h
def chkRen : Go.Shelf.Ren := ⟨fun | 240 => 18 | 276 => 23 | n => n, fun | 0 => 0 | 4 => 4 | 9 => 9 | 20 => 20 | 37 => 35 | 70 => 34 | 72 => 37 | 164 => 55 | n => n, fun n => n⟩
theorem chkLays : Go.Proofs.Lays.n240 Tryd.prog chkRen := {
  mixed := mixed,
  f240 := (Tryd.func18).trans (by kernel_rfl),
  f276 := (Tryd.func23).trans (by kernel_rfl),
  t0 := Tryd.underlying0, a0 := Tryd.isAgg0, z0 := Tryd.sizeOf0, v0 := Tryd.zeroValue0,
  t4 := Tryd.underlying4, a4 := Tryd.isAgg4, z4 := Tryd.sizeOf4, v4 := Tryd.zeroValue4,
  t9 := Tryd.underlying9, a9 := Tryd.isAgg9, z9 := Tryd.sizeOf9, v9 := Tryd.zeroValue9,
  t20 := Tryd.underlying20, a20 := Tryd.isAgg20, z20 := Tryd.sizeOf20, v20 := Tryd.zeroValue20,
  t70 := Tryd.underlying34, a70 := Tryd.isAgg34, z70 := Tryd.sizeOf34, v70 := Tryd.zeroValue34,
  t72 := Tryd.underlying37, a72 := Tryd.isAgg37, z72 := Tryd.sizeOf37, v72 := Tryd.zeroValue37,
  t164 := Tryd.underlying55, a164 := Tryd.isAgg55, z164 := Tryd.sizeOf55, v164 := Tryd.zeroValue55 }
theorem chkX : Go.Proofs.Builder.X72 Tryd.prog chkRen := { sizeBuilder := by kernel_rfl, liesBuilder := by kernel_rfl }
theorem chk_ok (g : FuncId) (h : isChk g = true) : CheckOk Tryd.prog g := by
  simp only [isChk, Bool.and_eq_true] at h
  obtain rfl : g = 18 := Nat.eq_of_beq_eq_true h.1
  exact fun w b hs hf => ⟨callFunc_run noGor Tryd.func18 (show Tryd.f18.body = some ((Tryd.f18.body).getD .skip) by kernel_rfl) _ _, fun h0 => Any.Builder_copyCheck_used chkLays chkX b w h0, fun h0 => Any.Builder_copyCheck_fresh chkLays chkX b w h0 hs hf⟩
/-- the plain machine, closed -/
noncomputable def env0 : Env := { P := Tryd.prog, T := tt, cl := true, kp := fun _ _ => none, sg := sg0, lp := fun _ _ => none, bf := isChk }
theorem rf_ok : ∀ E, LoopsOk Tryd.prog E → RfOk E := fun E h f k asg bd hr => rfAt_ok h f k asg bd hr
theorem env0_ok : EnvOk env0 := ⟨tok, mixed, noGor, sg0_ok, fun f fn c _ _ => loopsOk_none (fun _ => rfl) (fun _ => rfl) c, rf_ok _ fun f fn c _ _ => loopsOk_none (fun _ => rfl) (fun _ => rfl) c, chk_ok, fun _ _ h => by cases h⟩

noncomputable def sg1 (g : FuncId) : Option Sum :=  sg0 g
theorem sg1_ok : ∀ g s, sg1 g = some s → SumOk Tryd.prog g s := fun g s h => by
  unfold sg1 at h
  exact sg0_ok g s h
noncomputable def env1 : Env := { P := Tryd.prog, T := tt, cl := true, kp := fun _ _ => none, sg := sg1, lp := fun _ _ => none, bf := isChk }
theorem env1_ok : EnvOk env1 := ⟨tok, mixed, noGor, sg1_ok, fun f fn c _ _ => loopsOk_none (fun _ => rfl) (fun _ => rfl) c, rf_ok _ fun f fn c _ _ => loopsOk_none (fun _ => rfl) (fun _ => rfl) c, chk_ok, fun _ _ h => by cases h⟩
end Go.Proofs.YtnmaceljkegenaaDoor