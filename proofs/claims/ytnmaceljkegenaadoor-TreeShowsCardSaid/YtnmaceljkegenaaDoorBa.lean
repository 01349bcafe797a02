/-
  The plain machine: functions of the library that the model answers.
-/
import Derived.Test.YtnmaceljkegenaaDoorAz
import Derived.Laws.Externs
import Derived.Lib.Bytealg
namespace Go.Proofs.YtnmaceljkegenaaDoor
open Go.RowKit
set_option linter.unusedVariables false
set_option linter.unusedSimpArgs false

/-- internal/bytealg.IndexByteString -/
def sumIB : Sum := ⟨[.str, .int .u8], [(.int .i64, false)], fun x => some (Lib.indexByte x.1 x.2.1.toNat.toUInt8, ())⟩

theorem base0_ok {w : World} {bar : Nat → Prop} (hphi : Phi w) (hb : ∀ b, bar b → b < w.heap.size) : (base0 w bar).Ok w := (base0_rel hphi hb).ok

theorem sumIB_ok {P : Program} {g : FuncId} {fn : Func} (hf : P.funcs[g]? = some fn) (hname : (fn.name == "runtime.NumGoroutine") = false) (hb : fn.body.isNone = true) (hn : Extern.findNext fn = none)
    (he : Extern.find fn = some Extern.BytealgIndexByte.indexByte) : SumOk P g sumIB := by
  intro w bar args' x y hphi hbar hdv hy
  obtain ⟨u, us1, e1, h1, u2, us2, e2, h2, h3⟩ := hdv
  simp only [DVals] at h3
  subst h3 e2
  have ha : args' = #[u, u2] := by
    apply Array.ext'
    simpa using e1
  subst ha
  have e4 := h1.str_inv
  have e5 := h2.int_inv
  subst e4 e5
  have hy2 := Option.some.inj hy
  subst hy2
  refine .inr ⟨_, by rw [run_callFunc_extern hf hname hb hn he, Lib.run_indexByteString]; rfl, base0 w bar, [_], rfl, rfl, base0_ok hphi hbar, rfl, rfl, rfl, ?_⟩
  simp only [sumIB, vals, VRels, VRel, and_true]
  exact VD.int_mk
/-- internal/bytealg.abigen_runtime_cmpstring -/
def sumCmp : Sum := ⟨[.str, .str], [(.int .i64, false)], fun x => some (Lib.compareBytes x.1 x.2.1, ())⟩

theorem sumCmp_ok {P : Program} {g : FuncId} {fn : Func} (hf : P.funcs[g]? = some fn) (hname : (fn.name == "runtime.NumGoroutine") = false) (hb : fn.body.isNone = true) (hn : Extern.findNext fn = none)
    (he : Extern.find fn = some Extern.BytealgCompare.compare) : SumOk P g sumCmp := by
  intro w bar args' x y hphi hbar hdv hy
  obtain ⟨u, us1, e1, h1, u2, us2, e2, h2, h3⟩ := hdv
  simp only [DVals] at h3
  subst h3 e2
  have ha : args' = #[u, u2] := by
    apply Array.ext'
    simpa using e1
  subst ha
  have e4 := h1.str_inv
  have e5 := h2.str_inv
  subst e4 e5
  have hy2 := Option.some.inj hy
  subst hy2
  refine .inr ⟨_, by rw [run_callFunc_extern hf hname hb hn he, Lib.run_compareString]; rfl, base0 w bar, [_], rfl, rfl, base0_ok hphi hbar, rfl, rfl, rfl, ?_⟩
  simp only [sumCmp, vals, VRels, VRel, and_true]
  exact VD.int_mk
end Go.Proofs.YtnmaceljkegenaaDoor
