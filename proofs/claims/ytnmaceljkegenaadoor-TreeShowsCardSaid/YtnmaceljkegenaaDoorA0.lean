/-
  The plain machine: what is asked of the world that a call begins in: strconv's table of the powers of ten is as the library's text lays it.
-/
import Derived.Test.YtnmaceljkegenaaDoorProg
import Derived.Below
import Derived.Lib.LaidTab
import Derived.Lib.ItoaNum
import Derived.KernelRfl
namespace Go.Proofs.YtnmaceljkegenaaDoor
open Go.RowKit
set_option linter.unusedVariables false

def Phi (w : World) : Prop := Lib.TabIs Tryd.prog w "internal/strconv.uint64pow10" .u64 Lib.pow10Tab
theorem pow10_g : Tryd.prog.globalNamed "internal/strconv.uint64pow10" = some 1 := by kernel_rfl
theorem Phi.below {w w' : World} (hb : Below w.heap.size w w') (h : Phi w) : Phi w' := by
  unfold Phi Lib.TabIs World.var? at h ⊢
  rw [pow10_g] at h ⊢
  simp only [Option.bind_some] at h ⊢
  have hlt : 1 < w.heap.size := by
    rcases Nat.lt_or_ge 1 w.heap.size with h' | h'
    · exact h'
    · rw [Array.getElem?_eq_none h'] at h; cases h
  rw [hb.block _ hlt]
  exact h
end Go.Proofs.YtnmaceljkegenaaDoor
