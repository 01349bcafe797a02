/-
  The plain machine: what is asked of the world that a call begins in. (Nothing; a seat whose calls read a table of the library has another text here.)
-/
import Derived.Below
namespace Go.Proofs.YtgcbehapggfhmaaGreatDoor
open Go.RowKit
set_option linter.unusedVariables false

def Phi (w : World) : Prop := True
theorem Phi.below {w w' : World} (h : Below w.heap.size w w') (hp : Phi w) : Phi w' := trivial
end Go.Proofs.YtgcbehapggfhmaaGreatDoor
