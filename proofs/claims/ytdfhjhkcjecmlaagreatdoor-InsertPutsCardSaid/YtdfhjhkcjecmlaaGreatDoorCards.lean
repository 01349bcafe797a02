/-
  DERIVED. GIVEN WITH THE SEED: THE CARDS: each row of YtdfhjhkcjecmlaaGreatDoorRows.lean that lists a variable, with what it lists TIED to the program's text (the seventh form; the later family's looks); each row that meets fmt, with fmt's text TOLD by the authors' own Lean function (tested against real Go, not proved from fmt's source: count such statements apart). THE CARD IS WHAT COUNTS. Prove the row's statement (the work); the ties are given (YtdfhjhkcjecmlaaGreatDoorTie.lean); close each card by the builder's one call (the guide's Derived/Test/ToyasCard.lean, 'card_holds'). Laid BY PROGRAM, IN A SANDBOX (cutbox-door.mjs). By AI agents, Wed Nov 11 2026. No macro, syntax, notation, axiom, sorry.
-/
import Derived.Test.YtdfhjhkcjecmlaaGreatDoorRows
import GoSem.ClaimSeven
namespace Go.Proofs.YtdfhjhkcjecmlaaGreatDoor
namespace Rows

/-- THE TIED CARD OF 'quillwortlaw23.InsertPuts'. -/
def insertPutsCard : Claim7 := { stood := { row := insertPutsRow, standIns := [], harness := (true, "bdf4e210c91e467fb4542b84dd20e3228b912a58587be6d915a50cf4c21e6666"), looks := false }, kinds := [], alts := [], laidByText := true, laidKinds := [.data, .pinned], laidTests := true, laidLooks := .later }
def InsertPutsCardSaid : Prop := Claim7.holds Tryz.pinned (.plain (OpenSpec.ofChange insertPutsSpec)) insertPutsCard

/-- THE SECOND FORM's CARD OF 'quillwortlaw23.InsertPuts'. -/
def insertPutsUptoCard : Claim7 := { stood := { row := insertPutsUptoRow, standIns := [], harness := (true, "bdf4e210c91e467fb4542b84dd20e3228b912a58587be6d915a50cf4c21e6666"), looks := false }, kinds := [], alts := [], laidByText := true, laidKinds := [.data, .pinned], laidTests := true, laidLooks := .later }
def InsertPutsUptoCardSaid : Prop := Claim7.holds Tryz.pinned (.plain (OpenSpec.upto insertPutsSpec)) insertPutsUptoCard
end Rows
end Go.Proofs.YtdfhjhkcjecmlaaGreatDoor
