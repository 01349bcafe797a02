/-
  DERIVED. GIVEN WITH THE SEED: THE CARDS: each row of YtgcbehapggfhmaaGreatDoorRows.lean that lists a variable, with what it lists TIED to the program's text (the seventh form; the later family's looks); each row that meets fmt, with fmt's text TOLD by the authors' own Lean function (tested against real Go, not proved from fmt's source: count such statements apart). THE CARD IS WHAT COUNTS. Prove the row's statement (the work); the ties are given (YtgcbehapggfhmaaGreatDoorTie.lean); close each card by the builder's one call (the guide's Derived/Test/ToyasCard.lean, 'card_holds'). Laid BY PROGRAM, IN A SANDBOX (cutbox-door.mjs). By AI agents, Wed Nov 11 2026. No macro, syntax, notation, axiom, sorry.
-/
import Derived.Test.YtgcbehapggfhmaaGreatDoorRows
import GoSem.ClaimSeven
namespace Go.Proofs.YtgcbehapggfhmaaGreatDoor
namespace Rows

/-- THE TIED CARD OF 'quillwortlaw23.InsertCommon'. -/
def insertCommonCard : Claim7 := { stood := { row := insertCommonRow, standIns := [], harness := (true, "d20471e93c5a83288b9fbad53ddd7b815ba42c7f7f67a5a38632c1614ed8d1b0"), looks := false }, kinds := [], alts := [], laidByText := true, laidKinds := [.data, .pinned], laidTests := true, laidLooks := .later }
def InsertCommonCardSaid : Prop := Claim7.holds Tryz.pinned (.plain (OpenSpec.ofChange insertCommonSpec)) insertCommonCard

/-- THE SECOND FORM's CARD OF 'quillwortlaw23.InsertCommon'. -/
def insertCommonUptoCard : Claim7 := { stood := { row := insertCommonUptoRow, standIns := [], harness := (true, "d20471e93c5a83288b9fbad53ddd7b815ba42c7f7f67a5a38632c1614ed8d1b0"), looks := false }, kinds := [], alts := [], laidByText := true, laidKinds := [.data, .pinned], laidTests := true, laidLooks := .later }
def InsertCommonUptoCardSaid : Prop := Claim7.holds Tryz.pinned (.plain (OpenSpec.upto insertCommonSpec)) insertCommonUptoCard
end Rows
end Go.Proofs.YtgcbehapggfhmaaGreatDoor
