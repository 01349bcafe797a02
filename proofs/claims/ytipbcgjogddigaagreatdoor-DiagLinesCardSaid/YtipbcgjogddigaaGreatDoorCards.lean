/-
  DERIVED. GIVEN WITH THE SEED: THE CARDS: each row of YtipbcgjogddigaaGreatDoorRows.lean that lists a variable, with what it lists TIED to the program's text (the seventh form; the later family's looks); each row that meets fmt, with fmt's text TOLD by the authors' own Lean function (tested against real Go, not proved from fmt's source: count such statements apart). THE CARD IS WHAT COUNTS. Prove the row's statement (the work); the ties are given (YtipbcgjogddigaaGreatDoorTie.lean); close each card by the builder's one call (the guide's Derived/Test/ToyasCard.lean, 'card_holds'). Laid BY PROGRAM, IN A SANDBOX (cutbox-door.mjs). By AI agents, Wed Nov 11 2026. No macro, syntax, notation, axiom, sorry.
-/
import Derived.Test.YtipbcgjogddigaaGreatDoorRows
import GoSem.ClaimSeven
namespace Go.Proofs.YtipbcgjogddigaaGreatDoor
namespace Rows

/-- THE TIED CARD OF 'quillwortlaw31.DiagLines'. -/
def diagLinesCard : Claim7 := { stood := { row := diagLinesRow, standIns := [], harness := (true, "a524a388c0fdce4c17009da7d3c02c9fafcae3a8c320a4339d93773232593ca8"), looks := false }, kinds := [], alts := [], laidByText := true, laidKinds := [.data, .data, .data, .data, .pinned], laidTests := true, laidLooks := .later }
def DiagLinesCardSaid : Prop := Claim7.holds Tryz.pinned (.plain (OpenSpec.ofChange diagLinesSpec)) diagLinesCard

/-- THE SECOND FORM's CARD OF 'quillwortlaw31.DiagLines'. -/
def diagLinesUptoCard : Claim7 := { stood := { row := diagLinesUptoRow, standIns := [], harness := (true, "a524a388c0fdce4c17009da7d3c02c9fafcae3a8c320a4339d93773232593ca8"), looks := false }, kinds := [], alts := [], laidByText := true, laidKinds := [.data, .data, .data, .data, .pinned], laidTests := true, laidLooks := .later }
def DiagLinesUptoCardSaid : Prop := Claim7.holds Tryz.pinned (.plain (OpenSpec.upto diagLinesSpec)) diagLinesUptoCard
end Rows
end Go.Proofs.YtipbcgjogddigaaGreatDoor
