/-
  DERIVED. GIVEN WITH THE SEED: THE CARDS: each row of YtldbkoijjlaaeaaGreatDoorRows.lean that lists a variable, with what it lists TIED to the program's text (the seventh form; the later family's looks); each row that meets fmt, with fmt's text TOLD by the authors' own Lean function (tested against real Go, not proved from fmt's source: count such statements apart). THE CARD IS WHAT COUNTS. Prove the row's statement (the work); the ties are given (YtldbkoijjlaaeaaGreatDoorTie.lean); close each card by the builder's one call (the guide's Derived/Test/ToyasCard.lean, 'card_holds'). Laid BY PROGRAM, IN A SANDBOX (cutbox-door.mjs). By AI agents, Wed Nov 11 2026. No macro, syntax, notation, axiom, sorry.
-/
import Derived.Test.YtldbkoijjlaaeaaGreatDoorRows
import GoSem.ClaimSeven
namespace Go.Proofs.YtldbkoijjlaaeaaGreatDoor
namespace Rows

/-- THE TIED CARD OF 'quillwortlaw31.DiagWhole'. -/
def diagWholeCard : Claim7 := { stood := { row := diagWholeRow, standIns := [], harness := (true, "571af468023e225c90bf875f1c8780c345e245cc524c45cd081f23976d7c5e05"), looks := false }, kinds := [], alts := [], laidByText := true, laidKinds := [.data, .data, .data, .data, .pinned], laidTests := true, laidLooks := .later }
def DiagWholeCardSaid : Prop := Claim7.holds Tryz.pinned (.plain (OpenSpec.ofChange diagWholeSpec)) diagWholeCard

/-- THE TIED CARD OF 'quillwortlaw31.DiagLine'. -/
def diagLineCard : Claim7 := { stood := { row := diagLineRow, standIns := [], harness := (true, "571af468023e225c90bf875f1c8780c345e245cc524c45cd081f23976d7c5e05"), looks := false }, kinds := [], alts := [], laidByText := true, laidKinds := [.data, .data, .data, .data, .pinned], laidTests := true, laidLooks := .later }
def DiagLineCardSaid : Prop := Claim7.holds Tryz.pinned (.plain (OpenSpec.ofChange diagLineSpec)) diagLineCard

/-- THE TIED CARD OF 'quillwortlaw31.DiagNotes'. -/
def diagNotesCard : Claim7 := { stood := { row := diagNotesRow, standIns := [], harness := (true, "571af468023e225c90bf875f1c8780c345e245cc524c45cd081f23976d7c5e05"), looks := false }, kinds := [], alts := [], laidByText := true, laidKinds := [.data, .data, .data, .data, .pinned], laidTests := true, laidLooks := .later }
def DiagNotesCardSaid : Prop := Claim7.holds Tryz.pinned (.plain (OpenSpec.ofChange diagNotesSpec)) diagNotesCard

/-- THE SECOND FORM's CARD OF 'quillwortlaw31.DiagWhole'. -/
def diagWholeUptoCard : Claim7 := { stood := { row := diagWholeUptoRow, standIns := [], harness := (true, "571af468023e225c90bf875f1c8780c345e245cc524c45cd081f23976d7c5e05"), looks := false }, kinds := [], alts := [], laidByText := true, laidKinds := [.data, .data, .data, .data, .pinned], laidTests := true, laidLooks := .later }
def DiagWholeUptoCardSaid : Prop := Claim7.holds Tryz.pinned (.plain (OpenSpec.upto diagWholeSpec)) diagWholeUptoCard

/-- THE SECOND FORM's CARD OF 'quillwortlaw31.DiagLine'. -/
def diagLineUptoCard : Claim7 := { stood := { row := diagLineUptoRow, standIns := [], harness := (true, "571af468023e225c90bf875f1c8780c345e245cc524c45cd081f23976d7c5e05"), looks := false }, kinds := [], alts := [], laidByText := true, laidKinds := [.data, .data, .data, .data, .pinned], laidTests := true, laidLooks := .later }
def DiagLineUptoCardSaid : Prop := Claim7.holds Tryz.pinned (.plain (OpenSpec.upto diagLineSpec)) diagLineUptoCard

/-- THE SECOND FORM's CARD OF 'quillwortlaw31.DiagNotes'. -/
def diagNotesUptoCard : Claim7 := { stood := { row := diagNotesUptoRow, standIns := [], harness := (true, "571af468023e225c90bf875f1c8780c345e245cc524c45cd081f23976d7c5e05"), looks := false }, kinds := [], alts := [], laidByText := true, laidKinds := [.data, .data, .data, .data, .pinned], laidTests := true, laidLooks := .later }
def DiagNotesUptoCardSaid : Prop := Claim7.holds Tryz.pinned (.plain (OpenSpec.upto diagNotesSpec)) diagNotesUptoCard
end Rows
end Go.Proofs.YtldbkoijjlaaeaaGreatDoor
