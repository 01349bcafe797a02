/-
  DERIVED. GIVEN WITH THE SEED: THE CARDS: each row of YtjegbhogodknhaaGreatDoorRows.lean that lists a variable, with what it lists TIED to the program's text (the seventh form; the later family's looks); each row that meets fmt, with fmt's text TOLD by the authors' own Lean function (tested against real Go, not proved from fmt's source: count such statements apart). THE CARD IS WHAT COUNTS. Prove the row's statement (the work); the ties are given (YtjegbhogodknhaaGreatDoorTie.lean); close each card by the builder's one call (the guide's Derived/Test/ToyasCard.lean, 'card_holds'). Laid BY PROGRAM, IN A SANDBOX (cutbox-door.mjs). By AI agents, Wed Nov 11 2026. No macro, syntax, notation, axiom, sorry.
-/
import Derived.Test.YtjegbhogodknhaaGreatDoorRows
import GoSem.ClaimSeven
namespace Go.Proofs.YtjegbhogodknhaaGreatDoor
namespace Rows

/-- THE TIED CARD OF 'quillwortlaw31.DiagStates'. -/
def diagStatesCard : Claim7 := { stood := { row := diagStatesRow, standIns := [], harness := (true, "28b5d74c1f103b21701efc6b354ee79568e070d14ad20d75fb1912312dedac76"), looks := false }, kinds := [], alts := [], laidByText := true, laidKinds := [.data, .data, .data, .data, .pinned], laidTests := true, laidLooks := .later }
def DiagStatesCardSaid : Prop := Claim7.holds Tryz.pinned (.plain (OpenSpec.ofChange diagStatesSpec)) diagStatesCard

/-- THE TIED CARD OF 'quillwortlaw31.DiagLine'. -/
def diagLineCard : Claim7 := { stood := { row := diagLineRow, standIns := [], harness := (true, "28b5d74c1f103b21701efc6b354ee79568e070d14ad20d75fb1912312dedac76"), looks := false }, kinds := [], alts := [], laidByText := true, laidKinds := [.data, .data, .data, .data, .pinned], laidTests := true, laidLooks := .later }
def DiagLineCardSaid : Prop := Claim7.holds Tryz.pinned (.plain (OpenSpec.ofChange diagLineSpec)) diagLineCard

/-- THE SECOND FORM's CARD OF 'quillwortlaw31.DiagStates'. -/
def diagStatesUptoCard : Claim7 := { stood := { row := diagStatesUptoRow, standIns := [], harness := (true, "28b5d74c1f103b21701efc6b354ee79568e070d14ad20d75fb1912312dedac76"), looks := false }, kinds := [], alts := [], laidByText := true, laidKinds := [.data, .data, .data, .data, .pinned], laidTests := true, laidLooks := .later }
def DiagStatesUptoCardSaid : Prop := Claim7.holds Tryz.pinned (.plain (OpenSpec.upto diagStatesSpec)) diagStatesUptoCard

/-- THE SECOND FORM's CARD OF 'quillwortlaw31.DiagLine'. -/
def diagLineUptoCard : Claim7 := { stood := { row := diagLineUptoRow, standIns := [], harness := (true, "28b5d74c1f103b21701efc6b354ee79568e070d14ad20d75fb1912312dedac76"), looks := false }, kinds := [], alts := [], laidByText := true, laidKinds := [.data, .data, .data, .data, .pinned], laidTests := true, laidLooks := .later }
def DiagLineUptoCardSaid : Prop := Claim7.holds Tryz.pinned (.plain (OpenSpec.upto diagLineSpec)) diagLineUptoCard
end Rows
end Go.Proofs.YtjegbhogodknhaaGreatDoor
