/-
  DERIVED. GIVEN WITH THE SEED: THE CARDS: each row of YtfmikaahgehndaaGreatDoorRows.lean that lists a variable, with what it lists TIED to the program's text (the seventh form; the later family's looks); each row that meets fmt, with fmt's text TOLD by the authors' own Lean function (tested against real Go, not proved from fmt's source: count such statements apart). THE CARD IS WHAT COUNTS. Prove the row's statement (the work); the ties are given (YtfmikaahgehndaaGreatDoorTie.lean); close each card by the builder's one call (the guide's Derived/Test/ToyasCard.lean, 'card_holds'). Laid BY PROGRAM, IN A SANDBOX (cutbox-door.mjs). By AI agents, Wed Nov 11 2026. No macro, syntax, notation, axiom, sorry.
-/
import Derived.Test.YtfmikaahgehndaaGreatDoorRows
import GoSem.ClaimSeven
namespace Go.Proofs.YtfmikaahgehndaaGreatDoor
namespace Rows

/-- THE TIED CARD OF 'quillwortlaw21.ContextNames'. -/
def contextNamesCard : Claim7 := { stood := { row := contextNamesRow, standIns := [], harness := (true, "0fef6acfa858a6169a2c5b7f6c25daaec5cec5e216bb7946d3e811366dca14a2"), looks := false }, kinds := [], alts := [], laidByText := true, laidKinds := [.data, .pinned], laidTests := true, laidLooks := .later }
def ContextNamesCardSaid : Prop := Claim7.holds Tryz.pinned (.plain (OpenSpec.ofChange contextNamesSpec)) contextNamesCard

/-- THE TIED CARD OF 'quillwortlaw21.ContextAhead'. -/
def contextAheadCard : Claim7 := { stood := { row := contextAheadRow, standIns := [], harness := (true, "0fef6acfa858a6169a2c5b7f6c25daaec5cec5e216bb7946d3e811366dca14a2"), looks := false }, kinds := [], alts := [], laidByText := true, laidKinds := [.data, .pinned], laidTests := true, laidLooks := .later }
def ContextAheadCardSaid : Prop := Claim7.holds Tryz.pinned (.plain (OpenSpec.ofChange contextAheadSpec)) contextAheadCard

/-- THE TIED CARD OF 'quillwortlaw21.ContextWords'. -/
def contextWordsCard : Claim7 := { stood := { row := contextWordsRow, standIns := [], harness := (true, "0fef6acfa858a6169a2c5b7f6c25daaec5cec5e216bb7946d3e811366dca14a2"), looks := false }, kinds := [], alts := [], laidByText := true, laidKinds := [.data, .pinned], laidTests := true, laidLooks := .later }
def ContextWordsCardSaid : Prop := Claim7.holds Tryz.pinned (.plain (OpenSpec.ofChange contextWordsSpec)) contextWordsCard

/-- THE TIED CARD OF 'quillwortlaw23.InsertPuts'. -/
def insertPutsCard : Claim7 := { stood := { row := insertPutsRow, standIns := [], harness := (true, "0fef6acfa858a6169a2c5b7f6c25daaec5cec5e216bb7946d3e811366dca14a2"), looks := false }, kinds := [], alts := [], laidByText := true, laidKinds := [.data, .pinned], laidTests := true, laidLooks := .later }
def InsertPutsCardSaid : Prop := Claim7.holds Tryz.pinned (.plain (OpenSpec.ofChange insertPutsSpec)) insertPutsCard

/-- THE TIED CARD OF 'quillwortlaw23.InsertOutside'. -/
def insertOutsideCard : Claim7 := { stood := { row := insertOutsideRow, standIns := [], harness := (true, "0fef6acfa858a6169a2c5b7f6c25daaec5cec5e216bb7946d3e811366dca14a2"), looks := false }, kinds := [], alts := [], laidByText := true, laidKinds := [.data, .pinned], laidTests := true, laidLooks := .later }
def InsertOutsideCardSaid : Prop := Claim7.holds Tryz.pinned (.plain (OpenSpec.ofChange insertOutsideSpec)) insertOutsideCard

/-- THE SECOND FORM's CARD OF 'quillwortlaw21.ContextNames'. -/
def contextNamesUptoCard : Claim7 := { stood := { row := contextNamesUptoRow, standIns := [], harness := (true, "0fef6acfa858a6169a2c5b7f6c25daaec5cec5e216bb7946d3e811366dca14a2"), looks := false }, kinds := [], alts := [], laidByText := true, laidKinds := [.data, .pinned], laidTests := true, laidLooks := .later }
def ContextNamesUptoCardSaid : Prop := Claim7.holds Tryz.pinned (.plain (OpenSpec.upto contextNamesSpec)) contextNamesUptoCard

/-- THE SECOND FORM's CARD OF 'quillwortlaw21.ContextAhead'. -/
def contextAheadUptoCard : Claim7 := { stood := { row := contextAheadUptoRow, standIns := [], harness := (true, "0fef6acfa858a6169a2c5b7f6c25daaec5cec5e216bb7946d3e811366dca14a2"), looks := false }, kinds := [], alts := [], laidByText := true, laidKinds := [.data, .pinned], laidTests := true, laidLooks := .later }
def ContextAheadUptoCardSaid : Prop := Claim7.holds Tryz.pinned (.plain (OpenSpec.upto contextAheadSpec)) contextAheadUptoCard

/-- THE SECOND FORM's CARD OF 'quillwortlaw21.ContextWords'. -/
def contextWordsUptoCard : Claim7 := { stood := { row := contextWordsUptoRow, standIns := [], harness := (true, "0fef6acfa858a6169a2c5b7f6c25daaec5cec5e216bb7946d3e811366dca14a2"), looks := false }, kinds := [], alts := [], laidByText := true, laidKinds := [.data, .pinned], laidTests := true, laidLooks := .later }
def ContextWordsUptoCardSaid : Prop := Claim7.holds Tryz.pinned (.plain (OpenSpec.upto contextWordsSpec)) contextWordsUptoCard

/-- THE SECOND FORM's CARD OF 'quillwortlaw23.InsertPuts'. -/
def insertPutsUptoCard : Claim7 := { stood := { row := insertPutsUptoRow, standIns := [], harness := (true, "0fef6acfa858a6169a2c5b7f6c25daaec5cec5e216bb7946d3e811366dca14a2"), looks := false }, kinds := [], alts := [], laidByText := true, laidKinds := [.data, .pinned], laidTests := true, laidLooks := .later }
def InsertPutsUptoCardSaid : Prop := Claim7.holds Tryz.pinned (.plain (OpenSpec.upto insertPutsSpec)) insertPutsUptoCard

/-- THE SECOND FORM's CARD OF 'quillwortlaw23.InsertOutside'. -/
def insertOutsideUptoCard : Claim7 := { stood := { row := insertOutsideUptoRow, standIns := [], harness := (true, "0fef6acfa858a6169a2c5b7f6c25daaec5cec5e216bb7946d3e811366dca14a2"), looks := false }, kinds := [], alts := [], laidByText := true, laidKinds := [.data, .pinned], laidTests := true, laidLooks := .later }
def InsertOutsideUptoCardSaid : Prop := Claim7.holds Tryz.pinned (.plain (OpenSpec.upto insertOutsideSpec)) insertOutsideUptoCard
end Rows
end Go.Proofs.YtfmikaahgehndaaGreatDoor
