/-
  DERIVED. GIVEN WITH THE SEED: THE CARDS: each row of YtihafdllichkeaaGreatDoorRows.lean that lists a variable, with what it lists TIED to the program's text (the seventh form; the later family's looks); each row that meets fmt, with fmt's text TOLD by the authors' own Lean function (tested against real Go, not proved from fmt's source: count such statements apart). THE CARD IS WHAT COUNTS. Prove the row's statement (the work); the ties are given (YtihafdllichkeaaGreatDoorTie.lean); close each card by the builder's one call (the guide's Derived/Test/ToyasCard.lean, 'card_holds'). Laid BY PROGRAM, IN A SANDBOX (cutbox-door.mjs). By AI agents, Wed Nov 11 2026. No macro, syntax, notation, axiom, sorry.
-/
import Derived.Test.YtihafdllichkeaaGreatDoorRows
import GoSem.ClaimSeven
namespace Go.Proofs.YtihafdllichkeaaGreatDoor
namespace Rows

/-- THE TIED CARD OF 'quillwortlaw21.ContextNames'. -/
def contextNamesCard : Claim7 := { stood := { row := contextNamesRow, standIns := [], harness := (true, "3deec93d29f5db085e6782650d04dedf41c22b86502da39cbc86be60fcfa29d6"), looks := false }, kinds := [], alts := [], laidByText := true, laidKinds := [.data, .pinned], laidTests := true, laidLooks := .later }
def ContextNamesCardSaid : Prop := Claim7.holds Tryz.pinned (.plain (OpenSpec.ofChange contextNamesSpec)) contextNamesCard

/-- THE TIED CARD OF 'quillwortlaw21.ContextAhead'. -/
def contextAheadCard : Claim7 := { stood := { row := contextAheadRow, standIns := [], harness := (true, "3deec93d29f5db085e6782650d04dedf41c22b86502da39cbc86be60fcfa29d6"), looks := false }, kinds := [], alts := [], laidByText := true, laidKinds := [.data, .pinned], laidTests := true, laidLooks := .later }
def ContextAheadCardSaid : Prop := Claim7.holds Tryz.pinned (.plain (OpenSpec.ofChange contextAheadSpec)) contextAheadCard

/-- THE TIED CARD OF 'quillwortlaw21.ContextStack'. -/
def contextStackCard : Claim7 := { stood := { row := contextStackRow, standIns := [], harness := (true, "3deec93d29f5db085e6782650d04dedf41c22b86502da39cbc86be60fcfa29d6"), looks := false }, kinds := [], alts := [], laidByText := true, laidKinds := [.data, .pinned], laidTests := true, laidLooks := .later }
def ContextStackCardSaid : Prop := Claim7.holds Tryz.pinned (.plain (OpenSpec.ofChange contextStackSpec)) contextStackCard

/-- THE TIED CARD OF 'quillwortlaw21.ContextWords'. -/
def contextWordsCard : Claim7 := { stood := { row := contextWordsRow, standIns := [], harness := (true, "3deec93d29f5db085e6782650d04dedf41c22b86502da39cbc86be60fcfa29d6"), looks := false }, kinds := [], alts := [], laidByText := true, laidKinds := [.data, .pinned], laidTests := true, laidLooks := .later }
def ContextWordsCardSaid : Prop := Claim7.holds Tryz.pinned (.plain (OpenSpec.ofChange contextWordsSpec)) contextWordsCard

/-- THE TIED CARD OF 'quillwortlaw28.AliasHits'. -/
def aliasHitsCard : Claim7 := { stood := { row := aliasHitsRow, standIns := [], harness := (true, "3deec93d29f5db085e6782650d04dedf41c22b86502da39cbc86be60fcfa29d6"), looks := false }, kinds := [], alts := [], laidByText := true, laidKinds := [.data, .pinned], laidTests := true, laidLooks := .later }
def AliasHitsCardSaid : Prop := Claim7.holds Tryz.pinned (.plain (OpenSpec.ofChange aliasHitsSpec)) aliasHitsCard

/-- THE TIED CARD OF 'quillwortlaw28.AliasNone'. -/
def aliasNoneCard : Claim7 := { stood := { row := aliasNoneRow, standIns := [], harness := (true, "3deec93d29f5db085e6782650d04dedf41c22b86502da39cbc86be60fcfa29d6"), looks := false }, kinds := [], alts := [], laidByText := true, laidKinds := [.data, .pinned], laidTests := true, laidLooks := .later }
def AliasNoneCardSaid : Prop := Claim7.holds Tryz.pinned (.plain (OpenSpec.ofChange aliasNoneSpec)) aliasNoneCard

/-- THE TIED CARD OF 'quillwortlaw31.DiagStates'. -/
def diagStatesCard : Claim7 := { stood := { row := diagStatesRow, standIns := [], harness := (true, "3deec93d29f5db085e6782650d04dedf41c22b86502da39cbc86be60fcfa29d6"), looks := false }, kinds := [], alts := [], laidByText := true, laidKinds := [.data, .data, .data, .data, .pinned], laidTests := true, laidLooks := .later }
def DiagStatesCardSaid : Prop := Claim7.holds Tryz.pinned (.plain (OpenSpec.ofChange diagStatesSpec)) diagStatesCard

/-- THE TIED CARD OF 'quillwortlaw31.DiagWhole'. -/
def diagWholeCard : Claim7 := { stood := { row := diagWholeRow, standIns := [], harness := (true, "3deec93d29f5db085e6782650d04dedf41c22b86502da39cbc86be60fcfa29d6"), looks := false }, kinds := [], alts := [], laidByText := true, laidKinds := [.data, .data, .data, .data, .pinned], laidTests := true, laidLooks := .later }
def DiagWholeCardSaid : Prop := Claim7.holds Tryz.pinned (.plain (OpenSpec.ofChange diagWholeSpec)) diagWholeCard

/-- THE TIED CARD OF 'quillwortlaw31.DiagLine'. -/
def diagLineCard : Claim7 := { stood := { row := diagLineRow, standIns := [], harness := (true, "3deec93d29f5db085e6782650d04dedf41c22b86502da39cbc86be60fcfa29d6"), looks := false }, kinds := [], alts := [], laidByText := true, laidKinds := [.data, .data, .data, .data, .pinned], laidTests := true, laidLooks := .later }
def DiagLineCardSaid : Prop := Claim7.holds Tryz.pinned (.plain (OpenSpec.ofChange diagLineSpec)) diagLineCard

/-- THE TIED CARD OF 'quillwortlaw31.DiagNotes'. -/
def diagNotesCard : Claim7 := { stood := { row := diagNotesRow, standIns := [], harness := (true, "3deec93d29f5db085e6782650d04dedf41c22b86502da39cbc86be60fcfa29d6"), looks := false }, kinds := [], alts := [], laidByText := true, laidKinds := [.data, .data, .data, .data, .pinned], laidTests := true, laidLooks := .later }
def DiagNotesCardSaid : Prop := Claim7.holds Tryz.pinned (.plain (OpenSpec.ofChange diagNotesSpec)) diagNotesCard

/-- THE TIED CARD OF 'quillwortlaw28.AliasFirst'. -/
def aliasFirstCard : Claim7 := { stood := { row := aliasFirstRow, standIns := [], harness := (true, "3deec93d29f5db085e6782650d04dedf41c22b86502da39cbc86be60fcfa29d6"), looks := false }, kinds := [], alts := [], laidByText := true, laidKinds := [.data, .pinned], laidTests := true, laidLooks := .later }
def AliasFirstCardSaid : Prop := Claim7.holds Tryz.pinned (.plain (OpenSpec.ofChange aliasFirstSpec)) aliasFirstCard

/-- THE TIED CARD OF 'quillwortlaw28.AliasChains'. -/
def aliasChainsCard : Claim7 := { stood := { row := aliasChainsRow, standIns := [], harness := (true, "3deec93d29f5db085e6782650d04dedf41c22b86502da39cbc86be60fcfa29d6"), looks := false }, kinds := [], alts := [], laidByText := true, laidKinds := [.data, .pinned], laidTests := true, laidLooks := .later }
def AliasChainsCardSaid : Prop := Claim7.holds Tryz.pinned (.plain (OpenSpec.ofChange aliasChainsSpec)) aliasChainsCard

/-- THE SECOND FORM's CARD OF 'quillwortlaw21.ContextNames'. -/
def contextNamesUptoCard : Claim7 := { stood := { row := contextNamesUptoRow, standIns := [], harness := (true, "3deec93d29f5db085e6782650d04dedf41c22b86502da39cbc86be60fcfa29d6"), looks := false }, kinds := [], alts := [], laidByText := true, laidKinds := [.data, .pinned], laidTests := true, laidLooks := .later }
def ContextNamesUptoCardSaid : Prop := Claim7.holds Tryz.pinned (.plain (OpenSpec.upto contextNamesSpec)) contextNamesUptoCard

/-- THE SECOND FORM's CARD OF 'quillwortlaw21.ContextAhead'. -/
def contextAheadUptoCard : Claim7 := { stood := { row := contextAheadUptoRow, standIns := [], harness := (true, "3deec93d29f5db085e6782650d04dedf41c22b86502da39cbc86be60fcfa29d6"), looks := false }, kinds := [], alts := [], laidByText := true, laidKinds := [.data, .pinned], laidTests := true, laidLooks := .later }
def ContextAheadUptoCardSaid : Prop := Claim7.holds Tryz.pinned (.plain (OpenSpec.upto contextAheadSpec)) contextAheadUptoCard

/-- THE SECOND FORM's CARD OF 'quillwortlaw21.ContextStack'. -/
def contextStackUptoCard : Claim7 := { stood := { row := contextStackUptoRow, standIns := [], harness := (true, "3deec93d29f5db085e6782650d04dedf41c22b86502da39cbc86be60fcfa29d6"), looks := false }, kinds := [], alts := [], laidByText := true, laidKinds := [.data, .pinned], laidTests := true, laidLooks := .later }
def ContextStackUptoCardSaid : Prop := Claim7.holds Tryz.pinned (.plain (OpenSpec.upto contextStackSpec)) contextStackUptoCard

/-- THE SECOND FORM's CARD OF 'quillwortlaw21.ContextWords'. -/
def contextWordsUptoCard : Claim7 := { stood := { row := contextWordsUptoRow, standIns := [], harness := (true, "3deec93d29f5db085e6782650d04dedf41c22b86502da39cbc86be60fcfa29d6"), looks := false }, kinds := [], alts := [], laidByText := true, laidKinds := [.data, .pinned], laidTests := true, laidLooks := .later }
def ContextWordsUptoCardSaid : Prop := Claim7.holds Tryz.pinned (.plain (OpenSpec.upto contextWordsSpec)) contextWordsUptoCard

/-- THE SECOND FORM's CARD OF 'quillwortlaw28.AliasHits'. -/
def aliasHitsUptoCard : Claim7 := { stood := { row := aliasHitsUptoRow, standIns := [], harness := (true, "3deec93d29f5db085e6782650d04dedf41c22b86502da39cbc86be60fcfa29d6"), looks := false }, kinds := [], alts := [], laidByText := true, laidKinds := [.data, .pinned], laidTests := true, laidLooks := .later }
def AliasHitsUptoCardSaid : Prop := Claim7.holds Tryz.pinned (.plain (OpenSpec.upto aliasHitsSpec)) aliasHitsUptoCard

/-- THE SECOND FORM's CARD OF 'quillwortlaw28.AliasNone'. -/
def aliasNoneUptoCard : Claim7 := { stood := { row := aliasNoneUptoRow, standIns := [], harness := (true, "3deec93d29f5db085e6782650d04dedf41c22b86502da39cbc86be60fcfa29d6"), looks := false }, kinds := [], alts := [], laidByText := true, laidKinds := [.data, .pinned], laidTests := true, laidLooks := .later }
def AliasNoneUptoCardSaid : Prop := Claim7.holds Tryz.pinned (.plain (OpenSpec.upto aliasNoneSpec)) aliasNoneUptoCard

/-- THE SECOND FORM's CARD OF 'quillwortlaw31.DiagStates'. -/
def diagStatesUptoCard : Claim7 := { stood := { row := diagStatesUptoRow, standIns := [], harness := (true, "3deec93d29f5db085e6782650d04dedf41c22b86502da39cbc86be60fcfa29d6"), looks := false }, kinds := [], alts := [], laidByText := true, laidKinds := [.data, .data, .data, .data, .pinned], laidTests := true, laidLooks := .later }
def DiagStatesUptoCardSaid : Prop := Claim7.holds Tryz.pinned (.plain (OpenSpec.upto diagStatesSpec)) diagStatesUptoCard

/-- THE SECOND FORM's CARD OF 'quillwortlaw31.DiagWhole'. -/
def diagWholeUptoCard : Claim7 := { stood := { row := diagWholeUptoRow, standIns := [], harness := (true, "3deec93d29f5db085e6782650d04dedf41c22b86502da39cbc86be60fcfa29d6"), looks := false }, kinds := [], alts := [], laidByText := true, laidKinds := [.data, .data, .data, .data, .pinned], laidTests := true, laidLooks := .later }
def DiagWholeUptoCardSaid : Prop := Claim7.holds Tryz.pinned (.plain (OpenSpec.upto diagWholeSpec)) diagWholeUptoCard

/-- THE SECOND FORM's CARD OF 'quillwortlaw31.DiagLine'. -/
def diagLineUptoCard : Claim7 := { stood := { row := diagLineUptoRow, standIns := [], harness := (true, "3deec93d29f5db085e6782650d04dedf41c22b86502da39cbc86be60fcfa29d6"), looks := false }, kinds := [], alts := [], laidByText := true, laidKinds := [.data, .data, .data, .data, .pinned], laidTests := true, laidLooks := .later }
def DiagLineUptoCardSaid : Prop := Claim7.holds Tryz.pinned (.plain (OpenSpec.upto diagLineSpec)) diagLineUptoCard

/-- THE SECOND FORM's CARD OF 'quillwortlaw31.DiagNotes'. -/
def diagNotesUptoCard : Claim7 := { stood := { row := diagNotesUptoRow, standIns := [], harness := (true, "3deec93d29f5db085e6782650d04dedf41c22b86502da39cbc86be60fcfa29d6"), looks := false }, kinds := [], alts := [], laidByText := true, laidKinds := [.data, .data, .data, .data, .pinned], laidTests := true, laidLooks := .later }
def DiagNotesUptoCardSaid : Prop := Claim7.holds Tryz.pinned (.plain (OpenSpec.upto diagNotesSpec)) diagNotesUptoCard

/-- THE SECOND FORM's CARD OF 'quillwortlaw28.AliasFirst'. -/
def aliasFirstUptoCard : Claim7 := { stood := { row := aliasFirstUptoRow, standIns := [], harness := (true, "3deec93d29f5db085e6782650d04dedf41c22b86502da39cbc86be60fcfa29d6"), looks := false }, kinds := [], alts := [], laidByText := true, laidKinds := [.data, .pinned], laidTests := true, laidLooks := .later }
def AliasFirstUptoCardSaid : Prop := Claim7.holds Tryz.pinned (.plain (OpenSpec.upto aliasFirstSpec)) aliasFirstUptoCard

/-- THE SECOND FORM's CARD OF 'quillwortlaw28.AliasChains'. -/
def aliasChainsUptoCard : Claim7 := { stood := { row := aliasChainsUptoRow, standIns := [], harness := (true, "3deec93d29f5db085e6782650d04dedf41c22b86502da39cbc86be60fcfa29d6"), looks := false }, kinds := [], alts := [], laidByText := true, laidKinds := [.data, .pinned], laidTests := true, laidLooks := .later }
def AliasChainsUptoCardSaid : Prop := Claim7.holds Tryz.pinned (.plain (OpenSpec.upto aliasChainsSpec)) aliasChainsUptoCard
end Rows
end Go.Proofs.YtihafdllichkeaaGreatDoor
