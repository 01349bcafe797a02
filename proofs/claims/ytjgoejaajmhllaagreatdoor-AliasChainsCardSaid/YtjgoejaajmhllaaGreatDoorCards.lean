/-
  DERIVED. GIVEN WITH THE SEED: THE CARDS: each row of YtjgoejaajmhllaaGreatDoorRows.lean that lists a variable, with what it lists TIED to the program's text (the seventh form; the later family's looks); each row that meets fmt, with fmt's text TOLD by the authors' own Lean function (tested against real Go, not proved from fmt's source: count such statements apart). THE CARD IS WHAT COUNTS. Prove the row's statement (the work); the ties are given (YtjgoejaajmhllaaGreatDoorTie.lean); close each card by the builder's one call (the guide's Derived/Test/ToyasCard.lean, 'card_holds'). Laid BY PROGRAM, IN A SANDBOX (cutbox-door.mjs). By AI agents, Wed Nov 11 2026. No macro, syntax, notation, axiom, sorry.
-/
import Derived.Test.YtjgoejaajmhllaaGreatDoorRows
import GoSem.ClaimSeven
namespace Go.Proofs.YtjgoejaajmhllaaGreatDoor
namespace Rows

/-- THE TIED CARD OF 'quillwortlaw28.AliasChains'. -/
def aliasChainsCard : Claim7 := { stood := { row := aliasChainsRow, standIns := [], harness := (true, "1222b311df082d265d2a928f031f57c29f26ab88e436be6cacf314145d36846d"), looks := false }, kinds := [], alts := [], laidByText := true, laidKinds := [.data, .pinned], laidTests := true, laidLooks := .later }
def AliasChainsCardSaid : Prop := Claim7.holds Tryz.pinned (.plain (OpenSpec.ofChange aliasChainsSpec)) aliasChainsCard

/-- THE SECOND FORM's CARD OF 'quillwortlaw28.AliasChains'. -/
def aliasChainsUptoCard : Claim7 := { stood := { row := aliasChainsUptoRow, standIns := [], harness := (true, "1222b311df082d265d2a928f031f57c29f26ab88e436be6cacf314145d36846d"), looks := false }, kinds := [], alts := [], laidByText := true, laidKinds := [.data, .pinned], laidTests := true, laidLooks := .later }
def AliasChainsUptoCardSaid : Prop := Claim7.holds Tryz.pinned (.plain (OpenSpec.upto aliasChainsSpec)) aliasChainsUptoCard
end Rows
end Go.Proofs.YtjgoejaajmhllaaGreatDoor
