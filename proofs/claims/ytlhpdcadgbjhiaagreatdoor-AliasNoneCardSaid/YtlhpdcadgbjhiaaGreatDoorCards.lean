/-
  DERIVED. GIVEN WITH THE SEED: THE CARDS: each row of YtlhpdcadgbjhiaaGreatDoorRows.lean that lists a variable, with what it lists TIED to the program's text (the seventh form; the later family's looks); each row that meets fmt, with fmt's text TOLD by the authors' own Lean function (tested against real Go, not proved from fmt's source: count such statements apart). THE CARD IS WHAT COUNTS. Prove the row's statement (the work); the ties are given (YtlhpdcadgbjhiaaGreatDoorTie.lean); close each card by the builder's one call (the guide's Derived/Test/ToyasCard.lean, 'card_holds'). Laid BY PROGRAM, IN A SANDBOX (cutbox-door.mjs). By AI agents, Wed Nov 11 2026. No macro, syntax, notation, axiom, sorry.
-/
import Derived.Test.YtlhpdcadgbjhiaaGreatDoorRows
import GoSem.ClaimSeven
namespace Go.Proofs.YtlhpdcadgbjhiaaGreatDoor
namespace Rows

/-- THE TIED CARD OF 'quillwortlaw28.AliasHits'. -/
def aliasHitsCard : Claim7 := { stood := { row := aliasHitsRow, standIns := [], harness := (true, "f8444b3a549cb10e464e2b2a69288617ccc6501683642694d227d96109f55785"), looks := false }, kinds := [], alts := [], laidByText := true, laidKinds := [.data, .pinned], laidTests := true, laidLooks := .later }
def AliasHitsCardSaid : Prop := Claim7.holds Tryz.pinned (.plain (OpenSpec.ofChange aliasHitsSpec)) aliasHitsCard

/-- THE TIED CARD OF 'quillwortlaw28.AliasNone'. -/
def aliasNoneCard : Claim7 := { stood := { row := aliasNoneRow, standIns := [], harness := (true, "f8444b3a549cb10e464e2b2a69288617ccc6501683642694d227d96109f55785"), looks := false }, kinds := [], alts := [], laidByText := true, laidKinds := [.data, .pinned], laidTests := true, laidLooks := .later }
def AliasNoneCardSaid : Prop := Claim7.holds Tryz.pinned (.plain (OpenSpec.ofChange aliasNoneSpec)) aliasNoneCard

/-- THE TIED CARD OF 'quillwortlaw28.AliasFirst'. -/
def aliasFirstCard : Claim7 := { stood := { row := aliasFirstRow, standIns := [], harness := (true, "f8444b3a549cb10e464e2b2a69288617ccc6501683642694d227d96109f55785"), looks := false }, kinds := [], alts := [], laidByText := true, laidKinds := [.data, .pinned], laidTests := true, laidLooks := .later }
def AliasFirstCardSaid : Prop := Claim7.holds Tryz.pinned (.plain (OpenSpec.ofChange aliasFirstSpec)) aliasFirstCard

/-- THE SECOND FORM's CARD OF 'quillwortlaw28.AliasHits'. -/
def aliasHitsUptoCard : Claim7 := { stood := { row := aliasHitsUptoRow, standIns := [], harness := (true, "f8444b3a549cb10e464e2b2a69288617ccc6501683642694d227d96109f55785"), looks := false }, kinds := [], alts := [], laidByText := true, laidKinds := [.data, .pinned], laidTests := true, laidLooks := .later }
def AliasHitsUptoCardSaid : Prop := Claim7.holds Tryz.pinned (.plain (OpenSpec.upto aliasHitsSpec)) aliasHitsUptoCard

/-- THE SECOND FORM's CARD OF 'quillwortlaw28.AliasNone'. -/
def aliasNoneUptoCard : Claim7 := { stood := { row := aliasNoneUptoRow, standIns := [], harness := (true, "f8444b3a549cb10e464e2b2a69288617ccc6501683642694d227d96109f55785"), looks := false }, kinds := [], alts := [], laidByText := true, laidKinds := [.data, .pinned], laidTests := true, laidLooks := .later }
def AliasNoneUptoCardSaid : Prop := Claim7.holds Tryz.pinned (.plain (OpenSpec.upto aliasNoneSpec)) aliasNoneUptoCard

/-- THE SECOND FORM's CARD OF 'quillwortlaw28.AliasFirst'. -/
def aliasFirstUptoCard : Claim7 := { stood := { row := aliasFirstUptoRow, standIns := [], harness := (true, "f8444b3a549cb10e464e2b2a69288617ccc6501683642694d227d96109f55785"), looks := false }, kinds := [], alts := [], laidByText := true, laidKinds := [.data, .pinned], laidTests := true, laidLooks := .later }
def AliasFirstUptoCardSaid : Prop := Claim7.holds Tryz.pinned (.plain (OpenSpec.upto aliasFirstSpec)) aliasFirstUptoCard
end Rows
end Go.Proofs.YtlhpdcadgbjhiaaGreatDoor
