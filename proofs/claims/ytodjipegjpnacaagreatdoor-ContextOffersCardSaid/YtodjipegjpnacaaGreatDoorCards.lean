/-
  DERIVED. GIVEN WITH THE SEED: THE CARDS: each row of YtodjipegjpnacaaGreatDoorRows.lean that lists a variable, with what it lists TIED to the program's text (the seventh form; the later family's looks); each row that meets fmt, with fmt's text TOLD by the authors' own Lean function (tested against real Go, not proved from fmt's source: count such statements apart). THE CARD IS WHAT COUNTS. Prove the row's statement (the work); the ties are given (YtodjipegjpnacaaGreatDoorTie.lean); close each card by the builder's one call (the guide's Derived/Test/ToyasCard.lean, 'card_holds'). Laid BY PROGRAM, IN A SANDBOX (cutbox-door.mjs). By AI agents, Wed Nov 11 2026. No macro, syntax, notation, axiom, sorry.
-/
import Derived.Test.YtodjipegjpnacaaGreatDoorRows
import GoSem.ClaimSeven
namespace Go.Proofs.YtodjipegjpnacaaGreatDoor
namespace Rows

/-- THE TIED CARD OF 'quillwortlaw21.ContextOffers'. -/
def contextOffersCard : Claim7 := { stood := { row := contextOffersRow, standIns := [], harness := (true, "6182d77a85d99ccd2424f46b7b7bbd631343583c9eeef966eca9dbc391bfd9d7"), looks := false }, kinds := [], alts := [], laidByText := true, laidKinds := [.data, .pinned], laidTests := true, laidLooks := .later }
def ContextOffersCardSaid : Prop := Claim7.holds Tryz.pinned (.plain (OpenSpec.ofChange contextOffersSpec)) contextOffersCard

/-- THE SECOND FORM's CARD OF 'quillwortlaw21.ContextOffers'. -/
def contextOffersUptoCard : Claim7 := { stood := { row := contextOffersUptoRow, standIns := [], harness := (true, "6182d77a85d99ccd2424f46b7b7bbd631343583c9eeef966eca9dbc391bfd9d7"), looks := false }, kinds := [], alts := [], laidByText := true, laidKinds := [.data, .pinned], laidTests := true, laidLooks := .later }
def ContextOffersUptoCardSaid : Prop := Claim7.holds Tryz.pinned (.plain (OpenSpec.upto contextOffersSpec)) contextOffersUptoCard
end Rows
end Go.Proofs.YtodjipegjpnacaaGreatDoor
