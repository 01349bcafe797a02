/-
  DERIVED. GIVEN WITH THE SEED: THE CARDS: each row of YtkichehglnecnaaGreatDoorRows.lean that lists a variable, with what it lists TIED to the program's text (the seventh form; the later family's looks); each row that meets fmt, with fmt's text TOLD by the authors' own Lean function (tested against real Go, not proved from fmt's source: count such statements apart). THE CARD IS WHAT COUNTS. Prove the row's statement (the work); the ties are given (YtkichehglnecnaaGreatDoorTie.lean); close each card by the builder's one call (the guide's Derived/Test/ToyasCard.lean, 'card_holds'). Laid BY PROGRAM, IN A SANDBOX (cutbox-door.mjs). By AI agents, Wed Nov 11 2026. No macro, syntax, notation, axiom, sorry.
-/
import Derived.Test.YtkichehglnecnaaGreatDoorRows
import GoSem.ClaimSeven
namespace Go.Proofs.YtkichehglnecnaaGreatDoor
namespace Rows

/-- THE TIED CARD OF 'quillwortlaw15.LayoutTells'. -/
def layoutTellsCard : Claim7 := { stood := { row := layoutTellsRow, standIns := [], harness := (true, "fe64bba0b0101f51f2b983ca847175c44768344da425ea824e3bfe41006b5490"), looks := false }, kinds := [], alts := [], laidByText := true, laidKinds := [.data, .data, .data, .data, .pinned], laidTests := true, laidLooks := .later }
def LayoutTellsCardSaid : Prop := Claim7.holds Tryz.pinned (.plain (OpenSpec.ofChange layoutTellsSpec)) layoutTellsCard

/-- THE TIED CARD OF 'quillwortlaw21.ContextWords'. -/
def contextWordsCard : Claim7 := { stood := { row := contextWordsRow, standIns := [], harness := (true, "fe64bba0b0101f51f2b983ca847175c44768344da425ea824e3bfe41006b5490"), looks := false }, kinds := [], alts := [], laidByText := true, laidKinds := [.data, .pinned], laidTests := true, laidLooks := .later }
def ContextWordsCardSaid : Prop := Claim7.holds Tryz.pinned (.plain (OpenSpec.ofChange contextWordsSpec)) contextWordsCard

/-- THE SECOND FORM's CARD OF 'quillwortlaw15.LayoutTells'. -/
def layoutTellsUptoCard : Claim7 := { stood := { row := layoutTellsUptoRow, standIns := [], harness := (true, "fe64bba0b0101f51f2b983ca847175c44768344da425ea824e3bfe41006b5490"), looks := false }, kinds := [], alts := [], laidByText := true, laidKinds := [.data, .data, .data, .data, .pinned], laidTests := true, laidLooks := .later }
def LayoutTellsUptoCardSaid : Prop := Claim7.holds Tryz.pinned (.plain (OpenSpec.upto layoutTellsSpec)) layoutTellsUptoCard

/-- THE SECOND FORM's CARD OF 'quillwortlaw21.ContextWords'. -/
def contextWordsUptoCard : Claim7 := { stood := { row := contextWordsUptoRow, standIns := [], harness := (true, "fe64bba0b0101f51f2b983ca847175c44768344da425ea824e3bfe41006b5490"), looks := false }, kinds := [], alts := [], laidByText := true, laidKinds := [.data, .pinned], laidTests := true, laidLooks := .later }
def ContextWordsUptoCardSaid : Prop := Claim7.holds Tryz.pinned (.plain (OpenSpec.upto contextWordsSpec)) contextWordsUptoCard
end Rows
end Go.Proofs.YtkichehglnecnaaGreatDoor
