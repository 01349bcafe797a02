/-
  NARROWER THAN 'FOR EVERY INPUT', by the rows' own cells (each row's printed sentence says how): ContextNames: laid · ContextAhead: laid · ContextStack: laid · ContextWords: laid · AliasHits: laid · AliasNone: laid · DiagStates: laid · DiagWhole: laid · DiagLine: laid · DiagNotes: laid · AliasFirst: laid · AliasChains: laid.
  DERIVED. THE GIVEN ROWS OF THIS SEAT. 12 by the template 'for every input the law returns true; each argument reads behind the call as it read before'; 0 by the template 'total and deterministic' (their statements: YtihafdllichkeaaGreatDoorTotals.lean).
  GIVEN WITH THE SEED: the statements are not yours to turn. If you find one false, say at which input.
  Laid BY PROGRAM, IN A SANDBOX (cutbox-rows.mjs): the forced cells as the released guide's own fill.sh prints them over the translation dc3f9882170d5768… (all of the seat's roots in one cut). By AI agents, Wed Nov 11 2026. No macro, syntax, notation, axiom, sorry.
-/
import Derived.Test.YtihafdllichkeaaGreatDoorChecked
import GoSem.PinnedTables
import GoSem.Claim
import GoSem.ClaimJoined
import GoSem.ClaimMapViews
import Derived.JoinedTies
import Derived.KernelRfl
namespace Go.Proofs.YtihafdllichkeaaGreatDoor
/- THE CELL 'sum', in the pinned program and in every row, IS THE sha256 OF THE DUMP (.gsa) THAT YtihafdllichkeaaGreatDoorProg.lean LOADS. Nothing in Lean hashes anything: it is a label: what it is worth is what the hold of that sum in a sandbox is worth. -/
noncomputable def Tryz.pinned : Pinned := { name := "ytihafdllichkeaagreatdoor", sum := "dc3f9882170d5768b3d0f6c28736dbd004b1a72224982a2340f6f34805554d55", checked := Tryz.checked }
namespace Rows
def none {H : Type} : Left H := { results := [], args := [] }

/- WHAT THE LISTED PACKAGE-LEVEL VARIABLES READ AS WHEN THE CALL BEGINS. Each datum BY PROGRAM (the guide's laid-datum.mjs) off the statement by which the dump's own 'gosem.cut.vars' lays the variable. In a bare row this is a premise. The card (YtihafdllichkeaaGreatDoorCards.lean) ties it to the program's text. -/
def laid_unicode_utf8_acceptRanges {H : Type} : DataW H := .agg [.agg [.lit (.int .u8 128), .lit (.int .u8 191)], .agg [.lit (.int .u8 160), .lit (.int .u8 191)], .agg [.lit (.int .u8 128), .lit (.int .u8 159)], .agg [.lit (.int .u8 144), .lit (.int .u8 191)], .agg [.lit (.int .u8 128), .lit (.int .u8 143)], .agg [.lit (.int .u8 0), .lit (.int .u8 0)], .agg [.lit (.int .u8 0), .lit (.int .u8 0)], .agg [.lit (.int .u8 0), .lit (.int .u8 0)], .agg [.lit (.int .u8 0), .lit (.int .u8 0)], .agg [.lit (.int .u8 0), .lit (.int .u8 0)], .agg [.lit (.int .u8 0), .lit (.int .u8 0)], .agg [.lit (.int .u8 0), .lit (.int .u8 0)], .agg [.lit (.int .u8 0), .lit (.int .u8 0)], .agg [.lit (.int .u8 0), .lit (.int .u8 0)], .agg [.lit (.int .u8 0), .lit (.int .u8 0)], .agg [.lit (.int .u8 0), .lit (.int .u8 0)]]
/-- One of Go's own tables, pinned by name: the form's constant. -/
def laid_unicode_utf8_first : DataW Unit := Go.Pinned.utf8First
def laid_math_bits_deBruijn32tab {H : Type} : DataW H := .agg [.lit (.int .u8 0), .lit (.int .u8 1), .lit (.int .u8 28), .lit (.int .u8 2), .lit (.int .u8 29), .lit (.int .u8 14), .lit (.int .u8 24), .lit (.int .u8 3), .lit (.int .u8 30), .lit (.int .u8 22), .lit (.int .u8 20), .lit (.int .u8 15), .lit (.int .u8 25), .lit (.int .u8 17), .lit (.int .u8 4), .lit (.int .u8 8), .lit (.int .u8 31), .lit (.int .u8 27), .lit (.int .u8 13), .lit (.int .u8 23), .lit (.int .u8 21), .lit (.int .u8 19), .lit (.int .u8 16), .lit (.int .u8 7), .lit (.int .u8 26), .lit (.int .u8 12), .lit (.int .u8 18), .lit (.int .u8 6), .lit (.int .u8 11), .lit (.int .u8 5), .lit (.int .u8 10), .lit (.int .u8 9)]
def laid_math_bits_deBruijn64tab {H : Type} : DataW H := .agg [.lit (.int .u8 0), .lit (.int .u8 1), .lit (.int .u8 56), .lit (.int .u8 2), .lit (.int .u8 57), .lit (.int .u8 49), .lit (.int .u8 28), .lit (.int .u8 3), .lit (.int .u8 61), .lit (.int .u8 58), .lit (.int .u8 42), .lit (.int .u8 50), .lit (.int .u8 38), .lit (.int .u8 29), .lit (.int .u8 17), .lit (.int .u8 4), .lit (.int .u8 62), .lit (.int .u8 47), .lit (.int .u8 59), .lit (.int .u8 36), .lit (.int .u8 45), .lit (.int .u8 43), .lit (.int .u8 51), .lit (.int .u8 22), .lit (.int .u8 53), .lit (.int .u8 39), .lit (.int .u8 33), .lit (.int .u8 30), .lit (.int .u8 24), .lit (.int .u8 18), .lit (.int .u8 12), .lit (.int .u8 5), .lit (.int .u8 63), .lit (.int .u8 55), .lit (.int .u8 48), .lit (.int .u8 27), .lit (.int .u8 60), .lit (.int .u8 41), .lit (.int .u8 37), .lit (.int .u8 16), .lit (.int .u8 46), .lit (.int .u8 35), .lit (.int .u8 44), .lit (.int .u8 21), .lit (.int .u8 52), .lit (.int .u8 32), .lit (.int .u8 23), .lit (.int .u8 11), .lit (.int .u8 54), .lit (.int .u8 26), .lit (.int .u8 40), .lit (.int .u8 15), .lit (.int .u8 34), .lit (.int .u8 20), .lit (.int .u8 31), .lit (.int .u8 10), .lit (.int .u8 25), .lit (.int .u8 14), .lit (.int .u8 19), .lit (.int .u8 9), .lit (.int .u8 13), .lit (.int .u8 8), .lit (.int .u8 7), .lit (.int .u8 6)]
def laid_internal_strconv_uint64pow10 {H : Type} : DataW H := .agg [.lit (.int .u64 1), .lit (.int .u64 10), .lit (.int .u64 100), .lit (.int .u64 1000), .lit (.int .u64 10000), .lit (.int .u64 100000), .lit (.int .u64 1000000), .lit (.int .u64 10000000), .lit (.int .u64 100000000), .lit (.int .u64 1000000000), .lit (.int .u64 10000000000), .lit (.int .u64 100000000000), .lit (.int .u64 1000000000000), .lit (.int .u64 10000000000000), .lit (.int .u64 100000000000000), .lit (.int .u64 1000000000000000), .lit (.int .u64 10000000000000000), .lit (.int .u64 100000000000000000), .lit (.int .u64 1000000000000000000), .lit (.int .u64 10000000000000000000)]

/-- 'quillwortlaw21.ContextNames': WHATEVER THE INPUT: true; the input reads as it did. -/
def contextNamesSpec : ChangeSpec := { name := "contextNames", fn := fun _ => fun
  | [d1, d2, d3] => { results := [.lit (.bool true)], args := [d1, d2, d3] }
  | _ => none }
def contextNamesRow : OpenClaim := { program := "ytihafdllichkeaagreatdoor", sum := "dc3f9882170d5768b3d0f6c28736dbd004b1a72224982a2340f6f34805554d55", func := "quillwort/quillwortlaw21.ContextNames", spec := "contextNames", inPlace := ["internal/bytealg.IndexByteString", "internal/bytealg.IndexString", "internal/abi.NoEscape"], unfollowed := true, recurses := true, named := ["unicode/utf8.first", "unicode/utf8.acceptRanges", "internal/bytealg.MaxLen"], apart := false, laid := [("unicode/utf8.acceptRanges", laid_unicode_utf8_acceptRanges), ("unicode/utf8.first", laid_unicode_utf8_first)] }
def ContextNamesSaid : Prop := contextNamesRow.holds Tryz.pinned (OpenSpec.ofChange contextNamesSpec)

/-- ITS FALSE NEIGHBOUR: 'it returns false'. Refute it at one input. -/
def contextNamesWrong : ChangeSpec := { name := "contextNames", fn := fun _ => fun
  | [d1, d2, d3] => { results := [.lit (.bool false)], args := [d1, d2, d3] }
  | _ => none }
def ContextNamesWrongFalsely : Prop := contextNamesRow.holds Tryz.pinned (OpenSpec.ofChange contextNamesWrong)

/-- 'quillwortlaw21.ContextAhead': WHATEVER THE INPUT: true; the input reads as it did. -/
def contextAheadSpec : ChangeSpec := { name := "contextAhead", fn := fun _ => fun
  | [d1, d2, d3] => { results := [.lit (.bool true)], args := [d1, d2, d3] }
  | _ => none }
def contextAheadRow : OpenClaim := { program := "ytihafdllichkeaagreatdoor", sum := "dc3f9882170d5768b3d0f6c28736dbd004b1a72224982a2340f6f34805554d55", func := "quillwort/quillwortlaw21.ContextAhead", spec := "contextAhead", inPlace := ["internal/bytealg.IndexByteString", "internal/bytealg.IndexString", "internal/abi.NoEscape"], unfollowed := true, recurses := true, named := ["unicode/utf8.first", "unicode/utf8.acceptRanges", "internal/bytealg.MaxLen"], apart := false, laid := [("unicode/utf8.acceptRanges", laid_unicode_utf8_acceptRanges), ("unicode/utf8.first", laid_unicode_utf8_first)] }
def ContextAheadSaid : Prop := contextAheadRow.holds Tryz.pinned (OpenSpec.ofChange contextAheadSpec)

/-- ITS FALSE NEIGHBOUR: 'it returns false'. Refute it at one input. -/
def contextAheadWrong : ChangeSpec := { name := "contextAhead", fn := fun _ => fun
  | [d1, d2, d3] => { results := [.lit (.bool false)], args := [d1, d2, d3] }
  | _ => none }
def ContextAheadWrongFalsely : Prop := contextAheadRow.holds Tryz.pinned (OpenSpec.ofChange contextAheadWrong)

/-- 'quillwortlaw21.ContextStack': WHATEVER THE INPUT: true; the input reads as it did. -/
def contextStackSpec : ChangeSpec := { name := "contextStack", fn := fun _ => fun
  | [d1, d2] => { results := [.lit (.bool true)], args := [d1, d2] }
  | _ => none }
def contextStackRow : OpenClaim := { program := "ytihafdllichkeaagreatdoor", sum := "dc3f9882170d5768b3d0f6c28736dbd004b1a72224982a2340f6f34805554d55", func := "quillwort/quillwortlaw21.ContextStack", spec := "contextStack", inPlace := ["internal/bytealg.IndexByteString", "internal/bytealg.IndexString", "internal/abi.NoEscape"], unfollowed := true, recurses := true, named := ["unicode/utf8.first", "unicode/utf8.acceptRanges", "internal/bytealg.MaxLen"], apart := false, laid := [("unicode/utf8.acceptRanges", laid_unicode_utf8_acceptRanges), ("unicode/utf8.first", laid_unicode_utf8_first)] }
def ContextStackSaid : Prop := contextStackRow.holds Tryz.pinned (OpenSpec.ofChange contextStackSpec)

/-- ITS FALSE NEIGHBOUR: 'it returns false'. Refute it at one input. -/
def contextStackWrong : ChangeSpec := { name := "contextStack", fn := fun _ => fun
  | [d1, d2] => { results := [.lit (.bool false)], args := [d1, d2] }
  | _ => none }
def ContextStackWrongFalsely : Prop := contextStackRow.holds Tryz.pinned (OpenSpec.ofChange contextStackWrong)

/-- 'quillwortlaw21.ContextWords': WHATEVER THE INPUT: true; the input reads as it did. -/
def contextWordsSpec : ChangeSpec := { name := "contextWords", fn := fun _ => fun
  | [d1, d2] => { results := [.lit (.bool true)], args := [d1, d2] }
  | _ => none }
def contextWordsRow : OpenClaim := { program := "ytihafdllichkeaagreatdoor", sum := "dc3f9882170d5768b3d0f6c28736dbd004b1a72224982a2340f6f34805554d55", func := "quillwort/quillwortlaw21.ContextWords", spec := "contextWords", inPlace := ["internal/bytealg.IndexByteString", "internal/bytealg.IndexString", "internal/abi.NoEscape", "internal/bytealg.CountString", "internal/bytealg.MakeNoZero"], unfollowed := true, recurses := true, named := ["unicode/utf8.first", "unicode/utf8.acceptRanges", "internal/bytealg.MaxLen"], apart := false, laid := [("unicode/utf8.acceptRanges", laid_unicode_utf8_acceptRanges), ("unicode/utf8.first", laid_unicode_utf8_first)] }
def ContextWordsSaid : Prop := contextWordsRow.holds Tryz.pinned (OpenSpec.ofChange contextWordsSpec)

/-- ITS FALSE NEIGHBOUR: 'it returns false'. Refute it at one input. -/
def contextWordsWrong : ChangeSpec := { name := "contextWords", fn := fun _ => fun
  | [d1, d2] => { results := [.lit (.bool false)], args := [d1, d2] }
  | _ => none }
def ContextWordsWrongFalsely : Prop := contextWordsRow.holds Tryz.pinned (OpenSpec.ofChange contextWordsWrong)

/-- 'quillwortlaw28.AliasHits': WHATEVER THE INPUT: true; the input reads as it did. -/
def aliasHitsSpec : ChangeSpec := { name := "aliasHits", fn := fun _ => fun
  | [d1, d2] => { results := [.lit (.bool true)], args := [d1, d2] }
  | _ => none }
def aliasHitsRow : OpenClaim := { program := "ytihafdllichkeaagreatdoor", sum := "dc3f9882170d5768b3d0f6c28736dbd004b1a72224982a2340f6f34805554d55", func := "quillwort/quillwortlaw28.AliasHits", spec := "aliasHits", inPlace := ["internal/bytealg.abigen_runtime_cmpstring", "slices.overlaps[quillwort/api.Entry]", "internal/bytealg.IndexByteString", "internal/bytealg.IndexString", "internal/abi.NoEscape"], unfollowed := true, recurses := true, named := ["unicode/utf8.first", "unicode/utf8.acceptRanges", "internal/bytealg.MaxLen"], apart := false, laid := [("unicode/utf8.acceptRanges", laid_unicode_utf8_acceptRanges), ("unicode/utf8.first", laid_unicode_utf8_first)] }
def AliasHitsSaid : Prop := aliasHitsRow.holds Tryz.pinned (OpenSpec.ofChange aliasHitsSpec)

/-- ITS FALSE NEIGHBOUR: 'it returns false'. Refute it at one input. -/
def aliasHitsWrong : ChangeSpec := { name := "aliasHits", fn := fun _ => fun
  | [d1, d2] => { results := [.lit (.bool false)], args := [d1, d2] }
  | _ => none }
def AliasHitsWrongFalsely : Prop := aliasHitsRow.holds Tryz.pinned (OpenSpec.ofChange aliasHitsWrong)

/-- 'quillwortlaw28.AliasNone': WHATEVER THE INPUT: true; the input reads as it did. -/
def aliasNoneSpec : ChangeSpec := { name := "aliasNone", fn := fun _ => fun
  | [d1, d2] => { results := [.lit (.bool true)], args := [d1, d2] }
  | _ => none }
def aliasNoneRow : OpenClaim := { program := "ytihafdllichkeaagreatdoor", sum := "dc3f9882170d5768b3d0f6c28736dbd004b1a72224982a2340f6f34805554d55", func := "quillwort/quillwortlaw28.AliasNone", spec := "aliasNone", inPlace := ["internal/bytealg.abigen_runtime_cmpstring", "slices.overlaps[quillwort/api.Entry]", "internal/bytealg.IndexByteString", "internal/bytealg.IndexString", "internal/abi.NoEscape"], unfollowed := true, recurses := true, named := ["unicode/utf8.first", "unicode/utf8.acceptRanges", "internal/bytealg.MaxLen"], apart := false, laid := [("unicode/utf8.acceptRanges", laid_unicode_utf8_acceptRanges), ("unicode/utf8.first", laid_unicode_utf8_first)] }
def AliasNoneSaid : Prop := aliasNoneRow.holds Tryz.pinned (OpenSpec.ofChange aliasNoneSpec)

/-- ITS FALSE NEIGHBOUR: 'it returns false'. Refute it at one input. -/
def aliasNoneWrong : ChangeSpec := { name := "aliasNone", fn := fun _ => fun
  | [d1, d2] => { results := [.lit (.bool false)], args := [d1, d2] }
  | _ => none }
def AliasNoneWrongFalsely : Prop := aliasNoneRow.holds Tryz.pinned (OpenSpec.ofChange aliasNoneWrong)

/-- 'quillwortlaw31.DiagStates': WHATEVER THE INPUT: true; the input reads as it did. -/
def diagStatesSpec : ChangeSpec := { name := "diagStates", fn := fun _ => fun
  | [d] => { results := [.lit (.bool true)], args := [d] }
  | _ => none }
def diagStatesRow : OpenClaim := { program := "ytihafdllichkeaagreatdoor", sum := "dc3f9882170d5768b3d0f6c28736dbd004b1a72224982a2340f6f34805554d55", func := "quillwort/quillwortlaw31.DiagStates", spec := "diagStates", inPlace := ["internal/bytealg.IndexByteString", "internal/bytealg.IndexString", "internal/abi.NoEscape", "internal/bytealg.CountString", "internal/bytealg.MakeNoZero"], unfollowed := true, recurses := true, named := ["unicode/utf8.first", "unicode/utf8.acceptRanges", "internal/bytealg.MaxLen", "internal/strconv.uint64pow10", "math/bits.deBruijn32tab", "math/bits.deBruijn64tab"], apart := false, laid := [("math/bits.deBruijn32tab", laid_math_bits_deBruijn32tab), ("math/bits.deBruijn64tab", laid_math_bits_deBruijn64tab), ("internal/strconv.uint64pow10", laid_internal_strconv_uint64pow10), ("unicode/utf8.acceptRanges", laid_unicode_utf8_acceptRanges), ("unicode/utf8.first", laid_unicode_utf8_first)] }
def DiagStatesSaid : Prop := diagStatesRow.holds Tryz.pinned (OpenSpec.ofChange diagStatesSpec)

/-- ITS FALSE NEIGHBOUR: 'it returns false'. Refute it at one input. -/
def diagStatesWrong : ChangeSpec := { name := "diagStates", fn := fun _ => fun
  | [d] => { results := [.lit (.bool false)], args := [d] }
  | _ => none }
def DiagStatesWrongFalsely : Prop := diagStatesRow.holds Tryz.pinned (OpenSpec.ofChange diagStatesWrong)

/-- 'quillwortlaw31.DiagWhole': WHATEVER THE INPUT: true; the input reads as it did. -/
def diagWholeSpec : ChangeSpec := { name := "diagWhole", fn := fun _ => fun
  | [d] => { results := [.lit (.bool true)], args := [d] }
  | _ => none }
def diagWholeRow : OpenClaim := { program := "ytihafdllichkeaagreatdoor", sum := "dc3f9882170d5768b3d0f6c28736dbd004b1a72224982a2340f6f34805554d55", func := "quillwort/quillwortlaw31.DiagWhole", spec := "diagWhole", inPlace := ["internal/bytealg.IndexByteString", "internal/bytealg.IndexString", "internal/abi.NoEscape", "internal/bytealg.CountString", "internal/bytealg.MakeNoZero"], unfollowed := true, recurses := true, named := ["unicode/utf8.first", "unicode/utf8.acceptRanges", "internal/bytealg.MaxLen", "internal/strconv.uint64pow10", "math/bits.deBruijn32tab", "math/bits.deBruijn64tab"], apart := false, laid := [("math/bits.deBruijn32tab", laid_math_bits_deBruijn32tab), ("math/bits.deBruijn64tab", laid_math_bits_deBruijn64tab), ("internal/strconv.uint64pow10", laid_internal_strconv_uint64pow10), ("unicode/utf8.acceptRanges", laid_unicode_utf8_acceptRanges), ("unicode/utf8.first", laid_unicode_utf8_first)] }
def DiagWholeSaid : Prop := diagWholeRow.holds Tryz.pinned (OpenSpec.ofChange diagWholeSpec)

/-- ITS FALSE NEIGHBOUR: 'it returns false'. Refute it at one input. -/
def diagWholeWrong : ChangeSpec := { name := "diagWhole", fn := fun _ => fun
  | [d] => { results := [.lit (.bool false)], args := [d] }
  | _ => none }
def DiagWholeWrongFalsely : Prop := diagWholeRow.holds Tryz.pinned (OpenSpec.ofChange diagWholeWrong)

/-- 'quillwortlaw31.DiagLine': WHATEVER THE INPUT: true; the input reads as it did. -/
def diagLineSpec : ChangeSpec := { name := "diagLine", fn := fun _ => fun
  | [d1, d2] => { results := [.lit (.bool true)], args := [d1, d2] }
  | _ => none }
def diagLineRow : OpenClaim := { program := "ytihafdllichkeaagreatdoor", sum := "dc3f9882170d5768b3d0f6c28736dbd004b1a72224982a2340f6f34805554d55", func := "quillwort/quillwortlaw31.DiagLine", spec := "diagLine", inPlace := ["internal/bytealg.IndexByteString", "internal/bytealg.IndexString", "internal/abi.NoEscape", "internal/bytealg.CountString", "internal/bytealg.MakeNoZero"], unfollowed := true, recurses := true, named := ["unicode/utf8.first", "unicode/utf8.acceptRanges", "internal/bytealg.MaxLen", "internal/strconv.uint64pow10", "math/bits.deBruijn32tab", "math/bits.deBruijn64tab"], apart := false, laid := [("math/bits.deBruijn32tab", laid_math_bits_deBruijn32tab), ("math/bits.deBruijn64tab", laid_math_bits_deBruijn64tab), ("internal/strconv.uint64pow10", laid_internal_strconv_uint64pow10), ("unicode/utf8.acceptRanges", laid_unicode_utf8_acceptRanges), ("unicode/utf8.first", laid_unicode_utf8_first)] }
def DiagLineSaid : Prop := diagLineRow.holds Tryz.pinned (OpenSpec.ofChange diagLineSpec)

/-- ITS FALSE NEIGHBOUR: 'it returns false'. Refute it at one input. -/
def diagLineWrong : ChangeSpec := { name := "diagLine", fn := fun _ => fun
  | [d1, d2] => { results := [.lit (.bool false)], args := [d1, d2] }
  | _ => none }
def DiagLineWrongFalsely : Prop := diagLineRow.holds Tryz.pinned (OpenSpec.ofChange diagLineWrong)

/-- 'quillwortlaw31.DiagNotes': WHATEVER THE INPUT: true; the input reads as it did. -/
def diagNotesSpec : ChangeSpec := { name := "diagNotes", fn := fun _ => fun
  | [d] => { results := [.lit (.bool true)], args := [d] }
  | _ => none }
def diagNotesRow : OpenClaim := { program := "ytihafdllichkeaagreatdoor", sum := "dc3f9882170d5768b3d0f6c28736dbd004b1a72224982a2340f6f34805554d55", func := "quillwort/quillwortlaw31.DiagNotes", spec := "diagNotes", inPlace := ["internal/bytealg.IndexByteString", "internal/bytealg.IndexString", "internal/abi.NoEscape", "internal/bytealg.CountString", "internal/bytealg.MakeNoZero"], unfollowed := true, recurses := true, named := ["unicode/utf8.first", "unicode/utf8.acceptRanges", "internal/bytealg.MaxLen", "internal/strconv.uint64pow10", "math/bits.deBruijn32tab", "math/bits.deBruijn64tab"], apart := false, laid := [("math/bits.deBruijn32tab", laid_math_bits_deBruijn32tab), ("math/bits.deBruijn64tab", laid_math_bits_deBruijn64tab), ("internal/strconv.uint64pow10", laid_internal_strconv_uint64pow10), ("unicode/utf8.acceptRanges", laid_unicode_utf8_acceptRanges), ("unicode/utf8.first", laid_unicode_utf8_first)] }
def DiagNotesSaid : Prop := diagNotesRow.holds Tryz.pinned (OpenSpec.ofChange diagNotesSpec)

/-- ITS FALSE NEIGHBOUR: 'it returns false'. Refute it at one input. -/
def diagNotesWrong : ChangeSpec := { name := "diagNotes", fn := fun _ => fun
  | [d] => { results := [.lit (.bool false)], args := [d] }
  | _ => none }
def DiagNotesWrongFalsely : Prop := diagNotesRow.holds Tryz.pinned (OpenSpec.ofChange diagNotesWrong)

/-- 'quillwortlaw28.AliasFirst': WHATEVER THE INPUT: true; the input reads as it did. -/
def aliasFirstSpec : ChangeSpec := { name := "aliasFirst", fn := fun _ => fun
  | [d1, d2] => { results := [.lit (.bool true)], args := [d1, d2] }
  | _ => none }
def aliasFirstRow : OpenClaim := { program := "ytihafdllichkeaagreatdoor", sum := "dc3f9882170d5768b3d0f6c28736dbd004b1a72224982a2340f6f34805554d55", func := "quillwort/quillwortlaw28.AliasFirst", spec := "aliasFirst", inPlace := ["internal/bytealg.abigen_runtime_cmpstring", "slices.overlaps[quillwort/api.Entry]", "internal/bytealg.IndexByteString", "internal/bytealg.IndexString", "internal/abi.NoEscape", "internal/bytealg.CountString", "internal/bytealg.MakeNoZero"], unfollowed := true, recurses := true, named := ["unicode/utf8.first", "unicode/utf8.acceptRanges", "internal/bytealg.MaxLen"], apart := false, laid := [("unicode/utf8.acceptRanges", laid_unicode_utf8_acceptRanges), ("unicode/utf8.first", laid_unicode_utf8_first)] }
def AliasFirstSaid : Prop := aliasFirstRow.holds Tryz.pinned (OpenSpec.ofChange aliasFirstSpec)

/-- ITS FALSE NEIGHBOUR: 'it returns false'. Refute it at one input. -/
def aliasFirstWrong : ChangeSpec := { name := "aliasFirst", fn := fun _ => fun
  | [d1, d2] => { results := [.lit (.bool false)], args := [d1, d2] }
  | _ => none }
def AliasFirstWrongFalsely : Prop := aliasFirstRow.holds Tryz.pinned (OpenSpec.ofChange aliasFirstWrong)

/-- 'quillwortlaw28.AliasChains': WHATEVER THE INPUT: true; the input reads as it did. -/
def aliasChainsSpec : ChangeSpec := { name := "aliasChains", fn := fun _ => fun
  | [d1, d2] => { results := [.lit (.bool true)], args := [d1, d2] }
  | _ => none }
def aliasChainsRow : OpenClaim := { program := "ytihafdllichkeaagreatdoor", sum := "dc3f9882170d5768b3d0f6c28736dbd004b1a72224982a2340f6f34805554d55", func := "quillwort/quillwortlaw28.AliasChains", spec := "aliasChains", inPlace := ["internal/bytealg.abigen_runtime_cmpstring", "slices.overlaps[quillwort/api.Entry]", "internal/bytealg.IndexByteString", "internal/bytealg.IndexString", "internal/abi.NoEscape", "internal/bytealg.CountString", "internal/bytealg.MakeNoZero"], unfollowed := true, recurses := true, named := ["unicode/utf8.first", "unicode/utf8.acceptRanges", "internal/bytealg.MaxLen"], apart := false, laid := [("unicode/utf8.acceptRanges", laid_unicode_utf8_acceptRanges), ("unicode/utf8.first", laid_unicode_utf8_first)] }
def AliasChainsSaid : Prop := aliasChainsRow.holds Tryz.pinned (OpenSpec.ofChange aliasChainsSpec)

/-- ITS FALSE NEIGHBOUR: 'it returns false'. Refute it at one input. -/
def aliasChainsWrong : ChangeSpec := { name := "aliasChains", fn := fun _ => fun
  | [d1, d2] => { results := [.lit (.bool false)], args := [d1, d2] }
  | _ => none }
def AliasChainsWrongFalsely : Prop := aliasChainsRow.holds Tryz.pinned (OpenSpec.ofChange aliasChainsWrong)

/- THE SECOND FORM. 'bulk': how many values and letters a reading holds, each counted each time it is reached (what is shared counts as often as it is met; a slice's spare places count too). A statement '..UptoSaid' is the law's where the arguments, and the package variables that the reading takes, are together of bulk at most 1048576: NARROWER than '..Said'. Prove '..Said' where nothing that the law and all that it calls make is longer than what came in: it says more and counts as full. Else prove '..UptoSaid'. A law counts once. -/
mutual
def uptoBulk {H : Type} : DataW H → Nat
  | .lit (.string bytes) => bytes.length + 1
  | .lit _ => 1
  | .nil => 1
  | .ptr d => uptoBulk d + 1
  | .slice elems spare => uptoBulkAll elems + uptoBulkAll spare + 1
  | .agg parts => uptoBulkAll parts + 1
  | .iface _ d => uptoBulk d + 1
  | .map entries => uptoBulkEntries entries + 1
  | .held _ => 1
def uptoBulkAll {H : Type} : List (DataW H) → Nat
  | [] => 0
  | d :: r => uptoBulk d + uptoBulkAll r
def uptoBulkEntries {H : Type} : List (Lit × DataW H) → Nat
  | [] => 0
  | x :: r => uptoBulkEntry x + uptoBulkEntries r
def uptoBulkEntry {H : Type} : Lit × DataW H → Nat
  | (.string bytes, d) => bytes.length + uptoBulk d + 1
  | (_, d) => uptoBulk d + 1
 end
def uptoSmall : (H : Type) → List (DataW H) → Bool := fun _ ds => decide (uptoBulkAll ds ≤ 1048576)
def OpenSpec.upto (s : _root_.Go.ChangeSpec) : _root_.Go.OpenSpec := { _root_.Go.OpenSpec.ofChange s with cond := some uptoSmall }

/-- 'quillwortlaw21.ContextNames', WHERE WHAT IT READS IS OF BULK AT MOST 1048576: true; the input reads as it did. -/
def contextNamesUptoRow : OpenClaim := { program := "ytihafdllichkeaagreatdoor", sum := "dc3f9882170d5768b3d0f6c28736dbd004b1a72224982a2340f6f34805554d55", func := "quillwort/quillwortlaw21.ContextNames", spec := "contextNames", inPlace := ["internal/bytealg.IndexByteString", "internal/bytealg.IndexString", "internal/abi.NoEscape"], unfollowed := true, recurses := true, named := ["unicode/utf8.first", "unicode/utf8.acceptRanges", "internal/bytealg.MaxLen"], apart := false, laid := [("unicode/utf8.acceptRanges", laid_unicode_utf8_acceptRanges), ("unicode/utf8.first", laid_unicode_utf8_first)], narrowed := true }
def ContextNamesUptoSaid : Prop := contextNamesUptoRow.holds Tryz.pinned (OpenSpec.upto contextNamesSpec)

/-- 'quillwortlaw21.ContextAhead', WHERE WHAT IT READS IS OF BULK AT MOST 1048576: true; the input reads as it did. -/
def contextAheadUptoRow : OpenClaim := { program := "ytihafdllichkeaagreatdoor", sum := "dc3f9882170d5768b3d0f6c28736dbd004b1a72224982a2340f6f34805554d55", func := "quillwort/quillwortlaw21.ContextAhead", spec := "contextAhead", inPlace := ["internal/bytealg.IndexByteString", "internal/bytealg.IndexString", "internal/abi.NoEscape"], unfollowed := true, recurses := true, named := ["unicode/utf8.first", "unicode/utf8.acceptRanges", "internal/bytealg.MaxLen"], apart := false, laid := [("unicode/utf8.acceptRanges", laid_unicode_utf8_acceptRanges), ("unicode/utf8.first", laid_unicode_utf8_first)], narrowed := true }
def ContextAheadUptoSaid : Prop := contextAheadUptoRow.holds Tryz.pinned (OpenSpec.upto contextAheadSpec)

/-- 'quillwortlaw21.ContextStack', WHERE WHAT IT READS IS OF BULK AT MOST 1048576: true; the input reads as it did. -/
def contextStackUptoRow : OpenClaim := { program := "ytihafdllichkeaagreatdoor", sum := "dc3f9882170d5768b3d0f6c28736dbd004b1a72224982a2340f6f34805554d55", func := "quillwort/quillwortlaw21.ContextStack", spec := "contextStack", inPlace := ["internal/bytealg.IndexByteString", "internal/bytealg.IndexString", "internal/abi.NoEscape"], unfollowed := true, recurses := true, named := ["unicode/utf8.first", "unicode/utf8.acceptRanges", "internal/bytealg.MaxLen"], apart := false, laid := [("unicode/utf8.acceptRanges", laid_unicode_utf8_acceptRanges), ("unicode/utf8.first", laid_unicode_utf8_first)], narrowed := true }
def ContextStackUptoSaid : Prop := contextStackUptoRow.holds Tryz.pinned (OpenSpec.upto contextStackSpec)

/-- 'quillwortlaw21.ContextWords', WHERE WHAT IT READS IS OF BULK AT MOST 1048576: true; the input reads as it did. -/
def contextWordsUptoRow : OpenClaim := { program := "ytihafdllichkeaagreatdoor", sum := "dc3f9882170d5768b3d0f6c28736dbd004b1a72224982a2340f6f34805554d55", func := "quillwort/quillwortlaw21.ContextWords", spec := "contextWords", inPlace := ["internal/bytealg.IndexByteString", "internal/bytealg.IndexString", "internal/abi.NoEscape", "internal/bytealg.CountString", "internal/bytealg.MakeNoZero"], unfollowed := true, recurses := true, named := ["unicode/utf8.first", "unicode/utf8.acceptRanges", "internal/bytealg.MaxLen"], apart := false, laid := [("unicode/utf8.acceptRanges", laid_unicode_utf8_acceptRanges), ("unicode/utf8.first", laid_unicode_utf8_first)], narrowed := true }
def ContextWordsUptoSaid : Prop := contextWordsUptoRow.holds Tryz.pinned (OpenSpec.upto contextWordsSpec)

/-- 'quillwortlaw28.AliasHits', WHERE WHAT IT READS IS OF BULK AT MOST 1048576: true; the input reads as it did. -/
def aliasHitsUptoRow : OpenClaim := { program := "ytihafdllichkeaagreatdoor", sum := "dc3f9882170d5768b3d0f6c28736dbd004b1a72224982a2340f6f34805554d55", func := "quillwort/quillwortlaw28.AliasHits", spec := "aliasHits", inPlace := ["internal/bytealg.abigen_runtime_cmpstring", "slices.overlaps[quillwort/api.Entry]", "internal/bytealg.IndexByteString", "internal/bytealg.IndexString", "internal/abi.NoEscape"], unfollowed := true, recurses := true, named := ["unicode/utf8.first", "unicode/utf8.acceptRanges", "internal/bytealg.MaxLen"], apart := false, laid := [("unicode/utf8.acceptRanges", laid_unicode_utf8_acceptRanges), ("unicode/utf8.first", laid_unicode_utf8_first)], narrowed := true }
def AliasHitsUptoSaid : Prop := aliasHitsUptoRow.holds Tryz.pinned (OpenSpec.upto aliasHitsSpec)

/-- 'quillwortlaw28.AliasNone', WHERE WHAT IT READS IS OF BULK AT MOST 1048576: true; the input reads as it did. -/
def aliasNoneUptoRow : OpenClaim := { program := "ytihafdllichkeaagreatdoor", sum := "dc3f9882170d5768b3d0f6c28736dbd004b1a72224982a2340f6f34805554d55", func := "quillwort/quillwortlaw28.AliasNone", spec := "aliasNone", inPlace := ["internal/bytealg.abigen_runtime_cmpstring", "slices.overlaps[quillwort/api.Entry]", "internal/bytealg.IndexByteString", "internal/bytealg.IndexString", "internal/abi.NoEscape"], unfollowed := true, recurses := true, named := ["unicode/utf8.first", "unicode/utf8.acceptRanges", "internal/bytealg.MaxLen"], apart := false, laid := [("unicode/utf8.acceptRanges", laid_unicode_utf8_acceptRanges), ("unicode/utf8.first", laid_unicode_utf8_first)], narrowed := true }
def AliasNoneUptoSaid : Prop := aliasNoneUptoRow.holds Tryz.pinned (OpenSpec.upto aliasNoneSpec)

/-- 'quillwortlaw31.DiagStates', WHERE WHAT IT READS IS OF BULK AT MOST 1048576: true; the input reads as it did. -/
def diagStatesUptoRow : OpenClaim := { program := "ytihafdllichkeaagreatdoor", sum := "dc3f9882170d5768b3d0f6c28736dbd004b1a72224982a2340f6f34805554d55", func := "quillwort/quillwortlaw31.DiagStates", spec := "diagStates", inPlace := ["internal/bytealg.IndexByteString", "internal/bytealg.IndexString", "internal/abi.NoEscape", "internal/bytealg.CountString", "internal/bytealg.MakeNoZero"], unfollowed := true, recurses := true, named := ["unicode/utf8.first", "unicode/utf8.acceptRanges", "internal/bytealg.MaxLen", "internal/strconv.uint64pow10", "math/bits.deBruijn32tab", "math/bits.deBruijn64tab"], apart := false, laid := [("math/bits.deBruijn32tab", laid_math_bits_deBruijn32tab), ("math/bits.deBruijn64tab", laid_math_bits_deBruijn64tab), ("internal/strconv.uint64pow10", laid_internal_strconv_uint64pow10), ("unicode/utf8.acceptRanges", laid_unicode_utf8_acceptRanges), ("unicode/utf8.first", laid_unicode_utf8_first)], narrowed := true }
def DiagStatesUptoSaid : Prop := diagStatesUptoRow.holds Tryz.pinned (OpenSpec.upto diagStatesSpec)

/-- 'quillwortlaw31.DiagWhole', WHERE WHAT IT READS IS OF BULK AT MOST 1048576: true; the input reads as it did. -/
def diagWholeUptoRow : OpenClaim := { program := "ytihafdllichkeaagreatdoor", sum := "dc3f9882170d5768b3d0f6c28736dbd004b1a72224982a2340f6f34805554d55", func := "quillwort/quillwortlaw31.DiagWhole", spec := "diagWhole", inPlace := ["internal/bytealg.IndexByteString", "internal/bytealg.IndexString", "internal/abi.NoEscape", "internal/bytealg.CountString", "internal/bytealg.MakeNoZero"], unfollowed := true, recurses := true, named := ["unicode/utf8.first", "unicode/utf8.acceptRanges", "internal/bytealg.MaxLen", "internal/strconv.uint64pow10", "math/bits.deBruijn32tab", "math/bits.deBruijn64tab"], apart := false, laid := [("math/bits.deBruijn32tab", laid_math_bits_deBruijn32tab), ("math/bits.deBruijn64tab", laid_math_bits_deBruijn64tab), ("internal/strconv.uint64pow10", laid_internal_strconv_uint64pow10), ("unicode/utf8.acceptRanges", laid_unicode_utf8_acceptRanges), ("unicode/utf8.first", laid_unicode_utf8_first)], narrowed := true }
def DiagWholeUptoSaid : Prop := diagWholeUptoRow.holds Tryz.pinned (OpenSpec.upto diagWholeSpec)

/-- 'quillwortlaw31.DiagLine', WHERE WHAT IT READS IS OF BULK AT MOST 1048576: true; the input reads as it did. -/
def diagLineUptoRow : OpenClaim := { program := "ytihafdllichkeaagreatdoor", sum := "dc3f9882170d5768b3d0f6c28736dbd004b1a72224982a2340f6f34805554d55", func := "quillwort/quillwortlaw31.DiagLine", spec := "diagLine", inPlace := ["internal/bytealg.IndexByteString", "internal/bytealg.IndexString", "internal/abi.NoEscape", "internal/bytealg.CountString", "internal/bytealg.MakeNoZero"], unfollowed := true, recurses := true, named := ["unicode/utf8.first", "unicode/utf8.acceptRanges", "internal/bytealg.MaxLen", "internal/strconv.uint64pow10", "math/bits.deBruijn32tab", "math/bits.deBruijn64tab"], apart := false, laid := [("math/bits.deBruijn32tab", laid_math_bits_deBruijn32tab), ("math/bits.deBruijn64tab", laid_math_bits_deBruijn64tab), ("internal/strconv.uint64pow10", laid_internal_strconv_uint64pow10), ("unicode/utf8.acceptRanges", laid_unicode_utf8_acceptRanges), ("unicode/utf8.first", laid_unicode_utf8_first)], narrowed := true }
def DiagLineUptoSaid : Prop := diagLineUptoRow.holds Tryz.pinned (OpenSpec.upto diagLineSpec)

/-- 'quillwortlaw31.DiagNotes', WHERE WHAT IT READS IS OF BULK AT MOST 1048576: true; the input reads as it did. -/
def diagNotesUptoRow : OpenClaim := { program := "ytihafdllichkeaagreatdoor", sum := "dc3f9882170d5768b3d0f6c28736dbd004b1a72224982a2340f6f34805554d55", func := "quillwort/quillwortlaw31.DiagNotes", spec := "diagNotes", inPlace := ["internal/bytealg.IndexByteString", "internal/bytealg.IndexString", "internal/abi.NoEscape", "internal/bytealg.CountString", "internal/bytealg.MakeNoZero"], unfollowed := true, recurses := true, named := ["unicode/utf8.first", "unicode/utf8.acceptRanges", "internal/bytealg.MaxLen", "internal/strconv.uint64pow10", "math/bits.deBruijn32tab", "math/bits.deBruijn64tab"], apart := false, laid := [("math/bits.deBruijn32tab", laid_math_bits_deBruijn32tab), ("math/bits.deBruijn64tab", laid_math_bits_deBruijn64tab), ("internal/strconv.uint64pow10", laid_internal_strconv_uint64pow10), ("unicode/utf8.acceptRanges", laid_unicode_utf8_acceptRanges), ("unicode/utf8.first", laid_unicode_utf8_first)], narrowed := true }
def DiagNotesUptoSaid : Prop := diagNotesUptoRow.holds Tryz.pinned (OpenSpec.upto diagNotesSpec)

/-- 'quillwortlaw28.AliasFirst', WHERE WHAT IT READS IS OF BULK AT MOST 1048576: true; the input reads as it did. -/
def aliasFirstUptoRow : OpenClaim := { program := "ytihafdllichkeaagreatdoor", sum := "dc3f9882170d5768b3d0f6c28736dbd004b1a72224982a2340f6f34805554d55", func := "quillwort/quillwortlaw28.AliasFirst", spec := "aliasFirst", inPlace := ["internal/bytealg.abigen_runtime_cmpstring", "slices.overlaps[quillwort/api.Entry]", "internal/bytealg.IndexByteString", "internal/bytealg.IndexString", "internal/abi.NoEscape", "internal/bytealg.CountString", "internal/bytealg.MakeNoZero"], unfollowed := true, recurses := true, named := ["unicode/utf8.first", "unicode/utf8.acceptRanges", "internal/bytealg.MaxLen"], apart := false, laid := [("unicode/utf8.acceptRanges", laid_unicode_utf8_acceptRanges), ("unicode/utf8.first", laid_unicode_utf8_first)], narrowed := true }
def AliasFirstUptoSaid : Prop := aliasFirstUptoRow.holds Tryz.pinned (OpenSpec.upto aliasFirstSpec)

/-- 'quillwortlaw28.AliasChains', WHERE WHAT IT READS IS OF BULK AT MOST 1048576: true; the input reads as it did. -/
def aliasChainsUptoRow : OpenClaim := { program := "ytihafdllichkeaagreatdoor", sum := "dc3f9882170d5768b3d0f6c28736dbd004b1a72224982a2340f6f34805554d55", func := "quillwort/quillwortlaw28.AliasChains", spec := "aliasChains", inPlace := ["internal/bytealg.abigen_runtime_cmpstring", "slices.overlaps[quillwort/api.Entry]", "internal/bytealg.IndexByteString", "internal/bytealg.IndexString", "internal/abi.NoEscape", "internal/bytealg.CountString", "internal/bytealg.MakeNoZero"], unfollowed := true, recurses := true, named := ["unicode/utf8.first", "unicode/utf8.acceptRanges", "internal/bytealg.MaxLen"], apart := false, laid := [("unicode/utf8.acceptRanges", laid_unicode_utf8_acceptRanges), ("unicode/utf8.first", laid_unicode_utf8_first)], narrowed := true }
def AliasChainsUptoSaid : Prop := aliasChainsUptoRow.holds Tryz.pinned (OpenSpec.upto aliasChainsSpec)

end Rows
end Go.Proofs.YtihafdllichkeaaGreatDoor
