/-
  No cell of these rows narrows 'for every input' (looked for: loops, veiled, ifaces, maps, wideKeys, modest, calm, conditions, laid).
  DERIVED. THE GIVEN ROWS OF THIS SEAT. 6 by the template 'for every input the law returns true; each argument reads behind the call as it read before'; 0 by the template 'total and deterministic' (their statements: YtkloefipjbeneaaTotals.lean).
  GIVEN WITH THE SEED: the statements are not yours to turn. If you find one false, say at which input.
  Laid BY PROGRAM, IN A SANDBOX (cutbox-rows.mjs): the forced cells as the released guide's own fill.sh prints them over the translation 1bf86de9407b8f10… (all of the seat's roots in one cut). By AI agents, Wed Nov 11 2026. No macro, syntax, notation, axiom, sorry.
-/
import Derived.Test.YtkloefipjbeneaaChecked
import GoSem.Claim
import GoSem.ClaimJoined
import GoSem.ClaimMapViews
import Derived.JoinedTies
import Derived.KernelRfl
namespace Go.Proofs.Ytkloefipjbeneaa
/- THE CELL 'sum', in the pinned program and in every row, IS THE sha256 OF THE DUMP (.gsa) THAT YtkloefipjbeneaaProg.lean LOADS. Nothing in Lean hashes anything: it is a label: what it is worth is what the hold of that sum in a sandbox is worth. -/
noncomputable def Try.pinned : Pinned := { name := "ytkloefipjbeneaa", sum := "1bf86de9407b8f100cb31092004268ca7f78249c28de88d43c95ad5ca4e04f0d", checked := Try.checked }
namespace Rows
def none {H : Type} : Left H := { results := [], args := [] }

/-- 'quillwortlaw12.RulesSigns': WHATEVER THE INPUT: true; the input reads as it did. -/
def rulesSignsSpec : ChangeSpec := { name := "rulesSigns", fn := fun _ => fun
  | [d] => { results := [.lit (.bool true)], args := [d] }
  | _ => none }
def rulesSignsRow : OpenClaim := { program := "ytkloefipjbeneaa", sum := "1bf86de9407b8f100cb31092004268ca7f78249c28de88d43c95ad5ca4e04f0d", func := "quillwort/quillwortlaw12.RulesSigns", spec := "rulesSigns", inPlace := ["internal/abi.NoEscape", "internal/bytealg.IndexByteString"], unfollowed := true, recurses := true, apart := false }
def RulesSignsSaid : Prop := rulesSignsRow.holds Try.pinned (OpenSpec.ofChange rulesSignsSpec)

/-- ITS FALSE NEIGHBOUR: 'it returns false'. Refute it at one input. -/
def rulesSignsWrong : ChangeSpec := { name := "rulesSigns", fn := fun _ => fun
  | [d] => { results := [.lit (.bool false)], args := [d] }
  | _ => none }
def RulesSignsWrongFalsely : Prop := rulesSignsRow.holds Try.pinned (OpenSpec.ofChange rulesSignsWrong)

/-- 'quillwortlaw12.RulesRight': WHATEVER THE INPUT: true; the input reads as it did. -/
def rulesRightSpec : ChangeSpec := { name := "rulesRight", fn := fun _ => fun
  | [d1, d2] => { results := [.lit (.bool true)], args := [d1, d2] }
  | _ => none }
def rulesRightRow : OpenClaim := { program := "ytkloefipjbeneaa", sum := "1bf86de9407b8f100cb31092004268ca7f78249c28de88d43c95ad5ca4e04f0d", func := "quillwort/quillwortlaw12.RulesRight", spec := "rulesRight", inPlace := ["internal/abi.NoEscape", "internal/bytealg.IndexByteString"], unfollowed := true, recurses := true, apart := false }
def RulesRightSaid : Prop := rulesRightRow.holds Try.pinned (OpenSpec.ofChange rulesRightSpec)

/-- ITS FALSE NEIGHBOUR: 'it returns false'. Refute it at one input. -/
def rulesRightWrong : ChangeSpec := { name := "rulesRight", fn := fun _ => fun
  | [d1, d2] => { results := [.lit (.bool false)], args := [d1, d2] }
  | _ => none }
def RulesRightWrongFalsely : Prop := rulesRightRow.holds Try.pinned (OpenSpec.ofChange rulesRightWrong)

/-- 'quillwortlaw12.RulesWords': WHATEVER THE INPUT: true; the input reads as it did. -/
def rulesWordsSpec : ChangeSpec := { name := "rulesWords", fn := fun _ => fun
  | [d] => { results := [.lit (.bool true)], args := [d] }
  | _ => none }
def rulesWordsRow : OpenClaim := { program := "ytkloefipjbeneaa", sum := "1bf86de9407b8f100cb31092004268ca7f78249c28de88d43c95ad5ca4e04f0d", func := "quillwort/quillwortlaw12.RulesWords", spec := "rulesWords", inPlace := ["internal/abi.NoEscape", "internal/bytealg.IndexByteString"], unfollowed := true, recurses := true, apart := false }
def RulesWordsSaid : Prop := rulesWordsRow.holds Try.pinned (OpenSpec.ofChange rulesWordsSpec)

/-- ITS FALSE NEIGHBOUR: 'it returns false'. Refute it at one input. -/
def rulesWordsWrong : ChangeSpec := { name := "rulesWords", fn := fun _ => fun
  | [d] => { results := [.lit (.bool false)], args := [d] }
  | _ => none }
def RulesWordsWrongFalsely : Prop := rulesWordsRow.holds Try.pinned (OpenSpec.ofChange rulesWordsWrong)

/-- 'quillwortlaw12.RulesDeep': WHATEVER THE INPUT: true; the input reads as it did. -/
def rulesDeepSpec : ChangeSpec := { name := "rulesDeep", fn := fun _ => fun
  | [d1, d2] => { results := [.lit (.bool true)], args := [d1, d2] }
  | _ => none }
def rulesDeepRow : OpenClaim := { program := "ytkloefipjbeneaa", sum := "1bf86de9407b8f100cb31092004268ca7f78249c28de88d43c95ad5ca4e04f0d", func := "quillwort/quillwortlaw12.RulesDeep", spec := "rulesDeep", inPlace := ["internal/abi.NoEscape", "internal/bytealg.IndexByteString"], unfollowed := true, recurses := true, apart := false }
def RulesDeepSaid : Prop := rulesDeepRow.holds Try.pinned (OpenSpec.ofChange rulesDeepSpec)

/-- ITS FALSE NEIGHBOUR: 'it returns false'. Refute it at one input. -/
def rulesDeepWrong : ChangeSpec := { name := "rulesDeep", fn := fun _ => fun
  | [d1, d2] => { results := [.lit (.bool false)], args := [d1, d2] }
  | _ => none }
def RulesDeepWrongFalsely : Prop := rulesDeepRow.holds Try.pinned (OpenSpec.ofChange rulesDeepWrong)

/-- 'quillwortlaw12.RulesNames': WHATEVER THE INPUT: true; the input reads as it did. -/
def rulesNamesSpec : ChangeSpec := { name := "rulesNames", fn := fun _ => fun
  | [d1, d2] => { results := [.lit (.bool true)], args := [d1, d2] }
  | _ => none }
def rulesNamesRow : OpenClaim := { program := "ytkloefipjbeneaa", sum := "1bf86de9407b8f100cb31092004268ca7f78249c28de88d43c95ad5ca4e04f0d", func := "quillwort/quillwortlaw12.RulesNames", spec := "rulesNames", inPlace := ["internal/abi.NoEscape", "internal/bytealg.IndexByteString"], unfollowed := true, recurses := true, apart := false }
def RulesNamesSaid : Prop := rulesNamesRow.holds Try.pinned (OpenSpec.ofChange rulesNamesSpec)

/-- ITS FALSE NEIGHBOUR: 'it returns false'. Refute it at one input. -/
def rulesNamesWrong : ChangeSpec := { name := "rulesNames", fn := fun _ => fun
  | [d1, d2] => { results := [.lit (.bool false)], args := [d1, d2] }
  | _ => none }
def RulesNamesWrongFalsely : Prop := rulesNamesRow.holds Try.pinned (OpenSpec.ofChange rulesNamesWrong)

/-- 'quillwortlaw12.RulesForms': WHATEVER THE INPUT: true; the input reads as it did. -/
def rulesFormsSpec : ChangeSpec := { name := "rulesForms", fn := fun _ => fun
  | [d1, d2, d3] => { results := [.lit (.bool true)], args := [d1, d2, d3] }
  | _ => none }
def rulesFormsRow : OpenClaim := { program := "ytkloefipjbeneaa", sum := "1bf86de9407b8f100cb31092004268ca7f78249c28de88d43c95ad5ca4e04f0d", func := "quillwort/quillwortlaw12.RulesForms", spec := "rulesForms", inPlace := ["internal/abi.NoEscape", "internal/bytealg.IndexByteString"], unfollowed := true, recurses := true, apart := false }
def RulesFormsSaid : Prop := rulesFormsRow.holds Try.pinned (OpenSpec.ofChange rulesFormsSpec)

/-- ITS FALSE NEIGHBOUR: 'it returns false'. Refute it at one input. -/
def rulesFormsWrong : ChangeSpec := { name := "rulesForms", fn := fun _ => fun
  | [d1, d2, d3] => { results := [.lit (.bool false)], args := [d1, d2, d3] }
  | _ => none }
def RulesFormsWrongFalsely : Prop := rulesFormsRow.holds Try.pinned (OpenSpec.ofChange rulesFormsWrong)

/- THE SECOND FORM. 'bulk': how many values and letters a reading holds, each counted each time it is reached (what is shared counts as often as it is met; a slice's spare places count too). A statement '..UptoSaid' is the law's where the arguments, and the package variables that the reading takes, are together of bulk at most 1048576: NARROWER than '..Said'. Prove '..Said' where nothing that the law and all that it calls make is longer than what came in: it says more and counts as full. Else prove '..UptoSaid'. A law counts once. -/
mutual
def uptoBulk {H : Type} : DataW H → Nat
  | .lit (.string bytes) => bytes.length + 1
  | .lit _ => 1
  | .nil => 1
  | .ptr d => uptoBulk d + 1
  | .slice elems spare => uptoBulkAll elems + uptoBulkAll spare + 1
  | .agg parts => uptoBulkAll parts + 1
  | .iface _ d => uptoBulk d + 1
  | .map entries => uptoBulkEntries entries + 1
  | .held _ => 1
def uptoBulkAll {H : Type} : List (DataW H) → Nat
  | [] => 0
  | d :: r => uptoBulk d + uptoBulkAll r
def uptoBulkEntries {H : Type} : List (Lit × DataW H) → Nat
  | [] => 0
  | x :: r => uptoBulkEntry x + uptoBulkEntries r
def uptoBulkEntry {H : Type} : Lit × DataW H → Nat
  | (.string bytes, d) => bytes.length + uptoBulk d + 1
  | (_, d) => uptoBulk d + 1
 end
def uptoSmall : (H : Type) → List (DataW H) → Bool := fun _ ds => decide (uptoBulkAll ds ≤ 1048576)
def OpenSpec.upto (s : _root_.Go.ChangeSpec) : _root_.Go.OpenSpec := { _root_.Go.OpenSpec.ofChange s with cond := some uptoSmall }

/-- 'quillwortlaw12.RulesSigns', WHERE WHAT IT READS IS OF BULK AT MOST 1048576: true; the input reads as it did. -/
def rulesSignsUptoRow : OpenClaim := { program := "ytkloefipjbeneaa", sum := "1bf86de9407b8f100cb31092004268ca7f78249c28de88d43c95ad5ca4e04f0d", func := "quillwort/quillwortlaw12.RulesSigns", spec := "rulesSigns", inPlace := ["internal/abi.NoEscape", "internal/bytealg.IndexByteString"], unfollowed := true, recurses := true, apart := false, narrowed := true }
def RulesSignsUptoSaid : Prop := rulesSignsUptoRow.holds Try.pinned (OpenSpec.upto rulesSignsSpec)

/-- 'quillwortlaw12.RulesRight', WHERE WHAT IT READS IS OF BULK AT MOST 1048576: true; the input reads as it did. -/
def rulesRightUptoRow : OpenClaim := { program := "ytkloefipjbeneaa", sum := "1bf86de9407b8f100cb31092004268ca7f78249c28de88d43c95ad5ca4e04f0d", func := "quillwort/quillwortlaw12.RulesRight", spec := "rulesRight", inPlace := ["internal/abi.NoEscape", "internal/bytealg.IndexByteString"], unfollowed := true, recurses := true, apart := false, narrowed := true }
def RulesRightUptoSaid : Prop := rulesRightUptoRow.holds Try.pinned (OpenSpec.upto rulesRightSpec)

/-- 'quillwortlaw12.RulesWords', WHERE WHAT IT READS IS OF BULK AT MOST 1048576: true; the input reads as it did. -/
def rulesWordsUptoRow : OpenClaim := { program := "ytkloefipjbeneaa", sum := "1bf86de9407b8f100cb31092004268ca7f78249c28de88d43c95ad5ca4e04f0d", func := "quillwort/quillwortlaw12.RulesWords", spec := "rulesWords", inPlace := ["internal/abi.NoEscape", "internal/bytealg.IndexByteString"], unfollowed := true, recurses := true, apart := false, narrowed := true }
def RulesWordsUptoSaid : Prop := rulesWordsUptoRow.holds Try.pinned (OpenSpec.upto rulesWordsSpec)

/-- 'quillwortlaw12.RulesDeep', WHERE WHAT IT READS IS OF BULK AT MOST 1048576: true; the input reads as it did. -/
def rulesDeepUptoRow : OpenClaim := { program := "ytkloefipjbeneaa", sum := "1bf86de9407b8f100cb31092004268ca7f78249c28de88d43c95ad5ca4e04f0d", func := "quillwort/quillwortlaw12.RulesDeep", spec := "rulesDeep", inPlace := ["internal/abi.NoEscape", "internal/bytealg.IndexByteString"], unfollowed := true, recurses := true, apart := false, narrowed := true }
def RulesDeepUptoSaid : Prop := rulesDeepUptoRow.holds Try.pinned (OpenSpec.upto rulesDeepSpec)

/-- 'quillwortlaw12.RulesNames', WHERE WHAT IT READS IS OF BULK AT MOST 1048576: true; the input reads as it did. -/
def rulesNamesUptoRow : OpenClaim := { program := "ytkloefipjbeneaa", sum := "1bf86de9407b8f100cb31092004268ca7f78249c28de88d43c95ad5ca4e04f0d", func := "quillwort/quillwortlaw12.RulesNames", spec := "rulesNames", inPlace := ["internal/abi.NoEscape", "internal/bytealg.IndexByteString"], unfollowed := true, recurses := true, apart := false, narrowed := true }
def RulesNamesUptoSaid : Prop := rulesNamesUptoRow.holds Try.pinned (OpenSpec.upto rulesNamesSpec)

/-- 'quillwortlaw12.RulesForms', WHERE WHAT IT READS IS OF BULK AT MOST 1048576: true; the input reads as it did. -/
def rulesFormsUptoRow : OpenClaim := { program := "ytkloefipjbeneaa", sum := "1bf86de9407b8f100cb31092004268ca7f78249c28de88d43c95ad5ca4e04f0d", func := "quillwort/quillwortlaw12.RulesForms", spec := "rulesForms", inPlace := ["internal/abi.NoEscape", "internal/bytealg.IndexByteString"], unfollowed := true, recurses := true, apart := false, narrowed := true }
def RulesFormsUptoSaid : Prop := rulesFormsUptoRow.holds Try.pinned (OpenSpec.upto rulesFormsSpec)

end Rows
end Go.Proofs.Ytkloefipjbeneaa
