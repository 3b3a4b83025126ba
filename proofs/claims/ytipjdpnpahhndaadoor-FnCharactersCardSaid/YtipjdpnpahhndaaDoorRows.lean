/-
  NARROWER THAN 'FOR EVERY INPUT', by the rows' own cells (each row's printed sentence says how): FnExactCharOf: laid · FnExactKeyOf: laid · FnExactTextMacro: laid · FnCharacters: laid · FnDropped: laid · FnPipe: laid.
  DERIVED. THE GIVEN ROWS OF THIS SEAT. 6 by the template 'for every input the law returns true; each argument reads behind the call as it read before'; 0 by the template 'total and deterministic' (their statements: YtipjdpnpahhndaaDoorTotals.lean).
  GIVEN WITH THE SEED: the statements are not yours to turn. If you find one false, say at which input.
  Laid BY PROGRAM, IN A SANDBOX (cutbox-rows.mjs): the forced cells as the released guide's own fill.sh prints them over the translation af7b60a81bf679c7… (all of the seat's roots in one cut). By AI agents, Wed Nov 11 2026. No macro, syntax, notation, axiom, sorry.
-/
import Derived.Test.YtipjdpnpahhndaaDoorChecked
import GoSem.PinnedTables
import GoSem.Claim
import GoSem.ClaimJoined
import GoSem.ClaimMapViews
import Derived.JoinedTies
import Derived.KernelRfl
namespace Go.Proofs.YtipjdpnpahhndaaDoor
/- THE CELL 'sum', in the pinned program and in every row, IS THE sha256 OF THE DUMP (.gsa) THAT YtipjdpnpahhndaaDoorProg.lean LOADS. Nothing in Lean hashes anything: it is a label: what it is worth is what the hold of that sum in a sandbox is worth. -/
noncomputable def Tryd.pinned : Pinned := { name := "ytipjdpnpahhndaadoor", sum := "af7b60a81bf679c78ef2bed95773d21e09162241fcb93c0b0735299fa87407e7", checked := Tryd.checked }
namespace Rows
def none {H : Type} : Left H := { results := [], args := [] }

/- WHAT THE LISTED PACKAGE-LEVEL VARIABLES READ AS WHEN THE CALL BEGINS. Each datum BY PROGRAM (the guide's laid-datum.mjs) off the statement by which the dump's own 'gosem.cut.vars' lays the variable. In a bare row this is a premise. The card (YtipjdpnpahhndaaDoorCards.lean) ties it to the program's text. -/
def laid_unicode_utf8_acceptRanges {H : Type} : DataW H := .agg [.agg [.lit (.int .u8 128), .lit (.int .u8 191)], .agg [.lit (.int .u8 160), .lit (.int .u8 191)], .agg [.lit (.int .u8 128), .lit (.int .u8 159)], .agg [.lit (.int .u8 144), .lit (.int .u8 191)], .agg [.lit (.int .u8 128), .lit (.int .u8 143)], .agg [.lit (.int .u8 0), .lit (.int .u8 0)], .agg [.lit (.int .u8 0), .lit (.int .u8 0)], .agg [.lit (.int .u8 0), .lit (.int .u8 0)], .agg [.lit (.int .u8 0), .lit (.int .u8 0)], .agg [.lit (.int .u8 0), .lit (.int .u8 0)], .agg [.lit (.int .u8 0), .lit (.int .u8 0)], .agg [.lit (.int .u8 0), .lit (.int .u8 0)], .agg [.lit (.int .u8 0), .lit (.int .u8 0)], .agg [.lit (.int .u8 0), .lit (.int .u8 0)], .agg [.lit (.int .u8 0), .lit (.int .u8 0)], .agg [.lit (.int .u8 0), .lit (.int .u8 0)]]
/-- One of Go's own tables, pinned by name: the form's constant. -/
def laid_unicode_utf8_first : DataW Unit := Go.Pinned.utf8First

/-- 'laws.FnExactCharOf': WHATEVER THE INPUT: true; the input reads as it did. -/
def fnExactCharOfSpec : ChangeSpec := { name := "fnExactCharOf", fn := fun _ => fun
  | [d1, d2] => { results := [.lit (.bool true)], args := [d1, d2] }
  | _ => none }
def fnExactCharOfRow : OpenClaim := { program := "ytipjdpnpahhndaadoor", sum := "af7b60a81bf679c78ef2bed95773d21e09162241fcb93c0b0735299fa87407e7", func := "loop.example/g03414/laws.FnExactCharOf", spec := "fnExactCharOf", inPlace := ["internal/bytealg.CountString", "internal/bytealg.IndexByteString", "internal/bytealg.IndexString"], named := ["unicode/utf8.first", "unicode/utf8.acceptRanges", "internal/bytealg.MaxLen"], apart := false, laid := [("unicode/utf8.acceptRanges", laid_unicode_utf8_acceptRanges), ("unicode/utf8.first", laid_unicode_utf8_first)] }
def FnExactCharOfSaid : Prop := fnExactCharOfRow.holds Tryd.pinned (OpenSpec.ofChange fnExactCharOfSpec)

/-- ITS FALSE NEIGHBOUR: 'it returns false'. Refute it at one input. -/
def fnExactCharOfWrong : ChangeSpec := { name := "fnExactCharOf", fn := fun _ => fun
  | [d1, d2] => { results := [.lit (.bool false)], args := [d1, d2] }
  | _ => none }
def FnExactCharOfWrongFalsely : Prop := fnExactCharOfRow.holds Tryd.pinned (OpenSpec.ofChange fnExactCharOfWrong)

/-- 'laws.FnExactKeyOf': WHATEVER THE INPUT: true; the input reads as it did. -/
def fnExactKeyOfSpec : ChangeSpec := { name := "fnExactKeyOf", fn := fun _ => fun
  | [d] => { results := [.lit (.bool true)], args := [d] }
  | _ => none }
def fnExactKeyOfRow : OpenClaim := { program := "ytipjdpnpahhndaadoor", sum := "af7b60a81bf679c78ef2bed95773d21e09162241fcb93c0b0735299fa87407e7", func := "loop.example/g03414/laws.FnExactKeyOf", spec := "fnExactKeyOf", inPlace := ["internal/bytealg.CountString", "internal/bytealg.IndexByteString", "internal/bytealg.IndexString"], named := ["unicode/utf8.first", "unicode/utf8.acceptRanges", "internal/bytealg.MaxLen"], apart := false, laid := [("unicode/utf8.acceptRanges", laid_unicode_utf8_acceptRanges), ("unicode/utf8.first", laid_unicode_utf8_first)] }
def FnExactKeyOfSaid : Prop := fnExactKeyOfRow.holds Tryd.pinned (OpenSpec.ofChange fnExactKeyOfSpec)

/-- ITS FALSE NEIGHBOUR: 'it returns false'. Refute it at one input. -/
def fnExactKeyOfWrong : ChangeSpec := { name := "fnExactKeyOf", fn := fun _ => fun
  | [d] => { results := [.lit (.bool false)], args := [d] }
  | _ => none }
def FnExactKeyOfWrongFalsely : Prop := fnExactKeyOfRow.holds Tryd.pinned (OpenSpec.ofChange fnExactKeyOfWrong)

/-- 'laws.FnExactTextMacro': WHATEVER THE INPUT: true; the input reads as it did. -/
def fnExactTextMacroSpec : ChangeSpec := { name := "fnExactTextMacro", fn := fun _ => fun
  | [d] => { results := [.lit (.bool true)], args := [d] }
  | _ => none }
def fnExactTextMacroRow : OpenClaim := { program := "ytipjdpnpahhndaadoor", sum := "af7b60a81bf679c78ef2bed95773d21e09162241fcb93c0b0735299fa87407e7", func := "loop.example/g03414/laws.FnExactTextMacro", spec := "fnExactTextMacro", inPlace := ["internal/bytealg.CountString", "internal/bytealg.IndexByteString", "internal/bytealg.IndexString"], named := ["unicode/utf8.first", "unicode/utf8.acceptRanges", "internal/bytealg.MaxLen"], apart := false, laid := [("unicode/utf8.acceptRanges", laid_unicode_utf8_acceptRanges), ("unicode/utf8.first", laid_unicode_utf8_first)] }
def FnExactTextMacroSaid : Prop := fnExactTextMacroRow.holds Tryd.pinned (OpenSpec.ofChange fnExactTextMacroSpec)

/-- ITS FALSE NEIGHBOUR: 'it returns false'. Refute it at one input. -/
def fnExactTextMacroWrong : ChangeSpec := { name := "fnExactTextMacro", fn := fun _ => fun
  | [d] => { results := [.lit (.bool false)], args := [d] }
  | _ => none }
def FnExactTextMacroWrongFalsely : Prop := fnExactTextMacroRow.holds Tryd.pinned (OpenSpec.ofChange fnExactTextMacroWrong)

/-- 'laws.FnCharacters': WHATEVER THE INPUT: true; the input reads as it did. -/
def fnCharactersSpec : ChangeSpec := { name := "fnCharacters", fn := fun _ => fun
  | [d] => { results := [.lit (.bool true)], args := [d] }
  | _ => none }
def fnCharactersRow : OpenClaim := { program := "ytipjdpnpahhndaadoor", sum := "af7b60a81bf679c78ef2bed95773d21e09162241fcb93c0b0735299fa87407e7", func := "loop.example/g03414/laws.FnCharacters", spec := "fnCharacters", inPlace := ["internal/bytealg.CountString", "internal/bytealg.IndexByteString", "internal/bytealg.IndexString"], recurses := true, named := ["unicode/utf8.first", "unicode/utf8.acceptRanges", "internal/bytealg.MaxLen"], apart := false, laid := [("unicode/utf8.acceptRanges", laid_unicode_utf8_acceptRanges), ("unicode/utf8.first", laid_unicode_utf8_first)] }
def FnCharactersSaid : Prop := fnCharactersRow.holds Tryd.pinned (OpenSpec.ofChange fnCharactersSpec)

/-- ITS FALSE NEIGHBOUR: 'it returns false'. Refute it at one input. -/
def fnCharactersWrong : ChangeSpec := { name := "fnCharacters", fn := fun _ => fun
  | [d] => { results := [.lit (.bool false)], args := [d] }
  | _ => none }
def FnCharactersWrongFalsely : Prop := fnCharactersRow.holds Tryd.pinned (OpenSpec.ofChange fnCharactersWrong)

/-- 'laws.FnDropped': WHATEVER THE INPUT: true; the input reads as it did. -/
def fnDroppedSpec : ChangeSpec := { name := "fnDropped", fn := fun _ => fun
  | [d] => { results := [.lit (.bool true)], args := [d] }
  | _ => none }
def fnDroppedRow : OpenClaim := { program := "ytipjdpnpahhndaadoor", sum := "af7b60a81bf679c78ef2bed95773d21e09162241fcb93c0b0735299fa87407e7", func := "loop.example/g03414/laws.FnDropped", spec := "fnDropped", inPlace := ["internal/bytealg.CountString", "internal/bytealg.IndexByteString", "internal/bytealg.IndexString"], named := ["unicode/utf8.first", "unicode/utf8.acceptRanges", "internal/bytealg.MaxLen"], apart := false, laid := [("unicode/utf8.acceptRanges", laid_unicode_utf8_acceptRanges), ("unicode/utf8.first", laid_unicode_utf8_first)] }
def FnDroppedSaid : Prop := fnDroppedRow.holds Tryd.pinned (OpenSpec.ofChange fnDroppedSpec)

/-- ITS FALSE NEIGHBOUR: 'it returns false'. Refute it at one input. -/
def fnDroppedWrong : ChangeSpec := { name := "fnDropped", fn := fun _ => fun
  | [d] => { results := [.lit (.bool false)], args := [d] }
  | _ => none }
def FnDroppedWrongFalsely : Prop := fnDroppedRow.holds Tryd.pinned (OpenSpec.ofChange fnDroppedWrong)

/-- 'laws.FnPipe': WHATEVER THE INPUT: true; the input reads as it did. -/
def fnPipeSpec : ChangeSpec := { name := "fnPipe", fn := fun _ => fun
  | [d] => { results := [.lit (.bool true)], args := [d] }
  | _ => none }
def fnPipeRow : OpenClaim := { program := "ytipjdpnpahhndaadoor", sum := "af7b60a81bf679c78ef2bed95773d21e09162241fcb93c0b0735299fa87407e7", func := "loop.example/g03414/laws.FnPipe", spec := "fnPipe", inPlace := ["internal/bytealg.CountString", "internal/bytealg.IndexByteString", "internal/bytealg.IndexString"], named := ["unicode/utf8.first", "unicode/utf8.acceptRanges", "internal/bytealg.MaxLen"], apart := false, laid := [("unicode/utf8.acceptRanges", laid_unicode_utf8_acceptRanges), ("unicode/utf8.first", laid_unicode_utf8_first)] }
def FnPipeSaid : Prop := fnPipeRow.holds Tryd.pinned (OpenSpec.ofChange fnPipeSpec)

/-- ITS FALSE NEIGHBOUR: 'it returns false'. Refute it at one input. -/
def fnPipeWrong : ChangeSpec := { name := "fnPipe", fn := fun _ => fun
  | [d] => { results := [.lit (.bool false)], args := [d] }
  | _ => none }
def FnPipeWrongFalsely : Prop := fnPipeRow.holds Tryd.pinned (OpenSpec.ofChange fnPipeWrong)

/- THE SECOND FORM. 'bulk': how many values and letters a reading holds, each counted each time it is reached (what is shared counts as often as it is met; a slice's spare places count too). A statement '..UptoSaid' is the law's where the arguments, and the package variables that the reading takes, are together of bulk at most 1048576: NARROWER than '..Said'. Prove '..Said' where nothing that the law and all that it calls make is longer than what came in: it says more and counts as full. Else prove '..UptoSaid'. A law counts once. -/
mutual
def uptoBulk {H : Type} : DataW H → Nat
  | .lit (.string bytes) => bytes.length + 1
  | .lit _ => 1
  | .nil => 1
  | .ptr d => uptoBulk d + 1
  | .slice elems spare => uptoBulkAll elems + uptoBulkAll spare + 1
  | .agg parts => uptoBulkAll parts + 1
  | .iface _ d => uptoBulk d + 1
  | .map entries => uptoBulkEntries entries + 1
  | .held _ => 1
def uptoBulkAll {H : Type} : List (DataW H) → Nat
  | [] => 0
  | d :: r => uptoBulk d + uptoBulkAll r
def uptoBulkEntries {H : Type} : List (Lit × DataW H) → Nat
  | [] => 0
  | x :: r => uptoBulkEntry x + uptoBulkEntries r
def uptoBulkEntry {H : Type} : Lit × DataW H → Nat
  | (.string bytes, d) => bytes.length + uptoBulk d + 1
  | (_, d) => uptoBulk d + 1
 end
def uptoSmall : (H : Type) → List (DataW H) → Bool := fun _ ds => decide (uptoBulkAll ds ≤ 1048576)
def OpenSpec.upto (s : _root_.Go.ChangeSpec) : _root_.Go.OpenSpec := { _root_.Go.OpenSpec.ofChange s with cond := some uptoSmall }

/-- 'laws.FnExactCharOf', WHERE WHAT IT READS IS OF BULK AT MOST 1048576: true; the input reads as it did. -/
def fnExactCharOfUptoRow : OpenClaim := { program := "ytipjdpnpahhndaadoor", sum := "af7b60a81bf679c78ef2bed95773d21e09162241fcb93c0b0735299fa87407e7", func := "loop.example/g03414/laws.FnExactCharOf", spec := "fnExactCharOf", inPlace := ["internal/bytealg.CountString", "internal/bytealg.IndexByteString", "internal/bytealg.IndexString"], named := ["unicode/utf8.first", "unicode/utf8.acceptRanges", "internal/bytealg.MaxLen"], apart := false, laid := [("unicode/utf8.acceptRanges", laid_unicode_utf8_acceptRanges), ("unicode/utf8.first", laid_unicode_utf8_first)], narrowed := true }
def FnExactCharOfUptoSaid : Prop := fnExactCharOfUptoRow.holds Tryd.pinned (OpenSpec.upto fnExactCharOfSpec)

/-- 'laws.FnExactKeyOf', WHERE WHAT IT READS IS OF BULK AT MOST 1048576: true; the input reads as it did. -/
def fnExactKeyOfUptoRow : OpenClaim := { program := "ytipjdpnpahhndaadoor", sum := "af7b60a81bf679c78ef2bed95773d21e09162241fcb93c0b0735299fa87407e7", func := "loop.example/g03414/laws.FnExactKeyOf", spec := "fnExactKeyOf", inPlace := ["internal/bytealg.CountString", "internal/bytealg.IndexByteString", "internal/bytealg.IndexString"], named := ["unicode/utf8.first", "unicode/utf8.acceptRanges", "internal/bytealg.MaxLen"], apart := false, laid := [("unicode/utf8.acceptRanges", laid_unicode_utf8_acceptRanges), ("unicode/utf8.first", laid_unicode_utf8_first)], narrowed := true }
def FnExactKeyOfUptoSaid : Prop := fnExactKeyOfUptoRow.holds Tryd.pinned (OpenSpec.upto fnExactKeyOfSpec)

/-- 'laws.FnExactTextMacro', WHERE WHAT IT READS IS OF BULK AT MOST 1048576: true; the input reads as it did. -/
def fnExactTextMacroUptoRow : OpenClaim := { program := "ytipjdpnpahhndaadoor", sum := "af7b60a81bf679c78ef2bed95773d21e09162241fcb93c0b0735299fa87407e7", func := "loop.example/g03414/laws.FnExactTextMacro", spec := "fnExactTextMacro", inPlace := ["internal/bytealg.CountString", "internal/bytealg.IndexByteString", "internal/bytealg.IndexString"], named := ["unicode/utf8.first", "unicode/utf8.acceptRanges", "internal/bytealg.MaxLen"], apart := false, laid := [("unicode/utf8.acceptRanges", laid_unicode_utf8_acceptRanges), ("unicode/utf8.first", laid_unicode_utf8_first)], narrowed := true }
def FnExactTextMacroUptoSaid : Prop := fnExactTextMacroUptoRow.holds Tryd.pinned (OpenSpec.upto fnExactTextMacroSpec)

/-- 'laws.FnCharacters', WHERE WHAT IT READS IS OF BULK AT MOST 1048576: true; the input reads as it did. -/
def fnCharactersUptoRow : OpenClaim := { program := "ytipjdpnpahhndaadoor", sum := "af7b60a81bf679c78ef2bed95773d21e09162241fcb93c0b0735299fa87407e7", func := "loop.example/g03414/laws.FnCharacters", spec := "fnCharacters", inPlace := ["internal/bytealg.CountString", "internal/bytealg.IndexByteString", "internal/bytealg.IndexString"], recurses := true, named := ["unicode/utf8.first", "unicode/utf8.acceptRanges", "internal/bytealg.MaxLen"], apart := false, laid := [("unicode/utf8.acceptRanges", laid_unicode_utf8_acceptRanges), ("unicode/utf8.first", laid_unicode_utf8_first)], narrowed := true }
def FnCharactersUptoSaid : Prop := fnCharactersUptoRow.holds Tryd.pinned (OpenSpec.upto fnCharactersSpec)

/-- 'laws.FnDropped', WHERE WHAT IT READS IS OF BULK AT MOST 1048576: true; the input reads as it did. -/
def fnDroppedUptoRow : OpenClaim := { program := "ytipjdpnpahhndaadoor", sum := "af7b60a81bf679c78ef2bed95773d21e09162241fcb93c0b0735299fa87407e7", func := "loop.example/g03414/laws.FnDropped", spec := "fnDropped", inPlace := ["internal/bytealg.CountString", "internal/bytealg.IndexByteString", "internal/bytealg.IndexString"], named := ["unicode/utf8.first", "unicode/utf8.acceptRanges", "internal/bytealg.MaxLen"], apart := false, laid := [("unicode/utf8.acceptRanges", laid_unicode_utf8_acceptRanges), ("unicode/utf8.first", laid_unicode_utf8_first)], narrowed := true }
def FnDroppedUptoSaid : Prop := fnDroppedUptoRow.holds Tryd.pinned (OpenSpec.upto fnDroppedSpec)

/-- 'laws.FnPipe', WHERE WHAT IT READS IS OF BULK AT MOST 1048576: true; the input reads as it did. -/
def fnPipeUptoRow : OpenClaim := { program := "ytipjdpnpahhndaadoor", sum := "af7b60a81bf679c78ef2bed95773d21e09162241fcb93c0b0735299fa87407e7", func := "loop.example/g03414/laws.FnPipe", spec := "fnPipe", inPlace := ["internal/bytealg.CountString", "internal/bytealg.IndexByteString", "internal/bytealg.IndexString"], named := ["unicode/utf8.first", "unicode/utf8.acceptRanges", "internal/bytealg.MaxLen"], apart := false, laid := [("unicode/utf8.acceptRanges", laid_unicode_utf8_acceptRanges), ("unicode/utf8.first", laid_unicode_utf8_first)], narrowed := true }
def FnPipeUptoSaid : Prop := fnPipeUptoRow.holds Tryd.pinned (OpenSpec.upto fnPipeSpec)

end Rows
end Go.Proofs.YtipjdpnpahhndaaDoor
