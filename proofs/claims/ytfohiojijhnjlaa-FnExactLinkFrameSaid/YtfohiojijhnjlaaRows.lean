/-
  No cell of these rows narrows 'for every input' (looked for: loops, veiled, ifaces, maps, wideKeys, modest, calm, conditions, laid).
  DERIVED. THE GIVEN ROWS OF THIS SEAT. 6 by the template 'for every input the law returns true; each argument reads behind the call as it read before'; 0 by the template 'total and deterministic' (their statements: YtfohiojijhnjlaaTotals.lean).
  GIVEN WITH THE SEED: the statements are not yours to turn. If you find one false, say at which input.
  Laid BY PROGRAM, IN A SANDBOX (cutbox-rows.mjs): the forced cells as the released guide's own fill.sh prints them over the translation f278020f0c921bb7… (all of the seat's roots in one cut). By AI agents, Wed Nov 11 2026. No macro, syntax, notation, axiom, sorry.
-/
import Derived.Test.YtfohiojijhnjlaaChecked
import GoSem.Claim
import GoSem.ClaimJoined
import GoSem.ClaimMapViews
import Derived.JoinedTies
import Derived.KernelRfl
namespace Go.Proofs.Ytfohiojijhnjlaa
/- THE CELL 'sum', in the pinned program and in every row, IS THE sha256 OF THE DUMP (.gsa) THAT YtfohiojijhnjlaaProg.lean LOADS. Nothing in Lean hashes anything: it is a label: what it is worth is what the hold of that sum in a sandbox is worth. -/
noncomputable def Try.pinned : Pinned := { name := "ytfohiojijhnjlaa", sum := "f278020f0c921bb765e05fb57799bc1d7ac64ce5b52489e0710f3b22117771b5", checked := Try.checked }
namespace Rows
def none {H : Type} : Left H := { results := [], args := [] }

/-- 'laws.FnExactCheckOf': WHATEVER THE INPUT: true; the input reads as it did. -/
def fnExactCheckOfSpec : ChangeSpec := { name := "fnExactCheckOf", fn := fun _ => fun
  | [d1, d2, d3] => { results := [.lit (.bool true)], args := [d1, d2, d3] }
  | _ => none }
def fnExactCheckOfRow : OpenClaim := { program := "ytfohiojijhnjlaa", sum := "f278020f0c921bb765e05fb57799bc1d7ac64ce5b52489e0710f3b22117771b5", func := "loop.example/g03414/laws.FnExactCheckOf", spec := "fnExactCheckOf", apart := false }
def FnExactCheckOfSaid : Prop := fnExactCheckOfRow.holds Try.pinned (OpenSpec.ofChange fnExactCheckOfSpec)

/-- ITS FALSE NEIGHBOUR: 'it returns false'. Refute it at one input. -/
def fnExactCheckOfWrong : ChangeSpec := { name := "fnExactCheckOf", fn := fun _ => fun
  | [d1, d2, d3] => { results := [.lit (.bool false)], args := [d1, d2, d3] }
  | _ => none }
def FnExactCheckOfWrongFalsely : Prop := fnExactCheckOfRow.holds Try.pinned (OpenSpec.ofChange fnExactCheckOfWrong)

/-- 'laws.FnExactChecksum': WHATEVER THE INPUT: true; the input reads as it did. -/
def fnExactChecksumSpec : ChangeSpec := { name := "fnExactChecksum", fn := fun _ => fun
  | [d] => { results := [.lit (.bool true)], args := [d] }
  | _ => none }
def fnExactChecksumRow : OpenClaim := { program := "ytfohiojijhnjlaa", sum := "f278020f0c921bb765e05fb57799bc1d7ac64ce5b52489e0710f3b22117771b5", func := "loop.example/g03414/laws.FnExactChecksum", spec := "fnExactChecksum", apart := false }
def FnExactChecksumSaid : Prop := fnExactChecksumRow.holds Try.pinned (OpenSpec.ofChange fnExactChecksumSpec)

/-- ITS FALSE NEIGHBOUR: 'it returns false'. Refute it at one input. -/
def fnExactChecksumWrong : ChangeSpec := { name := "fnExactChecksum", fn := fun _ => fun
  | [d] => { results := [.lit (.bool false)], args := [d] }
  | _ => none }
def FnExactChecksumWrongFalsely : Prop := fnExactChecksumRow.holds Try.pinned (OpenSpec.ofChange fnExactChecksumWrong)

/-- 'laws.FnExactNewReceiver': WHATEVER THE INPUT: true; the input reads as it did. -/
def fnExactNewReceiverSpec : ChangeSpec := { name := "fnExactNewReceiver", fn := fun _ => fun
  | [] => { results := [.lit (.bool true)], args := [] }
  | _ => none }
def fnExactNewReceiverRow : OpenClaim := { program := "ytfohiojijhnjlaa", sum := "f278020f0c921bb765e05fb57799bc1d7ac64ce5b52489e0710f3b22117771b5", func := "loop.example/g03414/laws.FnExactNewReceiver", spec := "fnExactNewReceiver", apart := false }
def FnExactNewReceiverSaid : Prop := fnExactNewReceiverRow.holds Try.pinned (OpenSpec.ofChange fnExactNewReceiverSpec)

/-- ITS FALSE NEIGHBOUR: 'it returns false'. Refute it at one input. -/
def fnExactNewReceiverWrong : ChangeSpec := { name := "fnExactNewReceiver", fn := fun _ => fun
  | [] => { results := [.lit (.bool false)], args := [] }
  | _ => none }
def FnExactNewReceiverWrongFalsely : Prop := fnExactNewReceiverRow.holds Try.pinned (OpenSpec.ofChange fnExactNewReceiverWrong)

/-- 'laws.FnExactIsReceiver': WHATEVER THE INPUT: true; the input reads as it did. -/
def fnExactIsReceiverSpec : ChangeSpec := { name := "fnExactIsReceiver", fn := fun _ => fun
  | [d] => { results := [.lit (.bool true)], args := [d] }
  | _ => none }
def fnExactIsReceiverRow : OpenClaim := { program := "ytfohiojijhnjlaa", sum := "f278020f0c921bb765e05fb57799bc1d7ac64ce5b52489e0710f3b22117771b5", func := "loop.example/g03414/laws.FnExactIsReceiver", spec := "fnExactIsReceiver", apart := false }
def FnExactIsReceiverSaid : Prop := fnExactIsReceiverRow.holds Try.pinned (OpenSpec.ofChange fnExactIsReceiverSpec)

/-- ITS FALSE NEIGHBOUR: 'it returns false'. Refute it at one input. -/
def fnExactIsReceiverWrong : ChangeSpec := { name := "fnExactIsReceiver", fn := fun _ => fun
  | [d] => { results := [.lit (.bool false)], args := [d] }
  | _ => none }
def FnExactIsReceiverWrongFalsely : Prop := fnExactIsReceiverRow.holds Try.pinned (OpenSpec.ofChange fnExactIsReceiverWrong)

/-- 'laws.FnExactReadFrame': WHATEVER THE INPUT: true; the input reads as it did. -/
def fnExactReadFrameSpec : ChangeSpec := { name := "fnExactReadFrame", fn := fun _ => fun
  | [d] => { results := [.lit (.bool true)], args := [d] }
  | _ => none }
def fnExactReadFrameRow : OpenClaim := { program := "ytfohiojijhnjlaa", sum := "f278020f0c921bb765e05fb57799bc1d7ac64ce5b52489e0710f3b22117771b5", func := "loop.example/g03414/laws.FnExactReadFrame", spec := "fnExactReadFrame", apart := false }
def FnExactReadFrameSaid : Prop := fnExactReadFrameRow.holds Try.pinned (OpenSpec.ofChange fnExactReadFrameSpec)

/-- ITS FALSE NEIGHBOUR: 'it returns false'. Refute it at one input. -/
def fnExactReadFrameWrong : ChangeSpec := { name := "fnExactReadFrame", fn := fun _ => fun
  | [d] => { results := [.lit (.bool false)], args := [d] }
  | _ => none }
def FnExactReadFrameWrongFalsely : Prop := fnExactReadFrameRow.holds Try.pinned (OpenSpec.ofChange fnExactReadFrameWrong)

/-- 'laws.FnExactLinkFrame': WHATEVER THE INPUT: true; the input reads as it did. -/
def fnExactLinkFrameSpec : ChangeSpec := { name := "fnExactLinkFrame", fn := fun _ => fun
  | [d1, d2] => { results := [.lit (.bool true)], args := [d1, d2] }
  | _ => none }
def fnExactLinkFrameRow : OpenClaim := { program := "ytfohiojijhnjlaa", sum := "f278020f0c921bb765e05fb57799bc1d7ac64ce5b52489e0710f3b22117771b5", func := "loop.example/g03414/laws.FnExactLinkFrame", spec := "fnExactLinkFrame", apart := false }
def FnExactLinkFrameSaid : Prop := fnExactLinkFrameRow.holds Try.pinned (OpenSpec.ofChange fnExactLinkFrameSpec)

/-- ITS FALSE NEIGHBOUR: 'it returns false'. Refute it at one input. -/
def fnExactLinkFrameWrong : ChangeSpec := { name := "fnExactLinkFrame", fn := fun _ => fun
  | [d1, d2] => { results := [.lit (.bool false)], args := [d1, d2] }
  | _ => none }
def FnExactLinkFrameWrongFalsely : Prop := fnExactLinkFrameRow.holds Try.pinned (OpenSpec.ofChange fnExactLinkFrameWrong)

/- THE SECOND FORM. 'bulk': how many values and letters a reading holds, each counted each time it is reached (what is shared counts as often as it is met; a slice's spare places count too). A statement '..UptoSaid' is the law's where the arguments, and the package variables that the reading takes, are together of bulk at most 1048576: NARROWER than '..Said'. Prove '..Said' where nothing that the law and all that it calls make is longer than what came in: it says more and counts as full. Else prove '..UptoSaid'. A law counts once. -/
mutual
def uptoBulk {H : Type} : DataW H → Nat
  | .lit (.string bytes) => bytes.length + 1
  | .lit _ => 1
  | .nil => 1
  | .ptr d => uptoBulk d + 1
  | .slice elems spare => uptoBulkAll elems + uptoBulkAll spare + 1
  | .agg parts => uptoBulkAll parts + 1
  | .iface _ d => uptoBulk d + 1
  | .map entries => uptoBulkEntries entries + 1
  | .held _ => 1
def uptoBulkAll {H : Type} : List (DataW H) → Nat
  | [] => 0
  | d :: r => uptoBulk d + uptoBulkAll r
def uptoBulkEntries {H : Type} : List (Lit × DataW H) → Nat
  | [] => 0
  | x :: r => uptoBulkEntry x + uptoBulkEntries r
def uptoBulkEntry {H : Type} : Lit × DataW H → Nat
  | (.string bytes, d) => bytes.length + uptoBulk d + 1
  | (_, d) => uptoBulk d + 1
 end
def uptoSmall : (H : Type) → List (DataW H) → Bool := fun _ ds => decide (uptoBulkAll ds ≤ 1048576)
def OpenSpec.upto (s : _root_.Go.ChangeSpec) : _root_.Go.OpenSpec := { _root_.Go.OpenSpec.ofChange s with cond := some uptoSmall }

/-- 'laws.FnExactCheckOf', WHERE WHAT IT READS IS OF BULK AT MOST 1048576: true; the input reads as it did. -/
def fnExactCheckOfUptoRow : OpenClaim := { program := "ytfohiojijhnjlaa", sum := "f278020f0c921bb765e05fb57799bc1d7ac64ce5b52489e0710f3b22117771b5", func := "loop.example/g03414/laws.FnExactCheckOf", spec := "fnExactCheckOf", apart := false, narrowed := true }
def FnExactCheckOfUptoSaid : Prop := fnExactCheckOfUptoRow.holds Try.pinned (OpenSpec.upto fnExactCheckOfSpec)

/-- 'laws.FnExactChecksum', WHERE WHAT IT READS IS OF BULK AT MOST 1048576: true; the input reads as it did. -/
def fnExactChecksumUptoRow : OpenClaim := { program := "ytfohiojijhnjlaa", sum := "f278020f0c921bb765e05fb57799bc1d7ac64ce5b52489e0710f3b22117771b5", func := "loop.example/g03414/laws.FnExactChecksum", spec := "fnExactChecksum", apart := false, narrowed := true }
def FnExactChecksumUptoSaid : Prop := fnExactChecksumUptoRow.holds Try.pinned (OpenSpec.upto fnExactChecksumSpec)

/-- 'laws.FnExactNewReceiver', WHERE WHAT IT READS IS OF BULK AT MOST 1048576: true; the input reads as it did. -/
def fnExactNewReceiverUptoRow : OpenClaim := { program := "ytfohiojijhnjlaa", sum := "f278020f0c921bb765e05fb57799bc1d7ac64ce5b52489e0710f3b22117771b5", func := "loop.example/g03414/laws.FnExactNewReceiver", spec := "fnExactNewReceiver", apart := false, narrowed := true }
def FnExactNewReceiverUptoSaid : Prop := fnExactNewReceiverUptoRow.holds Try.pinned (OpenSpec.upto fnExactNewReceiverSpec)

/-- 'laws.FnExactIsReceiver', WHERE WHAT IT READS IS OF BULK AT MOST 1048576: true; the input reads as it did. -/
def fnExactIsReceiverUptoRow : OpenClaim := { program := "ytfohiojijhnjlaa", sum := "f278020f0c921bb765e05fb57799bc1d7ac64ce5b52489e0710f3b22117771b5", func := "loop.example/g03414/laws.FnExactIsReceiver", spec := "fnExactIsReceiver", apart := false, narrowed := true }
def FnExactIsReceiverUptoSaid : Prop := fnExactIsReceiverUptoRow.holds Try.pinned (OpenSpec.upto fnExactIsReceiverSpec)

/-- 'laws.FnExactReadFrame', WHERE WHAT IT READS IS OF BULK AT MOST 1048576: true; the input reads as it did. -/
def fnExactReadFrameUptoRow : OpenClaim := { program := "ytfohiojijhnjlaa", sum := "f278020f0c921bb765e05fb57799bc1d7ac64ce5b52489e0710f3b22117771b5", func := "loop.example/g03414/laws.FnExactReadFrame", spec := "fnExactReadFrame", apart := false, narrowed := true }
def FnExactReadFrameUptoSaid : Prop := fnExactReadFrameUptoRow.holds Try.pinned (OpenSpec.upto fnExactReadFrameSpec)

/-- 'laws.FnExactLinkFrame', WHERE WHAT IT READS IS OF BULK AT MOST 1048576: true; the input reads as it did. -/
def fnExactLinkFrameUptoRow : OpenClaim := { program := "ytfohiojijhnjlaa", sum := "f278020f0c921bb765e05fb57799bc1d7ac64ce5b52489e0710f3b22117771b5", func := "loop.example/g03414/laws.FnExactLinkFrame", spec := "fnExactLinkFrame", apart := false, narrowed := true }
def FnExactLinkFrameUptoSaid : Prop := fnExactLinkFrameUptoRow.holds Try.pinned (OpenSpec.upto fnExactLinkFrameSpec)

end Rows
end Go.Proofs.Ytfohiojijhnjlaa
