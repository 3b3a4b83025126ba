/-
  No cell of these rows narrows 'for every input' (looked for: loops, veiled, ifaces, maps, wideKeys, modest, calm, conditions, laid).
  DERIVED. THE GIVEN ROWS OF THIS SEAT. 6 by the template 'for every input the law returns true; each argument reads behind the call as it read before'; 0 by the template 'total and deterministic' (their statements: YtnoifcpgionjkaaTotals.lean).
  GIVEN WITH THE SEED: the statements are not yours to turn. If you find one false, say at which input.
  Laid BY PROGRAM, IN A SANDBOX (cutbox-rows.mjs): the forced cells as the released guide's own fill.sh prints them over the translation 7f179396eee23e5b… (all of the seat's roots in one cut). By AI agents, Wed Nov 11 2026. No macro, syntax, notation, axiom, sorry.
-/
import Derived.Test.YtnoifcpgionjkaaChecked
import GoSem.Claim
import GoSem.ClaimJoined
import GoSem.ClaimMapViews
import Derived.JoinedTies
import Derived.KernelRfl
namespace Go.Proofs.Ytnoifcpgionjkaa
/- THE CELL 'sum', in the pinned program and in every row, IS THE sha256 OF THE DUMP (.gsa) THAT YtnoifcpgionjkaaProg.lean LOADS. Nothing in Lean hashes anything: it is a label: what it is worth is what the hold of that sum in a sandbox is worth. -/
noncomputable def Try.pinned : Pinned := { name := "ytnoifcpgionjkaa", sum := "7f179396eee23e5b45f1b0423cba4989b4d228267d125f1f6dd5fc126e8baaa4", checked := Try.checked }
namespace Rows
def none {H : Type} : Left H := { results := [], args := [] }

/-- 'laws.FnNoCombos': WHATEVER THE INPUT: true; the input reads as it did. -/
def fnNoCombosSpec : ChangeSpec := { name := "fnNoCombos", fn := fun _ => fun
  | [d] => { results := [.lit (.bool true)], args := [d] }
  | _ => none }
def fnNoCombosRow : OpenClaim := { program := "ytnoifcpgionjkaa", sum := "7f179396eee23e5b45f1b0423cba4989b4d228267d125f1f6dd5fc126e8baaa4", func := "loop.example/g03414/laws.FnNoCombos", spec := "fnNoCombos", apart := false }
def FnNoCombosSaid : Prop := fnNoCombosRow.holds Try.pinned (OpenSpec.ofChange fnNoCombosSpec)

/-- ITS FALSE NEIGHBOUR: 'it returns false'. Refute it at one input. -/
def fnNoCombosWrong : ChangeSpec := { name := "fnNoCombos", fn := fun _ => fun
  | [d] => { results := [.lit (.bool false)], args := [d] }
  | _ => none }
def FnNoCombosWrongFalsely : Prop := fnNoCombosRow.holds Try.pinned (OpenSpec.ofChange fnNoCombosWrong)

/-- 'laws.FnComboEvents': WHATEVER THE INPUT: true; the input reads as it did. -/
def fnComboEventsSpec : ChangeSpec := { name := "fnComboEvents", fn := fun _ => fun
  | [d] => { results := [.lit (.bool true)], args := [d] }
  | _ => none }
def fnComboEventsRow : OpenClaim := { program := "ytnoifcpgionjkaa", sum := "7f179396eee23e5b45f1b0423cba4989b4d228267d125f1f6dd5fc126e8baaa4", func := "loop.example/g03414/laws.FnComboEvents", spec := "fnComboEvents", apart := false }
def FnComboEventsSaid : Prop := fnComboEventsRow.holds Try.pinned (OpenSpec.ofChange fnComboEventsSpec)

/-- ITS FALSE NEIGHBOUR: 'it returns false'. Refute it at one input. -/
def fnComboEventsWrong : ChangeSpec := { name := "fnComboEvents", fn := fun _ => fun
  | [d] => { results := [.lit (.bool false)], args := [d] }
  | _ => none }
def FnComboEventsWrongFalsely : Prop := fnComboEventsRow.holds Try.pinned (OpenSpec.ofChange fnComboEventsWrong)

/-- 'laws.FnComboPrompt': WHATEVER THE INPUT: true; the input reads as it did. -/
def fnComboPromptSpec : ChangeSpec := { name := "fnComboPrompt", fn := fun _ => fun
  | [d] => { results := [.lit (.bool true)], args := [d] }
  | _ => none }
def fnComboPromptRow : OpenClaim := { program := "ytnoifcpgionjkaa", sum := "7f179396eee23e5b45f1b0423cba4989b4d228267d125f1f6dd5fc126e8baaa4", func := "loop.example/g03414/laws.FnComboPrompt", spec := "fnComboPrompt", apart := false }
def FnComboPromptSaid : Prop := fnComboPromptRow.holds Try.pinned (OpenSpec.ofChange fnComboPromptSpec)

/-- ITS FALSE NEIGHBOUR: 'it returns false'. Refute it at one input. -/
def fnComboPromptWrong : ChangeSpec := { name := "fnComboPrompt", fn := fun _ => fun
  | [d] => { results := [.lit (.bool false)], args := [d] }
  | _ => none }
def FnComboPromptWrongFalsely : Prop := fnComboPromptRow.holds Try.pinned (OpenSpec.ofChange fnComboPromptWrong)

/-- 'laws.FnCombined': WHATEVER THE INPUT: true; the input reads as it did. -/
def fnCombinedSpec : ChangeSpec := { name := "fnCombined", fn := fun _ => fun
  | [d] => { results := [.lit (.bool true)], args := [d] }
  | _ => none }
def fnCombinedRow : OpenClaim := { program := "ytnoifcpgionjkaa", sum := "7f179396eee23e5b45f1b0423cba4989b4d228267d125f1f6dd5fc126e8baaa4", func := "loop.example/g03414/laws.FnCombined", spec := "fnCombined", apart := false }
def FnCombinedSaid : Prop := fnCombinedRow.holds Try.pinned (OpenSpec.ofChange fnCombinedSpec)

/-- ITS FALSE NEIGHBOUR: 'it returns false'. Refute it at one input. -/
def fnCombinedWrong : ChangeSpec := { name := "fnCombined", fn := fun _ => fun
  | [d] => { results := [.lit (.bool false)], args := [d] }
  | _ => none }
def FnCombinedWrongFalsely : Prop := fnCombinedRow.holds Try.pinned (OpenSpec.ofChange fnCombinedWrong)

/-- 'laws.FnExactCombineEvents': WHATEVER THE INPUT: true; the input reads as it did. -/
def fnExactCombineEventsSpec : ChangeSpec := { name := "fnExactCombineEvents", fn := fun _ => fun
  | [d1, d2, d3] => { results := [.lit (.bool true)], args := [d1, d2, d3] }
  | _ => none }
def fnExactCombineEventsRow : OpenClaim := { program := "ytnoifcpgionjkaa", sum := "7f179396eee23e5b45f1b0423cba4989b4d228267d125f1f6dd5fc126e8baaa4", func := "loop.example/g03414/laws.FnExactCombineEvents", spec := "fnExactCombineEvents", apart := false }
def FnExactCombineEventsSaid : Prop := fnExactCombineEventsRow.holds Try.pinned (OpenSpec.ofChange fnExactCombineEventsSpec)

/-- ITS FALSE NEIGHBOUR: 'it returns false'. Refute it at one input. -/
def fnExactCombineEventsWrong : ChangeSpec := { name := "fnExactCombineEvents", fn := fun _ => fun
  | [d1, d2, d3] => { results := [.lit (.bool false)], args := [d1, d2, d3] }
  | _ => none }
def FnExactCombineEventsWrongFalsely : Prop := fnExactCombineEventsRow.holds Try.pinned (OpenSpec.ofChange fnExactCombineEventsWrong)

/-- 'laws.FnExactCombineWait': WHATEVER THE INPUT: true; the input reads as it did. -/
def fnExactCombineWaitSpec : ChangeSpec := { name := "fnExactCombineWait", fn := fun _ => fun
  | [d1, d2] => { results := [.lit (.bool true)], args := [d1, d2] }
  | _ => none }
def fnExactCombineWaitRow : OpenClaim := { program := "ytnoifcpgionjkaa", sum := "7f179396eee23e5b45f1b0423cba4989b4d228267d125f1f6dd5fc126e8baaa4", func := "loop.example/g03414/laws.FnExactCombineWait", spec := "fnExactCombineWait", apart := false }
def FnExactCombineWaitSaid : Prop := fnExactCombineWaitRow.holds Try.pinned (OpenSpec.ofChange fnExactCombineWaitSpec)

/-- ITS FALSE NEIGHBOUR: 'it returns false'. Refute it at one input. -/
def fnExactCombineWaitWrong : ChangeSpec := { name := "fnExactCombineWait", fn := fun _ => fun
  | [d1, d2] => { results := [.lit (.bool false)], args := [d1, d2] }
  | _ => none }
def FnExactCombineWaitWrongFalsely : Prop := fnExactCombineWaitRow.holds Try.pinned (OpenSpec.ofChange fnExactCombineWaitWrong)

/- THE SECOND FORM. 'bulk': how many values and letters a reading holds, each counted each time it is reached (what is shared counts as often as it is met; a slice's spare places count too). A statement '..UptoSaid' is the law's where the arguments, and the package variables that the reading takes, are together of bulk at most 1048576: NARROWER than '..Said'. Prove '..Said' where nothing that the law and all that it calls make is longer than what came in: it says more and counts as full. Else prove '..UptoSaid'. A law counts once. -/
mutual
def uptoBulk {H : Type} : DataW H → Nat
  | .lit (.string bytes) => bytes.length + 1
  | .lit _ => 1
  | .nil => 1
  | .ptr d => uptoBulk d + 1
  | .slice elems spare => uptoBulkAll elems + uptoBulkAll spare + 1
  | .agg parts => uptoBulkAll parts + 1
  | .iface _ d => uptoBulk d + 1
  | .map entries => uptoBulkEntries entries + 1
  | .held _ => 1
def uptoBulkAll {H : Type} : List (DataW H) → Nat
  | [] => 0
  | d :: r => uptoBulk d + uptoBulkAll r
def uptoBulkEntries {H : Type} : List (Lit × DataW H) → Nat
  | [] => 0
  | x :: r => uptoBulkEntry x + uptoBulkEntries r
def uptoBulkEntry {H : Type} : Lit × DataW H → Nat
  | (.string bytes, d) => bytes.length + uptoBulk d + 1
  | (_, d) => uptoBulk d + 1
 end
def uptoSmall : (H : Type) → List (DataW H) → Bool := fun _ ds => decide (uptoBulkAll ds ≤ 1048576)
def OpenSpec.upto (s : _root_.Go.ChangeSpec) : _root_.Go.OpenSpec := { _root_.Go.OpenSpec.ofChange s with cond := some uptoSmall }

/-- 'laws.FnNoCombos', WHERE WHAT IT READS IS OF BULK AT MOST 1048576: true; the input reads as it did. -/
def fnNoCombosUptoRow : OpenClaim := { program := "ytnoifcpgionjkaa", sum := "7f179396eee23e5b45f1b0423cba4989b4d228267d125f1f6dd5fc126e8baaa4", func := "loop.example/g03414/laws.FnNoCombos", spec := "fnNoCombos", apart := false, narrowed := true }
def FnNoCombosUptoSaid : Prop := fnNoCombosUptoRow.holds Try.pinned (OpenSpec.upto fnNoCombosSpec)

/-- 'laws.FnComboEvents', WHERE WHAT IT READS IS OF BULK AT MOST 1048576: true; the input reads as it did. -/
def fnComboEventsUptoRow : OpenClaim := { program := "ytnoifcpgionjkaa", sum := "7f179396eee23e5b45f1b0423cba4989b4d228267d125f1f6dd5fc126e8baaa4", func := "loop.example/g03414/laws.FnComboEvents", spec := "fnComboEvents", apart := false, narrowed := true }
def FnComboEventsUptoSaid : Prop := fnComboEventsUptoRow.holds Try.pinned (OpenSpec.upto fnComboEventsSpec)

/-- 'laws.FnComboPrompt', WHERE WHAT IT READS IS OF BULK AT MOST 1048576: true; the input reads as it did. -/
def fnComboPromptUptoRow : OpenClaim := { program := "ytnoifcpgionjkaa", sum := "7f179396eee23e5b45f1b0423cba4989b4d228267d125f1f6dd5fc126e8baaa4", func := "loop.example/g03414/laws.FnComboPrompt", spec := "fnComboPrompt", apart := false, narrowed := true }
def FnComboPromptUptoSaid : Prop := fnComboPromptUptoRow.holds Try.pinned (OpenSpec.upto fnComboPromptSpec)

/-- 'laws.FnCombined', WHERE WHAT IT READS IS OF BULK AT MOST 1048576: true; the input reads as it did. -/
def fnCombinedUptoRow : OpenClaim := { program := "ytnoifcpgionjkaa", sum := "7f179396eee23e5b45f1b0423cba4989b4d228267d125f1f6dd5fc126e8baaa4", func := "loop.example/g03414/laws.FnCombined", spec := "fnCombined", apart := false, narrowed := true }
def FnCombinedUptoSaid : Prop := fnCombinedUptoRow.holds Try.pinned (OpenSpec.upto fnCombinedSpec)

/-- 'laws.FnExactCombineEvents', WHERE WHAT IT READS IS OF BULK AT MOST 1048576: true; the input reads as it did. -/
def fnExactCombineEventsUptoRow : OpenClaim := { program := "ytnoifcpgionjkaa", sum := "7f179396eee23e5b45f1b0423cba4989b4d228267d125f1f6dd5fc126e8baaa4", func := "loop.example/g03414/laws.FnExactCombineEvents", spec := "fnExactCombineEvents", apart := false, narrowed := true }
def FnExactCombineEventsUptoSaid : Prop := fnExactCombineEventsUptoRow.holds Try.pinned (OpenSpec.upto fnExactCombineEventsSpec)

/-- 'laws.FnExactCombineWait', WHERE WHAT IT READS IS OF BULK AT MOST 1048576: true; the input reads as it did. -/
def fnExactCombineWaitUptoRow : OpenClaim := { program := "ytnoifcpgionjkaa", sum := "7f179396eee23e5b45f1b0423cba4989b4d228267d125f1f6dd5fc126e8baaa4", func := "loop.example/g03414/laws.FnExactCombineWait", spec := "fnExactCombineWait", apart := false, narrowed := true }
def FnExactCombineWaitUptoSaid : Prop := fnExactCombineWaitUptoRow.holds Try.pinned (OpenSpec.upto fnExactCombineWaitSpec)

end Rows
end Go.Proofs.Ytnoifcpgionjkaa
