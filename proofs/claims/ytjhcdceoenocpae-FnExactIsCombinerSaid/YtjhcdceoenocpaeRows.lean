/-
  No cell of these rows narrows 'for every input' (looked for: loops, veiled, ifaces, maps, wideKeys, modest, calm, conditions, laid).
  DERIVED. THE GIVEN ROWS OF THIS SEAT. 5 by the template 'for every input the law returns true; each argument reads behind the call as it read before'; 0 by the template 'total and deterministic' (their statements: YtjhcdceoenocpaeTotals.lean).
  GIVEN WITH THE SEED: the statements are not yours to turn. If you find one false, say at which input.
  Laid BY PROGRAM, IN A SANDBOX (cutbox-rows.mjs): the forced cells as the released guide's own fill.sh prints them over the translation 8c86a86cb5a1f9af… (all of the seat's roots in one cut). By AI agents, Wed Nov 11 2026. No macro, syntax, notation, axiom, sorry.
-/
import Derived.Test.YtjhcdceoenocpaeChecked
import GoSem.Claim
import GoSem.ClaimJoined
import GoSem.ClaimMapViews
import Derived.JoinedTies
import Derived.KernelRfl
namespace Go.Proofs.Ytjhcdceoenocpae
/- THE CELL 'sum', in the pinned program and in every row, IS THE sha256 OF THE DUMP (.gsa) THAT YtjhcdceoenocpaeProg.lean LOADS. Nothing in Lean hashes anything: it is a label: what it is worth is what the hold of that sum in a sandbox is worth. -/
noncomputable def Try.pinned : Pinned := { name := "ytjhcdceoenocpae", sum := "8c86a86cb5a1f9af653df8b3f29330f360707eb8bedae38845957a7f56cec9f4", checked := Try.checked }
namespace Rows
def none {H : Type} : Left H := { results := [], args := [] }

/-- 'laws.FnExactIsCombiner': WHATEVER THE INPUT: true; the input reads as it did. -/
def fnExactIsCombinerSpec : ChangeSpec := { name := "fnExactIsCombiner", fn := fun _ => fun
  | [d] => { results := [.lit (.bool true)], args := [d] }
  | _ => none }
def fnExactIsCombinerRow : OpenClaim := { program := "ytjhcdceoenocpae", sum := "8c86a86cb5a1f9af653df8b3f29330f360707eb8bedae38845957a7f56cec9f4", func := "loop.example/g03414/laws.FnExactIsCombiner", spec := "fnExactIsCombiner", apart := false }
def FnExactIsCombinerSaid : Prop := fnExactIsCombinerRow.holds Try.pinned (OpenSpec.ofChange fnExactIsCombinerSpec)

/-- ITS FALSE NEIGHBOUR: 'it returns false'. Refute it at one input. -/
def fnExactIsCombinerWrong : ChangeSpec := { name := "fnExactIsCombiner", fn := fun _ => fun
  | [d] => { results := [.lit (.bool false)], args := [d] }
  | _ => none }
def FnExactIsCombinerWrongFalsely : Prop := fnExactIsCombinerRow.holds Try.pinned (OpenSpec.ofChange fnExactIsCombinerWrong)

/-- 'laws.FnExactPushAll': WHATEVER THE INPUT: true; the input reads as it did. -/
def fnExactPushAllSpec : ChangeSpec := { name := "fnExactPushAll", fn := fun _ => fun
  | [d1, d2] => { results := [.lit (.bool true)], args := [d1, d2] }
  | _ => none }
def fnExactPushAllRow : OpenClaim := { program := "ytjhcdceoenocpae", sum := "8c86a86cb5a1f9af653df8b3f29330f360707eb8bedae38845957a7f56cec9f4", func := "loop.example/g03414/laws.FnExactPushAll", spec := "fnExactPushAll", apart := false }
def FnExactPushAllSaid : Prop := fnExactPushAllRow.holds Try.pinned (OpenSpec.ofChange fnExactPushAllSpec)

/-- ITS FALSE NEIGHBOUR: 'it returns false'. Refute it at one input. -/
def fnExactPushAllWrong : ChangeSpec := { name := "fnExactPushAll", fn := fun _ => fun
  | [d1, d2] => { results := [.lit (.bool false)], args := [d1, d2] }
  | _ => none }
def FnExactPushAllWrongFalsely : Prop := fnExactPushAllRow.holds Try.pinned (OpenSpec.ofChange fnExactPushAllWrong)

/-- 'laws.FnExactCutSetting': WHATEVER THE INPUT: true; the input reads as it did. -/
def fnExactCutSettingSpec : ChangeSpec := { name := "fnExactCutSetting", fn := fun _ => fun
  | [d1, d2, d3, d4] => { results := [.lit (.bool true)], args := [d1, d2, d3, d4] }
  | _ => none }
def fnExactCutSettingRow : OpenClaim := { program := "ytjhcdceoenocpae", sum := "8c86a86cb5a1f9af653df8b3f29330f360707eb8bedae38845957a7f56cec9f4", func := "loop.example/g03414/laws.FnExactCutSetting", spec := "fnExactCutSetting", apart := false }
def FnExactCutSettingSaid : Prop := fnExactCutSettingRow.holds Try.pinned (OpenSpec.ofChange fnExactCutSettingSpec)

/-- ITS FALSE NEIGHBOUR: 'it returns false'. Refute it at one input. -/
def fnExactCutSettingWrong : ChangeSpec := { name := "fnExactCutSetting", fn := fun _ => fun
  | [d1, d2, d3, d4] => { results := [.lit (.bool false)], args := [d1, d2, d3, d4] }
  | _ => none }
def FnExactCutSettingWrongFalsely : Prop := fnExactCutSettingRow.holds Try.pinned (OpenSpec.ofChange fnExactCutSettingWrong)

/-- 'laws.FnNoCombos': WHATEVER THE INPUT: true; the input reads as it did. -/
def fnNoCombosSpec : ChangeSpec := { name := "fnNoCombos", fn := fun _ => fun
  | [d] => { results := [.lit (.bool true)], args := [d] }
  | _ => none }
def fnNoCombosRow : OpenClaim := { program := "ytjhcdceoenocpae", sum := "8c86a86cb5a1f9af653df8b3f29330f360707eb8bedae38845957a7f56cec9f4", func := "loop.example/g03414/laws.FnNoCombos", spec := "fnNoCombos", apart := false }
def FnNoCombosSaid : Prop := fnNoCombosRow.holds Try.pinned (OpenSpec.ofChange fnNoCombosSpec)

/-- ITS FALSE NEIGHBOUR: 'it returns false'. Refute it at one input. -/
def fnNoCombosWrong : ChangeSpec := { name := "fnNoCombos", fn := fun _ => fun
  | [d] => { results := [.lit (.bool false)], args := [d] }
  | _ => none }
def FnNoCombosWrongFalsely : Prop := fnNoCombosRow.holds Try.pinned (OpenSpec.ofChange fnNoCombosWrong)

/-- 'laws.FnExactNewCombiner': WHATEVER THE INPUT: true; the input reads as it did. -/
def fnExactNewCombinerSpec : ChangeSpec := { name := "fnExactNewCombiner", fn := fun _ => fun
  | [d1, d2] => { results := [.lit (.bool true)], args := [d1, d2] }
  | _ => none }
def fnExactNewCombinerRow : OpenClaim := { program := "ytjhcdceoenocpae", sum := "8c86a86cb5a1f9af653df8b3f29330f360707eb8bedae38845957a7f56cec9f4", func := "loop.example/g03414/laws.FnExactNewCombiner", spec := "fnExactNewCombiner", apart := false }
def FnExactNewCombinerSaid : Prop := fnExactNewCombinerRow.holds Try.pinned (OpenSpec.ofChange fnExactNewCombinerSpec)

/-- ITS FALSE NEIGHBOUR: 'it returns false'. Refute it at one input. -/
def fnExactNewCombinerWrong : ChangeSpec := { name := "fnExactNewCombiner", fn := fun _ => fun
  | [d1, d2] => { results := [.lit (.bool false)], args := [d1, d2] }
  | _ => none }
def FnExactNewCombinerWrongFalsely : Prop := fnExactNewCombinerRow.holds Try.pinned (OpenSpec.ofChange fnExactNewCombinerWrong)

/- THE SECOND FORM. 'bulk': how many values and letters a reading holds, each counted each time it is reached (what is shared counts as often as it is met; a slice's spare places count too). A statement '..UptoSaid' is the law's where the arguments, and the package variables that the reading takes, are together of bulk at most 1048576: NARROWER than '..Said'. Prove '..Said' where nothing that the law and all that it calls make is longer than what came in: it says more and counts as full. Else prove '..UptoSaid'. A law counts once. -/
mutual
def uptoBulk {H : Type} : DataW H → Nat
  | .lit (.string bytes) => bytes.length + 1
  | .lit _ => 1
  | .nil => 1
  | .ptr d => uptoBulk d + 1
  | .slice elems spare => uptoBulkAll elems + uptoBulkAll spare + 1
  | .agg parts => uptoBulkAll parts + 1
  | .iface _ d => uptoBulk d + 1
  | .map entries => uptoBulkEntries entries + 1
  | .held _ => 1
def uptoBulkAll {H : Type} : List (DataW H) → Nat
  | [] => 0
  | d :: r => uptoBulk d + uptoBulkAll r
def uptoBulkEntries {H : Type} : List (Lit × DataW H) → Nat
  | [] => 0
  | x :: r => uptoBulkEntry x + uptoBulkEntries r
def uptoBulkEntry {H : Type} : Lit × DataW H → Nat
  | (.string bytes, d) => bytes.length + uptoBulk d + 1
  | (_, d) => uptoBulk d + 1
 end
def uptoSmall : (H : Type) → List (DataW H) → Bool := fun _ ds => decide (uptoBulkAll ds ≤ 1048576)
def OpenSpec.upto (s : _root_.Go.ChangeSpec) : _root_.Go.OpenSpec := { _root_.Go.OpenSpec.ofChange s with cond := some uptoSmall }

/-- 'laws.FnExactIsCombiner', WHERE WHAT IT READS IS OF BULK AT MOST 1048576: true; the input reads as it did. -/
def fnExactIsCombinerUptoRow : OpenClaim := { program := "ytjhcdceoenocpae", sum := "8c86a86cb5a1f9af653df8b3f29330f360707eb8bedae38845957a7f56cec9f4", func := "loop.example/g03414/laws.FnExactIsCombiner", spec := "fnExactIsCombiner", apart := false, narrowed := true }
def FnExactIsCombinerUptoSaid : Prop := fnExactIsCombinerUptoRow.holds Try.pinned (OpenSpec.upto fnExactIsCombinerSpec)

/-- 'laws.FnExactPushAll', WHERE WHAT IT READS IS OF BULK AT MOST 1048576: true; the input reads as it did. -/
def fnExactPushAllUptoRow : OpenClaim := { program := "ytjhcdceoenocpae", sum := "8c86a86cb5a1f9af653df8b3f29330f360707eb8bedae38845957a7f56cec9f4", func := "loop.example/g03414/laws.FnExactPushAll", spec := "fnExactPushAll", apart := false, narrowed := true }
def FnExactPushAllUptoSaid : Prop := fnExactPushAllUptoRow.holds Try.pinned (OpenSpec.upto fnExactPushAllSpec)

/-- 'laws.FnExactCutSetting', WHERE WHAT IT READS IS OF BULK AT MOST 1048576: true; the input reads as it did. -/
def fnExactCutSettingUptoRow : OpenClaim := { program := "ytjhcdceoenocpae", sum := "8c86a86cb5a1f9af653df8b3f29330f360707eb8bedae38845957a7f56cec9f4", func := "loop.example/g03414/laws.FnExactCutSetting", spec := "fnExactCutSetting", apart := false, narrowed := true }
def FnExactCutSettingUptoSaid : Prop := fnExactCutSettingUptoRow.holds Try.pinned (OpenSpec.upto fnExactCutSettingSpec)

/-- 'laws.FnNoCombos', WHERE WHAT IT READS IS OF BULK AT MOST 1048576: true; the input reads as it did. -/
def fnNoCombosUptoRow : OpenClaim := { program := "ytjhcdceoenocpae", sum := "8c86a86cb5a1f9af653df8b3f29330f360707eb8bedae38845957a7f56cec9f4", func := "loop.example/g03414/laws.FnNoCombos", spec := "fnNoCombos", apart := false, narrowed := true }
def FnNoCombosUptoSaid : Prop := fnNoCombosUptoRow.holds Try.pinned (OpenSpec.upto fnNoCombosSpec)

/-- 'laws.FnExactNewCombiner', WHERE WHAT IT READS IS OF BULK AT MOST 1048576: true; the input reads as it did. -/
def fnExactNewCombinerUptoRow : OpenClaim := { program := "ytjhcdceoenocpae", sum := "8c86a86cb5a1f9af653df8b3f29330f360707eb8bedae38845957a7f56cec9f4", func := "loop.example/g03414/laws.FnExactNewCombiner", spec := "fnExactNewCombiner", apart := false, narrowed := true }
def FnExactNewCombinerUptoSaid : Prop := fnExactNewCombinerUptoRow.holds Try.pinned (OpenSpec.upto fnExactNewCombinerSpec)

end Rows
end Go.Proofs.Ytjhcdceoenocpae
