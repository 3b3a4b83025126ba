/-
  No cell of these rows narrows 'for every input' (looked for: loops, veiled, ifaces, maps, wideKeys, modest, calm, conditions, laid).
  DERIVED. THE GIVEN ROWS OF THIS SEAT. 6 by the template 'for every input the law returns true; each argument reads behind the call as it read before'; 0 by the template 'total and deterministic' (their statements: YtokploahoidhoaaTotals.lean).
  GIVEN WITH THE SEED: the statements are not yours to turn. If you find one false, say at which input.
  Laid BY PROGRAM, IN A SANDBOX (cutbox-rows.mjs): the forced cells as the released guide's own fill.sh prints them over the translation ac34f1f35751ba17… (all of the seat's roots in one cut). By AI agents, Wed Nov 11 2026. No macro, syntax, notation, axiom, sorry.
-/
import Derived.Test.YtokploahoidhoaaChecked
import GoSem.Claim
import GoSem.ClaimJoined
import GoSem.ClaimMapViews
import Derived.JoinedTies
import Derived.KernelRfl
namespace Go.Proofs.Ytokploahoidhoaa
/- THE CELL 'sum', in the pinned program and in every row, IS THE sha256 OF THE DUMP (.gsa) THAT YtokploahoidhoaaProg.lean LOADS. Nothing in Lean hashes anything: it is a label: what it is worth is what the hold of that sum in a sandbox is worth. -/
noncomputable def Try.pinned : Pinned := { name := "ytokploahoidhoaa", sum := "ac34f1f35751ba17cbb4a508da69233d5e24f974166659fe869d61e3af54859c", checked := Try.checked }
namespace Rows
def none {H : Type} : Left H := { results := [], args := [] }

/-- 'laws.FnExactNewFlash': WHATEVER THE INPUT: true; the input reads as it did. -/
def fnExactNewFlashSpec : ChangeSpec := { name := "fnExactNewFlash", fn := fun _ => fun
  | [] => { results := [.lit (.bool true)], args := [] }
  | _ => none }
def fnExactNewFlashRow : OpenClaim := { program := "ytokploahoidhoaa", sum := "ac34f1f35751ba17cbb4a508da69233d5e24f974166659fe869d61e3af54859c", func := "loop.example/g03414/laws.FnExactNewFlash", spec := "fnExactNewFlash", apart := false }
def FnExactNewFlashSaid : Prop := fnExactNewFlashRow.holds Try.pinned (OpenSpec.ofChange fnExactNewFlashSpec)

/-- ITS FALSE NEIGHBOUR: 'it returns false'. Refute it at one input. -/
def fnExactNewFlashWrong : ChangeSpec := { name := "fnExactNewFlash", fn := fun _ => fun
  | [] => { results := [.lit (.bool false)], args := [] }
  | _ => none }
def FnExactNewFlashWrongFalsely : Prop := fnExactNewFlashRow.holds Try.pinned (OpenSpec.ofChange fnExactNewFlashWrong)

/-- 'laws.FnExactDoFlash': WHATEVER THE INPUT: true; the input reads as it did. -/
def fnExactDoFlashSpec : ChangeSpec := { name := "fnExactDoFlash", fn := fun _ => fun
  | [d1, d2] => { results := [.lit (.bool true)], args := [d1, d2] }
  | _ => none }
def fnExactDoFlashRow : OpenClaim := { program := "ytokploahoidhoaa", sum := "ac34f1f35751ba17cbb4a508da69233d5e24f974166659fe869d61e3af54859c", func := "loop.example/g03414/laws.FnExactDoFlash", spec := "fnExactDoFlash", apart := false }
def FnExactDoFlashSaid : Prop := fnExactDoFlashRow.holds Try.pinned (OpenSpec.ofChange fnExactDoFlashSpec)

/-- ITS FALSE NEIGHBOUR: 'it returns false'. Refute it at one input. -/
def fnExactDoFlashWrong : ChangeSpec := { name := "fnExactDoFlash", fn := fun _ => fun
  | [d1, d2] => { results := [.lit (.bool false)], args := [d1, d2] }
  | _ => none }
def FnExactDoFlashWrongFalsely : Prop := fnExactDoFlashRow.holds Try.pinned (OpenSpec.ofChange fnExactDoFlashWrong)

/-- 'laws.FnExactCutSetting': WHATEVER THE INPUT: true; the input reads as it did. -/
def fnExactCutSettingSpec : ChangeSpec := { name := "fnExactCutSetting", fn := fun _ => fun
  | [d1, d2, d3, d4] => { results := [.lit (.bool true)], args := [d1, d2, d3, d4] }
  | _ => none }
def fnExactCutSettingRow : OpenClaim := { program := "ytokploahoidhoaa", sum := "ac34f1f35751ba17cbb4a508da69233d5e24f974166659fe869d61e3af54859c", func := "loop.example/g03414/laws.FnExactCutSetting", spec := "fnExactCutSetting", apart := false }
def FnExactCutSettingSaid : Prop := fnExactCutSettingRow.holds Try.pinned (OpenSpec.ofChange fnExactCutSettingSpec)

/-- ITS FALSE NEIGHBOUR: 'it returns false'. Refute it at one input. -/
def fnExactCutSettingWrong : ChangeSpec := { name := "fnExactCutSetting", fn := fun _ => fun
  | [d1, d2, d3, d4] => { results := [.lit (.bool false)], args := [d1, d2, d3, d4] }
  | _ => none }
def FnExactCutSettingWrongFalsely : Prop := fnExactCutSettingRow.holds Try.pinned (OpenSpec.ofChange fnExactCutSettingWrong)

/-- 'laws.FnExactWriteSetting': WHATEVER THE INPUT: true; the input reads as it did. -/
def fnExactWriteSettingSpec : ChangeSpec := { name := "fnExactWriteSetting", fn := fun _ => fun
  | [d1, d2, d3] => { results := [.lit (.bool true)], args := [d1, d2, d3] }
  | _ => none }
def fnExactWriteSettingRow : OpenClaim := { program := "ytokploahoidhoaa", sum := "ac34f1f35751ba17cbb4a508da69233d5e24f974166659fe869d61e3af54859c", func := "loop.example/g03414/laws.FnExactWriteSetting", spec := "fnExactWriteSetting", apart := false }
def FnExactWriteSettingSaid : Prop := fnExactWriteSettingRow.holds Try.pinned (OpenSpec.ofChange fnExactWriteSettingSpec)

/-- ITS FALSE NEIGHBOUR: 'it returns false'. Refute it at one input. -/
def fnExactWriteSettingWrong : ChangeSpec := { name := "fnExactWriteSetting", fn := fun _ => fun
  | [d1, d2, d3] => { results := [.lit (.bool false)], args := [d1, d2, d3] }
  | _ => none }
def FnExactWriteSettingWrongFalsely : Prop := fnExactWriteSettingRow.holds Try.pinned (OpenSpec.ofChange fnExactWriteSettingWrong)

/-- 'laws.FnExactSettingOps': WHATEVER THE INPUT: true; the input reads as it did. -/
def fnExactSettingOpsSpec : ChangeSpec := { name := "fnExactSettingOps", fn := fun _ => fun
  | [d1, d2, d3] => { results := [.lit (.bool true)], args := [d1, d2, d3] }
  | _ => none }
def fnExactSettingOpsRow : OpenClaim := { program := "ytokploahoidhoaa", sum := "ac34f1f35751ba17cbb4a508da69233d5e24f974166659fe869d61e3af54859c", func := "loop.example/g03414/laws.FnExactSettingOps", spec := "fnExactSettingOps", apart := false }
def FnExactSettingOpsSaid : Prop := fnExactSettingOpsRow.holds Try.pinned (OpenSpec.ofChange fnExactSettingOpsSpec)

/-- ITS FALSE NEIGHBOUR: 'it returns false'. Refute it at one input. -/
def fnExactSettingOpsWrong : ChangeSpec := { name := "fnExactSettingOps", fn := fun _ => fun
  | [d1, d2, d3] => { results := [.lit (.bool false)], args := [d1, d2, d3] }
  | _ => none }
def FnExactSettingOpsWrongFalsely : Prop := fnExactSettingOpsRow.holds Try.pinned (OpenSpec.ofChange fnExactSettingOpsWrong)

/-- 'laws.FnSettings': WHATEVER THE INPUT: true; the input reads as it did. -/
def fnSettingsSpec : ChangeSpec := { name := "fnSettings", fn := fun _ => fun
  | [d] => { results := [.lit (.bool true)], args := [d] }
  | _ => none }
def fnSettingsRow : OpenClaim := { program := "ytokploahoidhoaa", sum := "ac34f1f35751ba17cbb4a508da69233d5e24f974166659fe869d61e3af54859c", func := "loop.example/g03414/laws.FnSettings", spec := "fnSettings", apart := false }
def FnSettingsSaid : Prop := fnSettingsRow.holds Try.pinned (OpenSpec.ofChange fnSettingsSpec)

/-- ITS FALSE NEIGHBOUR: 'it returns false'. Refute it at one input. -/
def fnSettingsWrong : ChangeSpec := { name := "fnSettings", fn := fun _ => fun
  | [d] => { results := [.lit (.bool false)], args := [d] }
  | _ => none }
def FnSettingsWrongFalsely : Prop := fnSettingsRow.holds Try.pinned (OpenSpec.ofChange fnSettingsWrong)

/- THE SECOND FORM. 'bulk': how many values and letters a reading holds, each counted each time it is reached (what is shared counts as often as it is met; a slice's spare places count too). A statement '..UptoSaid' is the law's where the arguments, and the package variables that the reading takes, are together of bulk at most 1048576: NARROWER than '..Said'. Prove '..Said' where nothing that the law and all that it calls make is longer than what came in: it says more and counts as full. Else prove '..UptoSaid'. A law counts once. -/
mutual
def uptoBulk {H : Type} : DataW H → Nat
  | .lit (.string bytes) => bytes.length + 1
  | .lit _ => 1
  | .nil => 1
  | .ptr d => uptoBulk d + 1
  | .slice elems spare => uptoBulkAll elems + uptoBulkAll spare + 1
  | .agg parts => uptoBulkAll parts + 1
  | .iface _ d => uptoBulk d + 1
  | .map entries => uptoBulkEntries entries + 1
  | .held _ => 1
def uptoBulkAll {H : Type} : List (DataW H) → Nat
  | [] => 0
  | d :: r => uptoBulk d + uptoBulkAll r
def uptoBulkEntries {H : Type} : List (Lit × DataW H) → Nat
  | [] => 0
  | x :: r => uptoBulkEntry x + uptoBulkEntries r
def uptoBulkEntry {H : Type} : Lit × DataW H → Nat
  | (.string bytes, d) => bytes.length + uptoBulk d + 1
  | (_, d) => uptoBulk d + 1
 end
def uptoSmall : (H : Type) → List (DataW H) → Bool := fun _ ds => decide (uptoBulkAll ds ≤ 1048576)
def OpenSpec.upto (s : _root_.Go.ChangeSpec) : _root_.Go.OpenSpec := { _root_.Go.OpenSpec.ofChange s with cond := some uptoSmall }

/-- 'laws.FnExactNewFlash', WHERE WHAT IT READS IS OF BULK AT MOST 1048576: true; the input reads as it did. -/
def fnExactNewFlashUptoRow : OpenClaim := { program := "ytokploahoidhoaa", sum := "ac34f1f35751ba17cbb4a508da69233d5e24f974166659fe869d61e3af54859c", func := "loop.example/g03414/laws.FnExactNewFlash", spec := "fnExactNewFlash", apart := false, narrowed := true }
def FnExactNewFlashUptoSaid : Prop := fnExactNewFlashUptoRow.holds Try.pinned (OpenSpec.upto fnExactNewFlashSpec)

/-- 'laws.FnExactDoFlash', WHERE WHAT IT READS IS OF BULK AT MOST 1048576: true; the input reads as it did. -/
def fnExactDoFlashUptoRow : OpenClaim := { program := "ytokploahoidhoaa", sum := "ac34f1f35751ba17cbb4a508da69233d5e24f974166659fe869d61e3af54859c", func := "loop.example/g03414/laws.FnExactDoFlash", spec := "fnExactDoFlash", apart := false, narrowed := true }
def FnExactDoFlashUptoSaid : Prop := fnExactDoFlashUptoRow.holds Try.pinned (OpenSpec.upto fnExactDoFlashSpec)

/-- 'laws.FnExactCutSetting', WHERE WHAT IT READS IS OF BULK AT MOST 1048576: true; the input reads as it did. -/
def fnExactCutSettingUptoRow : OpenClaim := { program := "ytokploahoidhoaa", sum := "ac34f1f35751ba17cbb4a508da69233d5e24f974166659fe869d61e3af54859c", func := "loop.example/g03414/laws.FnExactCutSetting", spec := "fnExactCutSetting", apart := false, narrowed := true }
def FnExactCutSettingUptoSaid : Prop := fnExactCutSettingUptoRow.holds Try.pinned (OpenSpec.upto fnExactCutSettingSpec)

/-- 'laws.FnExactWriteSetting', WHERE WHAT IT READS IS OF BULK AT MOST 1048576: true; the input reads as it did. -/
def fnExactWriteSettingUptoRow : OpenClaim := { program := "ytokploahoidhoaa", sum := "ac34f1f35751ba17cbb4a508da69233d5e24f974166659fe869d61e3af54859c", func := "loop.example/g03414/laws.FnExactWriteSetting", spec := "fnExactWriteSetting", apart := false, narrowed := true }
def FnExactWriteSettingUptoSaid : Prop := fnExactWriteSettingUptoRow.holds Try.pinned (OpenSpec.upto fnExactWriteSettingSpec)

/-- 'laws.FnExactSettingOps', WHERE WHAT IT READS IS OF BULK AT MOST 1048576: true; the input reads as it did. -/
def fnExactSettingOpsUptoRow : OpenClaim := { program := "ytokploahoidhoaa", sum := "ac34f1f35751ba17cbb4a508da69233d5e24f974166659fe869d61e3af54859c", func := "loop.example/g03414/laws.FnExactSettingOps", spec := "fnExactSettingOps", apart := false, narrowed := true }
def FnExactSettingOpsUptoSaid : Prop := fnExactSettingOpsUptoRow.holds Try.pinned (OpenSpec.upto fnExactSettingOpsSpec)

/-- 'laws.FnSettings', WHERE WHAT IT READS IS OF BULK AT MOST 1048576: true; the input reads as it did. -/
def fnSettingsUptoRow : OpenClaim := { program := "ytokploahoidhoaa", sum := "ac34f1f35751ba17cbb4a508da69233d5e24f974166659fe869d61e3af54859c", func := "loop.example/g03414/laws.FnSettings", spec := "fnSettings", apart := false, narrowed := true }
def FnSettingsUptoSaid : Prop := fnSettingsUptoRow.holds Try.pinned (OpenSpec.upto fnSettingsSpec)

end Rows
end Go.Proofs.Ytokploahoidhoaa
