/-
  No cell of these rows narrows 'for every input' (looked for: loops, veiled, ifaces, maps, wideKeys, modest, calm, conditions, laid).
  DERIVED. THE GIVEN ROWS OF THIS SEAT. 5 by the template 'for every input the law returns true; each argument reads behind the call as it read before'; 0 by the template 'total and deterministic' (their statements: YtjhcdceoenocpacTotals.lean).
  GIVEN WITH THE SEED: the statements are not yours to turn. If you find one false, say at which input.
  Laid BY PROGRAM, IN A SANDBOX (cutbox-rows.mjs): the forced cells as the released guide's own fill.sh prints them over the translation 26fc1fcfc4561997… (all of the seat's roots in one cut). By AI agents, Wed Nov 11 2026. No macro, syntax, notation, axiom, sorry.
-/
import Derived.Test.YtjhcdceoenocpacChecked
import GoSem.Claim
import GoSem.ClaimJoined
import GoSem.ClaimMapViews
import Derived.JoinedTies
import Derived.KernelRfl
namespace Go.Proofs.Ytjhcdceoenocpac
/- THE CELL 'sum', in the pinned program and in every row, IS THE sha256 OF THE DUMP (.gsa) THAT YtjhcdceoenocpacProg.lean LOADS. Nothing in Lean hashes anything: it is a label: what it is worth is what the hold of that sum in a sandbox is worth. -/
noncomputable def Try.pinned : Pinned := { name := "ytjhcdceoenocpac", sum := "26fc1fcfc4561997193c177bdde6935449749df164115885a9aadbf9bbae531d", checked := Try.checked }
namespace Rows
def none {H : Type} : Left H := { results := [], args := [] }

/-- 'laws.FnExactReceiveByte': WHATEVER THE INPUT: true; the input reads as it did. -/
def fnExactReceiveByteSpec : ChangeSpec := { name := "fnExactReceiveByte", fn := fun _ => fun
  | [d1, d2] => { results := [.lit (.bool true)], args := [d1, d2] }
  | _ => none }
def fnExactReceiveByteRow : OpenClaim := { program := "ytjhcdceoenocpac", sum := "26fc1fcfc4561997193c177bdde6935449749df164115885a9aadbf9bbae531d", func := "loop.example/g03414/laws.FnExactReceiveByte", spec := "fnExactReceiveByte", apart := false }
def FnExactReceiveByteSaid : Prop := fnExactReceiveByteRow.holds Try.pinned (OpenSpec.ofChange fnExactReceiveByteSpec)

/-- ITS FALSE NEIGHBOUR: 'it returns false'. Refute it at one input. -/
def fnExactReceiveByteWrong : ChangeSpec := { name := "fnExactReceiveByte", fn := fun _ => fun
  | [d1, d2] => { results := [.lit (.bool false)], args := [d1, d2] }
  | _ => none }
def FnExactReceiveByteWrongFalsely : Prop := fnExactReceiveByteRow.holds Try.pinned (OpenSpec.ofChange fnExactReceiveByteWrong)

/-- 'laws.FnExactReadSetting': WHATEVER THE INPUT: true; the input reads as it did. -/
def fnExactReadSettingSpec : ChangeSpec := { name := "fnExactReadSetting", fn := fun _ => fun
  | [d1, d2] => { results := [.lit (.bool true)], args := [d1, d2] }
  | _ => none }
def fnExactReadSettingRow : OpenClaim := { program := "ytjhcdceoenocpac", sum := "26fc1fcfc4561997193c177bdde6935449749df164115885a9aadbf9bbae531d", func := "loop.example/g03414/laws.FnExactReadSetting", spec := "fnExactReadSetting", apart := false }
def FnExactReadSettingSaid : Prop := fnExactReadSettingRow.holds Try.pinned (OpenSpec.ofChange fnExactReadSettingSpec)

/-- ITS FALSE NEIGHBOUR: 'it returns false'. Refute it at one input. -/
def fnExactReadSettingWrong : ChangeSpec := { name := "fnExactReadSetting", fn := fun _ => fun
  | [d1, d2] => { results := [.lit (.bool false)], args := [d1, d2] }
  | _ => none }
def FnExactReadSettingWrongFalsely : Prop := fnExactReadSettingRow.holds Try.pinned (OpenSpec.ofChange fnExactReadSettingWrong)

/-- 'laws.FnExactDoFlash': WHATEVER THE INPUT: true; the input reads as it did. -/
def fnExactDoFlashSpec : ChangeSpec := { name := "fnExactDoFlash", fn := fun _ => fun
  | [d1, d2] => { results := [.lit (.bool true)], args := [d1, d2] }
  | _ => none }
def fnExactDoFlashRow : OpenClaim := { program := "ytjhcdceoenocpac", sum := "26fc1fcfc4561997193c177bdde6935449749df164115885a9aadbf9bbae531d", func := "loop.example/g03414/laws.FnExactDoFlash", spec := "fnExactDoFlash", apart := false }
def FnExactDoFlashSaid : Prop := fnExactDoFlashRow.holds Try.pinned (OpenSpec.ofChange fnExactDoFlashSpec)

/-- ITS FALSE NEIGHBOUR: 'it returns false'. Refute it at one input. -/
def fnExactDoFlashWrong : ChangeSpec := { name := "fnExactDoFlash", fn := fun _ => fun
  | [d1, d2] => { results := [.lit (.bool false)], args := [d1, d2] }
  | _ => none }
def FnExactDoFlashWrongFalsely : Prop := fnExactDoFlashRow.holds Try.pinned (OpenSpec.ofChange fnExactDoFlashWrong)

/-- 'laws.FnExactReceiveAll': WHATEVER THE INPUT: true; the input reads as it did. -/
def fnExactReceiveAllSpec : ChangeSpec := { name := "fnExactReceiveAll", fn := fun _ => fun
  | [d1, d2] => { results := [.lit (.bool true)], args := [d1, d2] }
  | _ => none }
def fnExactReceiveAllRow : OpenClaim := { program := "ytjhcdceoenocpac", sum := "26fc1fcfc4561997193c177bdde6935449749df164115885a9aadbf9bbae531d", func := "loop.example/g03414/laws.FnExactReceiveAll", spec := "fnExactReceiveAll", apart := false }
def FnExactReceiveAllSaid : Prop := fnExactReceiveAllRow.holds Try.pinned (OpenSpec.ofChange fnExactReceiveAllSpec)

/-- ITS FALSE NEIGHBOUR: 'it returns false'. Refute it at one input. -/
def fnExactReceiveAllWrong : ChangeSpec := { name := "fnExactReceiveAll", fn := fun _ => fun
  | [d1, d2] => { results := [.lit (.bool false)], args := [d1, d2] }
  | _ => none }
def FnExactReceiveAllWrongFalsely : Prop := fnExactReceiveAllRow.holds Try.pinned (OpenSpec.ofChange fnExactReceiveAllWrong)

/-- 'laws.FnExactTakeReport': WHATEVER THE INPUT: true; the input reads as it did. -/
def fnExactTakeReportSpec : ChangeSpec := { name := "fnExactTakeReport", fn := fun _ => fun
  | [d] => { results := [.lit (.bool true)], args := [d] }
  | _ => none }
def fnExactTakeReportRow : OpenClaim := { program := "ytjhcdceoenocpac", sum := "26fc1fcfc4561997193c177bdde6935449749df164115885a9aadbf9bbae531d", func := "loop.example/g03414/laws.FnExactTakeReport", spec := "fnExactTakeReport", apart := false }
def FnExactTakeReportSaid : Prop := fnExactTakeReportRow.holds Try.pinned (OpenSpec.ofChange fnExactTakeReportSpec)

/-- ITS FALSE NEIGHBOUR: 'it returns false'. Refute it at one input. -/
def fnExactTakeReportWrong : ChangeSpec := { name := "fnExactTakeReport", fn := fun _ => fun
  | [d] => { results := [.lit (.bool false)], args := [d] }
  | _ => none }
def FnExactTakeReportWrongFalsely : Prop := fnExactTakeReportRow.holds Try.pinned (OpenSpec.ofChange fnExactTakeReportWrong)

/- THE SECOND FORM. 'bulk': how many values and letters a reading holds, each counted each time it is reached (what is shared counts as often as it is met; a slice's spare places count too). A statement '..UptoSaid' is the law's where the arguments, and the package variables that the reading takes, are together of bulk at most 1048576: NARROWER than '..Said'. Prove '..Said' where nothing that the law and all that it calls make is longer than what came in: it says more and counts as full. Else prove '..UptoSaid'. A law counts once. -/
mutual
def uptoBulk {H : Type} : DataW H → Nat
  | .lit (.string bytes) => bytes.length + 1
  | .lit _ => 1
  | .nil => 1
  | .ptr d => uptoBulk d + 1
  | .slice elems spare => uptoBulkAll elems + uptoBulkAll spare + 1
  | .agg parts => uptoBulkAll parts + 1
  | .iface _ d => uptoBulk d + 1
  | .map entries => uptoBulkEntries entries + 1
  | .held _ => 1
def uptoBulkAll {H : Type} : List (DataW H) → Nat
  | [] => 0
  | d :: r => uptoBulk d + uptoBulkAll r
def uptoBulkEntries {H : Type} : List (Lit × DataW H) → Nat
  | [] => 0
  | x :: r => uptoBulkEntry x + uptoBulkEntries r
def uptoBulkEntry {H : Type} : Lit × DataW H → Nat
  | (.string bytes, d) => bytes.length + uptoBulk d + 1
  | (_, d) => uptoBulk d + 1
 end
def uptoSmall : (H : Type) → List (DataW H) → Bool := fun _ ds => decide (uptoBulkAll ds ≤ 1048576)
def OpenSpec.upto (s : _root_.Go.ChangeSpec) : _root_.Go.OpenSpec := { _root_.Go.OpenSpec.ofChange s with cond := some uptoSmall }

/-- 'laws.FnExactReceiveByte', WHERE WHAT IT READS IS OF BULK AT MOST 1048576: true; the input reads as it did. -/
def fnExactReceiveByteUptoRow : OpenClaim := { program := "ytjhcdceoenocpac", sum := "26fc1fcfc4561997193c177bdde6935449749df164115885a9aadbf9bbae531d", func := "loop.example/g03414/laws.FnExactReceiveByte", spec := "fnExactReceiveByte", apart := false, narrowed := true }
def FnExactReceiveByteUptoSaid : Prop := fnExactReceiveByteUptoRow.holds Try.pinned (OpenSpec.upto fnExactReceiveByteSpec)

/-- 'laws.FnExactReadSetting', WHERE WHAT IT READS IS OF BULK AT MOST 1048576: true; the input reads as it did. -/
def fnExactReadSettingUptoRow : OpenClaim := { program := "ytjhcdceoenocpac", sum := "26fc1fcfc4561997193c177bdde6935449749df164115885a9aadbf9bbae531d", func := "loop.example/g03414/laws.FnExactReadSetting", spec := "fnExactReadSetting", apart := false, narrowed := true }
def FnExactReadSettingUptoSaid : Prop := fnExactReadSettingUptoRow.holds Try.pinned (OpenSpec.upto fnExactReadSettingSpec)

/-- 'laws.FnExactDoFlash', WHERE WHAT IT READS IS OF BULK AT MOST 1048576: true; the input reads as it did. -/
def fnExactDoFlashUptoRow : OpenClaim := { program := "ytjhcdceoenocpac", sum := "26fc1fcfc4561997193c177bdde6935449749df164115885a9aadbf9bbae531d", func := "loop.example/g03414/laws.FnExactDoFlash", spec := "fnExactDoFlash", apart := false, narrowed := true }
def FnExactDoFlashUptoSaid : Prop := fnExactDoFlashUptoRow.holds Try.pinned (OpenSpec.upto fnExactDoFlashSpec)

/-- 'laws.FnExactReceiveAll', WHERE WHAT IT READS IS OF BULK AT MOST 1048576: true; the input reads as it did. -/
def fnExactReceiveAllUptoRow : OpenClaim := { program := "ytjhcdceoenocpac", sum := "26fc1fcfc4561997193c177bdde6935449749df164115885a9aadbf9bbae531d", func := "loop.example/g03414/laws.FnExactReceiveAll", spec := "fnExactReceiveAll", apart := false, narrowed := true }
def FnExactReceiveAllUptoSaid : Prop := fnExactReceiveAllUptoRow.holds Try.pinned (OpenSpec.upto fnExactReceiveAllSpec)

/-- 'laws.FnExactTakeReport', WHERE WHAT IT READS IS OF BULK AT MOST 1048576: true; the input reads as it did. -/
def fnExactTakeReportUptoRow : OpenClaim := { program := "ytjhcdceoenocpac", sum := "26fc1fcfc4561997193c177bdde6935449749df164115885a9aadbf9bbae531d", func := "loop.example/g03414/laws.FnExactTakeReport", spec := "fnExactTakeReport", apart := false, narrowed := true }
def FnExactTakeReportUptoSaid : Prop := fnExactTakeReportUptoRow.holds Try.pinned (OpenSpec.upto fnExactTakeReportSpec)

end Rows
end Go.Proofs.Ytjhcdceoenocpac
