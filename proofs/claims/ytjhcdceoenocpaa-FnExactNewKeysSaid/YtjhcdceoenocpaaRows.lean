/-
  No cell of these rows narrows 'for every input' (looked for: loops, veiled, ifaces, maps, wideKeys, modest, calm, conditions, laid).
  DERIVED. THE GIVEN ROWS OF THIS SEAT. 6 by the template 'for every input the law returns true; each argument reads behind the call as it read before'; 0 by the template 'total and deterministic' (their statements: YtjhcdceoenocpaaTotals.lean).
  GIVEN WITH THE SEED: the statements are not yours to turn. If you find one false, say at which input.
  Laid BY PROGRAM, IN A SANDBOX (cutbox-rows.mjs): the forced cells as the released guide's own fill.sh prints them over the translation d16a13b1b355c4f8… (all of the seat's roots in one cut). By AI agents, Wed Nov 11 2026. No macro, syntax, notation, axiom, sorry.
-/
import Derived.Test.YtjhcdceoenocpaaChecked
import GoSem.Claim
import GoSem.ClaimJoined
import GoSem.ClaimMapViews
import Derived.JoinedTies
import Derived.KernelRfl
namespace Go.Proofs.Ytjhcdceoenocpaa
/- THE CELL 'sum', in the pinned program and in every row, IS THE sha256 OF THE DUMP (.gsa) THAT YtjhcdceoenocpaaProg.lean LOADS. Nothing in Lean hashes anything: it is a label: what it is worth is what the hold of that sum in a sandbox is worth. -/
noncomputable def Try.pinned : Pinned := { name := "ytjhcdceoenocpaa", sum := "d16a13b1b355c4f86bdc8e784d6750b85c83ea5773e12cea93c1c2415cf90b58", checked := Try.checked }
namespace Rows
def none {H : Type} : Left H := { results := [], args := [] }

/-- 'laws.FnCombined': WHATEVER THE INPUT: true; the input reads as it did. -/
def fnCombinedSpec : ChangeSpec := { name := "fnCombined", fn := fun _ => fun
  | [d] => { results := [.lit (.bool true)], args := [d] }
  | _ => none }
def fnCombinedRow : OpenClaim := { program := "ytjhcdceoenocpaa", sum := "d16a13b1b355c4f86bdc8e784d6750b85c83ea5773e12cea93c1c2415cf90b58", func := "loop.example/g03414/laws.FnCombined", spec := "fnCombined", apart := false }
def FnCombinedSaid : Prop := fnCombinedRow.holds Try.pinned (OpenSpec.ofChange fnCombinedSpec)

/-- ITS FALSE NEIGHBOUR: 'it returns false'. Refute it at one input. -/
def fnCombinedWrong : ChangeSpec := { name := "fnCombined", fn := fun _ => fun
  | [d] => { results := [.lit (.bool false)], args := [d] }
  | _ => none }
def FnCombinedWrongFalsely : Prop := fnCombinedRow.holds Try.pinned (OpenSpec.ofChange fnCombinedWrong)

/-- 'laws.FnBurst': WHATEVER THE INPUT: true; the input reads as it did. -/
def fnBurstSpec : ChangeSpec := { name := "fnBurst", fn := fun _ => fun
  | [d] => { results := [.lit (.bool true)], args := [d] }
  | _ => none }
def fnBurstRow : OpenClaim := { program := "ytjhcdceoenocpaa", sum := "d16a13b1b355c4f86bdc8e784d6750b85c83ea5773e12cea93c1c2415cf90b58", func := "loop.example/g03414/laws.FnBurst", spec := "fnBurst", apart := false }
def FnBurstSaid : Prop := fnBurstRow.holds Try.pinned (OpenSpec.ofChange fnBurstSpec)

/-- ITS FALSE NEIGHBOUR: 'it returns false'. Refute it at one input. -/
def fnBurstWrong : ChangeSpec := { name := "fnBurst", fn := fun _ => fun
  | [d] => { results := [.lit (.bool false)], args := [d] }
  | _ => none }
def FnBurstWrongFalsely : Prop := fnBurstRow.holds Try.pinned (OpenSpec.ofChange fnBurstWrong)

/-- 'laws.FnExactNewFlash': WHATEVER THE INPUT: true; the input reads as it did. -/
def fnExactNewFlashSpec : ChangeSpec := { name := "fnExactNewFlash", fn := fun _ => fun
  | [] => { results := [.lit (.bool true)], args := [] }
  | _ => none }
def fnExactNewFlashRow : OpenClaim := { program := "ytjhcdceoenocpaa", sum := "d16a13b1b355c4f86bdc8e784d6750b85c83ea5773e12cea93c1c2415cf90b58", func := "loop.example/g03414/laws.FnExactNewFlash", spec := "fnExactNewFlash", apart := false }
def FnExactNewFlashSaid : Prop := fnExactNewFlashRow.holds Try.pinned (OpenSpec.ofChange fnExactNewFlashSpec)

/-- ITS FALSE NEIGHBOUR: 'it returns false'. Refute it at one input. -/
def fnExactNewFlashWrong : ChangeSpec := { name := "fnExactNewFlash", fn := fun _ => fun
  | [] => { results := [.lit (.bool false)], args := [] }
  | _ => none }
def FnExactNewFlashWrongFalsely : Prop := fnExactNewFlashRow.holds Try.pinned (OpenSpec.ofChange fnExactNewFlashWrong)

/-- 'laws.FnExactSilentTick': WHATEVER THE INPUT: true; the input reads as it did. -/
def fnExactSilentTickSpec : ChangeSpec := { name := "fnExactSilentTick", fn := fun _ => fun
  | [d] => { results := [.lit (.bool true)], args := [d] }
  | _ => none }
def fnExactSilentTickRow : OpenClaim := { program := "ytjhcdceoenocpaa", sum := "d16a13b1b355c4f86bdc8e784d6750b85c83ea5773e12cea93c1c2415cf90b58", func := "loop.example/g03414/laws.FnExactSilentTick", spec := "fnExactSilentTick", apart := false }
def FnExactSilentTickSaid : Prop := fnExactSilentTickRow.holds Try.pinned (OpenSpec.ofChange fnExactSilentTickSpec)

/-- ITS FALSE NEIGHBOUR: 'it returns false'. Refute it at one input. -/
def fnExactSilentTickWrong : ChangeSpec := { name := "fnExactSilentTick", fn := fun _ => fun
  | [d] => { results := [.lit (.bool false)], args := [d] }
  | _ => none }
def FnExactSilentTickWrongFalsely : Prop := fnExactSilentTickRow.holds Try.pinned (OpenSpec.ofChange fnExactSilentTickWrong)

/-- 'laws.FnExactIsFlash': WHATEVER THE INPUT: true; the input reads as it did. -/
def fnExactIsFlashSpec : ChangeSpec := { name := "fnExactIsFlash", fn := fun _ => fun
  | [d] => { results := [.lit (.bool true)], args := [d] }
  | _ => none }
def fnExactIsFlashRow : OpenClaim := { program := "ytjhcdceoenocpaa", sum := "d16a13b1b355c4f86bdc8e784d6750b85c83ea5773e12cea93c1c2415cf90b58", func := "loop.example/g03414/laws.FnExactIsFlash", spec := "fnExactIsFlash", apart := false }
def FnExactIsFlashSaid : Prop := fnExactIsFlashRow.holds Try.pinned (OpenSpec.ofChange fnExactIsFlashSpec)

/-- ITS FALSE NEIGHBOUR: 'it returns false'. Refute it at one input. -/
def fnExactIsFlashWrong : ChangeSpec := { name := "fnExactIsFlash", fn := fun _ => fun
  | [d] => { results := [.lit (.bool false)], args := [d] }
  | _ => none }
def FnExactIsFlashWrongFalsely : Prop := fnExactIsFlashRow.holds Try.pinned (OpenSpec.ofChange fnExactIsFlashWrong)

/-- 'laws.FnExactNewKeys': WHATEVER THE INPUT: true; the input reads as it did. -/
def fnExactNewKeysSpec : ChangeSpec := { name := "fnExactNewKeys", fn := fun _ => fun
  | [d1, d2] => { results := [.lit (.bool true)], args := [d1, d2] }
  | _ => none }
def fnExactNewKeysRow : OpenClaim := { program := "ytjhcdceoenocpaa", sum := "d16a13b1b355c4f86bdc8e784d6750b85c83ea5773e12cea93c1c2415cf90b58", func := "loop.example/g03414/laws.FnExactNewKeys", spec := "fnExactNewKeys", apart := false }
def FnExactNewKeysSaid : Prop := fnExactNewKeysRow.holds Try.pinned (OpenSpec.ofChange fnExactNewKeysSpec)

/-- ITS FALSE NEIGHBOUR: 'it returns false'. Refute it at one input. -/
def fnExactNewKeysWrong : ChangeSpec := { name := "fnExactNewKeys", fn := fun _ => fun
  | [d1, d2] => { results := [.lit (.bool false)], args := [d1, d2] }
  | _ => none }
def FnExactNewKeysWrongFalsely : Prop := fnExactNewKeysRow.holds Try.pinned (OpenSpec.ofChange fnExactNewKeysWrong)

/- THE SECOND FORM. 'bulk': how many values and letters a reading holds, each counted each time it is reached (what is shared counts as often as it is met; a slice's spare places count too). A statement '..UptoSaid' is the law's where the arguments, and the package variables that the reading takes, are together of bulk at most 1048576: NARROWER than '..Said'. Prove '..Said' where nothing that the law and all that it calls make is longer than what came in: it says more and counts as full. Else prove '..UptoSaid'. A law counts once. -/
mutual
def uptoBulk {H : Type} : DataW H → Nat
  | .lit (.string bytes) => bytes.length + 1
  | .lit _ => 1
  | .nil => 1
  | .ptr d => uptoBulk d + 1
  | .slice elems spare => uptoBulkAll elems + uptoBulkAll spare + 1
  | .agg parts => uptoBulkAll parts + 1
  | .iface _ d => uptoBulk d + 1
  | .map entries => uptoBulkEntries entries + 1
  | .held _ => 1
def uptoBulkAll {H : Type} : List (DataW H) → Nat
  | [] => 0
  | d :: r => uptoBulk d + uptoBulkAll r
def uptoBulkEntries {H : Type} : List (Lit × DataW H) → Nat
  | [] => 0
  | x :: r => uptoBulkEntry x + uptoBulkEntries r
def uptoBulkEntry {H : Type} : Lit × DataW H → Nat
  | (.string bytes, d) => bytes.length + uptoBulk d + 1
  | (_, d) => uptoBulk d + 1
 end
def uptoSmall : (H : Type) → List (DataW H) → Bool := fun _ ds => decide (uptoBulkAll ds ≤ 1048576)
def OpenSpec.upto (s : _root_.Go.ChangeSpec) : _root_.Go.OpenSpec := { _root_.Go.OpenSpec.ofChange s with cond := some uptoSmall }

/-- 'laws.FnCombined', WHERE WHAT IT READS IS OF BULK AT MOST 1048576: true; the input reads as it did. -/
def fnCombinedUptoRow : OpenClaim := { program := "ytjhcdceoenocpaa", sum := "d16a13b1b355c4f86bdc8e784d6750b85c83ea5773e12cea93c1c2415cf90b58", func := "loop.example/g03414/laws.FnCombined", spec := "fnCombined", apart := false, narrowed := true }
def FnCombinedUptoSaid : Prop := fnCombinedUptoRow.holds Try.pinned (OpenSpec.upto fnCombinedSpec)

/-- 'laws.FnBurst', WHERE WHAT IT READS IS OF BULK AT MOST 1048576: true; the input reads as it did. -/
def fnBurstUptoRow : OpenClaim := { program := "ytjhcdceoenocpaa", sum := "d16a13b1b355c4f86bdc8e784d6750b85c83ea5773e12cea93c1c2415cf90b58", func := "loop.example/g03414/laws.FnBurst", spec := "fnBurst", apart := false, narrowed := true }
def FnBurstUptoSaid : Prop := fnBurstUptoRow.holds Try.pinned (OpenSpec.upto fnBurstSpec)

/-- 'laws.FnExactNewFlash', WHERE WHAT IT READS IS OF BULK AT MOST 1048576: true; the input reads as it did. -/
def fnExactNewFlashUptoRow : OpenClaim := { program := "ytjhcdceoenocpaa", sum := "d16a13b1b355c4f86bdc8e784d6750b85c83ea5773e12cea93c1c2415cf90b58", func := "loop.example/g03414/laws.FnExactNewFlash", spec := "fnExactNewFlash", apart := false, narrowed := true }
def FnExactNewFlashUptoSaid : Prop := fnExactNewFlashUptoRow.holds Try.pinned (OpenSpec.upto fnExactNewFlashSpec)

/-- 'laws.FnExactSilentTick', WHERE WHAT IT READS IS OF BULK AT MOST 1048576: true; the input reads as it did. -/
def fnExactSilentTickUptoRow : OpenClaim := { program := "ytjhcdceoenocpaa", sum := "d16a13b1b355c4f86bdc8e784d6750b85c83ea5773e12cea93c1c2415cf90b58", func := "loop.example/g03414/laws.FnExactSilentTick", spec := "fnExactSilentTick", apart := false, narrowed := true }
def FnExactSilentTickUptoSaid : Prop := fnExactSilentTickUptoRow.holds Try.pinned (OpenSpec.upto fnExactSilentTickSpec)

/-- 'laws.FnExactIsFlash', WHERE WHAT IT READS IS OF BULK AT MOST 1048576: true; the input reads as it did. -/
def fnExactIsFlashUptoRow : OpenClaim := { program := "ytjhcdceoenocpaa", sum := "d16a13b1b355c4f86bdc8e784d6750b85c83ea5773e12cea93c1c2415cf90b58", func := "loop.example/g03414/laws.FnExactIsFlash", spec := "fnExactIsFlash", apart := false, narrowed := true }
def FnExactIsFlashUptoSaid : Prop := fnExactIsFlashUptoRow.holds Try.pinned (OpenSpec.upto fnExactIsFlashSpec)

/-- 'laws.FnExactNewKeys', WHERE WHAT IT READS IS OF BULK AT MOST 1048576: true; the input reads as it did. -/
def fnExactNewKeysUptoRow : OpenClaim := { program := "ytjhcdceoenocpaa", sum := "d16a13b1b355c4f86bdc8e784d6750b85c83ea5773e12cea93c1c2415cf90b58", func := "loop.example/g03414/laws.FnExactNewKeys", spec := "fnExactNewKeys", apart := false, narrowed := true }
def FnExactNewKeysUptoSaid : Prop := fnExactNewKeysUptoRow.holds Try.pinned (OpenSpec.upto fnExactNewKeysSpec)

end Rows
end Go.Proofs.Ytjhcdceoenocpaa
