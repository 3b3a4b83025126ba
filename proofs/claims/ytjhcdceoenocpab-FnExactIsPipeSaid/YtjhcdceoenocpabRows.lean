/-
  No cell of these rows narrows 'for every input' (looked for: loops, veiled, ifaces, maps, wideKeys, modest, calm, conditions, laid).
  DERIVED. THE GIVEN ROWS OF THIS SEAT. 5 by the template 'for every input the law returns true; each argument reads behind the call as it read before'; 0 by the template 'total and deterministic' (their statements: YtjhcdceoenocpabTotals.lean).
  GIVEN WITH THE SEED: the statements are not yours to turn. If you find one false, say at which input.
  Laid BY PROGRAM, IN A SANDBOX (cutbox-rows.mjs): the forced cells as the released guide's own fill.sh prints them over the translation a8b94afed9596627… (all of the seat's roots in one cut). By AI agents, Wed Nov 11 2026. No macro, syntax, notation, axiom, sorry.
-/
import Derived.Test.YtjhcdceoenocpabChecked
import GoSem.Claim
import GoSem.ClaimJoined
import GoSem.ClaimMapViews
import Derived.JoinedTies
import Derived.KernelRfl
namespace Go.Proofs.Ytjhcdceoenocpab
/- THE CELL 'sum', in the pinned program and in every row, IS THE sha256 OF THE DUMP (.gsa) THAT YtjhcdceoenocpabProg.lean LOADS. Nothing in Lean hashes anything: it is a label: what it is worth is what the hold of that sum in a sandbox is worth. -/
noncomputable def Try.pinned : Pinned := { name := "ytjhcdceoenocpab", sum := "a8b94afed9596627fc991d437d22568373c0cd7518f6f366aa9a6195166b2630", checked := Try.checked }
namespace Rows
def none {H : Type} : Left H := { results := [], args := [] }

/-- 'laws.FnExactMayDrop': WHATEVER THE INPUT: true; the input reads as it did. -/
def fnExactMayDropSpec : ChangeSpec := { name := "fnExactMayDrop", fn := fun _ => fun
  | [d1, d2, d3] => { results := [.lit (.bool true)], args := [d1, d2, d3] }
  | _ => none }
def fnExactMayDropRow : OpenClaim := { program := "ytjhcdceoenocpab", sum := "a8b94afed9596627fc991d437d22568373c0cd7518f6f366aa9a6195166b2630", func := "loop.example/g03414/laws.FnExactMayDrop", spec := "fnExactMayDrop", apart := false }
def FnExactMayDropSaid : Prop := fnExactMayDropRow.holds Try.pinned (OpenSpec.ofChange fnExactMayDropSpec)

/-- ITS FALSE NEIGHBOUR: 'it returns false'. Refute it at one input. -/
def fnExactMayDropWrong : ChangeSpec := { name := "fnExactMayDrop", fn := fun _ => fun
  | [d1, d2, d3] => { results := [.lit (.bool false)], args := [d1, d2, d3] }
  | _ => none }
def FnExactMayDropWrongFalsely : Prop := fnExactMayDropRow.holds Try.pinned (OpenSpec.ofChange fnExactMayDropWrong)

/-- 'laws.FnLink': WHATEVER THE INPUT: true; the input reads as it did. -/
def fnLinkSpec : ChangeSpec := { name := "fnLink", fn := fun _ => fun
  | [d] => { results := [.lit (.bool true)], args := [d] }
  | _ => none }
def fnLinkRow : OpenClaim := { program := "ytjhcdceoenocpab", sum := "a8b94afed9596627fc991d437d22568373c0cd7518f6f366aa9a6195166b2630", func := "loop.example/g03414/laws.FnLink", spec := "fnLink", apart := false }
def FnLinkSaid : Prop := fnLinkRow.holds Try.pinned (OpenSpec.ofChange fnLinkSpec)

/-- ITS FALSE NEIGHBOUR: 'it returns false'. Refute it at one input. -/
def fnLinkWrong : ChangeSpec := { name := "fnLink", fn := fun _ => fun
  | [d] => { results := [.lit (.bool false)], args := [d] }
  | _ => none }
def FnLinkWrongFalsely : Prop := fnLinkRow.holds Try.pinned (OpenSpec.ofChange fnLinkWrong)

/-- 'laws.FnExactActivePage': WHATEVER THE INPUT: true; the input reads as it did. -/
def fnExactActivePageSpec : ChangeSpec := { name := "fnExactActivePage", fn := fun _ => fun
  | [d] => { results := [.lit (.bool true)], args := [d] }
  | _ => none }
def fnExactActivePageRow : OpenClaim := { program := "ytjhcdceoenocpab", sum := "a8b94afed9596627fc991d437d22568373c0cd7518f6f366aa9a6195166b2630", func := "loop.example/g03414/laws.FnExactActivePage", spec := "fnExactActivePage", apart := false }
def FnExactActivePageSaid : Prop := fnExactActivePageRow.holds Try.pinned (OpenSpec.ofChange fnExactActivePageSpec)

/-- ITS FALSE NEIGHBOUR: 'it returns false'. Refute it at one input. -/
def fnExactActivePageWrong : ChangeSpec := { name := "fnExactActivePage", fn := fun _ => fun
  | [d] => { results := [.lit (.bool false)], args := [d] }
  | _ => none }
def FnExactActivePageWrongFalsely : Prop := fnExactActivePageRow.holds Try.pinned (OpenSpec.ofChange fnExactActivePageWrong)

/-- 'laws.FnExactFreeRecord': WHATEVER THE INPUT: true; the input reads as it did. -/
def fnExactFreeRecordSpec : ChangeSpec := { name := "fnExactFreeRecord", fn := fun _ => fun
  | [d1, d2] => { results := [.lit (.bool true)], args := [d1, d2] }
  | _ => none }
def fnExactFreeRecordRow : OpenClaim := { program := "ytjhcdceoenocpab", sum := "a8b94afed9596627fc991d437d22568373c0cd7518f6f366aa9a6195166b2630", func := "loop.example/g03414/laws.FnExactFreeRecord", spec := "fnExactFreeRecord", apart := false }
def FnExactFreeRecordSaid : Prop := fnExactFreeRecordRow.holds Try.pinned (OpenSpec.ofChange fnExactFreeRecordSpec)

/-- ITS FALSE NEIGHBOUR: 'it returns false'. Refute it at one input. -/
def fnExactFreeRecordWrong : ChangeSpec := { name := "fnExactFreeRecord", fn := fun _ => fun
  | [d1, d2] => { results := [.lit (.bool false)], args := [d1, d2] }
  | _ => none }
def FnExactFreeRecordWrongFalsely : Prop := fnExactFreeRecordRow.holds Try.pinned (OpenSpec.ofChange fnExactFreeRecordWrong)

/-- 'laws.FnExactIsPipe': WHATEVER THE INPUT: true; the input reads as it did. -/
def fnExactIsPipeSpec : ChangeSpec := { name := "fnExactIsPipe", fn := fun _ => fun
  | [d] => { results := [.lit (.bool true)], args := [d] }
  | _ => none }
def fnExactIsPipeRow : OpenClaim := { program := "ytjhcdceoenocpab", sum := "a8b94afed9596627fc991d437d22568373c0cd7518f6f366aa9a6195166b2630", func := "loop.example/g03414/laws.FnExactIsPipe", spec := "fnExactIsPipe", apart := false }
def FnExactIsPipeSaid : Prop := fnExactIsPipeRow.holds Try.pinned (OpenSpec.ofChange fnExactIsPipeSpec)

/-- ITS FALSE NEIGHBOUR: 'it returns false'. Refute it at one input. -/
def fnExactIsPipeWrong : ChangeSpec := { name := "fnExactIsPipe", fn := fun _ => fun
  | [d] => { results := [.lit (.bool false)], args := [d] }
  | _ => none }
def FnExactIsPipeWrongFalsely : Prop := fnExactIsPipeRow.holds Try.pinned (OpenSpec.ofChange fnExactIsPipeWrong)

/- THE SECOND FORM. 'bulk': how many values and letters a reading holds, each counted each time it is reached (what is shared counts as often as it is met; a slice's spare places count too). A statement '..UptoSaid' is the law's where the arguments, and the package variables that the reading takes, are together of bulk at most 1048576: NARROWER than '..Said'. Prove '..Said' where nothing that the law and all that it calls make is longer than what came in: it says more and counts as full. Else prove '..UptoSaid'. A law counts once. -/
mutual
def uptoBulk {H : Type} : DataW H → Nat
  | .lit (.string bytes) => bytes.length + 1
  | .lit _ => 1
  | .nil => 1
  | .ptr d => uptoBulk d + 1
  | .slice elems spare => uptoBulkAll elems + uptoBulkAll spare + 1
  | .agg parts => uptoBulkAll parts + 1
  | .iface _ d => uptoBulk d + 1
  | .map entries => uptoBulkEntries entries + 1
  | .held _ => 1
def uptoBulkAll {H : Type} : List (DataW H) → Nat
  | [] => 0
  | d :: r => uptoBulk d + uptoBulkAll r
def uptoBulkEntries {H : Type} : List (Lit × DataW H) → Nat
  | [] => 0
  | x :: r => uptoBulkEntry x + uptoBulkEntries r
def uptoBulkEntry {H : Type} : Lit × DataW H → Nat
  | (.string bytes, d) => bytes.length + uptoBulk d + 1
  | (_, d) => uptoBulk d + 1
 end
def uptoSmall : (H : Type) → List (DataW H) → Bool := fun _ ds => decide (uptoBulkAll ds ≤ 1048576)
def OpenSpec.upto (s : _root_.Go.ChangeSpec) : _root_.Go.OpenSpec := { _root_.Go.OpenSpec.ofChange s with cond := some uptoSmall }

/-- 'laws.FnExactMayDrop', WHERE WHAT IT READS IS OF BULK AT MOST 1048576: true; the input reads as it did. -/
def fnExactMayDropUptoRow : OpenClaim := { program := "ytjhcdceoenocpab", sum := "a8b94afed9596627fc991d437d22568373c0cd7518f6f366aa9a6195166b2630", func := "loop.example/g03414/laws.FnExactMayDrop", spec := "fnExactMayDrop", apart := false, narrowed := true }
def FnExactMayDropUptoSaid : Prop := fnExactMayDropUptoRow.holds Try.pinned (OpenSpec.upto fnExactMayDropSpec)

/-- 'laws.FnLink', WHERE WHAT IT READS IS OF BULK AT MOST 1048576: true; the input reads as it did. -/
def fnLinkUptoRow : OpenClaim := { program := "ytjhcdceoenocpab", sum := "a8b94afed9596627fc991d437d22568373c0cd7518f6f366aa9a6195166b2630", func := "loop.example/g03414/laws.FnLink", spec := "fnLink", apart := false, narrowed := true }
def FnLinkUptoSaid : Prop := fnLinkUptoRow.holds Try.pinned (OpenSpec.upto fnLinkSpec)

/-- 'laws.FnExactActivePage', WHERE WHAT IT READS IS OF BULK AT MOST 1048576: true; the input reads as it did. -/
def fnExactActivePageUptoRow : OpenClaim := { program := "ytjhcdceoenocpab", sum := "a8b94afed9596627fc991d437d22568373c0cd7518f6f366aa9a6195166b2630", func := "loop.example/g03414/laws.FnExactActivePage", spec := "fnExactActivePage", apart := false, narrowed := true }
def FnExactActivePageUptoSaid : Prop := fnExactActivePageUptoRow.holds Try.pinned (OpenSpec.upto fnExactActivePageSpec)

/-- 'laws.FnExactFreeRecord', WHERE WHAT IT READS IS OF BULK AT MOST 1048576: true; the input reads as it did. -/
def fnExactFreeRecordUptoRow : OpenClaim := { program := "ytjhcdceoenocpab", sum := "a8b94afed9596627fc991d437d22568373c0cd7518f6f366aa9a6195166b2630", func := "loop.example/g03414/laws.FnExactFreeRecord", spec := "fnExactFreeRecord", apart := false, narrowed := true }
def FnExactFreeRecordUptoSaid : Prop := fnExactFreeRecordUptoRow.holds Try.pinned (OpenSpec.upto fnExactFreeRecordSpec)

/-- 'laws.FnExactIsPipe', WHERE WHAT IT READS IS OF BULK AT MOST 1048576: true; the input reads as it did. -/
def fnExactIsPipeUptoRow : OpenClaim := { program := "ytjhcdceoenocpab", sum := "a8b94afed9596627fc991d437d22568373c0cd7518f6f366aa9a6195166b2630", func := "loop.example/g03414/laws.FnExactIsPipe", spec := "fnExactIsPipe", apart := false, narrowed := true }
def FnExactIsPipeUptoSaid : Prop := fnExactIsPipeUptoRow.holds Try.pinned (OpenSpec.upto fnExactIsPipeSpec)

end Rows
end Go.Proofs.Ytjhcdceoenocpab
