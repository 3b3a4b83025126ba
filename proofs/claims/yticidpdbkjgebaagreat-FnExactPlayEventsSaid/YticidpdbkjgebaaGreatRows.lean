/-
  No cell of these rows narrows 'for every input' (looked for: loops, veiled, ifaces, maps, wideKeys, modest, calm, conditions, laid).
  DERIVED. THE GIVEN ROWS OF THIS SEAT. 4 by the template 'for every input the law returns true; each argument reads behind the call as it read before'; 0 by the template 'total and deterministic' (their statements: YticidpdbkjgebaaGreatTotals.lean).
  GIVEN WITH THE SEED: the statements are not yours to turn. If you find one false, say at which input.
  Laid BY PROGRAM, IN A SANDBOX (cutbox-rows.mjs): the forced cells as the released guide's own fill.sh prints them over the translation ad7801f54c547476… (all of the seat's roots in one cut). By AI agents, Wed Nov 11 2026. No macro, syntax, notation, axiom, sorry.
-/
import Derived.Test.YticidpdbkjgebaaGreatChecked
import GoSem.Claim
import GoSem.ClaimJoined
import GoSem.ClaimMapViews
import Derived.JoinedTies
import Derived.KernelRfl
namespace Go.Proofs.YticidpdbkjgebaaGreat
/- THE CELL 'sum', in the pinned program and in every row, IS THE sha256 OF THE DUMP (.gsa) THAT YticidpdbkjgebaaGreatProg.lean LOADS. Nothing in Lean hashes anything: it is a label: what it is worth is what the hold of that sum in a sandbox is worth. -/
noncomputable def Tryz.pinned : Pinned := { name := "yticidpdbkjgebaagreat", sum := "ad7801f54c547476ec12514d7d8e8186793f6b24325169396464295ba5bf5f6b", checked := Tryz.checked }
namespace Rows
def none {H : Type} : Left H := { results := [], args := [] }

/-- 'laws.FnPrompt': WHATEVER THE INPUT: true; the input reads as it did. -/
def fnPromptSpec : ChangeSpec := { name := "fnPrompt", fn := fun _ => fun
  | [d] => { results := [.lit (.bool true)], args := [d] }
  | _ => none }
def fnPromptRow : OpenClaim := { program := "yticidpdbkjgebaagreat", sum := "ad7801f54c547476ec12514d7d8e8186793f6b24325169396464295ba5bf5f6b", func := "loop.example/g03414/laws.FnPrompt", spec := "fnPrompt", recurses := true, apart := false }
def FnPromptSaid : Prop := fnPromptRow.holds Tryz.pinned (OpenSpec.ofChange fnPromptSpec)

/-- ITS FALSE NEIGHBOUR: 'it returns false'. Refute it at one input. -/
def fnPromptWrong : ChangeSpec := { name := "fnPrompt", fn := fun _ => fun
  | [d] => { results := [.lit (.bool false)], args := [d] }
  | _ => none }
def FnPromptWrongFalsely : Prop := fnPromptRow.holds Tryz.pinned (OpenSpec.ofChange fnPromptWrong)

/-- 'laws.FnDecided': WHATEVER THE INPUT: true; the input reads as it did. -/
def fnDecidedSpec : ChangeSpec := { name := "fnDecided", fn := fun _ => fun
  | [d] => { results := [.lit (.bool true)], args := [d] }
  | _ => none }
def fnDecidedRow : OpenClaim := { program := "yticidpdbkjgebaagreat", sum := "ad7801f54c547476ec12514d7d8e8186793f6b24325169396464295ba5bf5f6b", func := "loop.example/g03414/laws.FnDecided", spec := "fnDecided", recurses := true, apart := false }
def FnDecidedSaid : Prop := fnDecidedRow.holds Tryz.pinned (OpenSpec.ofChange fnDecidedSpec)

/-- ITS FALSE NEIGHBOUR: 'it returns false'. Refute it at one input. -/
def fnDecidedWrong : ChangeSpec := { name := "fnDecided", fn := fun _ => fun
  | [d] => { results := [.lit (.bool false)], args := [d] }
  | _ => none }
def FnDecidedWrongFalsely : Prop := fnDecidedRow.holds Tryz.pinned (OpenSpec.ofChange fnDecidedWrong)

/-- 'laws.FnTwoParts': WHATEVER THE INPUT: true; the input reads as it did. -/
def fnTwoPartsSpec : ChangeSpec := { name := "fnTwoParts", fn := fun _ => fun
  | [d] => { results := [.lit (.bool true)], args := [d] }
  | _ => none }
def fnTwoPartsRow : OpenClaim := { program := "yticidpdbkjgebaagreat", sum := "ad7801f54c547476ec12514d7d8e8186793f6b24325169396464295ba5bf5f6b", func := "loop.example/g03414/laws.FnTwoParts", spec := "fnTwoParts", recurses := true, apart := false }
def FnTwoPartsSaid : Prop := fnTwoPartsRow.holds Tryz.pinned (OpenSpec.ofChange fnTwoPartsSpec)

/-- ITS FALSE NEIGHBOUR: 'it returns false'. Refute it at one input. -/
def fnTwoPartsWrong : ChangeSpec := { name := "fnTwoParts", fn := fun _ => fun
  | [d] => { results := [.lit (.bool false)], args := [d] }
  | _ => none }
def FnTwoPartsWrongFalsely : Prop := fnTwoPartsRow.holds Tryz.pinned (OpenSpec.ofChange fnTwoPartsWrong)

/-- 'laws.FnExactPlayEvents': WHATEVER THE INPUT: true; the input reads as it did. -/
def fnExactPlayEventsSpec : ChangeSpec := { name := "fnExactPlayEvents", fn := fun _ => fun
  | [d1, d2, d3] => { results := [.lit (.bool true)], args := [d1, d2, d3] }
  | _ => none }
def fnExactPlayEventsRow : OpenClaim := { program := "yticidpdbkjgebaagreat", sum := "ad7801f54c547476ec12514d7d8e8186793f6b24325169396464295ba5bf5f6b", func := "loop.example/g03414/laws.FnExactPlayEvents", spec := "fnExactPlayEvents", recurses := true, apart := false }
def FnExactPlayEventsSaid : Prop := fnExactPlayEventsRow.holds Tryz.pinned (OpenSpec.ofChange fnExactPlayEventsSpec)

/-- ITS FALSE NEIGHBOUR: 'it returns false'. Refute it at one input. -/
def fnExactPlayEventsWrong : ChangeSpec := { name := "fnExactPlayEvents", fn := fun _ => fun
  | [d1, d2, d3] => { results := [.lit (.bool false)], args := [d1, d2, d3] }
  | _ => none }
def FnExactPlayEventsWrongFalsely : Prop := fnExactPlayEventsRow.holds Tryz.pinned (OpenSpec.ofChange fnExactPlayEventsWrong)

/- THE SECOND FORM. 'bulk': how many values and letters a reading holds, each counted each time it is reached (what is shared counts as often as it is met; a slice's spare places count too). A statement '..UptoSaid' is the law's where the arguments, and the package variables that the reading takes, are together of bulk at most 1048576: NARROWER than '..Said'. Prove '..Said' where nothing that the law and all that it calls make is longer than what came in: it says more and counts as full. Else prove '..UptoSaid'. A law counts once. -/
mutual
def uptoBulk {H : Type} : DataW H → Nat
  | .lit (.string bytes) => bytes.length + 1
  | .lit _ => 1
  | .nil => 1
  | .ptr d => uptoBulk d + 1
  | .slice elems spare => uptoBulkAll elems + uptoBulkAll spare + 1
  | .agg parts => uptoBulkAll parts + 1
  | .iface _ d => uptoBulk d + 1
  | .map entries => uptoBulkEntries entries + 1
  | .held _ => 1
def uptoBulkAll {H : Type} : List (DataW H) → Nat
  | [] => 0
  | d :: r => uptoBulk d + uptoBulkAll r
def uptoBulkEntries {H : Type} : List (Lit × DataW H) → Nat
  | [] => 0
  | x :: r => uptoBulkEntry x + uptoBulkEntries r
def uptoBulkEntry {H : Type} : Lit × DataW H → Nat
  | (.string bytes, d) => bytes.length + uptoBulk d + 1
  | (_, d) => uptoBulk d + 1
 end
def uptoSmall : (H : Type) → List (DataW H) → Bool := fun _ ds => decide (uptoBulkAll ds ≤ 1048576)
def OpenSpec.upto (s : _root_.Go.ChangeSpec) : _root_.Go.OpenSpec := { _root_.Go.OpenSpec.ofChange s with cond := some uptoSmall }

/-- 'laws.FnPrompt', WHERE WHAT IT READS IS OF BULK AT MOST 1048576: true; the input reads as it did. -/
def fnPromptUptoRow : OpenClaim := { program := "yticidpdbkjgebaagreat", sum := "ad7801f54c547476ec12514d7d8e8186793f6b24325169396464295ba5bf5f6b", func := "loop.example/g03414/laws.FnPrompt", spec := "fnPrompt", recurses := true, apart := false, narrowed := true }
def FnPromptUptoSaid : Prop := fnPromptUptoRow.holds Tryz.pinned (OpenSpec.upto fnPromptSpec)

/-- 'laws.FnDecided', WHERE WHAT IT READS IS OF BULK AT MOST 1048576: true; the input reads as it did. -/
def fnDecidedUptoRow : OpenClaim := { program := "yticidpdbkjgebaagreat", sum := "ad7801f54c547476ec12514d7d8e8186793f6b24325169396464295ba5bf5f6b", func := "loop.example/g03414/laws.FnDecided", spec := "fnDecided", recurses := true, apart := false, narrowed := true }
def FnDecidedUptoSaid : Prop := fnDecidedUptoRow.holds Tryz.pinned (OpenSpec.upto fnDecidedSpec)

/-- 'laws.FnTwoParts', WHERE WHAT IT READS IS OF BULK AT MOST 1048576: true; the input reads as it did. -/
def fnTwoPartsUptoRow : OpenClaim := { program := "yticidpdbkjgebaagreat", sum := "ad7801f54c547476ec12514d7d8e8186793f6b24325169396464295ba5bf5f6b", func := "loop.example/g03414/laws.FnTwoParts", spec := "fnTwoParts", recurses := true, apart := false, narrowed := true }
def FnTwoPartsUptoSaid : Prop := fnTwoPartsUptoRow.holds Tryz.pinned (OpenSpec.upto fnTwoPartsSpec)

/-- 'laws.FnExactPlayEvents', WHERE WHAT IT READS IS OF BULK AT MOST 1048576: true; the input reads as it did. -/
def fnExactPlayEventsUptoRow : OpenClaim := { program := "yticidpdbkjgebaagreat", sum := "ad7801f54c547476ec12514d7d8e8186793f6b24325169396464295ba5bf5f6b", func := "loop.example/g03414/laws.FnExactPlayEvents", spec := "fnExactPlayEvents", recurses := true, apart := false, narrowed := true }
def FnExactPlayEventsUptoSaid : Prop := fnExactPlayEventsUptoRow.holds Tryz.pinned (OpenSpec.upto fnExactPlayEventsSpec)

end Rows
end Go.Proofs.YticidpdbkjgebaaGreat
