/-
  No cell of these rows narrows 'for every input' (looked for: loops, veiled, ifaces, maps, wideKeys, modest, calm, conditions, laid).
  DERIVED. THE GIVEN ROWS OF THIS SEAT. 2 by the template 'for every input the law returns true; each argument reads behind the call as it read before'; 0 by the template 'total and deterministic' (their statements: YticidpdbkjgebabGreatTotals.lean).
  GIVEN WITH THE SEED: the statements are not yours to turn. If you find one false, say at which input.
  Laid BY PROGRAM, IN A SANDBOX (cutbox-rows.mjs): the forced cells as the released guide's own fill.sh prints them over the translation b1eb2a265d1c7d7c… (all of the seat's roots in one cut). By AI agents, Wed Nov 11 2026. No macro, syntax, notation, axiom, sorry.
-/
import Derived.Test.YticidpdbkjgebabGreatChecked
import GoSem.Claim
import GoSem.ClaimJoined
import GoSem.ClaimMapViews
import Derived.JoinedTies
import Derived.KernelRfl
namespace Go.Proofs.YticidpdbkjgebabGreat
/- THE CELL 'sum', in the pinned program and in every row, IS THE sha256 OF THE DUMP (.gsa) THAT YticidpdbkjgebabGreatProg.lean LOADS. Nothing in Lean hashes anything: it is a label: what it is worth is what the hold of that sum in a sandbox is worth. -/
noncomputable def Tryz.pinned : Pinned := { name := "yticidpdbkjgebabgreat", sum := "b1eb2a265d1c7d7c26489185946b9fcaf733e5d1bf60e2a14f9515f43cfca499", checked := Tryz.checked }
namespace Rows
def none {H : Type} : Left H := { results := [], args := [] }

/-- 'laws.FnExactWaitUntil': WHATEVER THE INPUT: true; the input reads as it did. -/
def fnExactWaitUntilSpec : ChangeSpec := { name := "fnExactWaitUntil", fn := fun _ => fun
  | [d1, d2] => { results := [.lit (.bool true)], args := [d1, d2] }
  | _ => none }
def fnExactWaitUntilRow : OpenClaim := { program := "yticidpdbkjgebabgreat", sum := "b1eb2a265d1c7d7c26489185946b9fcaf733e5d1bf60e2a14f9515f43cfca499", func := "loop.example/g03414/laws.FnExactWaitUntil", spec := "fnExactWaitUntil", recurses := true, apart := false }
def FnExactWaitUntilSaid : Prop := fnExactWaitUntilRow.holds Tryz.pinned (OpenSpec.ofChange fnExactWaitUntilSpec)

/-- ITS FALSE NEIGHBOUR: 'it returns false'. Refute it at one input. -/
def fnExactWaitUntilWrong : ChangeSpec := { name := "fnExactWaitUntil", fn := fun _ => fun
  | [d1, d2] => { results := [.lit (.bool false)], args := [d1, d2] }
  | _ => none }
def FnExactWaitUntilWrongFalsely : Prop := fnExactWaitUntilRow.holds Tryz.pinned (OpenSpec.ofChange fnExactWaitUntilWrong)

/-- 'laws.FnExactFeedEvent': WHATEVER THE INPUT: true; the input reads as it did. -/
def fnExactFeedEventSpec : ChangeSpec := { name := "fnExactFeedEvent", fn := fun _ => fun
  | [d1, d2] => { results := [.lit (.bool true)], args := [d1, d2] }
  | _ => none }
def fnExactFeedEventRow : OpenClaim := { program := "yticidpdbkjgebabgreat", sum := "b1eb2a265d1c7d7c26489185946b9fcaf733e5d1bf60e2a14f9515f43cfca499", func := "loop.example/g03414/laws.FnExactFeedEvent", spec := "fnExactFeedEvent", recurses := true, apart := false }
def FnExactFeedEventSaid : Prop := fnExactFeedEventRow.holds Tryz.pinned (OpenSpec.ofChange fnExactFeedEventSpec)

/-- ITS FALSE NEIGHBOUR: 'it returns false'. Refute it at one input. -/
def fnExactFeedEventWrong : ChangeSpec := { name := "fnExactFeedEvent", fn := fun _ => fun
  | [d1, d2] => { results := [.lit (.bool false)], args := [d1, d2] }
  | _ => none }
def FnExactFeedEventWrongFalsely : Prop := fnExactFeedEventRow.holds Tryz.pinned (OpenSpec.ofChange fnExactFeedEventWrong)

/- THE SECOND FORM. 'bulk': how many values and letters a reading holds, each counted each time it is reached (what is shared counts as often as it is met; a slice's spare places count too). A statement '..UptoSaid' is the law's where the arguments, and the package variables that the reading takes, are together of bulk at most 1048576: NARROWER than '..Said'. Prove '..Said' where nothing that the law and all that it calls make is longer than what came in: it says more and counts as full. Else prove '..UptoSaid'. A law counts once. -/
mutual
def uptoBulk {H : Type} : DataW H → Nat
  | .lit (.string bytes) => bytes.length + 1
  | .lit _ => 1
  | .nil => 1
  | .ptr d => uptoBulk d + 1
  | .slice elems spare => uptoBulkAll elems + uptoBulkAll spare + 1
  | .agg parts => uptoBulkAll parts + 1
  | .iface _ d => uptoBulk d + 1
  | .map entries => uptoBulkEntries entries + 1
  | .held _ => 1
def uptoBulkAll {H : Type} : List (DataW H) → Nat
  | [] => 0
  | d :: r => uptoBulk d + uptoBulkAll r
def uptoBulkEntries {H : Type} : List (Lit × DataW H) → Nat
  | [] => 0
  | x :: r => uptoBulkEntry x + uptoBulkEntries r
def uptoBulkEntry {H : Type} : Lit × DataW H → Nat
  | (.string bytes, d) => bytes.length + uptoBulk d + 1
  | (_, d) => uptoBulk d + 1
 end
def uptoSmall : (H : Type) → List (DataW H) → Bool := fun _ ds => decide (uptoBulkAll ds ≤ 1048576)
def OpenSpec.upto (s : _root_.Go.ChangeSpec) : _root_.Go.OpenSpec := { _root_.Go.OpenSpec.ofChange s with cond := some uptoSmall }

/-- 'laws.FnExactWaitUntil', WHERE WHAT IT READS IS OF BULK AT MOST 1048576: true; the input reads as it did. -/
def fnExactWaitUntilUptoRow : OpenClaim := { program := "yticidpdbkjgebabgreat", sum := "b1eb2a265d1c7d7c26489185946b9fcaf733e5d1bf60e2a14f9515f43cfca499", func := "loop.example/g03414/laws.FnExactWaitUntil", spec := "fnExactWaitUntil", recurses := true, apart := false, narrowed := true }
def FnExactWaitUntilUptoSaid : Prop := fnExactWaitUntilUptoRow.holds Tryz.pinned (OpenSpec.upto fnExactWaitUntilSpec)

/-- 'laws.FnExactFeedEvent', WHERE WHAT IT READS IS OF BULK AT MOST 1048576: true; the input reads as it did. -/
def fnExactFeedEventUptoRow : OpenClaim := { program := "yticidpdbkjgebabgreat", sum := "b1eb2a265d1c7d7c26489185946b9fcaf733e5d1bf60e2a14f9515f43cfca499", func := "loop.example/g03414/laws.FnExactFeedEvent", spec := "fnExactFeedEvent", recurses := true, apart := false, narrowed := true }
def FnExactFeedEventUptoSaid : Prop := fnExactFeedEventUptoRow.holds Tryz.pinned (OpenSpec.upto fnExactFeedEventSpec)

end Rows
end Go.Proofs.YticidpdbkjgebabGreat
