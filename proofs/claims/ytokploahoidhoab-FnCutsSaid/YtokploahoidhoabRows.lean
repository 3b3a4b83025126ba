/-
  No cell of these rows narrows 'for every input' (looked for: loops, veiled, ifaces, maps, wideKeys, modest, calm, conditions, laid).
  DERIVED. THE GIVEN ROWS OF THIS SEAT. 4 by the template 'for every input the law returns true; each argument reads behind the call as it read before'; 0 by the template 'total and deterministic' (their statements: YtokploahoidhoabTotals.lean).
  GIVEN WITH THE SEED: the statements are not yours to turn. If you find one false, say at which input.
  Laid BY PROGRAM, IN A SANDBOX (cutbox-rows.mjs): the forced cells as the released guide's own fill.sh prints them over the translation 5ee086885a58829c… (all of the seat's roots in one cut). By AI agents, Wed Nov 11 2026. No macro, syntax, notation, axiom, sorry.
-/
import Derived.Test.YtokploahoidhoabChecked
import GoSem.Claim
import GoSem.ClaimJoined
import GoSem.ClaimMapViews
import Derived.JoinedTies
import Derived.KernelRfl
namespace Go.Proofs.Ytokploahoidhoab
/- THE CELL 'sum', in the pinned program and in every row, IS THE sha256 OF THE DUMP (.gsa) THAT YtokploahoidhoabProg.lean LOADS. Nothing in Lean hashes anything: it is a label: what it is worth is what the hold of that sum in a sandbox is worth. -/
noncomputable def Try.pinned : Pinned := { name := "ytokploahoidhoab", sum := "5ee086885a58829c0eea55f5ff292acfe222bd7180d889bc14006734fe928480", checked := Try.checked }
namespace Rows
def none {H : Type} : Left H := { results := [], args := [] }

/-- 'laws.FnCuts': WHATEVER THE INPUT: true; the input reads as it did. -/
def fnCutsSpec : ChangeSpec := { name := "fnCuts", fn := fun _ => fun
  | [d] => { results := [.lit (.bool true)], args := [d] }
  | _ => none }
def fnCutsRow : OpenClaim := { program := "ytokploahoidhoab", sum := "5ee086885a58829c0eea55f5ff292acfe222bd7180d889bc14006734fe928480", func := "loop.example/g03414/laws.FnCuts", spec := "fnCuts", apart := false }
def FnCutsSaid : Prop := fnCutsRow.holds Try.pinned (OpenSpec.ofChange fnCutsSpec)

/-- ITS FALSE NEIGHBOUR: 'it returns false'. Refute it at one input. -/
def fnCutsWrong : ChangeSpec := { name := "fnCuts", fn := fun _ => fun
  | [d] => { results := [.lit (.bool false)], args := [d] }
  | _ => none }
def FnCutsWrongFalsely : Prop := fnCutsRow.holds Try.pinned (OpenSpec.ofChange fnCutsWrong)

/-- 'laws.FnExactTakeReport': WHATEVER THE INPUT: true; the input reads as it did. -/
def fnExactTakeReportSpec : ChangeSpec := { name := "fnExactTakeReport", fn := fun _ => fun
  | [d] => { results := [.lit (.bool true)], args := [d] }
  | _ => none }
def fnExactTakeReportRow : OpenClaim := { program := "ytokploahoidhoab", sum := "5ee086885a58829c0eea55f5ff292acfe222bd7180d889bc14006734fe928480", func := "loop.example/g03414/laws.FnExactTakeReport", spec := "fnExactTakeReport", apart := false }
def FnExactTakeReportSaid : Prop := fnExactTakeReportRow.holds Try.pinned (OpenSpec.ofChange fnExactTakeReportSpec)

/-- ITS FALSE NEIGHBOUR: 'it returns false'. Refute it at one input. -/
def fnExactTakeReportWrong : ChangeSpec := { name := "fnExactTakeReport", fn := fun _ => fun
  | [d] => { results := [.lit (.bool false)], args := [d] }
  | _ => none }
def FnExactTakeReportWrongFalsely : Prop := fnExactTakeReportRow.holds Try.pinned (OpenSpec.ofChange fnExactTakeReportWrong)

/-- 'laws.FnExactPushReport': WHATEVER THE INPUT: true; the input reads as it did. -/
def fnExactPushReportSpec : ChangeSpec := { name := "fnExactPushReport", fn := fun _ => fun
  | [d1, d2] => { results := [.lit (.bool true)], args := [d1, d2] }
  | _ => none }
def fnExactPushReportRow : OpenClaim := { program := "ytokploahoidhoab", sum := "5ee086885a58829c0eea55f5ff292acfe222bd7180d889bc14006734fe928480", func := "loop.example/g03414/laws.FnExactPushReport", spec := "fnExactPushReport", apart := false }
def FnExactPushReportSaid : Prop := fnExactPushReportRow.holds Try.pinned (OpenSpec.ofChange fnExactPushReportSpec)

/-- ITS FALSE NEIGHBOUR: 'it returns false'. Refute it at one input. -/
def fnExactPushReportWrong : ChangeSpec := { name := "fnExactPushReport", fn := fun _ => fun
  | [d1, d2] => { results := [.lit (.bool false)], args := [d1, d2] }
  | _ => none }
def FnExactPushReportWrongFalsely : Prop := fnExactPushReportRow.holds Try.pinned (OpenSpec.ofChange fnExactPushReportWrong)

/-- 'laws.FnExactPushAll': WHATEVER THE INPUT: true; the input reads as it did. -/
def fnExactPushAllSpec : ChangeSpec := { name := "fnExactPushAll", fn := fun _ => fun
  | [d1, d2] => { results := [.lit (.bool true)], args := [d1, d2] }
  | _ => none }
def fnExactPushAllRow : OpenClaim := { program := "ytokploahoidhoab", sum := "5ee086885a58829c0eea55f5ff292acfe222bd7180d889bc14006734fe928480", func := "loop.example/g03414/laws.FnExactPushAll", spec := "fnExactPushAll", apart := false }
def FnExactPushAllSaid : Prop := fnExactPushAllRow.holds Try.pinned (OpenSpec.ofChange fnExactPushAllSpec)

/-- ITS FALSE NEIGHBOUR: 'it returns false'. Refute it at one input. -/
def fnExactPushAllWrong : ChangeSpec := { name := "fnExactPushAll", fn := fun _ => fun
  | [d1, d2] => { results := [.lit (.bool false)], args := [d1, d2] }
  | _ => none }
def FnExactPushAllWrongFalsely : Prop := fnExactPushAllRow.holds Try.pinned (OpenSpec.ofChange fnExactPushAllWrong)

/- THE SECOND FORM. 'bulk': how many values and letters a reading holds, each counted each time it is reached (what is shared counts as often as it is met; a slice's spare places count too). A statement '..UptoSaid' is the law's where the arguments, and the package variables that the reading takes, are together of bulk at most 1048576: NARROWER than '..Said'. Prove '..Said' where nothing that the law and all that it calls make is longer than what came in: it says more and counts as full. Else prove '..UptoSaid'. A law counts once. -/
mutual
def uptoBulk {H : Type} : DataW H → Nat
  | .lit (.string bytes) => bytes.length + 1
  | .lit _ => 1
  | .nil => 1
  | .ptr d => uptoBulk d + 1
  | .slice elems spare => uptoBulkAll elems + uptoBulkAll spare + 1
  | .agg parts => uptoBulkAll parts + 1
  | .iface _ d => uptoBulk d + 1
  | .map entries => uptoBulkEntries entries + 1
  | .held _ => 1
def uptoBulkAll {H : Type} : List (DataW H) → Nat
  | [] => 0
  | d :: r => uptoBulk d + uptoBulkAll r
def uptoBulkEntries {H : Type} : List (Lit × DataW H) → Nat
  | [] => 0
  | x :: r => uptoBulkEntry x + uptoBulkEntries r
def uptoBulkEntry {H : Type} : Lit × DataW H → Nat
  | (.string bytes, d) => bytes.length + uptoBulk d + 1
  | (_, d) => uptoBulk d + 1
 end
def uptoSmall : (H : Type) → List (DataW H) → Bool := fun _ ds => decide (uptoBulkAll ds ≤ 1048576)
def OpenSpec.upto (s : _root_.Go.ChangeSpec) : _root_.Go.OpenSpec := { _root_.Go.OpenSpec.ofChange s with cond := some uptoSmall }

/-- 'laws.FnCuts', WHERE WHAT IT READS IS OF BULK AT MOST 1048576: true; the input reads as it did. -/
def fnCutsUptoRow : OpenClaim := { program := "ytokploahoidhoab", sum := "5ee086885a58829c0eea55f5ff292acfe222bd7180d889bc14006734fe928480", func := "loop.example/g03414/laws.FnCuts", spec := "fnCuts", apart := false, narrowed := true }
def FnCutsUptoSaid : Prop := fnCutsUptoRow.holds Try.pinned (OpenSpec.upto fnCutsSpec)

/-- 'laws.FnExactTakeReport', WHERE WHAT IT READS IS OF BULK AT MOST 1048576: true; the input reads as it did. -/
def fnExactTakeReportUptoRow : OpenClaim := { program := "ytokploahoidhoab", sum := "5ee086885a58829c0eea55f5ff292acfe222bd7180d889bc14006734fe928480", func := "loop.example/g03414/laws.FnExactTakeReport", spec := "fnExactTakeReport", apart := false, narrowed := true }
def FnExactTakeReportUptoSaid : Prop := fnExactTakeReportUptoRow.holds Try.pinned (OpenSpec.upto fnExactTakeReportSpec)

/-- 'laws.FnExactPushReport', WHERE WHAT IT READS IS OF BULK AT MOST 1048576: true; the input reads as it did. -/
def fnExactPushReportUptoRow : OpenClaim := { program := "ytokploahoidhoab", sum := "5ee086885a58829c0eea55f5ff292acfe222bd7180d889bc14006734fe928480", func := "loop.example/g03414/laws.FnExactPushReport", spec := "fnExactPushReport", apart := false, narrowed := true }
def FnExactPushReportUptoSaid : Prop := fnExactPushReportUptoRow.holds Try.pinned (OpenSpec.upto fnExactPushReportSpec)

/-- 'laws.FnExactPushAll', WHERE WHAT IT READS IS OF BULK AT MOST 1048576: true; the input reads as it did. -/
def fnExactPushAllUptoRow : OpenClaim := { program := "ytokploahoidhoab", sum := "5ee086885a58829c0eea55f5ff292acfe222bd7180d889bc14006734fe928480", func := "loop.example/g03414/laws.FnExactPushAll", spec := "fnExactPushAll", apart := false, narrowed := true }
def FnExactPushAllUptoSaid : Prop := fnExactPushAllUptoRow.holds Try.pinned (OpenSpec.upto fnExactPushAllSpec)

end Rows
end Go.Proofs.Ytokploahoidhoab
