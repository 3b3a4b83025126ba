/- Reports: sizes, copies; is it a report; the new keys. -/
import Derived.Test.YtipjdpnpahhndaaDoorCharactersP8
namespace Go.Kb

abbrev Rpt := Int × List Int
def smallR (r : Rpt) : Prop := r.2.length ≤ 1048576

/-! ### is it a report? -/
theorem isCode_eq (N : Nat) (x : Int) : impl_isCode.F N x = some (decide (1 ≤ x ∧ x ≤ 56)) := by
  rw [impl_isCode.F_eq]
  by_cases a : 1 ≤ x <;> by_cases b : x ≤ 56 <;> simp [a, b]

/-! ### the new keys -/
end Go.Kb
