/- Bytes: numbers from 0 to 255; the check sum; frames. -/
import Derived.Test.YticidpdbkjgebaaDoorExactTextReportsP0
import Derived.Test.YticidpdbkjgebaaDoorExactTextReportsF1
namespace Go.Kb

theorem l1In_eq (N : Nat) (x l h : Int) : spec_l1In.F N (x, l, h) = some (decide (l ≤ x ∧ x ≤ h)) := by
  rw [spec_l1In.F_eq]
  by_cases h1 : l ≤ x <;> by_cases h2 : x ≤ h <;> simp [h1, h2]

/-! ### bytes -/
/-! ### the check sum -/
/-! ### receivers -/
end Go.Kb
