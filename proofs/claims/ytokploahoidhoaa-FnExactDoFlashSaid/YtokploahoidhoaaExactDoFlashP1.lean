/- Bytes: numbers from 0 to 255; the check sum; frames. -/
import Derived.Test.YtokploahoidhoaaExactDoFlashP0
import Derived.Test.YtokploahoidhoaaExactDoFlashF1
namespace Go.Kb

theorem l1In_eq (N : Nat) (x l h : Int) : spec_l1In.F N (x, l, h) = some (decide (l ≤ x ∧ x ≤ h)) := by
  rw [spec_l1In.F_eq]
  by_cases h1 : l ≤ x <;> by_cases h2 : x ≤ h <;> simp [h1, h2]

/-! ### bytes -/
/-! ### the check sum -/
def ckStep (c : Nat) : Nat := if 2 * c > 255 then (2 * c) ^^^ 263 else 2 * c
def ckN : Nat → Nat → Nat
  | 0, c => c
  | n + 1, c => ckN n (ckStep c)
def ck : List Nat → Nat → Nat
  | [], c => c
  | x :: r, c => ck r (ckN 8 (c ^^^ x))

/-! ### receivers -/
end Go.Kb
