/- Bytes: numbers from 0 to 255; the check sum; frames. -/
import Derived.Test.YtokploahoidhoabCutsP0
import Derived.Test.YtokploahoidhoabCutsF1
namespace Go.Kb

theorem l1In_eq (N : Nat) (x l h : Int) : spec_l1In.F N (x, l, h) = some (decide (l ≤ x ∧ x ≤ h)) := by
  rw [spec_l1In.F_eq]
  by_cases h1 : l ≤ x <;> by_cases h2 : x ≤ h <;> simp [h1, h2]

theorem CheckOf_same (N : Nat) (s v h : Int) : ∃ r, spec_CheckOf.F N (s, v, h) = some r ∧ impl_CheckOf.F N (s, v, h) = some r := by
  rw [spec_CheckOf.F_eq, impl_CheckOf.F_eq, impl_isSetting.F_eq]
  simp only [l1In_eq, bindO_val]
  by_cases a1 : 0 ≤ s <;> by_cases a2 : s ≤ 3 <;> by_cases a3 : 0 ≤ v <;> by_cases a4 : v ≤ 9999 <;> by_cases a5 : 1 ≤ h <;> by_cases a6 : h ≤ 60000 <;>
    (have b2 : (s < 4) = (s ≤ 3) := by simp; omega
     have b5 : (h < 1) = ¬ (1 ≤ h) := by simp
     have b6 : (h > 60000) = ¬ (h ≤ 60000) := by simp
     simp [a1, a2, a3, a4, a5, a6, b2, b5, b6])

/-! ### bytes -/
/-! ### the check sum -/
def ckStep (c : Nat) : Nat := if 2 * c > 255 then (2 * c) ^^^ 263 else 2 * c
def ckN : Nat → Nat → Nat
  | 0, c => c
  | n + 1, c => ckN n (ckStep c)
def ck : List Nat → Nat → Nat
  | [], c => c
  | x :: r, c => ck r (ckN 8 (c ^^^ x))

/-! ### receivers -/
end Go.Kb
