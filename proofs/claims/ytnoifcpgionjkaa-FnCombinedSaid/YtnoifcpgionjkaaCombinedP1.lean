/- Bytes: numbers from 0 to 255; the check sum; frames. -/
import Derived.Test.YtnoifcpgionjkaaCombinedP0
import Derived.Test.YtnoifcpgionjkaaCombinedF1
namespace Go.Kb

theorem l1In_eq (N : Nat) (x l h : Int) : spec_l1In.F N (x, l, h) = some (decide (l ≤ x ∧ x ≤ h)) := by
  rw [spec_l1In.F_eq]
  by_cases h1 : l ≤ x <;> by_cases h2 : x ≤ h <;> simp [h1, h2]

/-! ### bytes -/
/-! ### the check sum -/
theorem bitXor_nat (a b : Nat) (ha : a < 9223372036854775808) (hb : b < 9223372036854775808) : bitXor .i64 (a : Int) (b : Int) = ((a ^^^ b : Nat) : Int) := by
  have hx : a ^^^ b < 2 ^ 63 := Nat.xor_lt_two_pow (by omega) (by omega)
  have e : ∀ n : Nat, n < 9223372036854775808 → (BitVec.ofInt 64 (n : Int)).toNat = n := by
    intro n hn
    rw [BitVec.ofInt_natCast, BitVec.toNat_ofNat]; exact Nat.mod_eq_of_lt (by omega)
  show IntKind.i64.wrap ((BitVec.ofInt 64 (a : Int) ^^^ BitVec.ofInt 64 (b : Int)).toNat : Int) = _
  rw [BitVec.toNat_xor, e a ha, e b hb, wrap64 (by omega) (by omega)]

def ckStep (c : Nat) : Nat := if 2 * c > 255 then (2 * c) ^^^ 263 else 2 * c
def ckN : Nat → Nat → Nat
  | 0, c => c
  | n + 1, c => ckN n (ckStep c)
def ck : List Nat → Nat → Nat
  | [], c => c
  | x :: r, c => ck r (ckN 8 (c ^^^ x))

/-! ### receivers -/
end Go.Kb
