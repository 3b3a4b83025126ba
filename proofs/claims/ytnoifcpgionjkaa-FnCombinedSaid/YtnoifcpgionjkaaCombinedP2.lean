/- Frames: what the program's link says is what the reference's says. -/
import Derived.Test.YtnoifcpgionjkaaCombinedP1
namespace Go.Kb

theorem bitOr_nat (a b : Nat) (ha : a < 9223372036854775808) (hb : b < 9223372036854775808) : bitOr .i64 (a : Int) (b : Int) = ((a ||| b : Nat) : Int) := by
  have hx : a ||| b < 2 ^ 63 := Nat.or_lt_two_pow (by omega) (by omega)
  have e : ∀ n : Nat, n < 9223372036854775808 → (BitVec.ofInt 64 (n : Int)).toNat = n := by
    intro n hn
    rw [BitVec.ofInt_natCast, BitVec.toNat_ofNat]; exact Nat.mod_eq_of_lt (by omega)
  show IntKind.i64.wrap ((BitVec.ofInt 64 (a : Int) ||| BitVec.ofInt 64 (b : Int)).toNat : Int) = _
  rw [BitVec.toNat_or, e a ha, e b hb, wrap64 (by omega) (by omega)]

def f5 (n m : Int) : List Int := [85, n, m % 256, m / 256 % 256, m / 65536]
end Go.Kb
