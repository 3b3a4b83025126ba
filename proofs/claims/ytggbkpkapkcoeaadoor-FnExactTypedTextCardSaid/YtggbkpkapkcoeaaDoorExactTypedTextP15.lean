/- How many bits a mask has: the library's way and the reference's. -/
import Derived.Test.YtggbkpkapkcoeaaDoorExactTypedTextP8
import Derived.Test.YtggbkpkapkcoeaaDoorExactTypedTextF4
namespace Go.Kb

/-! ### the library's way, in natural numbers -/
def n1 (x : Nat) : Nat := ((x >>> 1) &&& 6148914691236517205) + (x &&& 6148914691236517205)
def n2 (x : Nat) : Nat := ((x >>> 2) &&& 3689348814741910323) + (x &&& 3689348814741910323)
/-! ### the sum of the bits -/
/-! ### byte by byte -/
theorem f1 : ∀ b, b < 256 → ∀ e, e < 2 → (b / 2 + 128 * e) &&& 85 = (b / 2) &&& 85 := by decide +kernel
theorem f2 : ∀ b, b < 256 → ∀ e, e < 4 → (b / 4 + 64 * e) &&& 51 = (b / 4) &&& 51 := by decide +kernel
end Go.Kb
