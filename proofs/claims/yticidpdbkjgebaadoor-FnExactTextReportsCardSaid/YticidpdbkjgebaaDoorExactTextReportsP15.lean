/- How many bits a mask has: the library's way and the reference's. -/
import Derived.Test.YticidpdbkjgebaaDoorExactTextReportsP8
import Derived.Test.YticidpdbkjgebaaDoorExactTextReportsF4
namespace Go.Kb

/-! ### the library's way, in natural numbers -/
def n1 (x : Nat) : Nat := ((x >>> 1) &&& 6148914691236517205) + (x &&& 6148914691236517205)
def n2 (x : Nat) : Nat := ((x >>> 2) &&& 3689348814741910323) + (x &&& 3689348814741910323)
/-! ### the sum of the bits -/
/-! ### byte by byte -/
end Go.Kb
