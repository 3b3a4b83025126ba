/- Keys of characters; texts as macros. -/
import Derived.Test.YtipjdpnpahhndaaDoorExactCharOfP42
import Derived.Test.YtipjdpnpahhndaaDoorExactCharOfP17
namespace Go.Kb
set_option maxRecDepth 100000
/-! ### texts -/
theorem ExactCharOf_F (c m : Int) : laws_FnExactCharOf.F 200 (c, m) = some true := by
  rw [laws_FnExactCharOf.F_eq, CharOf_s, CharOf_i]
  simp only [bindV, beq_self_eq_true]
  rfl
end Go.Kb
