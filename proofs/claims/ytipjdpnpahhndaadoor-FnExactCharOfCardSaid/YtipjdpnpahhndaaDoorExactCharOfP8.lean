/- Rows of rows: sizes, copies, comparisons. -/
import Derived.Test.YtipjdpnpahhndaaDoorExactCharOfP4
import Derived.Test.YtipjdpnpahhndaaDoorExactCharOfF3
namespace Go.Kb

theorem bindV {α β : Type} (a : α) (f : α → Option β) : bindO (some a) f = f a := id rfl
/-! ### rows of whole numbers -/
/-! ### the flash -/
end Go.Kb
