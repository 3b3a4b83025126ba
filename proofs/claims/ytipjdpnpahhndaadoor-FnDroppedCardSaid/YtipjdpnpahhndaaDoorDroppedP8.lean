/- Rows of rows: sizes, copies, comparisons. -/
import Derived.Test.YtipjdpnpahhndaaDoorDroppedP4
import Derived.Test.YtipjdpnpahhndaaDoorDroppedF3
namespace Go.Kb

theorem condT {α : Type} (a b : α) : cond true a b = a := id rfl
theorem condF {α : Type} (a b : α) : cond false a b = b := id rfl
theorem bindV {α β : Type} (a : α) (f : α → Option β) : bindO (some a) f = f a := id rfl
theorem notT : (!true) = false := id rfl
theorem notF : (!false) = true := id rfl

/-! ### rows of whole numbers -/
/-! ### the flash -/
end Go.Kb
