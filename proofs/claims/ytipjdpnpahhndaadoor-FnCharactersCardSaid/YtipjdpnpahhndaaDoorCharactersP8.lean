/- Rows of rows: sizes, copies, comparisons. -/
import Derived.Test.YtipjdpnpahhndaaDoorCharactersP4
import Derived.Test.YtipjdpnpahhndaaDoorCharactersF3
namespace Go.Kb

theorem condT {α : Type} (a b : α) : cond true a b = a := id rfl
theorem condF {α : Type} (a b : α) : cond false a b = b := id rfl
theorem bindV {α β : Type} (a : α) (f : α → Option β) : bindO (some a) f = f a := id rfl
theorem notT : (!true) = false := id rfl
theorem notF : (!false) = true := id rfl

theorem nth_mem {α : Type} (d : α) (a : List α) (k : Nat) (h : k < a.length) : a.getD k d ∈ a := by
  rw [List.getD_eq_getElem?_getD, List.getElem?_eq_getElem h]; exact List.getElem_mem h

/-! ### rows of whole numbers -/
/-! ### the flash -/
end Go.Kb
