/- Rows of rows: sizes, copies, comparisons. -/
import Derived.Test.YtokploahoidhoaaSettingsP4
import Derived.Test.YtokploahoidhoaaSettingsF3
namespace Go.Kb


theorem nth_mem {α : Type} (d : α) (a : List α) (k : Nat) (h : k < a.length) : a.getD k d ∈ a := by
  rw [List.getD_eq_getElem?_getD, List.getElem?_eq_getElem h]; exact List.getElem_mem h

/-! ### rows of whole numbers -/
/-- rows of small rows -/
def smallSS (a : List (List Int)) : Prop := a.length ≤ 1048576 ∧ ∀ x ∈ a, x.length ≤ 1048576

/-! ### the flash -/
abbrev Fl := List (List Int) × List Int
def smallF (f : Fl) : Prop := smallSS f.1 ∧ f.2.length ≤ 1048576

end Go.Kb
