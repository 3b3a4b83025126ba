/- A new combiner. -/
import Derived.Test.YtipjdpnpahhndaaDoorExactTextMacroP16
namespace Go.Kb

theorem getD_set {α : Type} (o : List α) (k : Nat) (v d : α) (h : k < o.length) : (o.set k v).getD k d = v := by
  rw [List.getD_eq_getElem?_getD, List.getElem?_set_self h]; rfl
theorem getD_set_ne {α : Type} (o : List α) (j k : Nat) (v d : α) (h : j ≠ k) : (o.set k v).getD j d = o.getD j d := by
  rw [List.getD_eq_getElem?_getD, List.getD_eq_getElem?_getD, List.getElem?_set_ne (by omega)]

/-! ### an idle combiner -/
abbrev Cm := List Cb × Int × List (Int × Int × Bool) × Int × Int × Int × List (Int × Int × Bool)
def idle (l : List Cb) (t : Int) : Cm := (l, t, [], 0, 0, 0, [])

end Go.Kb
