/- Without combinations all events go through; what waits for a combination. -/
import Derived.Test.YtnoifcpgionjkaaComboEventsP38
namespace Go.Kb

theorem Held_eq (N : Nat) (hN : 1048576 < N) (r : List Ev) (hl : r.length ≤ 64) (hr : fol 32 0 0 r) : impl_HeldAfter.F N r = some (hA 0 r : Int) := by
  rw [impl_HeldAfter.F_eq]
  have := follow_eq N hN r hl 0 (by omega) 0 (by omega) hr
  rw [show (0 : Int) = ((0 : Nat) : Int) from rfl, this, bindV]

/-! ### what waits -/
end Go.Kb
