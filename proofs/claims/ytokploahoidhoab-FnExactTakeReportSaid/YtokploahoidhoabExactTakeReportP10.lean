/- Which page is active; what a free record is. -/
import Derived.Test.YtokploahoidhoabExactTakeReportP9
namespace Go.Kb

theorem inRange_of {j : Int} {n : Nat} (h0 : 0 ≤ j) (h1 : j < n) : inRange j n = true := by
  obtain ⟨k, rfl⟩ := Int.eq_ofNat_of_zero_le h0
  rw [inRange_nat]; exact decide_eq_true (by omega)

end Go.Kb
