/- Pipes: marking them; taking a report; the exact row of TakeReport. -/
import Derived.Test.YticidpdbkjgebaaDoorExactTextReportsP70
namespace Go.Kb
set_option maxRecDepth 100000

theorem PpOutB.no {β : Type} {D D' : List HRow} {b : β} (h : D <+: D') : PpOutB (some (((((0 : Int), (none : Hnd)), ([] : List RH)), b), D')) D (zeroP, b) := ⟨_, [], D', rfl, h, ownR_zero⟩

end Go.Kb
