/- Pipes: what pushing and taking return, as plain values; the reference's side. -/
import Derived.Test.YticidpdbkjgebaaDoorExactTextReportsP75
import Derived.Test.YticidpdbkjgebaaDoorExactTextReportsP11
import Derived.Test.YticidpdbkjgebaaDoorExactTextReportsF22
namespace Go.Kb
set_option maxRecDepth 100000

/-! ### is it a pipe? -/
/-! ### copies -/
/-! ### the reference's values -/
abbrev Pp := Rpt × List Rpt
def zeroP : Pp := ((0, []), [])
end Go.Kb
