/- A new combiner. -/
import Derived.Test.YticidpdbkjgebaaDoorExactTextReportsP16
namespace Go.Kb

/-! ### an idle combiner -/
abbrev Cm := List Cb × Int × List (Int × Int × Bool) × Int × Int × Int × List (Int × Int × Bool)
def idle (l : List Cb) (t : Int) : Cm := (l, t, [], 0, 0, 0, [])

end Go.Kb
