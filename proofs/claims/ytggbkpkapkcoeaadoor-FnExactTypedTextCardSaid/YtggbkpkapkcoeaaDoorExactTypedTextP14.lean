/- May a report be dropped? Is it a pipe? -/
import Derived.Test.YtggbkpkapkcoeaaDoorExactTypedTextP13
namespace Go.Kb

/-! ### a pipe -/
end Go.Kb
