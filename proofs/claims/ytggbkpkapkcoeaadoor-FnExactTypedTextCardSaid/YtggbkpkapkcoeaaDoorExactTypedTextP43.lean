/- Keys of characters; texts as macros. -/
import Derived.Test.YtggbkpkapkcoeaaDoorExactTypedTextP42
import Derived.Test.YtggbkpkapkcoeaaDoorExactTypedTextP17
namespace Go.Kb
set_option maxRecDepth 100000
/-! ### texts -/
end Go.Kb
