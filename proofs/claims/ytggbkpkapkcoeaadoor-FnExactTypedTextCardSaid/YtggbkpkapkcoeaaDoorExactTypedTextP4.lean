/- Draws: numbers made from bytes. -/
import Derived.Test.YtggbkpkapkcoeaaDoorExactTypedTextP3
namespace Go.Kb

end Go.Kb
