/- Draws: numbers made from bytes. -/
import Derived.Test.YticidpdbkjgebaaDoorExactTextReportsP3
namespace Go.Kb

end Go.Kb
