/- The free record of a page. -/
import Derived.Test.YticidpdbkjgebaaDoorExactTextReportsP10
namespace Go.Kb

end Go.Kb
