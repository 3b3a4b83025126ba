/- Which page is active; what a free record is. -/
import Derived.Test.YticidpdbkjgebaaDoorExactTextReportsP9
namespace Go.Kb

end Go.Kb
