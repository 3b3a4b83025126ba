/- The free record of a page. -/
import Derived.Test.YtokploahoidhoabExactTakeReportP10
namespace Go.Kb

end Go.Kb
