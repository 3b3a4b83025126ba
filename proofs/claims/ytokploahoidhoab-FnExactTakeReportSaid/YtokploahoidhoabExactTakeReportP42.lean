/- Characters of codes. -/
import Derived.Test.YtokploahoidhoabExactTakeReportP41
import Derived.Test.YtokploahoidhoabExactTakeReportP13
namespace Go.Kb
set_option maxRecDepth 100000
end Go.Kb
