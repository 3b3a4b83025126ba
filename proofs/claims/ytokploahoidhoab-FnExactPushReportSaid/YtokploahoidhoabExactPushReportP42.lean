/- Characters of codes. -/
import Derived.Test.YtokploahoidhoabExactPushReportP41
import Derived.Test.YtokploahoidhoabExactPushReportP13
namespace Go.Kb
set_option maxRecDepth 100000
end Go.Kb
