/- Which page is active; what a free record is. -/
import Derived.Test.YtokploahoidhoabExactPushReportP9
namespace Go.Kb

end Go.Kb
