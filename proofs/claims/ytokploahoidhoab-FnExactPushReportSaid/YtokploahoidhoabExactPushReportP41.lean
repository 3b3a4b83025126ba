/- The names of the codes; characters and keys. -/
import Derived.Test.YtokploahoidhoabExactPushReportF9
import Derived.Test.YtokploahoidhoabExactPushReportP8
namespace Go.Kb
set_option maxRecDepth 100000
end Go.Kb
