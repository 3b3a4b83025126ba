/- The names of the codes; characters and keys. -/
import Derived.Test.YtokploahoidhoabExactTakeReportF9
import Derived.Test.YtokploahoidhoabExactTakeReportP8
namespace Go.Kb
set_option maxRecDepth 100000
end Go.Kb
