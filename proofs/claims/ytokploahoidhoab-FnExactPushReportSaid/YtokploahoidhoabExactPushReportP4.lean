/- Draws: numbers made from bytes. -/
import Derived.Test.YtokploahoidhoabExactPushReportP3
namespace Go.Kb

end Go.Kb
