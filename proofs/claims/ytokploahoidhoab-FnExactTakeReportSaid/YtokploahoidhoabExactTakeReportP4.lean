/- Draws: numbers made from bytes. -/
import Derived.Test.YtokploahoidhoabExactTakeReportP3
namespace Go.Kb

end Go.Kb
