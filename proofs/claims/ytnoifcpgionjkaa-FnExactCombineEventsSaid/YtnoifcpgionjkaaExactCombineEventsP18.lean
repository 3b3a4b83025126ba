/- A new combiner, whole. -/
import Derived.Test.YtnoifcpgionjkaaExactCombineEventsP17
namespace Go.Kb

end Go.Kb
