/- The draws of a combiner. -/
import Derived.Test.YtnoifcpgionjkaaExactCombineEventsP22
import Derived.Test.YtnoifcpgionjkaaExactCombineEventsF6
namespace Go.Kb

end Go.Kb
