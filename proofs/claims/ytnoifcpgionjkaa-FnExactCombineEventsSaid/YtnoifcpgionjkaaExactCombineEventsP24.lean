/- The draws of events. -/
import Derived.Test.YtnoifcpgionjkaaExactCombineEventsP23
namespace Go.Kb

end Go.Kb
