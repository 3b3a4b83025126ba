/- The draws of events. -/
import Derived.Test.YtnoifcpgionjkaaExactCombineWaitP23
namespace Go.Kb

end Go.Kb
