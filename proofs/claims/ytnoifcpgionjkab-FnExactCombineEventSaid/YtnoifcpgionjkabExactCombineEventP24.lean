/- The draws of events. -/
import Derived.Test.YtnoifcpgionjkabExactCombineEventP23
namespace Go.Kb

end Go.Kb
