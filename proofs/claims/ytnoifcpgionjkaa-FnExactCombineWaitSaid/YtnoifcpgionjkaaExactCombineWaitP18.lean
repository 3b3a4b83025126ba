/- A new combiner, whole. -/
import Derived.Test.YtnoifcpgionjkaaExactCombineWaitP17
namespace Go.Kb

end Go.Kb
