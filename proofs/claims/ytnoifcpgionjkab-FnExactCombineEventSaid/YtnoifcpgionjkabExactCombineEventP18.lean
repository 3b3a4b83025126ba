/- A new combiner, whole. -/
import Derived.Test.YtnoifcpgionjkabExactCombineEventP17
namespace Go.Kb

end Go.Kb
