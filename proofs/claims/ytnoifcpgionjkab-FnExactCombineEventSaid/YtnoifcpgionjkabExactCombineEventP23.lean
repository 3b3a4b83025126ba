/- The draws of a combiner. -/
import Derived.Test.YtnoifcpgionjkabExactCombineEventP22
import Derived.Test.YtnoifcpgionjkabExactCombineEventF6
namespace Go.Kb

end Go.Kb
