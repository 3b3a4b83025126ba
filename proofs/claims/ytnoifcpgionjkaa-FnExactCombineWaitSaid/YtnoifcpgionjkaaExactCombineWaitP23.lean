/- The draws of a combiner. -/
import Derived.Test.YtnoifcpgionjkaaExactCombineWaitP22
import Derived.Test.YtnoifcpgionjkaaExactCombineWaitF6
namespace Go.Kb

end Go.Kb
