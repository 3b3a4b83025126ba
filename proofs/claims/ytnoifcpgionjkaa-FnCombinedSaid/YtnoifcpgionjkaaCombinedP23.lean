/- The draws of a combiner. -/
import Derived.Test.YtnoifcpgionjkaaCombinedP22
import Derived.Test.YtnoifcpgionjkaaCombinedF6
namespace Go.Kb

end Go.Kb
