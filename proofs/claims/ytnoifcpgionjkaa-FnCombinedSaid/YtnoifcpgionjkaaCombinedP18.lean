/- A new combiner, whole. -/
import Derived.Test.YtnoifcpgionjkaaCombinedP17
namespace Go.Kb

end Go.Kb
