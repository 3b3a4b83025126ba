/- The draws of events. -/
import Derived.Test.YtnoifcpgionjkaaCombinedP23
namespace Go.Kb

end Go.Kb
