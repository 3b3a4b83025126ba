/- The draws of events. -/
import Derived.Test.YtnoifcpgionjkaaNoCombosP23
namespace Go.Kb

end Go.Kb
