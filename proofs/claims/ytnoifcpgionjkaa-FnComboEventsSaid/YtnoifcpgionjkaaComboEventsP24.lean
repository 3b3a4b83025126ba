/- The draws of events. -/
import Derived.Test.YtnoifcpgionjkaaComboEventsP23
namespace Go.Kb

end Go.Kb
