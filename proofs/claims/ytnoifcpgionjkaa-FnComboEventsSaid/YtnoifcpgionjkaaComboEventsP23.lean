/- The draws of a combiner. -/
import Derived.Test.YtnoifcpgionjkaaComboEventsP22
import Derived.Test.YtnoifcpgionjkaaComboEventsF6
namespace Go.Kb

end Go.Kb
