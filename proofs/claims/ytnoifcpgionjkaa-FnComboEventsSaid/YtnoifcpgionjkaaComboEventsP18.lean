/- A new combiner, whole. -/
import Derived.Test.YtnoifcpgionjkaaComboEventsP17
namespace Go.Kb

end Go.Kb
