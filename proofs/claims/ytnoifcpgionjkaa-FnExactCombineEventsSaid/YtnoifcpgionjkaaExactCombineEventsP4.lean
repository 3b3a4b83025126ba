/- Draws: numbers made from bytes. -/
import Derived.Test.YtnoifcpgionjkaaExactCombineEventsP3
namespace Go.Kb

end Go.Kb
