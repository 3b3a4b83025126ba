/- Draws: numbers made from bytes. -/
import Derived.Test.YtnoifcpgionjkaaExactCombineWaitP3
namespace Go.Kb

end Go.Kb
