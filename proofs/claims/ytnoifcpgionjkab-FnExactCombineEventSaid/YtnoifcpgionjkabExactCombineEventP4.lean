/- Draws: numbers made from bytes. -/
import Derived.Test.YtnoifcpgionjkabExactCombineEventP3
namespace Go.Kb

end Go.Kb
