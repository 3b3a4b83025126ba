/- A new combiner, whole. -/
import Derived.Test.YtnoifcpgionjkaaNoCombosP17
namespace Go.Kb

end Go.Kb
