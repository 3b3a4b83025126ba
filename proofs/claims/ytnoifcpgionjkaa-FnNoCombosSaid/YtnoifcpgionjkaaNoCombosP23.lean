/- The draws of a combiner. -/
import Derived.Test.YtnoifcpgionjkaaNoCombosP22
import Derived.Test.YtnoifcpgionjkaaNoCombosF6
namespace Go.Kb

end Go.Kb
