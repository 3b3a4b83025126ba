/- The link: one byte, all bytes, and a silent tick; the program answers as the reference. -/
import Derived.Test.YtnoifcpgionjkaaCombinedP2
import Derived.Test.YtnoifcpgionjkaaCombinedF2
import Derived.Test.YtnoifcpgionjkaaKc
namespace Go.Kb

/-! ### all bytes -/
/-! ### rows of whole numbers -/
end Go.Kb
