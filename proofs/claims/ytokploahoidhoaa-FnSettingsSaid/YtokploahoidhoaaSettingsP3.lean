/- The link: one byte, all bytes, and a silent tick; the program answers as the reference. -/
import Derived.Test.YtokploahoidhoaaSettingsP2
import Derived.Test.YtokploahoidhoaaSettingsF2
import Derived.Test.YtokploahoidhoaaKc
namespace Go.Kb

/-! ### all bytes -/
/-! ### rows of whole numbers -/
end Go.Kb
