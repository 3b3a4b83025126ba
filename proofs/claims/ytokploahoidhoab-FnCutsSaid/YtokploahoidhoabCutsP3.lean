/- The link: one byte, all bytes, and a silent tick; the program answers as the reference. -/
import Derived.Test.YtokploahoidhoabCutsP2
import Derived.Test.YtokploahoidhoabCutsF2
import Derived.Test.YtokploahoidhoabKc
namespace Go.Kb

/-! ### all bytes -/
/-! ### rows of whole numbers -/
end Go.Kb
