/- Bytes: numbers from 0 to 255; the check sum; frames. -/
import Derived.Test.YtipjdpnpahhndaaDoorCharactersP0
import Derived.Test.YtipjdpnpahhndaaDoorCharactersF1
namespace Go.Kb

/-! ### bytes -/
/-! ### the check sum -/
/-! ### receivers -/
end Go.Kb
