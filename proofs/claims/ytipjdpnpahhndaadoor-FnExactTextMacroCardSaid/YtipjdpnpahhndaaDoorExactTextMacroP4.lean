/- Draws: numbers made from bytes. -/
import Derived.Test.YtipjdpnpahhndaaDoorExactTextMacroP3
namespace Go.Kb

end Go.Kb
