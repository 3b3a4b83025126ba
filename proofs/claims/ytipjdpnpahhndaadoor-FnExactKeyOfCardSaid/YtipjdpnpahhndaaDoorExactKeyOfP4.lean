/- Draws: numbers made from bytes. -/
import Derived.Test.YtipjdpnpahhndaaDoorExactKeyOfP3
namespace Go.Kb

end Go.Kb
