/- Draws: numbers made from bytes. -/
import Derived.Test.YtipjdpnpahhndaaDoorExactCharOfP3
namespace Go.Kb

end Go.Kb
