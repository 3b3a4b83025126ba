/- The texts of functions, printed by a program, and the equations of their runs. -/
import Derived.Test.YtipjdpnpahhndaaDoorExactCharOfF1
import Derived.Test.YtipjdpnpahhndaaDoorExactCharOfF2
import Derived.Test.YtipjdpnpahhndaaDoorExactCharOfF3
import Derived.Test.YtipjdpnpahhndaaDoorExactCharOfF4
import Derived.Test.YtipjdpnpahhndaaDoorExactCharOfF5
import Derived.Test.YtipjdpnpahhndaaDoorExactCharOfF6
import Derived.KernelRfl
namespace Go.Kb
end Go.Kb
