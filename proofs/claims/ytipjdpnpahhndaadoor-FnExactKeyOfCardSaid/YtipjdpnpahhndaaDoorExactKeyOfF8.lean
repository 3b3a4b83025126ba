/- The texts of functions, printed by a program, and the equations of their runs. -/
import Derived.Test.YtipjdpnpahhndaaDoorExactKeyOfF1
import Derived.Test.YtipjdpnpahhndaaDoorExactKeyOfF2
import Derived.Test.YtipjdpnpahhndaaDoorExactKeyOfF3
import Derived.Test.YtipjdpnpahhndaaDoorExactKeyOfF4
import Derived.Test.YtipjdpnpahhndaaDoorExactKeyOfF5
import Derived.Test.YtipjdpnpahhndaaDoorExactKeyOfF6
import Derived.Test.YtipjdpnpahhndaaDoorExactKeyOfF7
import Derived.KernelRfl
namespace Go.Kb
end Go.Kb
