/- The texts of functions, printed by a program, and the equations of their runs. -/
import Derived.Test.YtipjdpnpahhndaaDoorDroppedF1
import Derived.Test.YtipjdpnpahhndaaDoorDroppedF2
import Derived.Test.YtipjdpnpahhndaaDoorDroppedF3
import Derived.Test.YtipjdpnpahhndaaDoorDroppedF4
import Derived.Test.YtipjdpnpahhndaaDoorDroppedF5
import Derived.KernelRfl
namespace Go.Kb
end Go.Kb
