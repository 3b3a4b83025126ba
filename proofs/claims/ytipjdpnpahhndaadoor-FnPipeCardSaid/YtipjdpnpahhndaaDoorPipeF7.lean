/- The texts of functions, printed by a program, and the equations of their runs. -/
import Derived.Test.YtipjdpnpahhndaaDoorPipeF1
import Derived.Test.YtipjdpnpahhndaaDoorPipeF2
import Derived.Test.YtipjdpnpahhndaaDoorPipeF3
import Derived.Test.YtipjdpnpahhndaaDoorPipeF4
import Derived.Test.YtipjdpnpahhndaaDoorPipeF5
import Derived.Test.YtipjdpnpahhndaaDoorPipeF6
import Derived.KernelRfl
namespace Go.Kb
end Go.Kb
