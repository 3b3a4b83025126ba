/- The texts of functions, printed by a program, and the equations of their runs. -/
import Derived.Test.YtipjdpnpahhndaaDoorCharactersF1
import Derived.Test.YtipjdpnpahhndaaDoorCharactersF2
import Derived.Test.YtipjdpnpahhndaaDoorCharactersF3
import Derived.Test.YtipjdpnpahhndaaDoorCharactersF4
import Derived.Test.YtipjdpnpahhndaaDoorCharactersF5
import Derived.Test.YtipjdpnpahhndaaDoorCharactersF6
import Derived.KernelRfl
namespace Go.Kb
end Go.Kb
