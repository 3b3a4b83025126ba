/- The texts of functions, printed by a program, and the equations of their runs. -/
import Derived.Test.YtipjdpnpahhndaaDoorExactTextMacroF1
import Derived.Test.YtipjdpnpahhndaaDoorExactTextMacroF2
import Derived.Test.YtipjdpnpahhndaaDoorExactTextMacroF3
import Derived.Test.YtipjdpnpahhndaaDoorExactTextMacroF4
import Derived.KernelRfl
namespace Go.Kb
end Go.Kb
