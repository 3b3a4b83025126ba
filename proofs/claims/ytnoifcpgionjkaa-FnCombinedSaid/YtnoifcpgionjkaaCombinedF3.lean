/- The texts of functions, printed by a program, and the equations of their runs. -/
import Derived.Test.YtnoifcpgionjkaaCombinedF1
import Derived.Test.YtnoifcpgionjkaaCombinedF2
import Derived.KernelRfl
namespace Go.Kb
end Go.Kb
