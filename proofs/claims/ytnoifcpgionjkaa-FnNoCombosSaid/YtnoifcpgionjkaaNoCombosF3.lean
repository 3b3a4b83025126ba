/- The texts of functions, printed by a program, and the equations of their runs. -/
import Derived.Test.YtnoifcpgionjkaaNoCombosF1
import Derived.Test.YtnoifcpgionjkaaNoCombosF2
import Derived.KernelRfl
namespace Go.Kb
end Go.Kb
