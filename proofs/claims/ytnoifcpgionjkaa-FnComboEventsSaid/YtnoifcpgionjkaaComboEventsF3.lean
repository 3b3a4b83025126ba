/- The texts of functions, printed by a program, and the equations of their runs. -/
import Derived.Test.YtnoifcpgionjkaaComboEventsF1
import Derived.Test.YtnoifcpgionjkaaComboEventsF2
import Derived.KernelRfl
namespace Go.Kb
end Go.Kb
