/- The texts of functions, printed by a program, and the equations of their runs. -/
import Derived.Test.YtnoifcpgionjkaaComboEventsF1
import Derived.Test.YtnoifcpgionjkaaComboEventsF2
import Derived.Test.YtnoifcpgionjkaaComboEventsF3
import Derived.Test.YtnoifcpgionjkaaComboEventsF4
import Derived.KernelRfl
namespace Go.Kb
end Go.Kb
