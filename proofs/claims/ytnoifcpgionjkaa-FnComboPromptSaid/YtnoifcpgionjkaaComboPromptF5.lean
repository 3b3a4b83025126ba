/- The texts of functions, printed by a program, and the equations of their runs. -/
import Derived.Test.YtnoifcpgionjkaaComboPromptF1
import Derived.Test.YtnoifcpgionjkaaComboPromptF2
import Derived.Test.YtnoifcpgionjkaaComboPromptF3
import Derived.Test.YtnoifcpgionjkaaComboPromptF4
import Derived.KernelRfl
namespace Go.Kb
end Go.Kb
