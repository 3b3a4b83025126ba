/- The draws of events. -/
import Derived.Test.YtnoifcpgionjkaaComboPromptP23
namespace Go.Kb

end Go.Kb
