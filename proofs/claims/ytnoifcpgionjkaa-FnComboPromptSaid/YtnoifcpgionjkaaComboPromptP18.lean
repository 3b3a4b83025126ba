/- A new combiner, whole. -/
import Derived.Test.YtnoifcpgionjkaaComboPromptP17
namespace Go.Kb

end Go.Kb
