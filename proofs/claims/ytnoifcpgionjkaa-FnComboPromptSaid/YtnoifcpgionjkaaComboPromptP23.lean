/- The draws of a combiner. -/
import Derived.Test.YtnoifcpgionjkaaComboPromptP22
import Derived.Test.YtnoifcpgionjkaaComboPromptF6
namespace Go.Kb

end Go.Kb
