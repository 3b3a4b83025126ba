/- The exact row of PushReport. -/
import Derived.Test.YtokploahoidhoabExactPushAllP72
namespace Go.Kb
set_option maxRecDepth 100000

end Go.Kb
