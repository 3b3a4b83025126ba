/- Draws: numbers made from bytes. -/
import Derived.Test.YtokploahoidhoaaExactSettingOpsP3
namespace Go.Kb

end Go.Kb
