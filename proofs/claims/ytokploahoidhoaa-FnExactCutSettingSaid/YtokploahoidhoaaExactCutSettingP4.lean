/- Draws: numbers made from bytes. -/
import Derived.Test.YtokploahoidhoaaExactCutSettingP3
namespace Go.Kb

end Go.Kb
