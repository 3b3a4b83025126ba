/- Draws: numbers made from bytes. -/
import Derived.Test.YtokploahoidhoaaExactWriteSettingP3
namespace Go.Kb

end Go.Kb
