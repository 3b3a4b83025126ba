/- Draws: numbers made from bytes. -/
import Derived.Test.YtokploahoidhoaaExactDoFlashP3
namespace Go.Kb

end Go.Kb
