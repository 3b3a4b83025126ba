/- Draws: numbers made from bytes. -/
import Derived.Test.YtokploahoidhoabExactPushAllP3
namespace Go.Kb

end Go.Kb
