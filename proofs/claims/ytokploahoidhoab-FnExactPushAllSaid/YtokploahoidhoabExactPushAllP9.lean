/- Is it a flash? The program answers as the reference. -/
import Derived.Test.YtokploahoidhoabExactPushAllP8
namespace Go.Kb
end Go.Kb
