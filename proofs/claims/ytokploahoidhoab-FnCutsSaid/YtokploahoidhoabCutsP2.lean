/- Frames: what the program's link says is what the reference's says. -/
import Derived.Test.YtokploahoidhoabCutsP1
namespace Go.Kb

end Go.Kb
