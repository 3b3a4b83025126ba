/- Frames: what the program's link says is what the reference's says. -/
import Derived.Test.YticidpdbkjgebaaDoorExactTextReportsP1
namespace Go.Kb

end Go.Kb
