/- Is it a flash? The program answers as the reference. -/
import Derived.Test.YticidpdbkjgebaaDoorExactTextReportsP8
namespace Go.Kb
end Go.Kb
