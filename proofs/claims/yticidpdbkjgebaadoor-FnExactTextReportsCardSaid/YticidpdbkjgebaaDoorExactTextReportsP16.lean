/- Lists of combos: the program answers as the reference. -/
import Derived.Test.YticidpdbkjgebaaDoorExactTextReportsP15
namespace Go.Kb

abbrev Cb := Int × Int

end Go.Kb
