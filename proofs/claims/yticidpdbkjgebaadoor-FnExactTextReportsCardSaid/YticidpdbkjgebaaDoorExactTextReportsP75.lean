/- Reports as values: keys, new keys, what may be dropped. -/
import Derived.Test.YticidpdbkjgebaaDoorExactTextReportsP14
namespace Go.Kb
set_option maxRecDepth 100000

/-! ### may a report be left out? -/
end Go.Kb
