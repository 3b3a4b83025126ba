/- May a report be dropped? Is it a pipe? -/
import Derived.Test.YticidpdbkjgebaaDoorExactTextReportsP13
namespace Go.Kb

/-! ### a pipe -/
end Go.Kb
