/- The texts of functions, printed by a program, and the equations of their runs. -/
import Derived.Test.YtokploahoidhoabExactTakeReportF1
import Derived.Test.YtokploahoidhoabExactTakeReportF2
import Derived.Test.YtokploahoidhoabExactTakeReportF3
import Derived.KernelRfl
namespace Go.Kb
end Go.Kb
