/- The texts of functions, printed by a program, and the equations of their runs. -/
import Derived.Test.YtokploahoidhoabExactTakeReportF1
import Derived.Test.YtokploahoidhoabExactTakeReportF2
import Derived.Test.YtokploahoidhoabExactTakeReportF3
import Derived.Test.YtokploahoidhoabExactTakeReportF4
import Derived.Test.YtokploahoidhoabExactTakeReportF5
import Derived.Test.YtokploahoidhoabExactTakeReportF6
import Derived.Test.YtokploahoidhoabExactTakeReportF7
import Derived.Test.YtokploahoidhoabExactTakeReportF8
import K36
import Derived.KernelRfl
namespace Go.Kb
end Go.Kb
