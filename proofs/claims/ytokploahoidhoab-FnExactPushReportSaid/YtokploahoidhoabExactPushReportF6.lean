/- The texts of functions, printed by a program, and the equations of their runs. -/
import Derived.Test.YtokploahoidhoabExactPushReportF1
import Derived.Test.YtokploahoidhoabExactPushReportF2
import Derived.Test.YtokploahoidhoabExactPushReportF3
import Derived.Test.YtokploahoidhoabExactPushReportF4
import Derived.Test.YtokploahoidhoabExactPushReportF5
import Derived.KernelRfl
namespace Go.Kb
end Go.Kb
