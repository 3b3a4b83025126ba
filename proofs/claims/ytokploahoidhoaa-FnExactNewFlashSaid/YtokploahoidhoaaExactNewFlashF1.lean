/- The texts of functions, printed by a program, and the equations of their runs. -/
import Derived.Test.YtokploahoidhoaaKa
import Derived.KernelRfl
namespace Go.Kb
end Go.Kb
