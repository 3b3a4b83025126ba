/- The texts of functions, printed by a program, and the equations of their runs. -/
import Derived.Test.YticidpdbkjgebaaDoorExactTextReportsF1
import Derived.Test.YticidpdbkjgebaaDoorExactTextReportsF2
import Derived.Test.YticidpdbkjgebaaDoorExactTextReportsF3
import Derived.Test.YticidpdbkjgebaaDoorExactTextReportsF4
import Derived.KernelRfl
namespace Go.Kb
end Go.Kb
