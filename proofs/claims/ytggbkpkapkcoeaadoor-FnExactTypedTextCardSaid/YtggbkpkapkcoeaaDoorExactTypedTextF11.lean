/- The texts of functions, printed by a program, and the equations of their runs. -/
import Derived.Test.YtggbkpkapkcoeaaDoorExactTypedTextF1
import Derived.Test.YtggbkpkapkcoeaaDoorExactTypedTextF2
import Derived.Test.YtggbkpkapkcoeaaDoorExactTypedTextF3
import Derived.Test.YtggbkpkapkcoeaaDoorExactTypedTextF4
import Derived.Test.YtggbkpkapkcoeaaDoorExactTypedTextF5
import Derived.Test.YtggbkpkapkcoeaaDoorExactTypedTextF6
import Derived.Test.YtggbkpkapkcoeaaDoorExactTypedTextF7
import Derived.Test.YtggbkpkapkcoeaaDoorExactTypedTextF8
import Derived.Test.YtggbkpkapkcoeaaDoorExactTypedTextF9
import Derived.Test.YtggbkpkapkcoeaaDoorExactTypedTextF10
import Derived.KernelRfl
namespace Go.Kb
end Go.Kb
