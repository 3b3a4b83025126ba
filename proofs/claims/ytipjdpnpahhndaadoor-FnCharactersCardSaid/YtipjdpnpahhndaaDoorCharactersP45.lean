/- Drawn reports; a report that may be dropped hides nothing that is typed. -/
import Derived.Test.YtipjdpnpahhndaaDoorCharactersP44
import Derived.Test.YtipjdpnpahhndaaDoorCharactersP4
namespace Go.Kb
set_option maxRecDepth 100000

end Go.Kb
