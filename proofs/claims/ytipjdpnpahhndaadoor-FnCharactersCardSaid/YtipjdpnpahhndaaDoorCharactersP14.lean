/- May a report be dropped? Is it a pipe? -/
import Derived.Test.YtipjdpnpahhndaaDoorCharactersP13
namespace Go.Kb

/-! ### a pipe -/
end Go.Kb
