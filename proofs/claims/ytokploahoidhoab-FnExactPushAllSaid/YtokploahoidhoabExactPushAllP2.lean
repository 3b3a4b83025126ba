/- Frames: what the program's link says is what the reference's says. -/
import Derived.Test.YtokploahoidhoabExactPushAllP1
namespace Go.Kb

def f5 (n m : Int) : List Int := [85, n, m % 256, m / 256 % 256, m / 65536]
end Go.Kb
