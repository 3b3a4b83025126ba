/- The new flash: a closed computation. -/
import Derived.Test.YtokploahoidhoaaExactNewFlashF20
namespace Go.Kb
theorem FnExactNewFlash_true : laws_FnExactNewFlash.F 60 () = some true := by kernel_rfl
end Go.Kb
