/- The free record of a page. -/
import Derived.Test.YtokploahoidhoabExactPushAllP10
namespace Go.Kb

theorem bounds_of {a b : Int} {n : Nat} (h0 : 0 ≤ a) (h1 : a ≤ b) (h2 : b ≤ n) : bounds a b n = true := by
  unfold bounds
  simp only [Bool.and_eq_true, decide_eq_true_eq]
  omega

end Go.Kb
