/- Is it a combiner? Whole. -/
import Derived.Test.YtnoifcpgionjkaaComboEventsP21
namespace Go.Kb

structure smallC (c : Cm) : Prop where
  a : c.1.length ≤ 1048576
  b : c.2.2.1.length ≤ 1048576
  d : c.2.2.2.2.2.2.length ≤ 1048576

/-! ### sizes, copies, comparisons -/
structure wellC (c : Cm) : Prop where
  a : c.1.length ≤ maxLen
  b : c.2.2.1.length ≤ maxLen
  d : c.2.2.2.2.2.2.length ≤ maxLen
  m : ∀ x ∈ c.2.2.2.2.2.2, x.2.1 ≤ 9223372036854775807

end Go.Kb
