/- The link: one byte, all bytes, and a silent tick; the program answers as the reference. -/
import Derived.Test.YtnoifcpgionjkabExactCombineEventP2
import Derived.Test.YtnoifcpgionjkabExactCombineEventF2
import Derived.Test.YtnoifcpgionjkabKc
namespace Go.Kb

theorem wfInt {x : Int} (h : (Lit.int .i64 x).wf = true) : -9223372036854775808 ≤ x ∧ x ≤ 9223372036854775807 := by
  simp only [Lit.wf, IntKind.min, IntKind.max, IntKind.signed, IntKind.bits] at h
  simpa using h

/-! ### all bytes -/
/-! ### rows of whole numbers -/
end Go.Kb
