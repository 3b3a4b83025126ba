/- One step on the flash: the reference and the program give back the plain value. -/
import Derived.Test.YtokploahoidhoaaExactSettingOpsP64
namespace Go.Kb
set_option maxRecDepth 100000

theorem getD_cOk {f : Fl} (h : okF f = true) {p : Nat} (hp : p < 2) : 0 ≤ f.2.getD p 0 ∧ f.2.getD p 0 ≤ 1000 := by
  obtain ⟨_, b, _, d⟩ := okF_facts h
  exact cOk_facts (d _ (nth_mem 0 f.2 p (by omega)))
end Go.Kb
