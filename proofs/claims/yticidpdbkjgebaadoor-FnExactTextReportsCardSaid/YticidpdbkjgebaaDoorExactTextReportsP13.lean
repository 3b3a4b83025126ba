/- Reports: sizes, copies; is it a report; the new keys. -/
import Derived.Test.YticidpdbkjgebaaDoorExactTextReportsP8
namespace Go.Kb

abbrev Rpt := Int × List Int
def smallR (r : Rpt) : Prop := r.2.length ≤ 1048576

theorem eqReport_eq (N : Nat) (hN : 1048576 < N) (a b : Rpt) (h : smallR a) : laws_eqReport.F N (a, b) = some (decide (a = b)) := by
  unfold smallR at h
  rw [laws_eqReport.F_eq, eqIntS_eq N a.2 b.2 (by omega) (by unfold maxN; omega), bindV]
  obtain ⟨x, xs⟩ := a
  obtain ⟨y, ys⟩ := b
  by_cases h1 : x = y
  · by_cases h2 : xs = ys
    · simp [h1, h2]
    · simp [h1, h2]
  · have : (x != y) = true := by rw [bneI]; simp only [h1, decide_false, notF]
    simp [this, h1]

def smallRS (a : List Rpt) : Prop := a.length ≤ 1048576 ∧ ∀ x ∈ a, smallR x

theorem eqReportS_eq (N : Nat) (hN : 1048576 < N) (a b : List Rpt) (h : smallRS a) : laws_eqReportS.F N (a, b) = some (decide (a = b)) := by
  obtain ⟨h1, h2⟩ := h
  have hm : a.length ≤ maxN := by unfold maxN; omega
  rw [laws_eqReportS.F_eq]
  by_cases hl : a.length = b.length
  · have : ((a.length : Int) != (b.length : Int)) = false := by simp [hl]
    rw [this, condF]
    have := eqLoop (0, []) (fun n a b i => laws_eqReportS.L1 N n a b i) (fun x => laws_eqReport.F N x) a b (fun n i => laws_eqReportS.L1_eq N n a b i) (fun x hx y => eqReport_eq N hN x y (h2 x hx)) N 0 hm hl.symm (by omega) (by omega)
    simpa using this
  · have h1 : ((a.length : Int) != (b.length : Int)) = true := by simp; omega
    have h2 : a ≠ b := fun e => hl (by rw [e])
    rw [h1, condT]
    simp [h2]

/-! ### is it a report? -/
theorem isCode_eq (N : Nat) (x : Int) : impl_isCode.F N x = some (decide (1 ≤ x ∧ x ≤ 56)) := by
  rw [impl_isCode.F_eq]
  by_cases a : 1 ≤ x <;> by_cases b : x ≤ 56 <;> simp [a, b]

/-! ### the new keys -/
end Go.Kb
