/- Reports as values: keys, new keys, what may be dropped. -/
import Derived.Test.YtokploahoidhoabExactTakeReportP14
namespace Go.Kb
set_option maxRecDepth 100000

def okK : Int → List Int → Bool
  | _, [] => true
  | p, x :: r => decide (1 ≤ x ∧ x ≤ 56) && (decide (p < x) && okK x r)
def rpB (r : Rpt) : Bool := decide (0 ≤ r.1 ∧ r.1 ≤ 15) && okK 0 r.2
theorem okK_cons (p x : Int) (r : List Int) : okK p (x :: r) = (decide (1 ≤ x ∧ x ≤ 56) && (decide (p < x) && okK x r)) := rfl
def prevK (l : List Int) (i : Nat) : Int := if i = 0 then 0 else l.getD (i - 1) 0

theorem IsReport_v (N : Nat) (m : Int) (l : List Int) (hl : l.length ≤ 1048576) : ∀ (n i : Nat), i ≤ l.length → l.length < n + i →
    impl_IsReport.L1 N n l (l.length : Int) (i : Int) m l = some (okK (prevK l i) (l.drop i)) := by
  intro n
  induction n with
  | zero => intro i h1 h2; omega
  | succ n ih =>
    intro i h1 h2
    rw [impl_IsReport.L1_eq]
    by_cases hi : i < l.length
    · have ws : IntKind.wrap .i64 ((i : Int) + 1) = ((i + 1 : Nat) : Int) := wrap_succ (by omega)
      have hpk : prevK l (i + 1) = l.getD i 0 := by unfold prevK; rw [if_neg (by omega), Nat.add_sub_cancel]
      rw [drop_cons 0 l i hi, okK_cons]
      simp only [Int.ofNat_lt, hi, decide_true, condT, inRange_nat, nth_nat, isCode_eq, bindV, ws, ih (i + 1) (by omega) (by omega), hpk]
      by_cases hc : 1 ≤ l.getD i 0 ∧ l.getD i 0 ≤ 56
      · rw [decide_eq_true hc]
        simp only [notT, condF, Bool.true_and]
        by_cases h0 : (i : Int) > 0
        · have wp : IntKind.wrap .i64 ((i : Int) - 1) = ((i - 1 : Nat) : Int) := by rw [wrap64 (by omega) (by omega)]; omega
          have hp : i - 1 < l.length := by omega
          have hq : prevK l i = l.getD (i - 1) 0 := by unfold prevK; rw [if_neg (by omega)]
          simp only [h0, decide_true, condT, wp, inRange_nat, hp, nth_nat, hq]
          by_cases hlt : l.getD (i - 1) 0 < l.getD i 0
          · rw [decide_eq_true hlt, decide_eq_false (by omega)]; simp only [condF, Bool.true_and]
          · rw [decide_eq_false hlt, decide_eq_true (by omega)]; simp only [condT, Bool.false_and]
        · have hq : prevK l i = 0 := by unfold prevK; rw [if_pos (by omega)]
          rw [hq, decide_eq_true (by omega : (0 : Int) < l.getD i 0)]
          simp only [h0, decide_false, condF, Bool.true_and]
      · rw [decide_eq_false hc]
        simp only [notF, condT, Bool.false_and]
    · rw [List.drop_eq_nil_of_le (by omega)]
      simp only [Int.ofNat_lt, hi, decide_false, condF]
      rfl
theorem IsReport_eq (N : Nat) (hN : 1048576 < N) (r : Rpt) (h : smallR r) : impl_IsReport.F N r = some (rpB r) := by
  unfold smallR at h
  have e1 := IsReport_v N r.1 r.2 h N 0 (by omega) (by omega)
  rw [Int.natCast_zero, List.drop_zero] at e1
  have e0 : prevK r.2 0 = 0 := rfl
  rw [impl_IsReport.F_eq, e1, e0]
  unfold rpB
  by_cases a : r.1 < 0
  · have q : ¬ (0 ≤ r.1 ∧ r.1 ≤ 15) := by omega
    simp only [a, q, decide_true, decide_false, condT, Bool.false_and]
  · by_cases c : r.1 > 15
    · have q : ¬ (0 ≤ r.1 ∧ r.1 ≤ 15) := by omega
      simp only [a, c, q, decide_true, decide_false, condT, condF, Bool.false_and]
    · have q : 0 ≤ r.1 ∧ r.1 ≤ 15 := by omega
      rw [decide_eq_true q]
      simp only [a, c, decide_false, condF, Bool.true_and]

/-! ### may a report be left out? -/
end Go.Kb
