/- The queue of a combiner; is it a combiner? -/
import Derived.Test.YtnoifcpgionjkaaComboEventsP20
namespace Go.Kb

def isEv (t k : Int) : Bool := decide (0 ≤ t ∧ t ≤ 1000000) && decide (0 ≤ k ∧ k ≤ 31)

theorem IsEv_spec (N : Nat) (t : Int) (kv : Int × Bool) : spec_IsEvent.F N (t, kv) = some (isEv t kv.1) := by
  rw [spec_IsEvent.F_eq]
  simp only [l1In_eq, bindV]
  unfold isEv
  cases decide (0 ≤ t ∧ t ≤ 1000000) with
  | true => simp only [condT, Bool.true_and]
  | false => simp only [condF, Bool.false_and]

theorem IsEv_impl (N : Nat) (t : Int) (kv : Int × Bool) : impl_IsEvent.F N (t, kv) = some (isEv t kv.1) := by
  rw [impl_IsEvent.F_eq]
  unfold isEv
  by_cases a : 0 ≤ t <;> by_cases b : t ≤ 1000000 <;> by_cases c : 0 ≤ kv.1 <;> by_cases d : kv.1 ≤ 31 <;> simp [a, b, c, d]

theorem Queue_L1 (N : Nat) (l : List Ev) (hl : l.length ≤ 1100000) (down keys : Int) (R : Int × Bool) (hR : impl_follow.F N (l, down) = some R) : ∀ (n i : Nat), i ≤ l.length → l.length < n + i →
    impl_queueFits.L1 N n l down keys l (l.length : Int) (i : Int) = some ((l.drop i).all (fun x => decide (x.2.1 < keys)) && R.2) := by
  intro n
  induction n with
  | zero => intro i h1 h2; omega
  | succ n ih =>
    intro i h1 h2
    rw [impl_queueFits.L1_eq]
    by_cases hi : i < l.length
    · have ws : IntKind.wrap .i64 ((i : Int) + 1) = ((i + 1 : Nat) : Int) := wrap_succ (by omega)
      simp only [Int.ofNat_lt, hi, decide_true, condT, inRange_nat, nth_nat, ws, ih (i + 1) (by omega) (by omega)]
      rw [drop_cons (0, 0, false) l i hi, List.all_cons]
      by_cases h : (l.getD i (0, 0, false)).2.1 < keys
      · have h' : ¬ ((l.getD i (0, 0, false)).2.1 ≥ keys) := by omega
        simp only [h, h', decide_true, decide_false, condF, Bool.true_and]
      · have h' : (l.getD i (0, 0, false)).2.1 ≥ keys := by omega
        simp only [h, h', decide_true, decide_false, condT, Bool.false_and]
    · simp only [Int.ofNat_lt, hi, decide_false, condF, hR, bindV]
      rw [List.drop_of_length_le (by omega), List.all_nil, Bool.true_and]

end Go.Kb
