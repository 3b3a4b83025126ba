/- The queue of a combiner; is it a combiner? -/
import Derived.Test.YtnoifcpgionjkaaCombinedP20
namespace Go.Kb

def isEv (t k : Int) : Bool := decide (0 ≤ t ∧ t ≤ 1000000) && decide (0 ≤ k ∧ k ≤ 31)

theorem IsEv_spec (N : Nat) (t : Int) (kv : Int × Bool) : spec_IsEvent.F N (t, kv) = some (isEv t kv.1) := by
  rw [spec_IsEvent.F_eq]
  simp only [l1In_eq, bindV]
  unfold isEv
  cases decide (0 ≤ t ∧ t ≤ 1000000) with
  | true => simp only [condT, Bool.true_and]
  | false => simp only [condF, Bool.false_and]

theorem IsEv_impl (N : Nat) (t : Int) (kv : Int × Bool) : impl_IsEvent.F N (t, kv) = some (isEv t kv.1) := by
  rw [impl_IsEvent.F_eq]
  unfold isEv
  by_cases a : 0 ≤ t <;> by_cases b : t ≤ 1000000 <;> by_cases c : 0 ≤ kv.1 <;> by_cases d : kv.1 ≤ 31 <;> simp [a, b, c, d]

theorem Follow_L1 (N : Nat) (l : List Ev) (hl : l.length ≤ 1100000) (keys : Int) : ∀ (n i : Nat) (held from_ : Int), i ≤ l.length → l.length < n + i → (i = 0 → from_ = 0) → (0 < i → from_ = (l.getD (i - 1) (0, 0, false)).1) →
    ∃ R : Int × Bool, impl_follow.L1 N n l held l (l.length : Int) (i : Int) = some R ∧
      spec_l10Follows.L1 N n l held keys from_ (i : Int) = some ((l.drop i).all (fun x => decide (x.2.1 < keys)) && (R.2 && decide ((l.length : Int) ≤ 64))) := by
  intro n
  induction n with
  | zero => intro i held from_ h1 h2; omega
  | succ n ih =>
    intro i held from_ h1 h2 h3 h4
    rw [impl_follow.L1_eq, spec_l10Follows.L1_eq]
    by_cases hi : i < l.length
    · have ws : IntKind.wrap .i64 ((i : Int) + 1) = ((i + 1 : Nat) : Int) := wrap_succ (by omega)
      obtain ⟨R, e1, e2⟩ := ih (i + 1) (bitXor .i64 held (shiftL .i64 1 (l.getD i (0, 0, false)).2.1)) (l.getD i (0, 0, false)).1 (by omega) (by omega) (by omega) (by intro _; rw [show i + 1 - 1 = i by omega])
      simp only [Int.ofNat_lt, hi, decide_true, condT, inRange_nat, nth_nat, ws, IsEv_spec, IsEv_impl, bindV, e1, e2]
      rw [drop_cons (0, 0, false) l i hi, List.all_cons]
      cases hv : isEv (l.getD i (0, 0, false)).1 (l.getD i (0, 0, false)).2.1 with
      | false =>
        simp only [notF, condT]
        exact ⟨(0, false), rfl, by simp only [Bool.false_and, Bool.and_false]⟩
      | true =>
        unfold isEv at hv
        simp only [Bool.and_eq_true, decide_eq_true_eq] at hv
        obtain ⟨⟨t1, t2⟩, k1, k2⟩ := hv
        simp only [notT, condF, k1, decide_true, condT, impl_bit.F_eq, bindV]
        have hk : decide ((l.getD i (0, 0, false)).2.1 ≥ keys) = !decide ((l.getD i (0, 0, false)).2.1 < keys) := by
          by_cases h : (l.getD i (0, 0, false)).2.1 < keys
          · rw [decide_eq_true h, decide_eq_false (by omega), notT]
          · rw [decide_eq_false h, decide_eq_true (by omega), notF]
        rw [hk]
        by_cases h0 : (i : Int) > 0
        · have wp : IntKind.wrap .i64 ((i : Int) - 1) = ((i - 1 : Nat) : Int) := by rw [wrap64 (by omega) (by omega)]; omega
          have hp : i - 1 < l.length := by omega
          have hf := h4 (by omega)
          have hgt : decide ((l.getD (i - 1) (0, 0, false)).1 > (l.getD i (0, 0, false)).1) = decide ((l.getD i (0, 0, false)).1 < from_) := by rw [hf]
          simp only [h0, decide_true, condT, wp, inRange_nat, hp, nth_nat, hgt]
          cases decide ((l.getD i (0, 0, false)).2.1 < keys) with
          | false =>
            simp only [notF, condT, Bool.false_and]
            cases decide ((l.getD i (0, 0, false)).1 < from_) with
            | true => simp only [condT]; exact ⟨_, rfl, trivial⟩
            | false =>
              simp only [condF]
              cases (l.getD i (0, 0, false)).2.2 == (bitAnd .i64 (shiftR .i64 held (l.getD i (0, 0, false)).2.1) 1 == 1) with
              | true => simp only [condT]; exact ⟨_, rfl, trivial⟩
              | false => simp only [condF]; exact ⟨_, rfl, trivial⟩
          | true =>
            simp only [notT, condF, Bool.true_and]
            cases decide ((l.getD i (0, 0, false)).1 < from_) with
            | true => simp only [condT]; exact ⟨_, rfl, by simp only [Bool.false_and, Bool.and_false]⟩
            | false =>
              simp only [condF]
              cases (l.getD i (0, 0, false)).2.2 == (bitAnd .i64 (shiftR .i64 held (l.getD i (0, 0, false)).2.1) 1 == 1) with
              | true => simp only [condT]; exact ⟨_, rfl, by simp only [Bool.false_and, Bool.and_false]⟩
              | false => simp only [condF]; exact ⟨_, rfl, rfl⟩
        · have hf := h3 (by omega)
          have hlt : decide ((l.getD i (0, 0, false)).1 < from_) = false := by rw [hf]; exact decide_eq_false (by omega)
          simp only [h0, decide_false, condF, hlt]
          cases decide ((l.getD i (0, 0, false)).2.1 < keys) with
          | false =>
            simp only [notF, condT, Bool.false_and]
            cases (l.getD i (0, 0, false)).2.2 == (bitAnd .i64 (shiftR .i64 held (l.getD i (0, 0, false)).2.1) 1 == 1) with
            | true => simp only [condT]; exact ⟨_, rfl, trivial⟩
            | false => simp only [condF]; exact ⟨_, rfl, trivial⟩
          | true =>
            simp only [notT, condF, Bool.true_and]
            cases (l.getD i (0, 0, false)).2.2 == (bitAnd .i64 (shiftR .i64 held (l.getD i (0, 0, false)).2.1) 1 == 1) with
            | true => simp only [condT]; exact ⟨_, rfl, by simp only [Bool.false_and, Bool.and_false]⟩
            | false => simp only [condF]; exact ⟨_, rfl, rfl⟩
    · simp only [Int.ofNat_lt, hi, decide_false, condF]
      rw [List.drop_of_length_le (by omega)]
      exact ⟨(held, true), rfl, by simp only [List.all_nil, Bool.true_and]⟩

theorem Queue_L1 (N : Nat) (l : List Ev) (hl : l.length ≤ 1100000) (down keys : Int) (R : Int × Bool) (hR : impl_follow.F N (l, down) = some R) : ∀ (n i : Nat), i ≤ l.length → l.length < n + i →
    impl_queueFits.L1 N n l down keys l (l.length : Int) (i : Int) = some ((l.drop i).all (fun x => decide (x.2.1 < keys)) && R.2) := by
  intro n
  induction n with
  | zero => intro i h1 h2; omega
  | succ n ih =>
    intro i h1 h2
    rw [impl_queueFits.L1_eq]
    by_cases hi : i < l.length
    · have ws : IntKind.wrap .i64 ((i : Int) + 1) = ((i + 1 : Nat) : Int) := wrap_succ (by omega)
      simp only [Int.ofNat_lt, hi, decide_true, condT, inRange_nat, nth_nat, ws, ih (i + 1) (by omega) (by omega)]
      rw [drop_cons (0, 0, false) l i hi, List.all_cons]
      by_cases h : (l.getD i (0, 0, false)).2.1 < keys
      · have h' : ¬ ((l.getD i (0, 0, false)).2.1 ≥ keys) := by omega
        simp only [h, h', decide_true, decide_false, condF, Bool.true_and]
      · have h' : (l.getD i (0, 0, false)).2.1 ≥ keys := by omega
        simp only [h, h', decide_true, decide_false, condT, Bool.false_and]
    · simp only [Int.ofNat_lt, hi, decide_false, condF, hR, bindV]
      rw [List.drop_of_length_le (by omega), List.all_nil, Bool.true_and]

theorem Queue_same (N : Nat) (hN : 1100000 < N) (l : List Ev) (hl : l.length ≤ 1100000) (down : Int) : ∃ b, spec_l10Follows.F N (l, down, 24, 0) = some b ∧ impl_queueFits.F N (l, down, 24) = some b := by
  rw [spec_l10Follows.F_eq, impl_queueFits.F_eq]
  obtain ⟨R, e1, e2⟩ := Follow_L1 N l hl 24 N 0 down 0 (by omega) (by omega) (fun _ => rfl) (by omega)
  simp only [Int.natCast_zero] at e1 e2
  have hF : impl_follow.F N (l, down) = some (if (l.length : Int) ≤ 64 then R else (0, false)) := by
    rw [impl_follow.F_eq]
    by_cases h : (l.length : Int) ≤ 64
    · have h' : ¬ ((l.length : Int) > 64) := by omega
      simp only [h', decide_false, condF, e1, if_pos h]
    · have h' : (l.length : Int) > 64 := by omega
      simp only [h', decide_true, condT, if_neg h]
  have q := Queue_L1 N l hl down 24 _ hF N 0 (by omega) (by omega)
  simp only [Int.natCast_zero] at q
  rw [e2, q]
  refine ⟨_, rfl, ?_⟩
  by_cases h : (l.length : Int) ≤ 64
  · rw [if_pos h, decide_eq_true h, Bool.and_true]
  · rw [if_neg h, decide_eq_false h, Bool.and_false, Bool.and_false, Bool.and_false]
end Go.Kb
