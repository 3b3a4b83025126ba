/- The combos that are active: the program's checks and the reference's. -/
import Derived.Test.YtnoifcpgionjkaaComboEventsP18
import Derived.Test.YtnoifcpgionjkaaComboEventsF5
namespace Go.Kb

abbrev Ev := Int × Int × Bool

/-! ### which combo gives a key -/
theorem combosT_L2 (N n1 : Nat) (l : List Cb) (len i : Int) (tk : List Cb) (m : Int) (x y : Int) : ∀ (n : Nat) (k : Int), impl_IsCombos.L2 N n1 n l l len i tk m k x y = some true → impl_IsCombos.L1 N n1 l l len (IntKind.wrap .i64 (i + 1)) = some true := by
  intro n
  induction n with
  | zero => intro k h; rw [impl_IsCombos.L2_zero] at h; cases h
  | succ n ih =>
    intro k h
    rw [impl_IsCombos.L2_eq] at h
    cases h1 : decide (k < m) with
    | false => rw [h1, condF] at h; exact h
    | true =>
      rw [h1, condT] at h
      cases h2 : inRange k tk.length with
      | false => rw [h2, condF] at h; cases h
      | true =>
        rw [h2, condT] at h
        cases h3 : (nth (0, 0) tk k).1 == x with
        | true => rw [h3, condT] at h; cases h
        | false =>
          rw [h3, condF] at h
          cases h4 : (nth (0, 0) tk k).2 == y with
          | true => rw [h4, condT] at h; cases h
          | false => rw [h4, condF] at h; exact ih _ h

theorem combosT_L1 (N : Nat) (l : List Cb) (hl : l.length ≤ 1048576) : ∀ (n i : Nat), i ≤ l.length → impl_IsCombos.L1 N n l l (l.length : Int) (i : Int) = some true → ∀ x ∈ l.drop i, 24 ≤ x.2 ∧ x.2 ≤ 31 := by
  intro n
  induction n with
  | zero => intro i h0 h; rw [impl_IsCombos.L1_zero] at h; cases h
  | succ n ih =>
    intro i h0 h x hx
    by_cases hi : i < l.length
    · have ws : IntKind.wrap .i64 ((i : Int) + 1) = ((i + 1 : Nat) : Int) := wrap_succ (by omega)
      rw [impl_IsCombos.L1_eq] at h
      simp only [Int.ofNat_lt, hi, decide_true, condT, inRange_nat, nth_nat] at h
      by_cases a0 : (l.getD i (0, 0)).1 < 0
      · simp only [a0, decide_true, condT] at h; cases h
      · by_cases a1 : (l.getD i (0, 0)).1 > 16777215
        · simp only [a0, a1, decide_true, decide_false, condT, condF] at h; cases h
        · by_cases a2 : (l.getD i (0, 0)).2 < 24
          · simp only [a0, a1, a2, decide_true, decide_false, condT, condF] at h; cases h
          · by_cases a3 : (l.getD i (0, 0)).2 > 31
            · simp only [a0, a1, a2, a3, decide_true, decide_false, condT, condF] at h; cases h
            · obtain ⟨c, _, o2⟩ := Ones_eq N (l.getD i (0, 0)).1 (by omega)
              simp only [a0, a1, a2, a3, o2, decide_false, condF, bindV] at h
              by_cases c0 : c < 2
              · simp only [c0, decide_true, condT] at h; cases h
              · by_cases c1 : c > 4
                · simp only [c0, c1, decide_true, decide_false, condT, condF] at h; cases h
                · have g1 : (0 : Int) ≤ (i : Int) := by omega
                  have g2 : (i : Int) ≤ (l.length : Int) := by omega
                  simp only [c0, c1, g1, g2, decide_true, decide_false, condF, Bool.and_self, condT] at h
                  have h := combosT_L2 N n l _ _ _ _ _ _ N 0 h
                  rw [ws] at h
                  rw [drop_cons (0, 0) l i hi] at hx
                  rcases List.mem_cons.1 hx with rfl | hx
                  · omega
                  · exact ih (i + 1) (by omega) h x hx
    · rw [List.drop_of_length_le (by omega)] at hx
      cases hx

theorem combosT (N : Nat) (l : List Cb) (hl : l.length ≤ 1048576) (h : impl_IsCombos.F N l = some true) : ∀ x ∈ l, 24 ≤ x.2 ∧ x.2 ≤ 31 := by
  rw [impl_IsCombos.F_eq] at h
  by_cases a : (l.length : Int) > 8
  · simp only [a, decide_true, condT] at h; cases h
  · simp only [a, decide_false, condF] at h
    have := combosT_L1 N l hl N 0 (by omega) h
    simpa using this

/-! ### what is held -/
end Go.Kb
