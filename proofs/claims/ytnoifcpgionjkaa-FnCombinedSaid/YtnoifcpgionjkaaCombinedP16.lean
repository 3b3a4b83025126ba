/- Lists of combos: the program answers as the reference. -/
import Derived.Test.YtnoifcpgionjkaaCombinedP15
namespace Go.Kb

abbrev Cb := Int × Int

theorem Combos_L2 (N n1 : Nat) (l : List Cb) (i : Nat) (hi : i < l.length) (hl : l.length ≤ 1048576) (q : Bool)
    (hx : ∃ b, impl_IsCombos.L1 N n1 l l (l.length : Int) ((i + 1 : Nat) : Int) = some b ∧ spec_IsCombos.L1 N n1 l ((i + 1 : Nat) : Int) = some (b && q)) :
    ∀ (n k : Nat), k ≤ i → i < n + k → ∃ b, impl_IsCombos.L2 N n1 n l l (l.length : Int) (i : Int) (List.take i l) (i : Int) (k : Int) (l.getD i (0, 0)).1 (l.getD i (0, 0)).2 = some b ∧ spec_IsCombos.L2 N n1 n l (i : Int) (k : Int) = some (b && q) := by
  intro n
  induction n with
  | zero => intro k h1 h2; omega
  | succ n ih =>
    intro k h1 h2
    rw [impl_IsCombos.L2_eq, spec_IsCombos.L2_eq]
    have wi : IntKind.wrap .i64 ((i : Int) + 1) = ((i + 1 : Nat) : Int) := wrap_succ (by omega)
    have lt : (List.take i l).length = i := by rw [List.length_take]; omega
    by_cases hk : k < i
    · obtain ⟨b, e1, e2⟩ := ih (k + 1) (by omega) (by omega)
      have ws : IntKind.wrap .i64 ((k : Int) + 1) = ((k + 1 : Nat) : Int) := wrap_succ (by omega)
      have hkl : k < l.length := by omega
      have g : (List.take i l).getD k (0, 0) = l.getD k (0, 0) := by
        simp only [List.getD_eq_getElem?_getD, List.getElem?_take, if_pos hk]
      simp only [Int.ofNat_lt, hk, hkl, hi, decide_true, condT, inRange_nat, nth_nat, lt, g, ws, e1, e2]
      cases (l.getD k (0, 0)).1 == (l.getD i (0, 0)).1 with
      | true => simp only [condT]; exact ⟨_, rfl, rfl⟩
      | false =>
        simp only [condF]
        cases (l.getD k (0, 0)).2 == (l.getD i (0, 0)).2 with
        | true => simp only [condT]; exact ⟨_, rfl, rfl⟩
        | false => simp only [condF]; exact ⟨_, rfl, rfl⟩
    · obtain ⟨b, e1, e2⟩ := hx
      simp only [Int.ofNat_lt, hk, decide_false, condF, wi, e1, e2]
      exact ⟨_, rfl, rfl⟩

theorem Combos_L1 (N : Nat) (hN : 1048576 < N) (l : List Cb) (hl : l.length ≤ 1048576) : ∀ (n i : Nat), i ≤ l.length → l.length < n + i →
    ∃ b, impl_IsCombos.L1 N n l l (l.length : Int) (i : Int) = some b ∧ spec_IsCombos.L1 N n l (i : Int) = some (b && decide ((l.length : Int) ≤ 8)) := by
  intro n
  induction n with
  | zero => intro i h1 h2; omega
  | succ n ih =>
    intro i h1 h2
    rw [impl_IsCombos.L1_eq, spec_IsCombos.L1_eq]
    by_cases hi : i < l.length
    · obtain ⟨b, e1, e2⟩ := Combos_L2 N n l i hi hl _ (ih (i + 1) (by omega) (by omega)) N 0 (by omega) (by omega)
      simp only [Int.natCast_zero] at e1 e2
      have lt : (List.take i l).length = i := by rw [List.length_take]; omega
      have h0 : (0 : Int) ≤ (i : Int) := by omega
      have h3 : (i : Int) ≤ (l.length : Int) := by omega
      simp only [Int.ofNat_lt, hi, decide_true, condT, inRange_nat, nth_nat, l1In_eq, bindV, lt, h0, h3, Bool.and_self, Int.toNat_natCast]
      by_cases a0 : (l.getD i (0, 0)).1 < 0
      · have q : ¬ (0 ≤ (l.getD i (0, 0)).1 ∧ (l.getD i (0, 0)).1 ≤ 16777215) := by omega
        simp only [a0, q, decide_true, decide_false, notF, condT]; exact ⟨_, rfl, rfl⟩
      · by_cases a1 : (l.getD i (0, 0)).1 > 16777215
        · have q : ¬ (0 ≤ (l.getD i (0, 0)).1 ∧ (l.getD i (0, 0)).1 ≤ 16777215) := by omega
          simp only [a0, a1, q, decide_true, decide_false, notF, condT, condF]; exact ⟨_, rfl, rfl⟩
        · have q : 0 ≤ (l.getD i (0, 0)).1 ∧ (l.getD i (0, 0)).1 ≤ 16777215 := by omega
          obtain ⟨c, o1, o2⟩ := Ones_eq N (l.getD i (0, 0)).1 q
          rw [decide_eq_true q]
          simp only [a0, a1, o1 N (by omega), o2, decide_false, notT, condF, bindV]
          by_cases a2 : (l.getD i (0, 0)).2 < 24
          · have q2 : ¬ (24 ≤ (l.getD i (0, 0)).2 ∧ (l.getD i (0, 0)).2 ≤ 31) := by omega
            simp only [a2, q2, decide_true, decide_false, notF, condT]
            cases decide (2 ≤ c ∧ c ≤ 4) with
            | true => simp only [notT, condF]; exact ⟨_, rfl, rfl⟩
            | false => simp only [notF, condT]; exact ⟨_, rfl, rfl⟩
          · by_cases a3 : (l.getD i (0, 0)).2 > 31
            · have q2 : ¬ (24 ≤ (l.getD i (0, 0)).2 ∧ (l.getD i (0, 0)).2 ≤ 31) := by omega
              simp only [a2, a3, q2, decide_true, decide_false, notF, condT, condF]
              cases decide (2 ≤ c ∧ c ≤ 4) with
              | true => simp only [notT, condF]; exact ⟨_, rfl, rfl⟩
              | false => simp only [notF, condT]; exact ⟨_, rfl, rfl⟩
            · have q2 : 24 ≤ (l.getD i (0, 0)).2 ∧ (l.getD i (0, 0)).2 ≤ 31 := by omega
              rw [decide_eq_true q2]
              simp only [a2, a3, decide_false, notT, condF]
              by_cases c0 : c < 2
              · have q3 : ¬ (2 ≤ c ∧ c ≤ 4) := by omega
                simp only [c0, q3, decide_true, decide_false, notF, condT]; exact ⟨_, rfl, rfl⟩
              · by_cases c1 : c > 4
                · have q3 : ¬ (2 ≤ c ∧ c ≤ 4) := by omega
                  simp only [c0, c1, q3, decide_true, decide_false, notF, condT, condF]; exact ⟨_, rfl, rfl⟩
                · have q3 : 2 ≤ c ∧ c ≤ 4 := by omega
                  rw [decide_eq_true q3]
                  simp only [c0, c1, decide_false, notT, condF, e1, e2]
                  exact ⟨_, rfl, rfl⟩
    · simp only [Int.ofNat_lt, hi, decide_false, condF]
      exact ⟨true, rfl, by rw [Bool.true_and]⟩

theorem Combos_same (N : Nat) (hN : 1048576 < N) (l : List Cb) (hl : l.length ≤ 1048576) : ∃ b, spec_IsCombos.F N l = some b ∧ impl_IsCombos.F N l = some b := by
  rw [spec_IsCombos.F_eq, impl_IsCombos.F_eq]
  obtain ⟨b, e1, e2⟩ := Combos_L1 N hN l hl N 0 (by omega) (by omega)
  simp only [Int.natCast_zero] at e1 e2
  rw [e1, e2]
  by_cases h : (l.length : Int) > 8
  · have q : ¬ ((l.length : Int) ≤ 8) := by omega
    simp only [h, q, decide_true, decide_false, condT, Bool.and_false]; exact ⟨_, rfl, rfl⟩
  · have q : (l.length : Int) ≤ 8 := by omega
    simp only [h, q, decide_true, decide_false, condF, Bool.and_true]; exact ⟨_, rfl, rfl⟩
end Go.Kb
