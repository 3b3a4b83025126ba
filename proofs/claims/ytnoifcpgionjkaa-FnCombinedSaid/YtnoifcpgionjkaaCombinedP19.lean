/- The combos that are active: the program's checks and the reference's. -/
import Derived.Test.YtnoifcpgionjkaaCombinedP18
import Derived.Test.YtnoifcpgionjkaaCombinedF5
namespace Go.Kb

abbrev Ev := Int × Int × Bool

theorem bitAnd_comm (k : IntKind) (x y : Int) : bitAnd k x y = bitAnd k y x := by
  unfold bitAnd bitsOf
  simp only [BitVec.and_comm]

theorem andNot_zero (m : Int) (h0 : 0 < m) (h1 : m ≤ 9223372036854775807) : (bitAndNot .i64 m 0 != 0) = true := by
  obtain ⟨n, rfl⟩ := Int.eq_ofNat_of_zero_le (by omega : 0 ≤ m)
  have e : bitAndNot .i64 (n : Int) 0 = (n : Int) := by
    show IntKind.i64.wrap ((BitVec.ofInt 64 (n : Int) &&& ~~~(BitVec.ofInt 64 0)).toNat : Int) = _
    have z : (~~~(BitVec.ofInt 64 0)) = BitVec.allOnes 64 := by decide
    rw [z, BitVec.and_allOnes, BitVec.ofInt_natCast, BitVec.toNat_ofNat, Nat.mod_eq_of_lt (by omega), wrap64 (by omega) (by omega)]
  rw [e, bneI]
  have : ¬ ((n : Int) = 0) := by omega
  simp only [this, decide_false, notF]

/-! ### which combo gives a key -/
theorem comboOf_L1 (N : Nat) (out : Int) (l : List Cb) (hl : l.length ≤ 1048576) : ∀ (n i : Nat), i ≤ l.length → l.length < n + i →
    ∃ (e : Cb) (w : Bool) (r : Int), impl_comboOf.L1 N n out l (l.length : Int) (i : Int) = some (e, w) ∧ spec_l11Keys.L1 N n l out (i : Int) = some r ∧ (w = true → e ∈ l ∧ e.2 = out ∧ e.1 = r) ∧ (w = false → r = 0) := by
  intro n
  induction n with
  | zero => intro i h1 h2; omega
  | succ n ih =>
    intro i h1 h2
    rw [impl_comboOf.L1_eq, spec_l11Keys.L1_eq]
    by_cases hi : i < l.length
    · obtain ⟨e, w, r, e1, e2, e3, e4⟩ := ih (i + 1) (by omega) (by omega)
      have ws : IntKind.wrap .i64 ((i : Int) + 1) = ((i + 1 : Nat) : Int) := wrap_succ (by omega)
      simp only [Int.ofNat_lt, hi, decide_true, condT, inRange_nat, nth_nat, ws, e1, e2]
      by_cases a : (l.getD i (0, 0)).2 = out
      · have b : ((l.getD i (0, 0)).2 == out) = true := by rw [beqI]; exact decide_eq_true a
        simp only [b, condT]
        exact ⟨_, true, _, rfl, rfl, fun _ => ⟨nth_mem _ _ _ hi, a, rfl⟩, fun h => by cases h⟩
      · have b : ((l.getD i (0, 0)).2 == out) = false := by rw [beqI]; exact decide_eq_false a
        simp only [b, condF]
        exact ⟨e, w, r, rfl, rfl, e3, e4⟩
    · simp only [Int.ofNat_lt, hi, decide_false, condF]
      exact ⟨_, false, 0, rfl, rfl, fun h => (by cases h), fun _ => rfl⟩

theorem combosT_L2 (N n1 : Nat) (l : List Cb) (len i : Int) (tk : List Cb) (m : Int) (x y : Int) : ∀ (n : Nat) (k : Int), impl_IsCombos.L2 N n1 n l l len i tk m k x y = some true → impl_IsCombos.L1 N n1 l l len (IntKind.wrap .i64 (i + 1)) = some true := by
  intro n
  induction n with
  | zero => intro k h; rw [impl_IsCombos.L2_zero] at h; cases h
  | succ n ih =>
    intro k h
    rw [impl_IsCombos.L2_eq] at h
    cases h1 : decide (k < m) with
    | false => rw [h1, condF] at h; exact h
    | true =>
      rw [h1, condT] at h
      cases h2 : inRange k tk.length with
      | false => rw [h2, condF] at h; cases h
      | true =>
        rw [h2, condT] at h
        cases h3 : (nth (0, 0) tk k).1 == x with
        | true => rw [h3, condT] at h; cases h
        | false =>
          rw [h3, condF] at h
          cases h4 : (nth (0, 0) tk k).2 == y with
          | true => rw [h4, condT] at h; cases h
          | false => rw [h4, condF] at h; exact ih _ h

theorem combosT_L1 (N : Nat) (l : List Cb) (hl : l.length ≤ 1048576) : ∀ (n i : Nat), i ≤ l.length → impl_IsCombos.L1 N n l l (l.length : Int) (i : Int) = some true → ∀ x ∈ l.drop i, 24 ≤ x.2 ∧ x.2 ≤ 31 := by
  intro n
  induction n with
  | zero => intro i h0 h; rw [impl_IsCombos.L1_zero] at h; cases h
  | succ n ih =>
    intro i h0 h x hx
    by_cases hi : i < l.length
    · have ws : IntKind.wrap .i64 ((i : Int) + 1) = ((i + 1 : Nat) : Int) := wrap_succ (by omega)
      rw [impl_IsCombos.L1_eq] at h
      simp only [Int.ofNat_lt, hi, decide_true, condT, inRange_nat, nth_nat] at h
      by_cases a0 : (l.getD i (0, 0)).1 < 0
      · simp only [a0, decide_true, condT] at h; cases h
      · by_cases a1 : (l.getD i (0, 0)).1 > 16777215
        · simp only [a0, a1, decide_true, decide_false, condT, condF] at h; cases h
        · by_cases a2 : (l.getD i (0, 0)).2 < 24
          · simp only [a0, a1, a2, decide_true, decide_false, condT, condF] at h; cases h
          · by_cases a3 : (l.getD i (0, 0)).2 > 31
            · simp only [a0, a1, a2, a3, decide_true, decide_false, condT, condF] at h; cases h
            · obtain ⟨c, _, o2⟩ := Ones_eq N (l.getD i (0, 0)).1 (by omega)
              simp only [a0, a1, a2, a3, o2, decide_false, condF, bindV] at h
              by_cases c0 : c < 2
              · simp only [c0, decide_true, condT] at h; cases h
              · by_cases c1 : c > 4
                · simp only [c0, c1, decide_true, decide_false, condT, condF] at h; cases h
                · have g1 : (0 : Int) ≤ (i : Int) := by omega
                  have g2 : (i : Int) ≤ (l.length : Int) := by omega
                  simp only [c0, c1, g1, g2, decide_true, decide_false, condF, Bool.and_self, condT] at h
                  have h := combosT_L2 N n l _ _ _ _ _ _ N 0 h
                  rw [ws] at h
                  rw [drop_cons (0, 0) l i hi] at hx
                  rcases List.mem_cons.1 hx with rfl | hx
                  · omega
                  · exact ih (i + 1) (by omega) h x hx
    · rw [List.drop_of_length_le (by omega)] at hx
      cases hx

theorem combosT (N : Nat) (l : List Cb) (hl : l.length ≤ 1048576) (h : impl_IsCombos.F N l = some true) : ∀ x ∈ l, 24 ≤ x.2 ∧ x.2 ≤ 31 := by
  rw [impl_IsCombos.F_eq] at h
  by_cases a : (l.length : Int) > 8
  · simp only [a, decide_true, condT] at h; cases h
  · simp only [a, decide_false, condF] at h
    have := combosT_L1 N l hl N 0 (by omega) h
    simpa using this

/-! ### what is held -/
theorem switch_L1 (N : Nat) (q1 : List Cb) (q2 : Int) (q3 : List Ev) (q4 q5 q6 : Int) (a : List Ev) (ha : a.length ≤ 1048576) : ∀ (n i : Nat) (held : Int), i ≤ a.length → a.length < n + i →
    ∃ (D : Int × Bool) (h : Int), impl_switchesDown.L1 N n held a (a.length : Int) (i : Int) = some D ∧ spec_l11Held.L1 N n held (i : Int) q1 q2 q3 q4 q5 q6 a = some h ∧ (D.2 = true → D.1 = h) := by
  intro n
  induction n with
  | zero => intro i held h1 h2; omega
  | succ n ih =>
    intro i held h1 h2
    rw [impl_switchesDown.L1_eq, spec_l11Held.L1_eq]
    by_cases hi : i < a.length
    · obtain ⟨D, h, e1, e2, e3⟩ := ih (i + 1) (bitOr .i64 held (a.getD i (0, 0, false)).2.1) (by omega) (by omega)
      have ws : IntKind.wrap .i64 ((i : Int) + 1) = ((i + 1 : Nat) : Int) := wrap_succ (by omega)
      simp only [Int.ofNat_lt, hi, decide_true, condT, inRange_nat, nth_nat, ws, e1, e2]
      cases bitAnd .i64 held (a.getD i (0, 0, false)).2.1 != 0 with
      | true => simp only [condT]; exact ⟨_, _, rfl, rfl, fun h => by cases h⟩
      | false => simp only [condF]; exact ⟨_, _, rfl, rfl, e3⟩
    · simp only [Int.ofNat_lt, hi, decide_false, condF]
      exact ⟨_, _, rfl, rfl, fun _ => rfl⟩
end Go.Kb
