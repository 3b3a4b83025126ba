/- The active combos: the program's two walks and the reference's one. -/
import Derived.Test.YtnoifcpgionjkaaCombinedP19
namespace Go.Kb

theorem shl_one (o : Nat) (h : o ≤ 31) : shiftL .i64 1 (o : Int) = ((2 ^ o : Nat) : Int) := by
  have h2 : 2 ^ o ≤ 2 ^ 31 := Nat.pow_le_pow_right (by omega) h
  simp only [shiftL, IntKind.bits, Int.toNat_natCast]
  rw [Nat.min_eq_left (by omega), Int.one_mul]
  have e : (2 : Int) ^ o = ((2 ^ o : Nat) : Int) := by simp
  rw [e]
  generalize 2 ^ o = p at h2 ⊢
  exact wrap64 (by omega) (by omega)

theorem bit_eq (N s o : Nat) (hs : s < 4294967296) (ho : o ≤ 63) : ∃ v, impl_bit.F N ((s : Int), (o : Int)) = some v ∧ (v == 1) = s.testBit o := by
  rw [impl_bit.F_eq]
  have h0 : (0 : Int) ≤ (o : Int) := by omega
  have hl := shr_le s o
  have a := andI (s >>> o) 1 (by omega) (by omega)
  rw [show ((1 : Nat) : Int) = 1 from rfl, Nat.and_one_is_mod] at a
  simp only [h0, decide_true, condT, shr_nat .i64 s o (by simp only [IntKind.bits]; omega), a]
  refine ⟨_, rfl, ?_⟩
  rw [Nat.testBit_eq_decide_div_mod_eq, ← Nat.shiftRight_eq_div_pow, beqI]
  by_cases h : s >>> o % 2 = 1
  · rw [decide_eq_true h, decide_eq_true (by omega)]
  · rw [decide_eq_false h, decide_eq_false (by omega)]

section
variable (N : Nat) (q1 : List Cb) (q2 : Int) (q3 : List Ev) (q4 q5 q6 : Int) (a : List Ev)

theorem Act_L2 (ha : a.length ≤ 1048576) (n1 : Nat) (held : Int) (i : Nat) (hi : i < a.length) (o m : Int) (d : Bool) : ∀ (n k : Nat), k ≤ i → i < n + k →
    ((∃ j, k ≤ j ∧ j < i ∧ (a.getD j (0, 0, false)).1 = o) → spec_l11Active.L2 N n1 n held (i : Int) (k : Int) q1 q2 q3 q4 q5 q6 a o m d = some false) ∧
    ((¬ ∃ j, k ≤ j ∧ j < i ∧ (a.getD j (0, 0, false)).1 = o) → spec_l11Active.L2 N n1 n held (i : Int) (k : Int) q1 q2 q3 q4 q5 q6 a o m d = spec_l11Active.L1 N n1 (bitOr .i64 held m) ((i + 1 : Nat) : Int) q1 q2 q3 q4 q5 q6 a) := by
  intro n
  induction n with
  | zero => intro k h1 h2; omega
  | succ n ih =>
    intro k h1 h2
    rw [spec_l11Active.L2_eq]
    have wi : IntKind.wrap .i64 ((i : Int) + 1) = ((i + 1 : Nat) : Int) := wrap_succ (by omega)
    by_cases hk : k < i
    · obtain ⟨e1, e2⟩ := ih (k + 1) (by omega) (by omega)
      have ws : IntKind.wrap .i64 ((k : Int) + 1) = ((k + 1 : Nat) : Int) := wrap_succ (by omega)
      have hkl : k < a.length := by omega
      simp only [Int.ofNat_lt, hk, hkl, decide_true, condT, inRange_nat, nth_nat, ws]
      by_cases c : (a.getD k (0, 0, false)).1 = o
      · have b : ((a.getD k (0, 0, false)).1 == o) = true := by rw [beqI]; exact decide_eq_true c
        simp only [b, condT]
        exact ⟨fun _ => trivial, fun h => absurd ⟨k, by omega, hk, c⟩ h⟩
      · have b : ((a.getD k (0, 0, false)).1 == o) = false := by rw [beqI]; exact decide_eq_false c
        simp only [b, condF]
        refine ⟨fun ⟨j, g1, g2, g3⟩ => e1 ⟨j, ?_, g2, g3⟩, fun h => e2 fun ⟨j, g1, g2, g3⟩ => h ⟨j, by omega, g2, g3⟩⟩
        by_cases hj : j = k
        · subst hj; exact absurd g3 c
        · omega
    · simp only [Int.ofNat_lt, hk, decide_false, condF, wi]
      exact ⟨fun ⟨j, g1, g2, _⟩ => absurd g1 (by omega), fun _ => trivial⟩

/-- which keys have been seen -/
def seenOk (s i : Nat) : Prop := s < 4294967296 ∧ ∀ o : Nat, 24 ≤ o → o ≤ 31 → (s.testBit o = true ↔ ∃ j, j < i ∧ (a.getD j (0, 0, false)).1 = (o : Int))

theorem seen_step (s i o : Nat) (h : seenOk a s i) (h1 : 24 ≤ o) (h2 : o ≤ 31) (hi : (a.getD i (0, 0, false)).1 = (o : Int)) : seenOk a (s ||| 2 ^ o) (i + 1) := by
  refine ⟨?_, fun p p1 p2 => ?_⟩
  · have : 2 ^ o < 2 ^ 32 := Nat.pow_lt_pow_right (by omega) (by omega)
    exact Nat.or_lt_two_pow (n := 32) (by have := h.1; omega) this
  · rw [Nat.testBit_or, Nat.testBit_two_pow, Bool.or_eq_true, decide_eq_true_eq, h.2 p p1 p2]
    constructor
    · rintro (⟨j, g1, g2⟩ | g)
      · exact ⟨j, by omega, g2⟩
      · subst g; exact ⟨i, by omega, hi⟩
    · rintro ⟨j, g1, g2⟩
      by_cases hj : j = i
      · subst hj
        rw [hi] at g2
        exact .inr (by omega)
      · exact .inl ⟨j, by omega, g2⟩

theorem Act_L1 (hN : 1048576 < N) (ha : a.length ≤ 1048576) (hr : ∀ x ∈ a, x.2.1 ≤ 9223372036854775807) (hq : q1.length ≤ 1048576) (hc : ∀ x ∈ q1, 24 ≤ x.2 ∧ x.2 ≤ 31) :
    ∀ (n i : Nat) (held : Int) (s : Nat), i ≤ a.length → a.length < n + i → seenOk a s i →
    ∃ (A : Bool) (D : Int × Bool), impl_activeFits.L1 N n (s : Int) a (a.length : Int) (i : Int) q1 q2 q3 q4 q5 q6 a = some A ∧ impl_switchesDown.L1 N n held a (a.length : Int) (i : Int) = some D ∧
      spec_l11Active.L1 N n held (i : Int) q1 q2 q3 q4 q5 q6 a = some (A && (D.2 && decide (0 ≤ q6 ∧ q6 ≤ 16777215))) := by
  intro n
  induction n with
  | zero => intro i held s h1 h2; omega
  | succ n ih =>
    intro i held s h1 h2 hs
    obtain ⟨D, _, d1, _, _⟩ := switch_L1 N q1 q2 q3 q4 q5 q6 a ha (n + 1) i held h1 h2
    by_cases hi : i < a.length
    · have ws : IntKind.wrap .i64 ((i : Int) + 1) = ((i + 1 : Nat) : Int) := wrap_succ (by omega)
      have hm := hr _ (nth_mem (0, 0, false) a i hi)
      obtain ⟨e, w, r, e1, e2, e3, e4⟩ := comboOf_L1 N (a.getD i (0, 0, false)).1 q1 hq N 0 (by omega) (by omega)
      simp only [Int.natCast_zero] at e1 e2
      rw [impl_activeFits.L1_eq, spec_l11Active.L1_eq]
      rw [impl_switchesDown.L1_eq] at d1 ⊢
      simp only [Int.ofNat_lt, hi, decide_true, condT, inRange_nat, nth_nat, ws, impl_comboOf.F_eq, spec_l11Keys.F_eq, e1, e2, bindV] at d1 ⊢
      rw [bitAnd_comm .i64 (a.getD i (0, 0, false)).2.1 held]
      cases w with
      | false =>
        have r0 := e4 rfl
        subst r0
        simp only [notF, condT]
        by_cases c1 : (a.getD i (0, 0, false)).2.1 ≤ 0
        · simp only [c1, decide_true, condT]
          exact ⟨false, D, rfl, d1, rfl⟩
        · simp only [c1, decide_false, condF, andNot_zero _ (by omega) hm, condT]
          exact ⟨false, D, rfl, d1, rfl⟩
      | true =>
        obtain ⟨g1, g2, g3⟩ := e3 rfl
        obtain ⟨k1, k2⟩ := hc e g1
        rw [g2] at k1 k2
        obtain ⟨o, ho⟩ := Int.eq_ofNat_of_zero_le (by omega : 0 ≤ (a.getD i (0, 0, false)).1)
        obtain ⟨v, b1, b2⟩ := bit_eq N s o hs.1 (by omega)
        obtain ⟨L1, L2⟩ := Act_L2 N q1 q2 q3 q4 q5 q6 a ha n held i hi (a.getD i (0, 0, false)).1 (a.getD i (0, 0, false)).2.1 (a.getD i (0, 0, false)).2.2 N 0 (by omega) (by omega)
        simp only [Int.natCast_zero] at L1 L2
        have hseen : s.testBit o = true ↔ ∃ j, 0 ≤ j ∧ j < i ∧ (a.getD j (0, 0, false)).1 = (a.getD i (0, 0, false)).1 := by
          rw [hs.2 o (by omega) (by omega), ho]
          exact ⟨fun ⟨j, x, y⟩ => ⟨j, by omega, x, y⟩, fun ⟨j, _, x, y⟩ => ⟨j, x, y⟩⟩
        subst g3
        have h0 : (0 : Int) ≤ (o : Int) := by omega
        have so : s ||| 2 ^ o < 4294967296 := (seen_step a s i o hs (by omega) (by omega) ho).1
        have sb : bitOr .i64 (s : Int) (shiftL .i64 1 (o : Int)) = ((s ||| 2 ^ o : Nat) : Int) := by
          have p31 : 2 ^ o ≤ 2 ^ 31 := Nat.pow_le_pow_right (by omega) (by omega)
          rw [shl_one o (by omega)]
          exact bitOr_nat s (2 ^ o) (by have := hs.1; omega) (by omega)
        obtain ⟨A', D', f1, f2, f3⟩ := ih (i + 1) (bitOr .i64 held (a.getD i (0, 0, false)).2.1) (s ||| 2 ^ o) (by omega) (by omega) (seen_step a s i o hs (by omega) (by omega) ho)
        rw [ho] at L1 L2 hseen ⊢
        simp only [notT, condF, b1, bindV, b2, h0, decide_true, condT, sb, f1, f2]
        by_cases hd : ∃ j, 0 ≤ j ∧ j < i ∧ (a.getD j (0, 0, false)).1 = (o : Int)
        · rw [hseen.2 hd, L1 hd]
          simp only [condT]
          cases bitAnd .i64 held (a.getD i (0, 0, false)).2.1 != 0 with
          | true =>
            refine ⟨false, (0, false), rfl, rfl, ?_⟩
            cases decide ((a.getD i (0, 0, false)).2.1 ≤ 0) <;> cases bitAndNot .i64 (a.getD i (0, 0, false)).2.1 e.1 != 0 <;> cases (a.getD i (0, 0, false)).2.2 != ((a.getD i (0, 0, false)).2.1 == e.1) <;> rfl
          | false =>
            refine ⟨false, D', rfl, rfl, ?_⟩
            cases decide ((a.getD i (0, 0, false)).2.1 ≤ 0) <;> cases bitAndNot .i64 (a.getD i (0, 0, false)).2.1 e.1 != 0 <;> cases (a.getD i (0, 0, false)).2.2 != ((a.getD i (0, 0, false)).2.1 == e.1) <;> rfl
        · have hf : s.testBit o = false := by
            cases hb : s.testBit o with
            | false => rfl
            | true => exact absurd (hseen.1 hb) hd
          rw [hf, L2 hd, f3]
          simp only [condF]
          cases decide ((a.getD i (0, 0, false)).2.1 ≤ 0) with
          | true =>
            simp only [condT]
            cases bitAnd .i64 held (a.getD i (0, 0, false)).2.1 != 0 with
            | true => exact ⟨false, (0, false), rfl, rfl, rfl⟩
            | false => exact ⟨false, D', rfl, rfl, rfl⟩
          | false =>
            simp only [condF]
            cases bitAndNot .i64 (a.getD i (0, 0, false)).2.1 e.1 != 0 with
            | true =>
              simp only [condT]
              cases bitAnd .i64 held (a.getD i (0, 0, false)).2.1 != 0 with
              | true => exact ⟨false, (0, false), rfl, rfl, rfl⟩
              | false => exact ⟨false, D', rfl, rfl, rfl⟩
            | false =>
              simp only [condF]
              cases (a.getD i (0, 0, false)).2.2 != ((a.getD i (0, 0, false)).2.1 == e.1) with
              | true =>
                simp only [condT]
                cases bitAnd .i64 held (a.getD i (0, 0, false)).2.1 != 0 with
                | true => exact ⟨false, (0, false), rfl, rfl, rfl⟩
                | false => exact ⟨false, D', rfl, rfl, rfl⟩
              | false =>
                simp only [condF]
                cases bitAnd .i64 held (a.getD i (0, 0, false)).2.1 != 0 with
                | true =>
                  simp only [condT]
                  exact ⟨A', (0, false), rfl, rfl, by simp only [Bool.false_and, Bool.and_false]⟩
                | false =>
                  simp only [condF]
                  exact ⟨A', D', rfl, rfl, rfl⟩
    · rw [impl_activeFits.L1_eq, spec_l11Active.L1_eq]
      simp only [Int.ofNat_lt, hi, decide_false, condF, l1In_eq, bindV]
      rw [impl_switchesDown.L1_eq]
      simp only [Int.ofNat_lt, hi, decide_false, condF]
      exact ⟨true, _, rfl, rfl, by simp only [Bool.true_and]⟩
end
end Go.Kb
