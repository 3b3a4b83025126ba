/- The active combos: the program's two walks and the reference's one. -/
import Derived.Test.YtnoifcpgionjkaaComboEventsP19
namespace Go.Kb

theorem shl_one (o : Nat) (h : o ≤ 31) : shiftL .i64 1 (o : Int) = ((2 ^ o : Nat) : Int) := by
  have h2 : 2 ^ o ≤ 2 ^ 31 := Nat.pow_le_pow_right (by omega) h
  simp only [shiftL, IntKind.bits, Int.toNat_natCast]
  rw [Nat.min_eq_left (by omega), Int.one_mul]
  have e : (2 : Int) ^ o = ((2 ^ o : Nat) : Int) := by simp
  rw [e]
  generalize 2 ^ o = p at h2 ⊢
  exact wrap64 (by omega) (by omega)

section
variable (N : Nat) (q1 : List Cb) (q2 : Int) (q3 : List Ev) (q4 q5 q6 : Int) (a : List Ev)

/-- which keys have been seen -/
def seenOk (s i : Nat) : Prop := s < 4294967296 ∧ ∀ o : Nat, 24 ≤ o → o ≤ 31 → (s.testBit o = true ↔ ∃ j, j < i ∧ (a.getD j (0, 0, false)).1 = (o : Int))

theorem seen_step (s i o : Nat) (h : seenOk a s i) (h1 : 24 ≤ o) (h2 : o ≤ 31) (hi : (a.getD i (0, 0, false)).1 = (o : Int)) : seenOk a (s ||| 2 ^ o) (i + 1) := by
  refine ⟨?_, fun p p1 p2 => ?_⟩
  · have : 2 ^ o < 2 ^ 32 := Nat.pow_lt_pow_right (by omega) (by omega)
    exact Nat.or_lt_two_pow (n := 32) (by have := h.1; omega) this
  · rw [Nat.testBit_or, Nat.testBit_two_pow, Bool.or_eq_true, decide_eq_true_eq, h.2 p p1 p2]
    constructor
    · rintro (⟨j, g1, g2⟩ | g)
      · exact ⟨j, by omega, g2⟩
      · subst g; exact ⟨i, by omega, hi⟩
    · rintro ⟨j, g1, g2⟩
      by_cases hj : j = i
      · subst hj
        rw [hi] at g2
        exact .inr (by omega)
      · exact .inl ⟨j, by omega, g2⟩

end
end Go.Kb
