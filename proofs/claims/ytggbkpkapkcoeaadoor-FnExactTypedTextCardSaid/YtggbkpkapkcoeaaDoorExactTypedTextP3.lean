/- The link: one byte, all bytes, and a silent tick; the program answers as the reference. -/
import Derived.Test.YtggbkpkapkcoeaaDoorExactTypedTextP2
import Derived.Test.YtggbkpkapkcoeaaDoorExactTypedTextF2
import Derived.Test.YtggbkpkapkcoeaaDoorKc
namespace Go.Kb

/-! ### all bytes -/
/-! ### rows of whole numbers -/
theorem eqIntS_L1 (N : Nat) : ∀ (n k : Nat) (a b : List Int), a.length ≤ maxN → b.length = a.length → k ≤ a.length → a.length < n + k → laws_eqIntS.L1 N n a b (k : Int) = some (decide (a.drop k = b.drop k)) := by
  intro n
  induction n with
  | zero =>
    intro k a b h1 h2 h0 h3
    omega
  | succ n ih =>
    intro k a b h1 h2 h0 h3
    unfold maxN at h1
    rw [laws_eqIntS.L1_eq]
    by_cases hk : k < a.length
    · have hkb : k < b.length := by omega
      simp only [Int.ofNat_lt, hk, decide_true, cond_true, inRange_nat, hkb, nth_nat]
      rw [wrap_succ (by omega), ih (k + 1) a b (by unfold maxN; omega) h2 (by omega) (by omega), drop_cons 0 a k hk, drop_cons 0 b k hkb]
      generalize a.getD k 0 = x
      generalize b.getD k 0 = y
      by_cases he : x = y
      · simp [he]
      · simp [he, bneI]
    · simp only [Int.ofNat_lt, hk, decide_false, cond_false]
      rw [List.drop_of_length_le (by omega), List.drop_of_length_le (by omega)]
      simp

theorem eqIntS_eq (N : Nat) (a b : List Int) (h : a.length < N) (hm : a.length ≤ maxN) : laws_eqIntS.F N (a, b) = some (decide (a = b)) := by
  rw [laws_eqIntS.F_eq]
  by_cases hl : a.length = b.length
  · have : ((a.length : Int) != (b.length : Int)) = false := by simp [hl]
    rw [this, cond_false]
    have := eqIntS_L1 N N 0 a b hm hl.symm (by omega) (by omega)
    simpa using this
  · have h1 : ((a.length : Int) != (b.length : Int)) = true := by simp; omega
    have h2 : a ≠ b := fun e => hl (by rw [e])
    rw [h1, cond_true]
    simp [h2]

end Go.Kb
