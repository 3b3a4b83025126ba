/- Is it a flash? The program answers as the reference. -/
import Derived.Test.YtokploahoidhoaaExactDoFlashP8
namespace Go.Kb
theorem IsFlash_L2 (N n1 : Nat) (i : Nat) (o0 : List (List Int)) (o1 : List Int) (hi : i < o0.length) (hl : (o0.getD i []).length ≤ 1048576)
    (h1 : spec_IsFlash.L1 N n1 ((i + 1 : Nat) : Int) o0 o1 = impl_IsFlash.L1 N n1 ((i + 1 : Nat) : Int) o0 o1) (hi2 : i < 5) :
    ∀ (n k : Nat), k ≤ (o0.getD i []).length → (o0.getD i []).length < n + k → spec_IsFlash.L2 N n1 n (i : Int) (k : Int) o0 o1 = impl_IsFlash.L2 N n1 n (i : Int) (o0.getD i []) ((o0.getD i []).length : Int) (k : Int) o0 o1 := by
  intro n
  induction n with
  | zero => intro k h2 h3; omega
  | succ n ih =>
    intro k h2 h3
    rw [spec_IsFlash.L2_eq, impl_IsFlash.L2_eq]
    simp only [inRange_nat, hi, decide_true, condT, nth_nat]
    by_cases hk : k < (o0.getD i []).length
    · simp only [Int.ofNat_lt, hk, decide_true, condT, l1In_eq, bindV]
      rw [wrap_succ (by omega), ih (k + 1) (by omega) (by omega)]
      generalize (o0.getD i []).getD k 0 = x
      by_cases a1 : x < 0
      · have a2 : ¬ (0 ≤ x) := by omega
        simp only [a1, a2, false_and, decide_true, decide_false, condT, notF]
      · by_cases a3 : x > 65535
        · have a4 : ¬ (x ≤ 65535) := by omega
          simp only [a1, a3, a4, and_false, decide_true, decide_false, condT, condF, notF]
        · have a4 : x ≤ 65535 := by omega
          have a2 : 0 ≤ x := by omega
          simp only [a1, a3, a2, a4, and_self, decide_true, decide_false, condF, notT]
    · simp only [Int.ofNat_lt, hk, decide_false, condF]
      rw [wrap_succ (by omega)]
      exact h1

theorem IsFlash_L1 (N : Nat) (hN : 1048576 < N) (o0 : List (List Int)) (o1 : List Int) (h0 : o0.length = 2) (h1 : o1.length = 2) (hs : ∀ x ∈ o0, x.length ≤ 1048576) : ∀ (n i : Nat), i ≤ 2 → 2 < n + i →
    spec_IsFlash.L1 N n (i : Int) o0 o1 = impl_IsFlash.L1 N n (i : Int) o0 o1 := by
  intro n
  induction n with
  | zero => intro i h2 h3; omega
  | succ n ih =>
    intro i h2 h3
    rw [spec_IsFlash.L1_eq, impl_IsFlash.L1_eq]
    by_cases hi : i < 2
    · have hi' : ((i : Int) < 2) := by omega
      have hr : i < o0.length := by omega
      have hr1 : i < o1.length := by omega
      have h2 := IsFlash_L2 N n i o0 o1 hr (hs _ (nth_mem [] o0 i hr)) (ih (i + 1) (by omega) (by omega)) (by omega) N 0 (by omega) (by have := hs _ (nth_mem [] o0 i hr); omega)
      simp only [Int.natCast_zero] at h2
      simp only [hi', decide_true, condT, inRange_nat, hr, hr1, nth_nat, l1In_eq, bindV, h2]
      generalize o1.getD i 0 = x
      by_cases a1 : x < 0
      · have a2 : ¬ (0 ≤ x) := by omega
        simp only [a1, a2, false_and, decide_true, decide_false, condT, notF]
      · by_cases a3 : x > 1000
        · have a4 : ¬ (x ≤ 1000) := by omega
          simp only [a1, a3, a4, and_false, decide_true, decide_false, condT, condF, notF]
        · have a4 : x ≤ 1000 := by omega
          have a2 : 0 ≤ x := by omega
          simp only [a1, a3, a2, a4, and_self, decide_true, decide_false, condF, notT]
    · have hi' : ¬ ((i : Int) < 2) := by omega
      simp only [hi', decide_false, condF]

theorem IsFlash_same (N : Nat) (hN : 1048576 < N) (f : Fl) (h : smallF f) : spec_IsFlash.F N f = impl_IsFlash.F N f := by
  rw [spec_IsFlash.F_eq, impl_IsFlash.F_eq]
  by_cases h0 : f.1.length = 2
  · by_cases h1 : f.2.length = 2
    · have := IsFlash_L1 N hN f.1 f.2 h0 h1 h.1.2 N 0 (by omega) (by omega)
      simp only [Int.natCast_zero] at this
      rw [this]
    · have e : ((f.2.length : Int) != 2) = true := by simp; omega
      simp only [e, condT]
  · have e : ((f.1.length : Int) != 2) = true := by simp; omega
    simp only [e, condT]

end Go.Kb
