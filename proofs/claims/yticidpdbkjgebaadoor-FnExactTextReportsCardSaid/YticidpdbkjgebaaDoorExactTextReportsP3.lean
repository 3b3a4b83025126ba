/- The link: one byte, all bytes, and a silent tick; the program answers as the reference. -/
import Derived.Test.YticidpdbkjgebaaDoorExactTextReportsP2
import Derived.Test.YticidpdbkjgebaaDoorExactTextReportsF2
import Derived.Test.YticidpdbkjgebaaDoorKc
namespace Go.Kb

/-! ### all bytes -/
/-! ### rows of whole numbers -/
theorem eqIntS_L1 (N : Nat) : ∀ (n k : Nat) (a b : List Int), a.length ≤ maxN → b.length = a.length → k ≤ a.length → a.length < n + k → laws_eqIntS.L1 N n a b (k : Int) = some (decide (a.drop k = b.drop k)) := by
  intro n
  induction n with
  | zero =>
    intro k a b h1 h2 h0 h3
    omega
  | succ n ih =>
    intro k a b h1 h2 h0 h3
    unfold maxN at h1
    rw [laws_eqIntS.L1_eq]
    by_cases hk : k < a.length
    · have hkb : k < b.length := by omega
      simp only [Int.ofNat_lt, hk, decide_true, cond_true, inRange_nat, hkb, nth_nat]
      rw [wrap_succ (by omega), ih (k + 1) a b (by unfold maxN; omega) h2 (by omega) (by omega), drop_cons 0 a k hk, drop_cons 0 b k hkb]
      generalize a.getD k 0 = x
      generalize b.getD k 0 = y
      by_cases he : x = y
      · simp [he]
      · simp [he, bneI]
    · simp only [Int.ofNat_lt, hk, decide_false, cond_false]
      rw [List.drop_of_length_le (by omega), List.drop_of_length_le (by omega)]
      simp

theorem eqIntS_eq (N : Nat) (a b : List Int) (h : a.length < N) (hm : a.length ≤ maxN) : laws_eqIntS.F N (a, b) = some (decide (a = b)) := by
  rw [laws_eqIntS.F_eq]
  by_cases hl : a.length = b.length
  · have : ((a.length : Int) != (b.length : Int)) = false := by simp [hl]
    rw [this, cond_false]
    have := eqIntS_L1 N N 0 a b hm hl.symm (by omega) (by omega)
    simpa using this
  · have h1 : ((a.length : Int) != (b.length : Int)) = true := by simp; omega
    have h2 : a ≠ b := fun e => hl (by rw [e])
    rw [h1, cond_true]
    simp [h2]

theorem marksI_L1 (N : Nat) : ∀ (n k : Nat) (c : Int) (o : List Int), o.length ≤ maxN → k ≤ o.length → o.length < n + k → 0 ≤ c → c + (o.length - k) ≤ 4611686018427387904 →
    ∃ c' o', laws_markIntS.L1 N n c (k : Int) o = some (c', o') ∧ o'.length = o.length ∧ (∀ j, j < k → o'.getD j 0 = o.getD j 0) ∧ c ≤ c' ∧ c' ≤ c + (o.length - k : Nat) ∧ laws_heldIntS.L1 N n o' c (k : Int) = some c' := by
  intro n
  induction n with
  | zero => intro k c o h1 h0 h2 h3 h4; omega
  | succ n ih =>
    intro k c o h1 h0 h2 h3 h4
    unfold maxN at h1
    rw [laws_markIntS.L1_eq]
    by_cases hk : k < o.length
    · simp only [Int.ofNat_lt, hk, decide_true, cond_true, inRange_nat, Int.toNat_natCast]
      rw [wrap_succ (by omega), wrap64 (x := c + 1) (by omega) (by omega)]
      obtain ⟨c', o', e1, e2, e3, e4, e5, e6⟩ := ih (k + 1) (c + 1) (o.set k c) (by unfold maxN; simp; omega) (by simp; omega) (by simp; omega) (by omega) (by simp; omega)
      simp only [List.length_set] at e2 e5
      refine ⟨c', o', e1, e2, fun j hj => ?_, by omega, by omega, ?_⟩
      · rw [e3 j (by omega)]
        simp only [List.getD_eq_getElem?_getD]
        rw [List.getElem?_set_ne (by omega)]
      · rw [laws_heldIntS.L1_eq]
        have hk' : k < o'.length := by omega
        have hg : o'.getD k 0 = c := by
          rw [e3 k (by omega)]
          simp only [List.getD_eq_getElem?_getD]
          rw [List.getElem?_set_self hk]; rfl
        simp only [Int.ofNat_lt, hk', decide_true, cond_true, inRange_nat, nth_nat, hg, bne_self_eq_false, cond_false]
        rw [wrap_succ (by omega), wrap64 (x := c + 1) (by omega) (by omega)]
        exact e6
    · refine ⟨c, o, ?_, rfl, fun j _ => rfl, by omega, by omega, ?_⟩
      · simp only [Int.ofNat_lt, hk, decide_false, cond_false]
      · rw [laws_heldIntS.L1_eq]
        simp only [Int.ofNat_lt, hk, decide_false, cond_false]

theorem marksI_eq (N : Nat) (a : List Int) (c : Int) (h : a.length < N) (hm : a.length ≤ maxN) (h0 : 0 ≤ c) (h1 : c ≤ 2305843009213693952) :
    ∃ c' o', laws_markIntS.F N (a, c) = some (c', o') ∧ c ≤ c' ∧ c' ≤ c + a.length ∧ laws_heldIntS.F N (o', c) = some c' ∧ o'.length = a.length := by
  rw [laws_markIntS.F_eq]
  obtain ⟨c', o', e1, e2, e3, e4, e5, e6⟩ := marksI_L1 N N 0 c a hm (by omega) (by omega) h0 (by unfold maxN at hm; omega)
  exact ⟨c', o', e1, e4, by omega, by rw [laws_heldIntS.F_eq]; exact e6, e2⟩

end Go.Kb
