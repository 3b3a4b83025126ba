/- Draws: numbers made from bytes. -/
import Derived.Test.YtokploahoidhoabCutsP3
namespace Go.Kb

theorem bitAnd_range (x : Int) (m : Nat) (hm : m < 9223372036854775808) : 0 ≤ bitAnd .i64 x (m : Int) ∧ bitAnd .i64 x (m : Int) ≤ m := by
  show 0 ≤ IntKind.i64.wrap ((BitVec.ofInt 64 x &&& BitVec.ofInt 64 (m : Int)).toNat : Int) ∧ IntKind.i64.wrap ((BitVec.ofInt 64 x &&& BitVec.ofInt 64 (m : Int)).toNat : Int) ≤ m
  have h : (BitVec.ofInt 64 x &&& BitVec.ofInt 64 (m : Int)).toNat ≤ m := by
    rw [BitVec.toNat_and]
    refine Nat.le_trans Nat.and_le_right ?_
    rw [BitVec.ofInt_natCast, BitVec.toNat_ofNat]; exact Nat.mod_le _ _
  rw [wrap64 (by omega) (by omega)]
  omega

/-- a draw's state -/
def okC (code : List Int) (c : List Int × Int × Int) : Prop := c.1 = code ∧ 0 ≤ c.2.1 ∧ c.2.1 ≤ code.length

theorem l1New_L1 (N : Nat) : ∀ (n k : Nat) (h : Int) (code : List Int), code.length ≤ maxN → k ≤ code.length → code.length < n + k → ∃ h', spec_l1New.L1 N n code h (k : Int) = some (code, (0, h')) := by
  intro n
  induction n with
  | zero => intro k h code h1 h2 h3; omega
  | succ n ih =>
    intro k h code h1 h2 h3
    rw [spec_l1New.L1_eq]
    unfold maxN at h1
    by_cases hk : k < code.length
    · simp only [Int.ofNat_lt, hk, decide_true, cond_true, inRange_nat]
      by_cases h4 : (k : Int) < 4000
      · simp only [h4, decide_true, cond_true]
        rw [wrap_succ (by omega)]
        exact ih (k + 1) _ code (by unfold maxN; omega) (by omega) (by omega)
      · simp only [h4, decide_false, cond_false]
        exact ⟨_, rfl⟩
    · simp only [Int.ofNat_lt, hk, decide_false, cond_false]
      exact ⟨_, rfl⟩

theorem l24New_ok (N : Nat) (code : List Int) (p : Int) (h1 : code.length ≤ maxN) (h2 : code.length < N) : ∃ c, spec_l24New.F N (code, p) = some c ∧ okC code c := by
  rw [spec_l24New.F_eq, spec_l1New.F_eq]
  obtain ⟨h', e⟩ := l1New_L1 N N 0 (IntKind.wrap .i64 ((10729 : Int) + (List.length code : Int))) code h1 (by omega) (by omega)
  rw [show ((0 : Nat) : Int) = 0 from rfl] at e
  rw [e]
  exact ⟨_, rfl, rfl, by simp, by simp⟩

theorem l1Byte_ok (N : Nat) (code : List Int) (c : List Int × Int × Int) (h : okC code c) (hm : code.length ≤ maxN) : ∃ v c', spec_l1Byte.F N c = some (v, c') ∧ 0 ≤ v ∧ v ≤ 255 ∧ okC code c' := by
  obtain ⟨h1, h2, h3⟩ := h
  rw [spec_l1Byte.F_eq, h1]
  unfold maxN at hm
  have r : ∀ x : Int, 0 ≤ bitAnd .i64 x 255 ∧ bitAnd .i64 x 255 ≤ 255 := fun x => bitAnd_range x 255 (by omega)
  by_cases hl : c.2.1 < (code.length : Int)
  · obtain ⟨k, hk⟩ := Int.eq_ofNat_of_zero_le h2
    have hi : inRange c.2.1 code.length = true := by rw [hk, inRange_nat]; simp; omega
    simp only [hl, decide_true, cond_true, hi]
    refine ⟨_, _, rfl, (r _).1, (r _).2, rfl, ?_, ?_⟩
    · show 0 ≤ IntKind.wrap .i64 (c.2.1 + 1)
      rw [wrap64 (by omega) (by omega)]; omega
    · show IntKind.wrap .i64 (c.2.1 + 1) ≤ _
      rw [wrap64 (by omega) (by omega)]; omega
  · simp only [hl, decide_false, cond_false]
    exact ⟨_, _, rfl, (r _).1, (r _).2, rfl, h2, h3⟩

theorem tmod_range {x n : Int} (hx : 0 ≤ x) (hn : 0 < n) : 0 ≤ Int.tmod x n ∧ Int.tmod x n < n := by
  rw [Int.tmod_eq_emod_of_nonneg hx]
  exact ⟨Int.emod_nonneg _ (by omega), Int.emod_lt_of_pos _ hn⟩

theorem l1Below_ok (N : Nat) (code : List Int) (c : List Int × Int × Int) (n : Int) (h : okC code c) (hm : code.length ≤ maxN) (hn : 0 < n) : ∃ v c', spec_l1Below.F N (c, n) = some (v, c') ∧ 0 ≤ v ∧ v < n ∧ okC code c' := by
  rw [spec_l1Below.F_eq]
  have h0 : ¬ n ≤ 0 := by omega
  have hz : (n != 0) = true := by simp; omega
  obtain ⟨v1, c1, e1, a1, b1, k1⟩ := l1Byte_ok N code c h hm
  obtain ⟨v2, c2, e2, a2, b2, k2⟩ := l1Byte_ok N code c1 k1 hm
  obtain ⟨v3, c3, e3, a3, b3, k3⟩ := l1Byte_ok N code c2 k2 hm
  obtain ⟨v4, c4, e4, a4, b4, k4⟩ := l1Byte_ok N code c3 k3 hm
  simp only [h0, decide_false, cond_false, hz, cond_true, e1, e2, e3, e4, bindO_val]
  by_cases h2 : n ≤ 256
  · simp only [h2, decide_true, cond_true]
    exact ⟨_, _, rfl, (tmod_range a1 hn).1, (tmod_range a1 hn).2, k1⟩
  · simp only [h2, decide_false, cond_false]
    have e : IntKind.wrap .i64 ((IntKind.wrap .i64 ((IntKind.wrap .i64 ((IntKind.wrap .i64 (v1 * 16777216)) + (IntKind.wrap .i64 (v2 * 65536)))) + (IntKind.wrap .i64 (v3 * 256)))) + v4) = v1 * 16777216 + v2 * 65536 + v3 * 256 + v4 := by
      rw [wrap64 (x := v1 * 16777216) (by omega) (by omega), wrap64 (x := v2 * 65536) (by omega) (by omega), wrap64 (x := v3 * 256) (by omega) (by omega), wrap64 (x := v1 * 16777216 + v2 * 65536) (by omega) (by omega), wrap64 (x := v1 * 16777216 + v2 * 65536 + v3 * 256) (by omega) (by omega), wrap64 (by omega) (by omega)]
    rw [e]
    exact ⟨_, _, rfl, (tmod_range (by omega) hn).1, (tmod_range (by omega) hn).2, k4⟩

theorem MakeNumber_ok (N : Nat) (code : List Int) (p n : Int) (hm : code.length ≤ maxN) (hN : code.length < N) (hn : 0 < n) : ∃ v, spec_MakeNumber.F N (code, p, n) = some v ∧ 0 ≤ v ∧ v < n := by
  rw [spec_MakeNumber.F_eq]
  obtain ⟨c, e, k⟩ := l24New_ok N code p hm hN
  obtain ⟨v, c', e', a, b, _⟩ := l1Below_ok N code c n k hm hn
  exact ⟨v, by rw [e, bindO_val, e', bindO_val], a, b⟩

end Go.Kb
