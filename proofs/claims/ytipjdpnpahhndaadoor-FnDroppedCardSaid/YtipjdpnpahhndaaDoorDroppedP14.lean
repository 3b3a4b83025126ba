/- May a report be dropped? Is it a pipe? -/
import Derived.Test.YtipjdpnpahhndaaDoorDroppedP13
namespace Go.Kb

theorem Drop_L1 (N : Nat) (hN : 1048576 < N) (m : Int) (l g : List Int) (hl : l.length ≤ 1048576) (hg : g.length ≤ 1048576) : ∀ (n i : Nat), i ≤ g.length → g.length < n + i →
    ∃ b, spec_MayDrop.L1 N n g (i : Int) m l = some b ∧ impl_MayDrop.L1 N n g (g.length : Int) (i : Int) m l = some b := by
  intro n
  induction n with
  | zero => intro i h1 h2; omega
  | succ n ih =>
    intro i h1 h2
    rw [spec_MayDrop.L1_eq, impl_MayDrop.L1_eq]
    by_cases hi : i < g.length
    · obtain ⟨b, e1, e2⟩ := ih (i + 1) (by omega) (by omega)
      obtain ⟨x, f1, f2⟩ := has_same N hN l (g.getD i 0) hl
      have ws : IntKind.wrap .i64 ((i : Int) + 1) = ((i + 1 : Nat) : Int) := wrap_succ (by omega)
      simp only [Int.ofNat_lt, hi, decide_true, condT, inRange_nat, nth_nat, ws, f1, f2, bindV, e1, e2]
      cases x with
      | true => simp only [condT]; exact ⟨_, rfl, rfl⟩
      | false => simp only [condF]; exact ⟨_, rfl, rfl⟩
    · simp only [Int.ofNat_lt, hi, decide_false, condF]
      exact ⟨_, rfl, rfl⟩

theorem MayDrop_same (N : Nat) (hN : 1048576 < N) (a b c : Rpt) (ha : smallR a) (hb : smallR b) (hc : smallR c) : ∃ x, spec_MayDrop.F N (a, b, c) = some x ∧ impl_MayDrop.F N (a, b, c) = some x := by
  rw [spec_MayDrop.F_eq, impl_MayDrop.F_eq]
  obtain ⟨x1, e1, e2⟩ := IsReport_same N hN a ha
  obtain ⟨x2, e3, e4⟩ := IsReport_same N hN b hb
  obtain ⟨x3, e5, e6⟩ := IsReport_same N hN c hc
  obtain ⟨q1, l1, k1, k2⟩ := NewKeys_same N hN a b ha hb
  obtain ⟨q2, l2, k3, k4⟩ := NewKeys_same N hN b a hb ha
  have ha2 : q2.length ≤ 1048576 := by unfold smallR at ha; omega
  obtain ⟨y, d1, d2⟩ := Drop_L1 N hN c.1 c.2 q2 hc ha2 N 0 (by omega) (by omega)
  simp only [Int.natCast_zero] at d1 d2
  simp only [e1, e2, e3, e4, e5, e6, k1, k2, k3, k4, bindV, d1, d2]
  cases x1 with
  | false => simp only [notF, condT]; exact ⟨_, rfl, rfl⟩
  | true =>
    cases x2 with
    | false => simp only [notF, notT, condT, condF]; exact ⟨_, rfl, rfl⟩
    | true =>
      cases x3 with
      | false => simp only [notF, notT, condT, condF]; exact ⟨_, rfl, rfl⟩
      | true =>
        simp only [notT, condF]
        cases decide ((q1.length : Int) > 0) with
        | true =>
          simp only [condT]
          cases bitAnd .i64 (bitXor .i64 a.1 b.1) (bitXor .i64 b.1 c.1) != 0 with
          | true => simp only [condT]; exact ⟨_, rfl, rfl⟩
          | false => simp only [condF]; exact ⟨_, rfl, rfl⟩
        | false =>
          simp only [condF]
          cases bitAnd .i64 (bitXor .i64 a.1 b.1) (bitXor .i64 b.1 c.1) != 0 with
          | true => simp only [condT]; exact ⟨_, rfl, rfl⟩
          | false => simp only [condF]; exact ⟨_, rfl, rfl⟩

/-! ### a pipe -/
end Go.Kb
