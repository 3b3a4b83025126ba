/- May a report be dropped? Is it a pipe? -/
import Derived.Test.YtokploahoidhoabExactPushAllP13
namespace Go.Kb

theorem Drop_L1 (N : Nat) (hN : 1048576 < N) (m : Int) (l g : List Int) (hl : l.length ≤ 1048576) (hg : g.length ≤ 1048576) : ∀ (n i : Nat), i ≤ g.length → g.length < n + i →
    ∃ b, spec_MayDrop.L1 N n g (i : Int) m l = some b ∧ impl_MayDrop.L1 N n g (g.length : Int) (i : Int) m l = some b := by
  intro n
  induction n with
  | zero => intro i h1 h2; omega
  | succ n ih =>
    intro i h1 h2
    rw [spec_MayDrop.L1_eq, impl_MayDrop.L1_eq]
    by_cases hi : i < g.length
    · obtain ⟨b, e1, e2⟩ := ih (i + 1) (by omega) (by omega)
      obtain ⟨x, f1, f2⟩ := has_same N hN l (g.getD i 0) hl
      have ws : IntKind.wrap .i64 ((i : Int) + 1) = ((i + 1 : Nat) : Int) := wrap_succ (by omega)
      simp only [Int.ofNat_lt, hi, decide_true, condT, inRange_nat, nth_nat, ws, f1, f2, bindV, e1, e2]
      cases x with
      | true => simp only [condT]; exact ⟨_, rfl, rfl⟩
      | false => simp only [condF]; exact ⟨_, rfl, rfl⟩
    · simp only [Int.ofNat_lt, hi, decide_false, condF]
      exact ⟨_, rfl, rfl⟩

theorem MayDrop_same (N : Nat) (hN : 1048576 < N) (a b c : Rpt) (ha : smallR a) (hb : smallR b) (hc : smallR c) : ∃ x, spec_MayDrop.F N (a, b, c) = some x ∧ impl_MayDrop.F N (a, b, c) = some x := by
  rw [spec_MayDrop.F_eq, impl_MayDrop.F_eq]
  obtain ⟨x1, e1, e2⟩ := IsReport_same N hN a ha
  obtain ⟨x2, e3, e4⟩ := IsReport_same N hN b hb
  obtain ⟨x3, e5, e6⟩ := IsReport_same N hN c hc
  obtain ⟨q1, l1, k1, k2⟩ := NewKeys_same N hN a b ha hb
  obtain ⟨q2, l2, k3, k4⟩ := NewKeys_same N hN b a hb ha
  have ha2 : q2.length ≤ 1048576 := by unfold smallR at ha; omega
  obtain ⟨y, d1, d2⟩ := Drop_L1 N hN c.1 c.2 q2 hc ha2 N 0 (by omega) (by omega)
  simp only [Int.natCast_zero] at d1 d2
  simp only [e1, e2, e3, e4, e5, e6, k1, k2, k3, k4, bindV, d1, d2]
  cases x1 with
  | false => simp only [notF, condT]; exact ⟨_, rfl, rfl⟩
  | true =>
    cases x2 with
    | false => simp only [notF, notT, condT, condF]; exact ⟨_, rfl, rfl⟩
    | true =>
      cases x3 with
      | false => simp only [notF, notT, condT, condF]; exact ⟨_, rfl, rfl⟩
      | true =>
        simp only [notT, condF]
        cases decide ((q1.length : Int) > 0) with
        | true =>
          simp only [condT]
          cases bitAnd .i64 (bitXor .i64 a.1 b.1) (bitXor .i64 b.1 c.1) != 0 with
          | true => simp only [condT]; exact ⟨_, rfl, rfl⟩
          | false => simp only [condF]; exact ⟨_, rfl, rfl⟩
        | false =>
          simp only [condF]
          cases bitAnd .i64 (bitXor .i64 a.1 b.1) (bitXor .i64 b.1 c.1) != 0 with
          | true => simp only [condT]; exact ⟨_, rfl, rfl⟩
          | false => simp only [condF]; exact ⟨_, rfl, rfl⟩

/-! ### a pipe -/
theorem SameR_L1 (N : Nat) (m1 m2 : Int) (l1 l2 : List Int) (hl : l1.length ≤ 1048576) (h2 : l2.length = l1.length) : ∀ (n i : Nat), i ≤ l1.length → l1.length < n + i →
    ∃ b, spec_SameReport.L1 N n (i : Int) m1 l1 m2 l2 = some b ∧ impl_sameInts.L1 N n l1 l2 (l1.length : Int) (i : Int) = some b := by
  intro n
  induction n with
  | zero => intro i h1 h3; omega
  | succ n ih =>
    intro i h1 h3
    rw [spec_SameReport.L1_eq, impl_sameInts.L1_eq]
    by_cases hi : i < l1.length
    · obtain ⟨b, e1, e2⟩ := ih (i + 1) (by omega) (by omega)
      have hi2 : i < l2.length := by omega
      have ws : IntKind.wrap .i64 ((i : Int) + 1) = ((i + 1 : Nat) : Int) := wrap_succ (by omega)
      simp only [Int.ofNat_lt, hi, hi2, decide_true, condT, inRange_nat, nth_nat, ws, e1, e2]
      cases l1.getD i 0 != l2.getD i 0 with
      | true => simp only [condT]; exact ⟨_, rfl, rfl⟩
      | false => simp only [condF]; exact ⟨_, rfl, rfl⟩
    · simp only [Int.ofNat_lt, hi, decide_false, condF]
      exact ⟨_, rfl, rfl⟩

theorem SameR_same (N : Nat) (hN : 1048576 < N) (a b : Rpt) (ha : smallR a) : ∃ x, spec_SameReport.F N (a, b) = some x ∧ impl_SameReport.F N (a, b) = some x := by
  unfold smallR at ha
  rw [spec_SameReport.F_eq, impl_SameReport.F_eq, impl_sameInts.F_eq]
  by_cases h : a.1 = b.1
  · have e1 : (a.1 != b.1) = false := by rw [bneI, decide_eq_true h, notT]
    have e2 : (a.1 == b.1) = true := by rw [beqI, decide_eq_true h]
    simp only [e1, e2, condT, condF]
    by_cases hl : a.2.length = b.2.length
    · have e3 : ((a.2.length : Int) != (b.2.length : Int)) = false := by rw [bneI, decide_eq_true (by omega), notT]
      obtain ⟨x, d1, d2⟩ := SameR_L1 N a.1 b.1 a.2 b.2 ha hl.symm N 0 (by omega) (by omega)
      simp only [Int.natCast_zero] at d1 d2
      simp only [e3, condF, d1, d2, bindV]
      exact ⟨_, rfl, rfl⟩
    · have e3 : ((a.2.length : Int) != (b.2.length : Int)) = true := by rw [bneI, decide_eq_false (by omega), notF]
      simp only [e3, condT, bindV]
      exact ⟨_, rfl, rfl⟩
  · have e1 : (a.1 != b.1) = true := by rw [bneI, decide_eq_false h, notF]
    have e2 : (a.1 == b.1) = false := by rw [beqI, decide_eq_false h]
    simp only [e1, e2, condT, condF]
    exact ⟨_, rfl, rfl⟩

theorem IsPipe_L1 (N : Nat) (hN : 1048576 < N) (m : Int) (ks : List Int) (l : List Rpt) (hl : smallRS l) (x : Bool) (hx : spec_IsReport.F N (m, ks) = some x) : ∀ (n i : Nat) (c : Rpt), smallR c → i ≤ l.length → l.length < n + i →
    ∃ b, impl_IsPipe.L1 N n l (l.length : Int) (i : Int) c.1 c.2 = some b ∧ spec_IsPipe.L1 N n (i : Int) m ks l c.1 c.2 = some (b && (x && decide ((l.length : Int) ≤ 8))) := by
  intro n
  induction n with
  | zero => intro i c hc h1 h2; omega
  | succ n ih =>
    intro i c hc h1 h2
    have hl1 := hl.1
    rw [impl_IsPipe.L1_eq, spec_IsPipe.L1_eq]
    by_cases hi : i < l.length
    · have hs := hl.2 _ (nth_mem (0, []) l i hi)
      obtain ⟨b, e1, e2⟩ := ih (i + 1) (l.getD i (0, [])) hs (by omega) (by omega)
      obtain ⟨y, f1, f2⟩ := IsReport_same N hN _ hs
      obtain ⟨z, g1, g2⟩ := SameR_same N hN c (l.getD i (0, [])) hc
      have g1' : spec_SameReport.F N ((c.1, c.2), l.getD i (0, [])) = some z := g1
      have g2' : impl_SameReport.F N ((c.1, c.2), l.getD i (0, [])) = some z := g2
      have ws : IntKind.wrap .i64 ((i : Int) + 1) = ((i + 1 : Nat) : Int) := wrap_succ (by omega)
      simp only [Int.ofNat_lt, hi, decide_true, condT, inRange_nat, nth_nat, ws, f1, f2, g1', g2', bindV, e1, e2]
      cases y with
      | false => simp only [notF, condT]; exact ⟨_, rfl, rfl⟩
      | true =>
        simp only [notT, condF]
        cases z with
        | true => simp only [condT]; exact ⟨_, rfl, rfl⟩
        | false => simp only [condF]; exact ⟨_, rfl, rfl⟩
    · simp only [Int.ofNat_lt, hi, decide_false, condF, hx, bindV]
      cases x with
      | true => simp only [condT]; exact ⟨true, rfl, rfl⟩
      | false => simp only [condF]; exact ⟨true, rfl, rfl⟩

theorem IsPipe_same (N : Nat) (hN : 1048576 < N) (p : Rpt × List Rpt) (h1 : smallR p.1) (h2 : smallRS p.2) : ∃ b, spec_IsPipe.F N p = some b ∧ impl_IsPipe.F N p = some b := by
  rw [spec_IsPipe.F_eq, impl_IsPipe.F_eq]
  obtain ⟨x, f1, f2⟩ := IsReport_same N hN p.1 h1
  obtain ⟨b, e1, e2⟩ := IsPipe_L1 N hN p.1.1 p.1.2 p.2 h2 x f1 N 0 p.1 h1 (by omega) (by have := h2.1; omega)
  simp only [Int.natCast_zero] at e1 e2
  rw [e2]
  simp only [f2, bindV, e1]
  cases x with
  | false => simp only [notF, condT, Bool.false_and, Bool.and_false]; exact ⟨_, rfl, rfl⟩
  | true =>
    simp only [notT, condF, Bool.true_and]
    by_cases h : (p.2.length : Int) > 8
    · have q : ¬ ((p.2.length : Int) ≤ 8) := by omega
      simp only [h, q, decide_true, decide_false, condT, Bool.and_false]; exact ⟨_, rfl, rfl⟩
    · have q : (p.2.length : Int) ≤ 8 := by omega
      simp only [h, q, decide_true, decide_false, condF, Bool.and_true]; exact ⟨_, rfl, rfl⟩

end Go.Kb
