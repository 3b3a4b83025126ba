/- Reports: sizes, copies; is it a report; the new keys. -/
import Derived.Test.YtokploahoidhoabExactPushAllP8
namespace Go.Kb

abbrev Rpt := Int × List Int
def smallR (r : Rpt) : Prop := r.2.length ≤ 1048576

theorem szReport_eq (N : Nat) (r : Rpt) (left : Int) (h : r.2.length ≤ maxLen) (h0 : 0 ≤ left) (h1 : left ≤ 1048576) : ∃ q, laws_szReport.F N (r, left) = some q ∧ -1 ≤ q ∧ q ≤ left ∧ (0 ≤ q → smallR r) := by
  rw [laws_szReport.F_eq]
  obtain ⟨q, e, q0, q1, q2⟩ := szIntS_eq N r.2 left h h0 h1
  rw [e, bindV]
  by_cases hq : q < 0
  · simp only [hq, decide_true, condT]; exact ⟨_, rfl, by omega, by omega, fun h => by omega⟩
  · simp only [hq, decide_false, condF]; exact ⟨_, rfl, q0, q1, q2⟩

theorem toReport_eq (N : Nat) (hN : 1048576 < N) (r : Rpt) (h : smallR r) : laws_toReport.F N r = some r := by
  unfold smallR at h
  rw [laws_toReport.F_eq, toIntS_eq N r.2 (by omega) (by unfold maxN; omega)]; rfl

theorem eqReport_eq (N : Nat) (hN : 1048576 < N) (a b : Rpt) (h : smallR a) : laws_eqReport.F N (a, b) = some (decide (a = b)) := by
  unfold smallR at h
  rw [laws_eqReport.F_eq, eqIntS_eq N a.2 b.2 (by omega) (by unfold maxN; omega), bindV]
  obtain ⟨x, xs⟩ := a
  obtain ⟨y, ys⟩ := b
  by_cases h1 : x = y
  · by_cases h2 : xs = ys
    · simp [h1, h2]
    · simp [h1, h2]
  · have : (x != y) = true := by rw [bneI]; simp only [h1, decide_false, notF]
    simp [this, h1]

def smallRS (a : List Rpt) : Prop := a.length ≤ 1048576 ∧ ∀ x ∈ a, smallR x

theorem szReportS_eq (N : Nat) (hN : 1048576 < N) (a : List Rpt) (left : Int) (h : a.length ≤ maxLen ∧ ∀ x ∈ a, x.2.length ≤ maxLen) (h0 : 0 ≤ left) (h1 : left ≤ 1048576) : ∃ r, laws_szReportS.F N (a, left) = some r ∧ -1 ≤ r ∧ r ≤ left ∧ (0 ≤ r → smallRS a) := by
  rw [laws_szReportS.F_eq]
  obtain ⟨ha, hx⟩ := h
  unfold maxLen at ha
  rw [wrap64 (by omega) (by omega)]
  by_cases hh : left - (a.length : Int) < 0
  · simp only [hh, decide_true, condT]; exact ⟨_, rfl, by omega, by omega, fun h => by omega⟩
  · simp only [hh, decide_false, condF]
    obtain ⟨r, e, r0, r1, r2⟩ := szLoop (0, []) (fun n a l i => laws_szReportS.L1 N n a l i) (fun x => laws_szReport.F N x) smallR a (fun n l i => laws_szReportS.L1_eq N n a l i)
      (fun x hm l g0 g1 => szReport_eq N x l (hx x hm) g0 g1) N 0 (left - (a.length : Int)) (by unfold maxN; omega) (by omega) (by omega) (by omega) (by omega)
    exact ⟨r, e, r0, by omega, fun h => ⟨by omega, r2 h⟩⟩

theorem eqReportS_eq (N : Nat) (hN : 1048576 < N) (a b : List Rpt) (h : smallRS a) : laws_eqReportS.F N (a, b) = some (decide (a = b)) := by
  obtain ⟨h1, h2⟩ := h
  have hm : a.length ≤ maxN := by unfold maxN; omega
  rw [laws_eqReportS.F_eq]
  by_cases hl : a.length = b.length
  · have : ((a.length : Int) != (b.length : Int)) = false := by simp [hl]
    rw [this, condF]
    have := eqLoop (0, []) (fun n a b i => laws_eqReportS.L1 N n a b i) (fun x => laws_eqReport.F N x) a b (fun n i => laws_eqReportS.L1_eq N n a b i) (fun x hx y => eqReport_eq N hN x y (h2 x hx)) N 0 hm hl.symm (by omega) (by omega)
    simpa using this
  · have h1 : ((a.length : Int) != (b.length : Int)) = true := by simp; omega
    have h2 : a ≠ b := fun e => hl (by rw [e])
    rw [h1, condT]
    simp [h2]

/-! ### is it a report? -/
theorem isCode_eq (N : Nat) (x : Int) : impl_isCode.F N x = some (decide (1 ≤ x ∧ x ≤ 56)) := by
  rw [impl_isCode.F_eq]
  by_cases a : 1 ≤ x <;> by_cases b : x ≤ 56 <;> simp [a, b]

theorem IsReport_L1 (N : Nat) (m : Int) (l : List Int) (hl : l.length ≤ 1048576) : ∀ (n i : Nat), i ≤ l.length → l.length < n + i →
    ∃ b, impl_IsReport.L1 N n l (l.length : Int) (i : Int) m l = some b ∧ spec_IsReport.L1 N n (i : Int) m l = some (b && decide (0 ≤ m ∧ m ≤ 15)) := by
  intro n
  induction n with
  | zero => intro i h1 h2; omega
  | succ n ih =>
    intro i h1 h2
    rw [impl_IsReport.L1_eq, spec_IsReport.L1_eq]
    by_cases hi : i < l.length
    · obtain ⟨b, e1, e2⟩ := ih (i + 1) (by omega) (by omega)
      have ws : IntKind.wrap .i64 ((i : Int) + 1) = ((i + 1 : Nat) : Int) := wrap_succ (by omega)
      simp only [Int.ofNat_lt, hi, decide_true, condT, inRange_nat, nth_nat, isCode_eq, l1In_eq, bindV, ws, e1, e2]
      cases decide (1 ≤ l.getD i 0 ∧ l.getD i 0 ≤ 56) with
      | false => simp only [notF, condT]; exact ⟨_, rfl, rfl⟩
      | true =>
        simp only [notT, condF]
        by_cases h0 : (i : Int) > 0
        · have wp : IntKind.wrap .i64 ((i : Int) - 1) = ((i - 1 : Nat) : Int) := by rw [wrap64 (by omega) (by omega)]; omega
          have hp : i - 1 < l.length := by omega
          simp only [h0, decide_true, condT, wp, inRange_nat, hp, nth_nat]
          cases decide (l.getD (i - 1) 0 ≥ l.getD i 0) with
          | true => simp only [condT]; exact ⟨_, rfl, rfl⟩
          | false => simp only [condF]; exact ⟨b, rfl, rfl⟩
        · simp only [h0, decide_false, condF]; exact ⟨b, rfl, rfl⟩
    · simp only [Int.ofNat_lt, hi, decide_false, condF, l1In_eq, bindV]
      exact ⟨true, rfl, rfl⟩

theorem IsReport_same (N : Nat) (hN : 1048576 < N) (r : Rpt) (h : smallR r) : ∃ b, spec_IsReport.F N r = some b ∧ impl_IsReport.F N r = some b := by
  unfold smallR at h
  rw [spec_IsReport.F_eq, impl_IsReport.F_eq]
  obtain ⟨b, e1, e2⟩ := IsReport_L1 N r.1 r.2 h N 0 (by omega) (by omega)
  simp only [Int.natCast_zero] at e1 e2
  rw [e1, e2]
  by_cases a : r.1 < 0
  · have q : ¬ (0 ≤ r.1 ∧ r.1 ≤ 15) := by omega
    simp only [a, q, decide_true, decide_false, condT, Bool.and_false]; exact ⟨_, rfl, rfl⟩
  · by_cases c : r.1 > 15
    · have q : ¬ (0 ≤ r.1 ∧ r.1 ≤ 15) := by omega
      simp only [a, c, q, decide_true, decide_false, condT, condF, Bool.and_false]; exact ⟨_, rfl, rfl⟩
    · have q : 0 ≤ r.1 ∧ r.1 ≤ 15 := by omega
      rw [decide_eq_true q]
      simp only [a, c, decide_false, condF, Bool.and_true]; exact ⟨_, rfl, rfl⟩

theorem has_L1 (N : Nat) (x : Int) (l : List Int) (hl : l.length ≤ 1048576) : ∀ (n i : Nat), i ≤ l.length → l.length < n + i →
    ∃ b, spec_l12Has.L1 N n l x (i : Int) = some b ∧ impl_hasInt.L1 N n x l (l.length : Int) (i : Int) = some b := by
  intro n
  induction n with
  | zero => intro i h1 h2; omega
  | succ n ih =>
    intro i h1 h2
    rw [spec_l12Has.L1_eq, impl_hasInt.L1_eq]
    by_cases hi : i < l.length
    · obtain ⟨b, e1, e2⟩ := ih (i + 1) (by omega) (by omega)
      have ws : IntKind.wrap .i64 ((i : Int) + 1) = ((i + 1 : Nat) : Int) := wrap_succ (by omega)
      simp only [Int.ofNat_lt, hi, decide_true, condT, inRange_nat, nth_nat, ws, e1, e2]
      cases l.getD i 0 == x with
      | true => simp only [condT]; exact ⟨_, rfl, rfl⟩
      | false => simp only [condF]; exact ⟨_, rfl, rfl⟩
    · simp only [Int.ofNat_lt, hi, decide_false, condF]
      exact ⟨_, rfl, rfl⟩

theorem has_same (N : Nat) (hN : 1048576 < N) (l : List Int) (x : Int) (hl : l.length ≤ 1048576) : ∃ b, spec_l12Has.F N (l, x) = some b ∧ impl_hasInt.F N (l, x) = some b := by
  rw [spec_l12Has.F_eq, impl_hasInt.F_eq]
  exact has_L1 N x l hl N 0 (by omega) (by omega)

/-! ### the new keys -/
theorem NewKeys_L1 (N : Nat) (hN : 1048576 < N) (m1 m2 : Int) (l1 l2 : List Int) (h1 : l1.length ≤ 1048576) (h2 : l2.length ≤ 1048576) (e1 : spec_IsReport.F N (m1, l1) = some true) (e2 : spec_IsReport.F N (m2, l2) = some true) :
    ∀ (n i : Nat) (o : List Int), i ≤ l2.length → l2.length < n + i → o.length ≤ i →
    ∃ q, q.length ≤ l2.length ∧ spec_NewKeys.L1 N n (i : Int) m1 l1 m2 l2 o = some q ∧ impl_NewKeys.L1 N n l2 (l2.length : Int) (i : Int) m1 l1 o = some q := by
  intro n
  induction n with
  | zero => intro i o h3 h4; omega
  | succ n ih =>
    intro i o h3 h4 h5
    rw [spec_NewKeys.L1_eq, impl_NewKeys.L1_eq]
    by_cases hi : i < l2.length
    · have ws : IntKind.wrap .i64 ((i : Int) + 1) = ((i + 1 : Nat) : Int) := wrap_succ (by omega)
      obtain ⟨b, f1, f2⟩ := has_same N hN l1 (l2.getD i 0) h1
      have hm : o.length + List.length ([l2.getD i 0] : List Int) ≤ maxN := by simp only [maxN, List.length_cons, List.length_nil]; omega
      simp only [Int.ofNat_lt, hi, decide_true, condT, e1, e2, bindV, inRange_nat, nth_nat, ws, f1, f2, hm]
      cases b with
      | true =>
        simp only [notT, condF]
        exact ih (i + 1) o (by omega) (by omega) (by omega)
      | false =>
        simp only [notF, condT]
        exact ih (i + 1) _ (by omega) (by omega) (by simp only [List.length_append, List.length_cons, List.length_nil]; omega)
    · simp only [Int.ofNat_lt, hi, decide_false, condF]
      exact ⟨o, by omega, rfl, rfl⟩

theorem NewKeys_same (N : Nat) (hN : 1048576 < N) (a b : Rpt) (ha : smallR a) (hb : smallR b) : ∃ q, q.length ≤ b.2.length ∧ spec_NewKeys.F N (a, b) = some q ∧ impl_NewKeys.F N (a, b) = some q := by
  rw [spec_NewKeys.F_eq, impl_NewKeys.F_eq]
  obtain ⟨x, e1, e2⟩ := IsReport_same N hN a ha
  obtain ⟨y, e3, e4⟩ := IsReport_same N hN b hb
  have e1' : spec_IsReport.F N (a.1, a.2) = some x := e1
  have e3' : spec_IsReport.F N (b.1, b.2) = some y := e3
  unfold smallR at ha hb
  obtain ⟨n, rfl⟩ : ∃ n, N = n + 1 := ⟨N - 1, by omega⟩
  cases x with
  | false =>
    simp only [e2, bindV, notF, condT]
    refine ⟨[], by simp, ?_, rfl⟩
    rw [spec_NewKeys.L1_eq]
    cases decide ((0 : Int) < (b.2.length : Int)) with
    | true => simp only [e1', bindV, condT, condF]
    | false => simp only [condF]
  | true =>
    cases y with
    | false =>
      simp only [e2, e4, bindV, notF, notT, condT, condF]
      refine ⟨[], by simp, ?_, rfl⟩
      rw [spec_NewKeys.L1_eq]
      cases decide ((0 : Int) < (b.2.length : Int)) with
      | true => simp only [e1', e3', bindV, condT, condF]
      | false => simp only [condF]
    | true =>
      simp only [e2, e4, bindV, notT, condF]
      exact NewKeys_L1 (n + 1) hN a.1 b.1 a.2 b.2 ha hb e1' e3' (n + 1) 0 [] (by omega) (by omega) (by simp)

end Go.Kb
