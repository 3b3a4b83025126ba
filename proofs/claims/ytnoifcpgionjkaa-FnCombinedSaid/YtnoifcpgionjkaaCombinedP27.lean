/- Events are performed as far as they can: the program's walk. -/
import Derived.Test.YtnoifcpgionjkaaCombinedP26
namespace Go.Kb

/-- the parts of a combiner -/
def Sc.cm (s : Sc) (l : List Cb) (term now : Int) : Cm := (l, (term, (s.q, (now, (s.ck, (s.dn, s.ac))))))

theorem keysOf_L1 (N : Nat) (out : Int) (l : List Cb) (hl : l.length ≤ 1048576) : ∀ (n i : Nat), i ≤ l.length → l.length < n + i →
    ∃ (e : Cb) (w : Bool), impl_comboOf.L1 N n out l (l.length : Int) (i : Int) = some (e, w) ∧ e.1 = keysOf (l.drop i) out := by
  intro n
  induction n with
  | zero => intro i h1 h2; omega
  | succ n ih =>
    intro i h1 h2
    rw [impl_comboOf.L1_eq]
    by_cases hi : i < l.length
    · obtain ⟨e, w, e1, e2⟩ := ih (i + 1) (by omega) (by omega)
      have ws : IntKind.wrap .i64 ((i : Int) + 1) = ((i + 1 : Nat) : Int) := wrap_succ (by omega)
      simp only [Int.ofNat_lt, hi, decide_true, condT, inRange_nat, nth_nat, ws, e1]
      rw [drop_cons (0, 0) l i hi]
      unfold keysOf at e2 ⊢
      rw [List.find?_cons]
      cases (l.getD i (0, 0)).2 == out with
      | true => simp only [condT]; exact ⟨_, _, rfl, rfl⟩
      | false => simp only [condF]; exact ⟨_, _, rfl, e2⟩
    · simp only [Int.ofNat_lt, hi, decide_false, condF]
      rw [List.drop_of_length_le (by omega)]
      exact ⟨_, _, rfl, rfl⟩

theorem keysOf_eq (N : Nat) (hN : 1048576 < N) (out : Int) (l : List Cb) (hl : l.length ≤ 1048576) : ∃ (e : Cb) (w : Bool), impl_comboOf.F N (l, out) = some (e, w) ∧ e.1 = keysOf l out := by
  rw [impl_comboOf.F_eq]
  have h := keysOf_L1 N out l hl N 0 (by omega) (by omega)
  rw [List.drop_zero] at h
  exact h

theorem perform_eq (N : Nat) (hN' : 2000000 < N) (l : List Cb) (hl : l.length ≤ 1048576) (hc : impl_IsCombos.F N l = some true) (term : Int) (ht : 1 ≤ term ∧ term ≤ 200) (now : Int) (s : Sc)
    (hq : s.q.length ≤ 1048576) (ha : s.ac.length ≤ 2000000) (h0 : 0 < s.q.length) (hsw : ∀ e ∈ s.q, isSw e = true) :
    impl_Combiner_perform.F N (s.cm l term now) = some (match stepC l term now s with
      | some (o, s') => (o, (true, s'.cm l term now))
      | none => ([], (false, s.cm l term now))) := by
  have hN : 1048576 < N := by omega
  obtain ⟨q, ck, dn, ac⟩ := s
  cases q with
  | nil => simp only [List.length_nil] at h0; omega
  | cons e r =>
    rw [impl_Combiner_perform.F_eq]
    simp only [List.length_cons] at hq
    simp only [Sc.cm] at *
    have hk := (isSw_spec (hsw e (by simp))).2.2.1
    have e0 : (0 : Int) ≤ 1 := by omega
    have e1 : (1 : Int) ≤ ((e :: r).length : Int) := by simp only [List.length_cons]; omega
    have e2 : r.length ≤ maxN := by unfold maxN; omega
    have hm := Match_eq N hN l hl hc term ht (e :: r) (by simp only [List.length_cons]; omega) now
    have hb := mtc_bound l term now (e :: r)
    have hu := Up_eq N hN' e.2.1 hk (maxI ck e.1) l term r now (maxI ck e.1) dn ac ha
    simp only [inRange0, condT, List.getD_cons_zero, e0, e1, Bool.and_self, List.drop_succ_cons, List.drop_zero, e2, decide_true, hu, hm, bindV, stepC]
    cases hd : e.2.2 with
    | false =>
      simp only [notF, condT]
      cases upGo e.2.1 (maxI ck e.1) ac with
      | none => rfl
      | some p => rfl
    | true =>
      simp only [notT, condF]
      generalize mtc l term now (e :: r) = m at *
      cases hz : m.1 == 0 with
      | true => simp only [condT]
      | false =>
        have e4 : (List.drop (Int.toNat m.1) (e :: r)).length ≤ maxN := by simp only [List.length_drop, List.length_cons, maxN]; omega
        simp only [condF, hb.1, hb.2, Bool.and_self, e4, decide_true, condT, hk]
        cases hx : decide (m.2.2 < 0) with
        | true => simp only [condT, bitK]
        | false =>
          obtain ⟨c, w, f1, f2⟩ := keysOf_eq N hN m.2.2 l hl
          have e5 : ac.length + ([(m.2.2, (keysOf l m.2.2, true))] : List Ev).length ≤ maxN := by simp only [List.length_cons, List.length_nil, maxN]; omega
          simp only [condF, f1, bindV, e5, decide_true, condT, f2]

theorem step_shape {l : List Cb} {term now : Int} {s : Sc} {o : List Ev} {s' : Sc} (h : stepC l term now s = some (o, s')) : (∃ m, 1 ≤ m ∧ m ≤ s.q.length ∧ s'.q = s.q.drop m) ∧ o.length ≤ 1 ∧ s'.ac.length ≤ s.ac.length + 1 := by
  have hup : ∀ (key at_ : Int) (a : List Ev) (e q : List Ev), upGo key at_ a = some (e, q) → e.length ≤ 1 ∧ q.length ≤ a.length := by
    intro key at_ a
    induction a with
    | nil => intro e q h; simp [upGo] at h
    | cons x r ih =>
      intro e q h
      simp only [upGo] at h
      cases hz : bitAnd .i64 (shiftR .i64 x.2.1 key) 1 == 0 with
      | true =>
        rw [hz, condT] at h
        cases hr : upGo key at_ r with
        | none => rw [hr] at h; cases h
        | some p =>
          obtain ⟨o, q'⟩ := p
          rw [hr] at h
          simp only [Option.some.injEq, Prod.mk.injEq] at h
          obtain ⟨rfl, rfl⟩ := h
          have := ih o q' hr
          simp only [List.length_cons]; omega
      | false =>
        rw [hz, condF] at h
        simp only [Option.some.injEq, Prod.mk.injEq] at h
        obtain ⟨rfl, rfl⟩ := h
        constructor
        · cases x.2.2 <;> simp
        · cases bitAndNot .i64 x.2.1 (bitK key) == 0 <;> simp
  obtain ⟨q, ck, dn, ac⟩ := s
  cases q with
  | nil => simp [stepC] at h
  | cons e r =>
    simp only [stepC] at h
    cases hd : e.2.2 with
    | false =>
      rw [hd] at h
      simp only [notF, condT] at h
      cases hg : upGo e.2.1 (maxI ck e.1) ac with
      | none =>
        rw [hg] at h
        simp only [Option.some.injEq, Prod.mk.injEq] at h
        obtain ⟨rfl, rfl⟩ := h
        exact ⟨⟨1, by omega, by simp, by simp⟩, by simp, by simp⟩
      | some p =>
        obtain ⟨o1, q1⟩ := p
        rw [hg] at h
        simp only [Option.some.injEq, Prod.mk.injEq] at h
        obtain ⟨rfl, rfl⟩ := h
        have := hup _ _ _ _ _ hg
        exact ⟨⟨1, by omega, by simp, by simp⟩, this.1, by simp only []; omega⟩
    | true =>
      rw [hd] at h
      simp only [notT, condF] at h
      have hb := mtc_bound l term now (e :: r)
      generalize mtc l term now (e :: r) = m at *
      cases hz : m.1 == 0 with
      | true => rw [hz, condT] at h; cases h
      | false =>
        have h1 : m.1 ≠ 0 := by simpa using hz
        rw [hz, condF] at h
        have hm : 1 ≤ m.1.toNat ∧ m.1.toNat ≤ (e :: r).length := by omega
        cases hx : decide (m.2.2 < 0) with
        | true =>
          rw [hx, condT] at h
          simp only [Option.some.injEq, Prod.mk.injEq] at h
          obtain ⟨rfl, rfl⟩ := h
          exact ⟨⟨_, hm.1, hm.2, rfl⟩, by simp, by simp⟩
        | false =>
          rw [hx, condF] at h
          simp only [Option.some.injEq, Prod.mk.injEq] at h
          obtain ⟨rfl, rfl⟩ := h
          exact ⟨⟨_, hm.1, hm.2, rfl⟩, by simp, by simp⟩

/-- fuel enough -/
theorem Run_L1 (N : Nat) (hN : 2000000 < N) (l : List Cb) (hl : l.length ≤ 1048576) (hc : impl_IsCombos.F N l = some true) (term : Int) (ht : 1 ≤ term ∧ term ≤ 200) (now : Int) :
    ∀ (k n : Nat) (s : Sc) (g : List Ev), s.q.length ≤ k → k < n → k ≤ 1000 → g.length + k ≤ 1000000 → s.ac.length + k ≤ 2000000 → (∀ e ∈ s.q, isSw e = true) →
    impl_CombineEvents.L1 N n term now s.ck s.dn s.q l s.ac g = some ((runC l term now k s).2.cm l term now, (g ++ (runC l term now k s).1, true)) := by
  intro k
  induction k with
  | zero =>
    intro n s g h1 h2 h3 h4 h5 h6
    obtain ⟨n, rfl⟩ : ∃ m, n = m + 1 := ⟨n - 1, by omega⟩
    rw [impl_CombineEvents.L1_eq]
    have : ¬ ((s.q.length : Int) > 0) := by omega
    simp only [this, decide_false, condF, runC, List.append_nil, Sc.cm]
  | succ k ih =>
    intro n s g h1 h2 h3 h4 h5 h6
    obtain ⟨n, rfl⟩ : ∃ m, n = m + 1 := ⟨n - 1, by omega⟩
    rw [impl_CombineEvents.L1_eq]
    by_cases h0 : 0 < s.q.length
    · have h0' : ((s.q.length : Int) > 0) := by omega
      have hp := perform_eq N hN l hl hc term ht now s (by omega) (by omega) h0 h6
      unfold Sc.cm at hp
      simp only [h0', decide_true, condT, hp, bindV, runC]
      cases hs : stepC l term now s with
      | none => simp only [notF, condT, List.append_nil, Sc.cm]
      | some p =>
        obtain ⟨o, s'⟩ := p
        obtain ⟨⟨m, m1, m2, m3⟩, m4, m5⟩ := step_shape hs
        have e1 : g.length + o.length ≤ maxN := by unfold maxN; omega
        have hi := ih n s' (g ++ o) (by rw [m3, List.length_drop]; omega) (by omega) (by omega) (by rw [List.length_append]; omega) (by omega) (by intro e he; rw [m3] at he; exact h6 e (List.mem_of_mem_drop he))
        simp only [notT, condF, e1, decide_true, condT]
        rw [hi, List.append_assoc]
    · have h0' : ¬ ((s.q.length : Int) > 0) := by omega
      have hs : stepC l term now s = none := by
        obtain ⟨q, ck, dn, ac⟩ := s
        cases q with
        | nil => rfl
        | cons e r => simp at h0
      simp only [h0', decide_false, condF, runC, hs, List.append_nil, Sc.cm]
end Go.Kb
