/- Is it a combiner? Whole. -/
import Derived.Test.YtnoifcpgionjkaaCombinedP21
namespace Go.Kb

theorem bindSome {α : Type} (x : Option α) : (bindO x fun r => some r) = x := by cases x <;> rfl

theorem NB_ok (N : Nat) (l : List Ev) (hl : l.length ≤ 1048576) (t : Int) : ∃ b, impl_notBehind.F N (l, t) = some b := by
  rw [impl_notBehind.F_eq]
  by_cases h : l.length = 0
  · have e : ((l.length : Int) == 0) = true := by rw [beqI]; exact decide_eq_true (by omega)
    simp only [e, condT]; exact ⟨_, rfl⟩
  · have e : ((l.length : Int) == 0) = false := by rw [beqI]; exact decide_eq_false (by omega)
    have w : IntKind.wrap .i64 ((l.length : Int) - 1) = ((l.length - 1 : Nat) : Int) := by rw [wrap64 (by omega) (by omega)]; omega
    have hp : l.length - 1 < l.length := by omega
    simp only [e, condF, w, inRange_nat, hp, decide_true, condT]; exact ⟨_, rfl⟩

structure smallC (c : Cm) : Prop where
  a : c.1.length ≤ 1048576
  b : c.2.2.1.length ≤ 1048576
  d : c.2.2.2.2.2.2.length ≤ 1048576

theorem IsC_same (N : Nat) (hN' : 1100000 < N) (c : Cm) (hs : smallC c) (hr : ∀ x ∈ c.2.2.2.2.2.2, x.2.1 ≤ 9223372036854775807) : ∃ b, spec_IsCombiner.F N c = some b ∧ impl_IsCombiner.F N c = some b := by
  have hN : 1048576 < N := by omega
  obtain ⟨cs, te, qu, ti, tk, ba, ac⟩ := c
  have ha : cs.length ≤ 1048576 := hs.a
  have hb : qu.length ≤ 1048576 := hs.b
  have hd : ac.length ≤ 1048576 := hs.d
  obtain ⟨b1, e1, e2⟩ := Combos_same N hN cs ha
  obtain ⟨nb, hnb⟩ := NB_ok N qu hb ti
  have hNB := impl_notBehind.F_eq N qu ti
  rw [hnb] at hNB
  rw [spec_IsCombiner.F_eq, impl_IsCombiner.F_eq]
  simp only [e1, e2, bindV, l1In_eq]
  cases b1 with
  | false => simp only [notF, condT]; exact ⟨_, rfl, rfl⟩
  | true =>
    simp only [notT, condF]
    have hc := combosT N cs ha e2
    have s0 : seenOk ac 0 0 := ⟨by omega, fun o _ _ => ⟨fun h => by simp at h, fun ⟨j, g, _⟩ => absurd g (by omega)⟩⟩
    obtain ⟨A, D, f1, f2, f3⟩ := Act_L1 N cs te qu ti tk ba ac hN hd hr ha hc N 0 ba 0 (by omega) (by omega) s0
    obtain ⟨D2, h, g1, g2, g3⟩ := switch_L1 N cs te qu ti tk ba ac hd N 0 ba (by omega) (by omega)
    simp only [Int.natCast_zero] at f1 f2 f3 g1 g2
    rw [f2] at g1
    injection g1 with g1
    subst g1
    have k1 : spec_l11Active.F N (cs, (te, (qu, (ti, (tk, (ba, ac)))))) = some (A && (D.2 && decide (0 ≤ ba ∧ ba ≤ 16777215))) := by rw [spec_l11Active.F_eq]; exact f3
    have k2 : spec_l11Held.F N (cs, (te, (qu, (ti, (tk, (ba, ac)))))) = some h := by rw [spec_l11Held.F_eq]; exact g2
    have k3 : impl_activeFits.F N (cs, (te, (qu, (ti, (tk, (ba, ac)))))) = some A := by rw [impl_activeFits.F_eq]; exact f1
    have k4 : impl_switchesDown.F N (cs, (te, (qu, (ti, (tk, (ba, ac)))))) = some D := by rw [impl_switchesDown.F_eq]; exact f2
    obtain ⟨fb, m1, m2⟩ := Queue_same N hN' qu (by omega) h
    simp only [k1, k2, k3, k4, bindV, m1]
    by_cases a1 : te < 1
    · have q : ¬ (1 ≤ te ∧ te ≤ 200) := by omega
      simp only [a1, q, decide_true, decide_false, notF, condT]; exact ⟨_, rfl, rfl⟩
    by_cases a2 : te > 200
    · have q : ¬ (1 ≤ te ∧ te ≤ 200) := by omega
      simp only [a1, a2, q, decide_true, decide_false, notF, condT, condF]; exact ⟨_, rfl, rfl⟩
    have q1 : 1 ≤ te ∧ te ≤ 200 := by omega
    rw [decide_eq_true q1]
    simp only [a1, a2, decide_false, notT, condF]
    by_cases a3 : ti < 0
    · have q : ¬ (0 ≤ ti ∧ ti ≤ 1000000) := by omega
      simp only [a3, q, decide_true, decide_false, notF, condT]; exact ⟨_, rfl, rfl⟩
    by_cases a4 : ti > 1000000
    · have q : ¬ (0 ≤ ti ∧ ti ≤ 1000000) := by omega
      simp only [a3, a4, q, decide_true, decide_false, notF, condT, condF]; exact ⟨_, rfl, rfl⟩
    have q2 : 0 ≤ ti ∧ ti ≤ 1000000 := by omega
    rw [decide_eq_true q2]
    simp only [a3, a4, decide_false, notT, condF]
    by_cases a5 : tk < 0
    · have q : ¬ (0 ≤ tk ∧ tk ≤ ti) := by omega
      simp only [a5, q, decide_true, decide_false, notF, condT]; exact ⟨_, rfl, rfl⟩
    by_cases a6 : tk > ti
    · have q : ¬ (0 ≤ tk ∧ tk ≤ ti) := by omega
      simp only [a5, a6, q, decide_true, decide_false, notF, condT, condF]; exact ⟨_, rfl, rfl⟩
    have q3 : 0 ≤ tk ∧ tk ≤ ti := by omega
    rw [decide_eq_true q3]
    simp only [a5, a6, decide_false, notT, condF]
    by_cases a7 : ba < 0
    · have q : ¬ (0 ≤ ba ∧ ba ≤ 16777215) := by omega
      simp only [a7, q, decide_true, decide_false, Bool.and_false, notF, condT]; exact ⟨_, rfl, rfl⟩
    by_cases a8 : ba > 16777215
    · have q : ¬ (0 ≤ ba ∧ ba ≤ 16777215) := by omega
      simp only [a7, a8, q, decide_true, decide_false, Bool.and_false, notF, condT, condF]; exact ⟨_, rfl, rfl⟩
    have q4 : 0 ≤ ba ∧ ba ≤ 16777215 := by omega
    rw [decide_eq_true q4]
    simp only [a7, a8, decide_false, condF, Bool.and_true]
    cases A with
    | false => simp only [Bool.false_and, notF, condT]; exact ⟨_, rfl, rfl⟩
    | true =>
      simp only [Bool.true_and, notT, condF]
      cases hD : D.2 with
      | false => simp only [notF, condT, condF]; exact ⟨_, rfl, rfl⟩
      | true =>
        rw [g3 hD]
        simp only [notT, condF, condT, m2, bindV]
        cases fb with
        | false => simp only [condF]; exact ⟨_, rfl, rfl⟩
        | true =>
          simp only [condT]
          rw [← hNB, bindSome, hnb]
          exact ⟨nb, rfl, rfl⟩

/-! ### sizes, copies, comparisons -/
structure wellC (c : Cm) : Prop where
  a : c.1.length ≤ maxLen
  b : c.2.2.1.length ≤ maxLen
  d : c.2.2.2.2.2.2.length ≤ maxLen
  m : ∀ x ∈ c.2.2.2.2.2.2, x.2.1 ≤ 9223372036854775807

end Go.Kb
