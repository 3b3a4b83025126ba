/- Is it a combiner? Whole. -/
import Derived.Test.YtnoifcpgionjkabExactCombineEventP21
namespace Go.Kb

theorem bindSome {α : Type} (x : Option α) : (bindO x fun r => some r) = x := by cases x <;> rfl

theorem NB_ok (N : Nat) (l : List Ev) (hl : l.length ≤ 1048576) (t : Int) : ∃ b, impl_notBehind.F N (l, t) = some b := by
  rw [impl_notBehind.F_eq]
  by_cases h : l.length = 0
  · have e : ((l.length : Int) == 0) = true := by rw [beqI]; exact decide_eq_true (by omega)
    simp only [e, condT]; exact ⟨_, rfl⟩
  · have e : ((l.length : Int) == 0) = false := by rw [beqI]; exact decide_eq_false (by omega)
    have w : IntKind.wrap .i64 ((l.length : Int) - 1) = ((l.length - 1 : Nat) : Int) := by rw [wrap64 (by omega) (by omega)]; omega
    have hp : l.length - 1 < l.length := by omega
    simp only [e, condF, w, inRange_nat, hp, decide_true, condT]; exact ⟨_, rfl⟩

structure smallC (c : Cm) : Prop where
  a : c.1.length ≤ 1048576
  b : c.2.2.1.length ≤ 1048576
  d : c.2.2.2.2.2.2.length ≤ 1048576

theorem IsC_same (N : Nat) (hN' : 1100000 < N) (c : Cm) (hs : smallC c) (hr : ∀ x ∈ c.2.2.2.2.2.2, x.2.1 ≤ 9223372036854775807) : ∃ b, spec_IsCombiner.F N c = some b ∧ impl_IsCombiner.F N c = some b := by
  have hN : 1048576 < N := by omega
  obtain ⟨cs, te, qu, ti, tk, ba, ac⟩ := c
  have ha : cs.length ≤ 1048576 := hs.a
  have hb : qu.length ≤ 1048576 := hs.b
  have hd : ac.length ≤ 1048576 := hs.d
  obtain ⟨b1, e1, e2⟩ := Combos_same N hN cs ha
  obtain ⟨nb, hnb⟩ := NB_ok N qu hb ti
  have hNB := impl_notBehind.F_eq N qu ti
  rw [hnb] at hNB
  rw [spec_IsCombiner.F_eq, impl_IsCombiner.F_eq]
  simp only [e1, e2, bindV, l1In_eq]
  cases b1 with
  | false => simp only [notF, condT]; exact ⟨_, rfl, rfl⟩
  | true =>
    simp only [notT, condF]
    have hc := combosT N cs ha e2
    have s0 : seenOk ac 0 0 := ⟨by omega, fun o _ _ => ⟨fun h => by simp at h, fun ⟨j, g, _⟩ => absurd g (by omega)⟩⟩
    obtain ⟨A, D, f1, f2, f3⟩ := Act_L1 N cs te qu ti tk ba ac hN hd hr ha hc N 0 ba 0 (by omega) (by omega) s0
    obtain ⟨D2, h, g1, g2, g3⟩ := switch_L1 N cs te qu ti tk ba ac hd N 0 ba (by omega) (by omega)
    simp only [Int.natCast_zero] at f1 f2 f3 g1 g2
    rw [f2] at g1
    injection g1 with g1
    subst g1
    have k1 : spec_l11Active.F N (cs, (te, (qu, (ti, (tk, (ba, ac)))))) = some (A && (D.2 && decide (0 ≤ ba ∧ ba ≤ 16777215))) := by rw [spec_l11Active.F_eq]; exact f3
    have k2 : spec_l11Held.F N (cs, (te, (qu, (ti, (tk, (ba, ac)))))) = some h := by rw [spec_l11Held.F_eq]; exact g2
    have k3 : impl_activeFits.F N (cs, (te, (qu, (ti, (tk, (ba, ac)))))) = some A := by rw [impl_activeFits.F_eq]; exact f1
    have k4 : impl_switchesDown.F N (cs, (te, (qu, (ti, (tk, (ba, ac)))))) = some D := by rw [impl_switchesDown.F_eq]; exact f2
    obtain ⟨fb, m1, m2⟩ := Queue_same N hN' qu (by omega) h
    simp only [k1, k2, k3, k4, bindV, m1]
    by_cases a1 : te < 1
    · have q : ¬ (1 ≤ te ∧ te ≤ 200) := by omega
      simp only [a1, q, decide_true, decide_false, notF, condT]; exact ⟨_, rfl, rfl⟩
    by_cases a2 : te > 200
    · have q : ¬ (1 ≤ te ∧ te ≤ 200) := by omega
      simp only [a1, a2, q, decide_true, decide_false, notF, condT, condF]; exact ⟨_, rfl, rfl⟩
    have q1 : 1 ≤ te ∧ te ≤ 200 := by omega
    rw [decide_eq_true q1]
    simp only [a1, a2, decide_false, notT, condF]
    by_cases a3 : ti < 0
    · have q : ¬ (0 ≤ ti ∧ ti ≤ 1000000) := by omega
      simp only [a3, q, decide_true, decide_false, notF, condT]; exact ⟨_, rfl, rfl⟩
    by_cases a4 : ti > 1000000
    · have q : ¬ (0 ≤ ti ∧ ti ≤ 1000000) := by omega
      simp only [a3, a4, q, decide_true, decide_false, notF, condT, condF]; exact ⟨_, rfl, rfl⟩
    have q2 : 0 ≤ ti ∧ ti ≤ 1000000 := by omega
    rw [decide_eq_true q2]
    simp only [a3, a4, decide_false, notT, condF]
    by_cases a5 : tk < 0
    · have q : ¬ (0 ≤ tk ∧ tk ≤ ti) := by omega
      simp only [a5, q, decide_true, decide_false, notF, condT]; exact ⟨_, rfl, rfl⟩
    by_cases a6 : tk > ti
    · have q : ¬ (0 ≤ tk ∧ tk ≤ ti) := by omega
      simp only [a5, a6, q, decide_true, decide_false, notF, condT, condF]; exact ⟨_, rfl, rfl⟩
    have q3 : 0 ≤ tk ∧ tk ≤ ti := by omega
    rw [decide_eq_true q3]
    simp only [a5, a6, decide_false, notT, condF]
    by_cases a7 : ba < 0
    · have q : ¬ (0 ≤ ba ∧ ba ≤ 16777215) := by omega
      simp only [a7, q, decide_true, decide_false, Bool.and_false, notF, condT]; exact ⟨_, rfl, rfl⟩
    by_cases a8 : ba > 16777215
    · have q : ¬ (0 ≤ ba ∧ ba ≤ 16777215) := by omega
      simp only [a7, a8, q, decide_true, decide_false, Bool.and_false, notF, condT, condF]; exact ⟨_, rfl, rfl⟩
    have q4 : 0 ≤ ba ∧ ba ≤ 16777215 := by omega
    rw [decide_eq_true q4]
    simp only [a7, a8, decide_false, condF, Bool.and_true]
    cases A with
    | false => simp only [Bool.false_and, notF, condT]; exact ⟨_, rfl, rfl⟩
    | true =>
      simp only [Bool.true_and, notT, condF]
      cases hD : D.2 with
      | false => simp only [notF, condT, condF]; exact ⟨_, rfl, rfl⟩
      | true =>
        rw [g3 hD]
        simp only [notT, condF, condT, m2, bindV]
        cases fb with
        | false => simp only [condF]; exact ⟨_, rfl, rfl⟩
        | true =>
          simp only [condT]
          rw [← hNB, bindSome, hnb]
          exact ⟨nb, rfl, rfl⟩

/-! ### sizes, copies, comparisons -/
theorem toEventS_eq (N : Nat) (a : List Ev) (h : a.length < N) (hm : a.length ≤ maxN) : laws_toEventS.F N a = some a := by
  rw [laws_toEventS.F_eq, lenOk hm, condT]
  exact toLoop (0, 0, false) (fun n a i o => laws_toEventS.L1 N n a i o) (fun x => laws_toEvent.F N x) a (fun n i o => laws_toEventS.L1_eq N n a i o) (fun x _ => laws_toEvent.F_eq N x) N 0 _ hm (by simp) (by omega) (by omega) (by simp)

theorem toActiveS_eq (N : Nat) (a : List Ev) (h : a.length < N) (hm : a.length ≤ maxN) : laws_toActiveS.F N a = some a := by
  rw [laws_toActiveS.F_eq, lenOk hm, condT]
  exact toLoop (0, 0, false) (fun n a i o => laws_toActiveS.L1 N n a i o) (fun x => laws_toActive.F N x) a (fun n i o => laws_toActiveS.L1_eq N n a i o) (fun x _ => laws_toActive.F_eq N x) N 0 _ hm (by simp) (by omega) (by omega) (by simp)

theorem tri_eq (a b : Ev) : (bif a.1 != b.1 then some false else bif a.2.1 != b.2.1 then some false else bif a.2.2 != b.2.2 then some false else some true) = some (decide (a = b)) := by
  obtain ⟨x, y, z⟩ := a
  obtain ⟨u, v, w⟩ := b
  simp only [bneI]
  by_cases h1 : x = u
  · by_cases h2 : y = v
    · by_cases h3 : z = w
      · simp [h1, h2, h3]
      · have h4 : (z != w) = true := by cases z <;> cases w <;> simp at h3 ⊢
        simp [h1, h2, h3, h4]
    · simp [h1, h2]
  · simp [h1]

theorem eqEventS_eq (N : Nat) (a b : List Ev) (h : a.length < N) (hm : a.length ≤ maxN) : laws_eqEventS.F N (a, b) = some (decide (a = b)) := by
  rw [laws_eqEventS.F_eq]
  by_cases hl : a.length = b.length
  · have : ((a.length : Int) != (b.length : Int)) = false := by simp [hl]
    rw [this, condF]
    have := eqLoop (0, 0, false) (fun n a b i => laws_eqEventS.L1 N n a b i) (fun x => laws_eqEvent.F N x) a b (fun n i => laws_eqEventS.L1_eq N n a b i) (fun x _ y => by rw [laws_eqEvent.F_eq]; exact tri_eq x y) N 0 hm hl.symm (by omega) (by omega)
    simpa using this
  · have h1 : ((a.length : Int) != (b.length : Int)) = true := by simp; omega
    have h2 : a ≠ b := fun e => hl (by rw [e])
    rw [h1, condT]
    simp [h2]

theorem eqActiveS_eq (N : Nat) (a b : List Ev) (h : a.length < N) (hm : a.length ≤ maxN) : laws_eqActiveS.F N (a, b) = some (decide (a = b)) := by
  rw [laws_eqActiveS.F_eq]
  by_cases hl : a.length = b.length
  · have : ((a.length : Int) != (b.length : Int)) = false := by simp [hl]
    rw [this, condF]
    have := eqLoop (0, 0, false) (fun n a b i => laws_eqActiveS.L1 N n a b i) (fun x => laws_eqActive.F N x) a b (fun n i => laws_eqActiveS.L1_eq N n a b i) (fun x _ y => by rw [laws_eqActive.F_eq]; exact tri_eq x y) N 0 hm hl.symm (by omega) (by omega)
    simpa using this
  · have h1 : ((a.length : Int) != (b.length : Int)) = true := by simp; omega
    have h2 : a ≠ b := fun e => hl (by rw [e])
    rw [h1, condT]
    simp [h2]

structure wellC (c : Cm) : Prop where
  a : c.1.length ≤ maxLen
  b : c.2.2.1.length ≤ maxLen
  d : c.2.2.2.2.2.2.length ≤ maxLen
  m : ∀ x ∈ c.2.2.2.2.2.2, x.2.1 ≤ 9223372036854775807

end Go.Kb
