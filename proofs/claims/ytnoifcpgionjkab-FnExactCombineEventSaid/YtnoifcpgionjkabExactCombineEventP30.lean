/- The program's CombineEvents, CombineWait and CombineEvent answer as the reference's. -/
import Derived.Test.YtnoifcpgionjkabExactCombineEventP29
import Derived.Test.YtnoifcpgionjkabExactCombineEventF8
namespace Go.Kb

theorem marksE_L1 (N : Nat) : ∀ (n k : Nat) (c : Int) (o : List Ev), o.length ≤ maxN → k ≤ o.length → o.length < n + k → 0 ≤ c → c + 3 * (o.length - k) ≤ 4611686018427387904 →
    ∃ c' o', laws_markEventS.L1 N n c (k : Int) o = some (c', o') ∧ o'.length = o.length ∧ (∀ j, j < k → o'.getD j (0, 0, false) = o.getD j (0, 0, false)) ∧ c ≤ c' ∧ c' ≤ c + 3 * (o.length - k : Nat) ∧ laws_heldEventS.L1 N n o' c (k : Int) = some c' := by
  intro n
  induction n with
  | zero => intro k c o h1 h0 h2 h3 h4; omega
  | succ n ih =>
    intro k c o h1 h0 h2 h3 h4
    unfold maxN at h1
    rw [laws_markEventS.L1_eq]
    by_cases hk : k < o.length
    · have w1 : IntKind.wrap .i64 (c + 1) = c + 1 := wrap64 (by omega) (by omega)
      have w2 : IntKind.wrap .i64 (c + 1 + 1) = c + 1 + 1 := wrap64 (by omega) (by omega)
      have w3 : IntKind.wrap .i64 (c + 1 + 1 + 1) = c + 3 := by rw [wrap64 (by omega) (by omega)]; omega
      have ws : IntKind.wrap .i64 ((k : Int) + 1) = ((k + 1 : Nat) : Int) := wrap_succ (by omega)
      simp only [Int.ofNat_lt, hk, decide_true, condT, inRange_nat, Int.toNat_natCast, List.length_set, w1, w2, w3, ws, getD_set o k _ _ hk, List.set_set]
      obtain ⟨c', o', e1, e2, e3, e4, e5, e6⟩ := ih (k + 1) (c + 3) (o.set k (c, (c + 1, (Int.tmod (c + 1 + 1) 3 == 0)))) (by unfold maxN; simp; omega) (by simp; omega) (by simp; omega) (by omega) (by simp; omega)
      simp only [List.length_set] at e2 e5
      refine ⟨c', o', e1, e2, fun j hj => ?_, by omega, by omega, ?_⟩
      · rw [e3 j (by omega), getD_set_ne _ _ _ _ _ (by omega)]
      · rw [laws_heldEventS.L1_eq]
        have hk' : k < o'.length := by omega
        have hg : o'.getD k (0, 0, false) = (c, (c + 1, (Int.tmod (c + 1 + 1) 3 == 0))) := by rw [e3 k (by omega), getD_set _ _ _ _ hk]
        simp only [Int.ofNat_lt, hk', decide_true, condT, inRange_nat, nth_nat, hg, bne_self_eq_false, condF, w1, w2, w3, ws]
        exact e6
    · refine ⟨c, o, ?_, rfl, fun j _ => rfl, by omega, by omega, ?_⟩
      · simp only [Int.ofNat_lt, hk, decide_false, condF]
      · rw [laws_heldEventS.L1_eq]
        simp only [Int.ofNat_lt, hk, decide_false, condF]

theorem marksE_eq (N : Nat) (a : List Ev) (c : Int) (h : a.length < N) (hm : a.length ≤ maxN) (h0 : 0 ≤ c) (h1 : c ≤ 1152921504606846976) :
    ∃ c' o', laws_markEventS.F N (a, c) = some (c', o') ∧ c ≤ c' ∧ c' ≤ c + 3 * a.length ∧ laws_heldEventS.F N (o', c) = some c' ∧ o'.length = a.length := by
  rw [laws_markEventS.F_eq]
  obtain ⟨c', o', e1, e2, e3, e4, e5, e6⟩ := marksE_L1 N N 0 c a hm (by omega) (by omega) h0 (by unfold maxN at hm; omega)
  exact ⟨c', o', e1, e4, by omega, by rw [laws_heldEventS.F_eq]; exact e6, e2⟩

theorem marksA_L1 (N : Nat) : ∀ (n k : Nat) (c : Int) (o : List Ev), o.length ≤ maxN → k ≤ o.length → o.length < n + k → 0 ≤ c → c + 3 * (o.length - k) ≤ 4611686018427387904 →
    ∃ c' o', laws_markActiveS.L1 N n c (k : Int) o = some (c', o') ∧ o'.length = o.length ∧ (∀ j, j < k → o'.getD j (0, 0, false) = o.getD j (0, 0, false)) ∧ c ≤ c' ∧ c' ≤ c + 3 * (o.length - k : Nat) ∧ laws_heldActiveS.L1 N n o' c (k : Int) = some c' := by
  intro n
  induction n with
  | zero => intro k c o h1 h0 h2 h3 h4; omega
  | succ n ih =>
    intro k c o h1 h0 h2 h3 h4
    unfold maxN at h1
    rw [laws_markActiveS.L1_eq]
    by_cases hk : k < o.length
    · have w1 : IntKind.wrap .i64 (c + 1) = c + 1 := wrap64 (by omega) (by omega)
      have w2 : IntKind.wrap .i64 (c + 1 + 1) = c + 1 + 1 := wrap64 (by omega) (by omega)
      have w3 : IntKind.wrap .i64 (c + 1 + 1 + 1) = c + 3 := by rw [wrap64 (by omega) (by omega)]; omega
      have ws : IntKind.wrap .i64 ((k : Int) + 1) = ((k + 1 : Nat) : Int) := wrap_succ (by omega)
      simp only [Int.ofNat_lt, hk, decide_true, condT, inRange_nat, Int.toNat_natCast, List.length_set, w1, w2, w3, ws, getD_set o k _ _ hk, List.set_set]
      obtain ⟨c', o', e1, e2, e3, e4, e5, e6⟩ := ih (k + 1) (c + 3) (o.set k (c, (c + 1, (Int.tmod (c + 1 + 1) 3 == 0)))) (by unfold maxN; simp; omega) (by simp; omega) (by simp; omega) (by omega) (by simp; omega)
      simp only [List.length_set] at e2 e5
      refine ⟨c', o', e1, e2, fun j hj => ?_, by omega, by omega, ?_⟩
      · rw [e3 j (by omega), getD_set_ne _ _ _ _ _ (by omega)]
      · rw [laws_heldActiveS.L1_eq]
        have hk' : k < o'.length := by omega
        have hg : o'.getD k (0, 0, false) = (c, (c + 1, (Int.tmod (c + 1 + 1) 3 == 0))) := by rw [e3 k (by omega), getD_set _ _ _ _ hk]
        simp only [Int.ofNat_lt, hk', decide_true, condT, inRange_nat, nth_nat, hg, bne_self_eq_false, condF, w1, w2, w3, ws]
        exact e6
    · refine ⟨c, o, ?_, rfl, fun j _ => rfl, by omega, by omega, ?_⟩
      · simp only [Int.ofNat_lt, hk, decide_false, condF]
      · rw [laws_heldActiveS.L1_eq]
        simp only [Int.ofNat_lt, hk, decide_false, condF]

theorem marksA_eq (N : Nat) (a : List Ev) (c : Int) (h : a.length < N) (hm : a.length ≤ maxN) (h0 : 0 ≤ c) (h1 : c ≤ 1152921504606846976) :
    ∃ c' o', laws_markActiveS.F N (a, c) = some (c', o') ∧ c ≤ c' ∧ c' ≤ c + 3 * a.length ∧ laws_heldActiveS.F N (o', c) = some c' ∧ o'.length = a.length := by
  rw [laws_markActiveS.F_eq]
  obtain ⟨c', o', e1, e2, e3, e4, e5, e6⟩ := marksA_L1 N N 0 c a hm (by omega) (by omega) h0 (by unfold maxN at hm; omega)
  exact ⟨c', o', e1, e4, by omega, by rw [laws_heldActiveS.F_eq]; exact e6, e2⟩

structure lenC (c : Cm) : Prop where
  a : c.1.length ≤ 1100000
  b : c.2.2.1.length ≤ 1100000
  d : c.2.2.2.2.2.2.length ≤ 1100000

theorem marksCm (N : Nat) (hN : 2000000 < N) (c : Cm) (h : lenC c) : ∃ k o1 o2 o3, laws_markCombiner.F N (c, 1) = some (k, (o1, (o2, o3))) ∧ 1 ≤ k ∧ k ≤ 100000000 ∧ ∀ a b d e, laws_heldCombiner.F N ((o1, (a, (o2, (b, (d, (e, o3)))))), 1) = some k := by
  have ha := h.a
  have hb := h.b
  have hd := h.d
  obtain ⟨k1, o1, e1, e2, e3, e4, _⟩ := marksC_eq N c.1 1 (by omega) (by unfold maxN; omega) (by omega) (by omega)
  obtain ⟨k2, o2, f1, f2, f3, f4, _⟩ := marksE_eq N c.2.2.1 k1 (by omega) (by unfold maxN; omega) (by omega) (by omega)
  obtain ⟨k3, o3, g1, g2, g3, g4, _⟩ := marksA_eq N c.2.2.2.2.2.2 k2 (by omega) (by unfold maxN; omega) (by omega) (by omega)
  refine ⟨k3, o1, o2, o3, ?_, by omega, by omega, fun a b d e => ?_⟩
  · rw [laws_markCombiner.F_eq]
    simp only [e1, f1, g1, bindV]
  · have n1 : ¬ k1 < 0 := by omega
    have n2 : ¬ k2 < 0 := by omega
    have n3 : ¬ k3 < 0 := by omega
    rw [laws_heldCombiner.F_eq]
    simp only [e4, f4, g4, bindV, n1, n2, n3, decide_false, condF]

theorem eqCm_self (N : Nat) (hN : 2000000 < N) (c : Cm) (h : lenC c) : laws_eqCombiner.F N (c, c) = some true := by
  have ha := h.a
  have hb := h.b
  have hd := h.d
  rw [laws_eqCombiner.F_eq]
  simp only [eqComboS_eq N c.1 c.1 (by omega) (by unfold maxN; omega), eqEventS_eq N c.2.2.1 c.2.2.1 (by omega) (by unfold maxN; omega), eqActiveS_eq N c.2.2.2.2.2.2 c.2.2.2.2.2.2 (by omega) (by unfold maxN; omega), bindV, decide_true, notT, condF, bne_self_eq_false]

theorem toCombiner2_eq (N : Nat) (hN : 2000000 < N) (c : Cm) (h : smallC c) : laws_toCombiner2.F N c = some c := by
  have ha := h.a
  have hb := h.b
  have hd := h.d
  rw [laws_toCombiner2.F_eq, toComboS_eq N c.1 (by omega) (by unfold maxN; omega), bindV, toEventS_eq N c.2.2.1 (by omega) (by unfold maxN; omega), bindV, toActiveS_eq N c.2.2.2.2.2.2 (by omega) (by unfold maxN; omega)]
  rfl

theorem szCm_eq (N : Nat) (c : Cm) (h : wellC c) : ∃ r, laws_szCombiner.F N (c, 1048576) = some r ∧ r ≤ 1048576 ∧ (0 ≤ r → smallC c ∧ r + c.2.2.1.length ≤ 1048576) := by
  have h1 := h.a
  have h2 := h.b
  have h3 := h.d
  unfold maxLen at h1 h2 h3
  rw [laws_szCombiner.F_eq, laws_szComboS.F_eq, wrap64 (by omega) (by omega)]
  by_cases a1 : (1048576 : Int) - (c.1.length : Int) < 0
  · have m : (-1 : Int) < 0 := by omega
    simp only [a1, decide_true, condT, bindV, m]; exact ⟨_, rfl, by omega, fun h => by omega⟩
  · simp only [a1, decide_false, condF, bindV]
    rw [laws_szEventS.F_eq, wrap64 (by omega) (by omega)]
    by_cases a2 : (1048576 : Int) - (c.1.length : Int) - (c.2.2.1.length : Int) < 0
    · have m : (-1 : Int) < 0 := by omega
      simp only [a2, decide_true, condT, bindV, m]; exact ⟨_, rfl, by omega, fun h => by omega⟩
    · simp only [a2, decide_false, condF, bindV]
      rw [laws_szActiveS.F_eq, wrap64 (by omega) (by omega)]
      by_cases a3 : (1048576 : Int) - (c.1.length : Int) - (c.2.2.1.length : Int) - (c.2.2.2.2.2.2.length : Int) < 0
      · have m : (-1 : Int) < 0 := by omega
        simp only [a3, decide_true, condT, bindV, m]; exact ⟨_, rfl, by omega, fun h => by omega⟩
      · simp only [a3, decide_false, condF, bindV]
        exact ⟨_, rfl, by omega, fun _ => ⟨⟨by omega, by omega, by omega⟩, by omega⟩⟩

theorem FnExactCombineEvent_true (c : Cm) (a : Ev) (h : wellC c) : laws_FnExactCombineEvent.F 3000000 (c, a) = some true := by
  rw [laws_FnExactCombineEvent.F_eq]
  obtain ⟨r, q1, q2, q3⟩ := szCm_eq 3000000 c h
  rw [q1, bindV]
  by_cases h0 : r < 0
  · simp only [h0, decide_true, condT]
  simp only [h0, decide_false, condF]
  obtain ⟨hs, hsum⟩ := q3 (by omega)
  have ha := hs.a
  have hb := hs.b
  have hd := hs.d
  · have hlc : lenC c := ⟨by omega, by omega, by omega⟩
    obtain ⟨R, s1, s2, s3⟩ := CE_same 3000000 (by omega) c hs h.m [a] (by simp only [List.length_cons, List.length_nil]; omega) a.1
    have sa := s3.a
    have sb := s3.b
    have sd := s3.d
    have se := s3.e
    have hlr : lenC R.1 := ⟨by omega, by omega, by omega⟩
    have t1 := toCombiner2_eq 3000000 (by omega) c hs
    have t2 : laws_toEvent.F 3000000 a = some a := laws_toEvent.F_eq 3000000 a
    have u1 := eqCm_self 3000000 (by omega) c hlc
    have u3 := eqCm_self 3000000 (by omega) R.1 hlr
    have u4 := eqEventS_eq 3000000 R.2.1 R.2.1 (by omega) (by unfold maxN; omega)
    obtain ⟨k1, o1, o2, o3, m1, m2, m3, _⟩ := marksCm 3000000 (by omega) c hlc
    obtain ⟨j1, p1, p2, p3, v1, v2, v3, v4⟩ := marksCm 3000000 (by omega) R.1 hlr
    obtain ⟨j2, p4, w1, w2, w3, w4, _⟩ := marksE_eq 3000000 R.2.1 j1 (by omega) (by unfold maxN; omega) (by omega) (by omega)
    have z1 : ¬ k1 < 0 := by omega
    have z2 : ¬ j1 < 0 := by omega
    have z3 : ¬ j2 < 0 := by omega
    have x1 : spec_CombineEvent.F 3000000 (c, a) = some R := by rw [spec_CombineEvent.F_eq, s1, bindV]
    have x2 : impl_CombineEvent.F 3000000 (c, a) = some R := by rw [impl_CombineEvent.F_eq, s2, bindV]
    simp only [t1, t2, x1, x2, bindV, u1, u3, u4, decide_true, notT, condF, bne_self_eq_false, m1, z1, decide_false, v1, v4, w1, w4, z2, z3]
end Go.Kb
