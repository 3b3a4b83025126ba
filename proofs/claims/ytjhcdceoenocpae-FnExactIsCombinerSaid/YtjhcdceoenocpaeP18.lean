/- A new combiner, whole. -/
import Derived.Test.YtjhcdceoenocpaeP17
namespace Go.Kb

theorem New_same (n : Nat) (hN : 1048576 < n + 1) (l : List Cb) (t : Int) (hl : l.length ≤ 1048576) : ∃ (m : List Cb) (s : Int) (w : Bool), m.length ≤ 1048576 ∧ spec_NewCombiner.F (n + 1) (l, t) = some (idle m s, w) ∧ impl_NewCombiner.F (n + 1) (l, t) = some (idle m s, w) := by
  obtain ⟨b, e1, e2⟩ := Combos_same (n + 1) hN l hl
  have s1 : spec_IsCombiner.F (n + 1) (l, (t, (([] : List (Int × Int × Bool)), ((0 : Int), ((0 : Int), ((0 : Int), ([] : List (Int × Int × Bool)))))))) = some (b && decide (1 ≤ t ∧ t ≤ 200)) := IsC_spec n l t b e1
  have s2 : impl_IsCombiner.F (n + 1) (l, (t, (([] : List (Int × Int × Bool)), ((0 : Int), ((0 : Int), ((0 : Int), ([] : List (Int × Int × Bool)))))))) = some (b && decide (1 ≤ t ∧ t ≤ 200)) := IsC_impl n l t b e2
  have hm : l.length ≤ maxN := by unfold maxN; omega
  have h0 : (0 : Nat) ≤ maxN := by omega
  rw [spec_NewCombiner.F_eq, impl_NewCombiner.F_eq, s1, s2]
  simp only [bindV, hm, decide_true, condT]
  cases b && decide (1 ≤ t ∧ t ≤ 200) with
  | false =>
    simp only [notF, condT]
    exact ⟨[], 0, false, by simp, rfl, rfl⟩
  | true =>
    simp only [notT, condF, spec_l11Copy.F_eq, List.length_nil, Nat.zero_add, hm, h0, decide_true, condT, bindV, List.nil_append]
    exact ⟨l, t, true, hl, rfl, rfl⟩

theorem eqIdle (n : Nat) (hN : 1048576 < n + 1) (l : List Cb) (t : Int) (hl : l.length ≤ 1048576) : laws_eqCombiner.F (n + 1) (idle l t, idle l t) = some true := by
  have q3 : ((((0 : Nat) : Int)) != ((0 : Nat) : Int)) = false := by decide
  have hE : laws_eqEventS.F (n + 1) ([], []) = some true := by
    rw [laws_eqEventS.F_eq, laws_eqEventS.L1_eq]
    simp only [List.length_nil, z00, q3, decide_false, condF]
  have hA : laws_eqActiveS.F (n + 1) ([], []) = some true := by
    rw [laws_eqActiveS.F_eq, laws_eqActiveS.L1_eq]
    simp only [List.length_nil, z00, q3, decide_false, condF]
  rw [laws_eqCombiner.F_eq]
  simp only [idle, eqComboS_eq (n + 1) l l (by omega) (by unfold maxN; omega), bindV, decide_true, notT, condF, bne_self_eq_false, hE, hA]

theorem marksIdle (n : Nat) (hN : 1048576 < n + 1) (l : List Cb) (t : Int) (hl : l.length ≤ 1048576) : ∃ c o, laws_markCombiner.F (n + 1) (idle l t, 1) = some (c, (o, ([], []))) ∧ 1 ≤ c ∧ laws_heldCombiner.F (n + 1) ((o, (t, ([], (0, (0, (0, [])))))), 1) = some c := by
  obtain ⟨c, o, e1, e2, e3, e4, e5⟩ := marksC_eq (n + 1) l 1 (by omega) (by unfold maxN; omega) (by omega) (by omega)
  have hE : laws_markEventS.F (n + 1) ([], c) = some (c, []) := by
    rw [laws_markEventS.F_eq, laws_markEventS.L1_eq]
    simp only [List.length_nil, z00, decide_false, condF]
  have hA : laws_markActiveS.F (n + 1) ([], c) = some (c, []) := by
    rw [laws_markActiveS.F_eq, laws_markActiveS.L1_eq]
    simp only [List.length_nil, z00, decide_false, condF]
  have gE : laws_heldEventS.F (n + 1) ([], c) = some c := by
    rw [laws_heldEventS.F_eq, laws_heldEventS.L1_eq]
    simp only [List.length_nil, z00, decide_false, condF]
  have gA : laws_heldActiveS.F (n + 1) ([], c) = some c := by
    rw [laws_heldActiveS.F_eq, laws_heldActiveS.L1_eq]
    simp only [List.length_nil, z00, decide_false, condF]
  have hc : ¬ c < 0 := by omega
  refine ⟨c, o, ?_, e2, ?_⟩
  · rw [laws_markCombiner.F_eq]
    simp only [idle, e1, bindV, hE, hA]
  · rw [laws_heldCombiner.F_eq]
    simp only [e4, bindV, hc, decide_false, condF, gE, gA]

theorem FnExactNewCombiner_true (l : List Cb) (t : Int) (h : l.length ≤ maxLen) : laws_FnExactNewCombiner.F (1999999 + 1) (l, t) = some true := by
  rw [laws_FnExactNewCombiner.F_eq]
  obtain ⟨r, e, r0, r1, r2⟩ := szComboS_eq (1999999 + 1) l 1048576 h (by omega) (by omega)
  rw [e, bindV]
  by_cases h0 : r < 0
  · simp only [h0, decide_true, condT]
  · have hl := r2 (by omega)
    obtain ⟨m, s, w, hm, f1, f2⟩ := New_same 1999999 (by omega) l t hl
    obtain ⟨c1, o1, m1, m2, m3, m4, _⟩ := marksC_eq (1999999 + 1) l 1 (by omega) (by unfold maxN; omega) (by omega) (by omega)
    obtain ⟨c2, o2, k1, k2, k3⟩ := marksIdle 1999999 (by omega) m s hm
    have hE := eqIdle 1999999 (by omega) m s hm
    have n1 : ¬ c1 < 0 := by omega
    have n2 : ¬ c2 < 0 := by omega
    have hto := toComboS_eq (1999999 + 1) l (by omega) (by unfold maxN; omega)
    have heq := eqComboS_eq (1999999 + 1) l l (by omega) (by unfold maxN; omega)
    rw [decide_eq_true rfl] at heq
    simp only [h0, decide_false, condF, hto, bindV, f1, f2, hE, notT, bne_self_eq_false, heq, m1, n1, k1]
    have k3' : laws_heldCombiner.F (1999999 + 1) ((o2, (idle m s).2.1, [], (idle m s).2.2.2.1, (idle m s).2.2.2.2.1, (idle m s).2.2.2.2.2.1, []), 1) = some c2 := k3
    simp only [k3', bindV, n2, decide_false, condF, bne_self_eq_false]
end Go.Kb
