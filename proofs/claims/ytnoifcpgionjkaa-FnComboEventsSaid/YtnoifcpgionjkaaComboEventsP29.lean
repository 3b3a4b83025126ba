/- Events are performed by the program as by the reference. -/
import Derived.Test.YtnoifcpgionjkaaComboEventsP28
namespace Go.Kb

theorem NB_eq (N : Nat) (l : List Ev) (hl : l.length ≤ 1100000) (t : Int) : impl_notBehind.F N (l, t) = some (decide (l.length = 0) || decide ((l.getD (l.length - 1) (0, 0, false)).1 ≤ t)) := by
  rw [impl_notBehind.F_eq]
  by_cases h : l.length = 0
  · have e : ((l.length : Int) == 0) = true := by rw [beqI]; exact decide_eq_true (by omega)
    rw [e, condT, decide_eq_true h, Bool.true_or]
  · have e : ((l.length : Int) == 0) = false := by rw [beqI]; exact decide_eq_false (by omega)
    have w : IntKind.wrap .i64 ((l.length : Int) - 1) = ((l.length - 1 : Nat) : Int) := by rw [wrap64 (by omega) (by omega)]; omega
    have hp : l.length - 1 < l.length := by omega
    simp only [e, condF, w, inRange_nat, hp, decide_true, condT, nth_nat, h, decide_false, Bool.false_or]

theorem run_len (l : List Cb) (term now : Int) : ∀ (k : Nat) (s : Sc), (runC l term now k s).1.length ≤ k ∧ (runC l term now k s).2.q.length ≤ s.q.length ∧ (runC l term now k s).2.ac.length ≤ s.ac.length + k := by
  intro k
  induction k with
  | zero => intro s; simp [runC]
  | succ k ih =>
    intro s
    simp only [runC]
    cases hs : stepC l term now s with
    | none => simp
    | some p =>
      obtain ⟨o, s'⟩ := p
      obtain ⟨⟨m, m1, m2, m3⟩, m4, m5⟩ := step_shape hs
      obtain ⟨i1, i2, i3⟩ := ih s'
      rw [m3, List.length_drop] at i2
      simp only [List.length_append]
      omega

structure outC (r : Cm × List Ev × Bool) : Prop where
  a : r.1.1.length ≤ 1048576
  b : r.1.2.2.1.length ≤ 64
  d : r.1.2.2.2.2.2.2.length ≤ 1048640
  e : r.2.1.length ≤ 64

theorem nthz {α : Type} (d : α) (l : List α) : nth d l (0 : Int) = l.getD 0 d := nth_nat d l 0
theorem inRangez (n : Nat) : inRange (0 : Int) n = decide (0 < n) := inRange_nat 0 n

theorem CE_run (N : Nat) (hN : 2000000 < N) (c : Cm) (hs : smallC c) (l : List Ev) (hq : (c.2.2.1 ++ l).length ≤ 64) (hsw : ∀ e ∈ c.2.2.1 ++ l, isSw e = true) (end_ : Int) (g1 : impl_IsCombos.F N c.1 = some true) (g2 : 1 ≤ c.2.1 ∧ c.2.1 ≤ 200) :
    ∃ r, outC r ∧ r = (((runC c.1 c.2.1 end_ 64 ⟨c.2.2.1 ++ l, c.2.2.2.2.1, c.2.2.2.2.2.1, c.2.2.2.2.2.2⟩).2.cm c.1 c.2.1 end_ : Cm), ((runC c.1 c.2.1 end_ 64 ⟨c.2.2.1 ++ l, c.2.2.2.2.1, c.2.2.2.2.2.1, c.2.2.2.2.2.2⟩).1, true)) ∧
      impl_CombineEvents.L1 N N c.2.1 end_ c.2.2.2.2.1 c.2.2.2.2.2.1 (c.2.2.1 ++ l) c.1 c.2.2.2.2.2.2 [] = some r ∧
      spec_l11Run.F N (c.1, (c.2.1, (c.2.2.1 ++ l, (end_, c.2.2.2.2)))) = some (r.2.1, r.1) ∧ r.2.2 = true := by
  have ha := hs.a
  have hd := hs.d
  have gc := combosT N c.1 ha g1
  have gs : spec_IsCombos.F N c.1 = some true := by
    obtain ⟨b, x1, x2⟩ := Combos_same N (by omega) c.1 ha
    rw [g1] at x2; injection x2 with x2; rw [x1, ← x2]
  have hi := Run_L1 N hN c.1 ha g1 c.2.1 g2 end_ 64 N ⟨c.2.2.1 ++ l, c.2.2.2.2.1, c.2.2.2.2.2.1, c.2.2.2.2.2.2⟩ [] (by simp only []; omega) (by omega) (by omega) (by simp) (by simp only []; omega) hsw
  have hS := RunS_L1 N hN c.1 ha gs gc c.2.1 g2 end_ 64 N ⟨c.2.2.1 ++ l, c.2.2.2.2.1, c.2.2.2.2.2.1, c.2.2.2.2.2.2⟩ [] (by simp only []; omega) (by omega) (by omega) (by simp) (by simp only []; omega) hsw
  have hlen := run_len c.1 c.2.1 end_ 64 ⟨c.2.2.1 ++ l, c.2.2.2.2.1, c.2.2.2.2.2.1, c.2.2.2.2.2.2⟩
  simp only [List.nil_append] at hi hS hlen
  refine ⟨_, ?_, rfl, hi, ?_, rfl⟩
  · exact ⟨ha, by simp only [Sc.cm]; omega, by simp only [Sc.cm]; omega, by simp only []; omega⟩
  · rw [spec_l11Run.F_eq]
    exact hS

end Go.Kb
