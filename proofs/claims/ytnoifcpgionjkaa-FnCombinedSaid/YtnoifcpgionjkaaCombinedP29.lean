/- Events are performed by the program as by the reference. -/
import Derived.Test.YtnoifcpgionjkaaCombinedP28
namespace Go.Kb

theorem Follows_L1 (N : Nat) (l : List Ev) (hl : l.length ≤ 1100000) : ∀ (n i : Nat) (held from_ : Int), i ≤ l.length → spec_l10Follows.L1 N n l held 24 from_ (i : Int) = some true → (∀ e ∈ l.drop i, isSw e = true) ∧ l.length ≤ 64 := by
  intro n
  induction n with
  | zero => intro i held from_ h1 h; rw [spec_l10Follows.L1_zero] at h; cases h
  | succ n ih =>
    intro i held from_ h1 h
    rw [spec_l10Follows.L1_eq] at h
    by_cases hi : i < l.length
    · have ws : IntKind.wrap .i64 ((i : Int) + 1) = ((i + 1 : Nat) : Int) := wrap_succ (by omega)
      simp only [Int.ofNat_lt, hi, decide_true, condT, inRange_nat, nth_nat, ws, IsEv_spec, bindV] at h
      rw [drop_cons (0, 0, false) l i hi]
      cases hv : isEv (l.getD i (0, 0, false)).1 (l.getD i (0, 0, false)).2.1 with
      | false => rw [hv, notF, condT] at h; cases h
      | true =>
        rw [hv, notT, condF] at h
        cases hk : decide ((l.getD i (0, 0, false)).2.1 ≥ 24) with
        | true => rw [hk, condT] at h; cases h
        | false =>
          rw [hk, condF] at h
          cases hf : decide ((l.getD i (0, 0, false)).1 < from_) with
          | true => rw [hf, condT] at h; cases h
          | false =>
            rw [hf, condF] at h
            cases h0 : decide (0 ≤ (l.getD i (0, 0, false)).2.1) with
            | false => rw [h0, condF] at h; cases h
            | true =>
              rw [h0, condT] at h
              cases hb : (l.getD i (0, 0, false)).2.2 == (bitAnd .i64 (shiftR .i64 held (l.getD i (0, 0, false)).2.1) 1 == 1) with
              | true => rw [hb, condT] at h; cases h
              | false =>
                rw [hb, condF, condT] at h
                have g := ih (i + 1) _ _ (by omega) h
                refine ⟨?_, g.2⟩
                intro e he
                rcases List.mem_cons.1 he with rfl | he
                · unfold isSw
                  have := of_decide_eq_false hk
                  rw [hv, Bool.true_and]; exact decide_eq_true (by omega)
                · exact g.1 e he
    · simp only [Int.ofNat_lt, hi, decide_false, condF] at h
      rw [List.drop_of_length_le (by omega)]
      refine ⟨by simp, ?_⟩
      simp only [Option.some.injEq, decide_eq_true_eq] at h
      omega

theorem Follows_true (N : Nat) (l : List Ev) (hl : l.length ≤ 1100000) (held : Int) (h : spec_l10Follows.F N (l, (held, (24, 0))) = some true) : (∀ e ∈ l, isSw e = true) ∧ l.length ≤ 64 := by
  rw [spec_l10Follows.F_eq] at h
  have g := Follows_L1 N l hl N 0 held 0 (by omega) h
  rw [List.drop_zero] at g
  exact g

/-- what a right combiner says -/
theorem IsC_true (N : Nat) (c : Cm) (h : impl_IsCombiner.F N c = some true) : impl_IsCombos.F N c.1 = some true ∧ (1 ≤ c.2.1 ∧ c.2.1 ≤ 200) ∧ (0 ≤ c.2.2.2.1 ∧ c.2.2.2.1 ≤ 1000000) ∧ ∃ d, impl_switchesDown.F N c = some (d, true) := by
  rw [impl_IsCombiner.F_eq] at h
  cases h1 : impl_IsCombos.F N c.1 with
  | none => rw [h1] at h; cases h
  | some b =>
    rw [h1, bindV] at h
    cases b with
    | false => rw [notF, condT] at h; cases h
    | true =>
      rw [notT, condF] at h
      by_cases a1 : c.2.1 < 1
      · rw [decide_eq_true a1, condT] at h; cases h
      rw [decide_eq_false a1, condF] at h
      by_cases a2 : c.2.1 > 200
      · rw [decide_eq_true a2, condT] at h; cases h
      rw [decide_eq_false a2, condF] at h
      by_cases a3 : c.2.2.2.1 < 0
      · rw [decide_eq_true a3, condT] at h; cases h
      rw [decide_eq_false a3, condF] at h
      by_cases a4 : c.2.2.2.1 > 1000000
      · rw [decide_eq_true a4, condT] at h; cases h
      rw [decide_eq_false a4, condF] at h
      by_cases a5 : c.2.2.2.2.1 < 0
      · rw [decide_eq_true a5, condT] at h; cases h
      rw [decide_eq_false a5, condF] at h
      by_cases a6 : c.2.2.2.2.1 > c.2.2.2.1
      · rw [decide_eq_true a6, condT] at h; cases h
      rw [decide_eq_false a6, condF] at h
      by_cases a7 : c.2.2.2.2.2.1 < 0
      · rw [decide_eq_true a7, condT] at h; cases h
      rw [decide_eq_false a7, condF] at h
      by_cases a8 : c.2.2.2.2.2.1 > 16777215
      · rw [decide_eq_true a8, condT] at h; cases h
      rw [decide_eq_false a8, condF] at h
      refine ⟨rfl, ⟨by omega, by omega⟩, ⟨by omega, by omega⟩, ?_⟩
      cases h2 : impl_activeFits.F N c with
      | none => rw [h2] at h; cases h
      | some b2 =>
        rw [h2, bindV] at h
        cases b2 with
        | false => rw [notF, condT] at h; cases h
        | true =>
          rw [notT, condF] at h
          cases h3 : impl_switchesDown.F N c with
          | none => rw [h3] at h; cases h
          | some D =>
            rw [h3, bindV] at h
            obtain ⟨d, w⟩ := D
            cases w with
            | false => rw [condF] at h; cases h
            | true => exact ⟨d, rfl⟩

theorem NB_eq (N : Nat) (l : List Ev) (hl : l.length ≤ 1100000) (t : Int) : impl_notBehind.F N (l, t) = some (decide (l.length = 0) || decide ((l.getD (l.length - 1) (0, 0, false)).1 ≤ t)) := by
  rw [impl_notBehind.F_eq]
  by_cases h : l.length = 0
  · have e : ((l.length : Int) == 0) = true := by rw [beqI]; exact decide_eq_true (by omega)
    rw [e, condT, decide_eq_true h, Bool.true_or]
  · have e : ((l.length : Int) == 0) = false := by rw [beqI]; exact decide_eq_false (by omega)
    have w : IntKind.wrap .i64 ((l.length : Int) - 1) = ((l.length - 1 : Nat) : Int) := by rw [wrap64 (by omega) (by omega)]; omega
    have hp : l.length - 1 < l.length := by omega
    simp only [e, condF, w, inRange_nat, hp, decide_true, condT, nth_nat, h, decide_false, Bool.false_or]

abbrev zeroC : Cm := ([], (0, ([], (0, (0, (0, []))))))

theorem run_len (l : List Cb) (term now : Int) : ∀ (k : Nat) (s : Sc), (runC l term now k s).1.length ≤ k ∧ (runC l term now k s).2.q.length ≤ s.q.length ∧ (runC l term now k s).2.ac.length ≤ s.ac.length + k := by
  intro k
  induction k with
  | zero => intro s; simp [runC]
  | succ k ih =>
    intro s
    simp only [runC]
    cases hs : stepC l term now s with
    | none => simp
    | some p =>
      obtain ⟨o, s'⟩ := p
      obtain ⟨⟨m, m1, m2, m3⟩, m4, m5⟩ := step_shape hs
      obtain ⟨i1, i2, i3⟩ := ih s'
      rw [m3, List.length_drop] at i2
      simp only [List.length_append]
      omega

structure outC (r : Cm × List Ev × Bool) : Prop where
  a : r.1.1.length ≤ 1048576
  b : r.1.2.2.1.length ≤ 64
  d : r.1.2.2.2.2.2.2.length ≤ 1048640
  e : r.2.1.length ≤ 64

theorem nthz {α : Type} (d : α) (l : List α) : nth d l (0 : Int) = l.getD 0 d := nth_nat d l 0
theorem inRangez (n : Nat) : inRange (0 : Int) n = decide (0 < n) := inRange_nat 0 n

theorem CE_run (N : Nat) (hN : 2000000 < N) (c : Cm) (hs : smallC c) (l : List Ev) (hq : (c.2.2.1 ++ l).length ≤ 64) (hsw : ∀ e ∈ c.2.2.1 ++ l, isSw e = true) (end_ : Int) (g1 : impl_IsCombos.F N c.1 = some true) (g2 : 1 ≤ c.2.1 ∧ c.2.1 ≤ 200) :
    ∃ r, outC r ∧ r = (((runC c.1 c.2.1 end_ 64 ⟨c.2.2.1 ++ l, c.2.2.2.2.1, c.2.2.2.2.2.1, c.2.2.2.2.2.2⟩).2.cm c.1 c.2.1 end_ : Cm), ((runC c.1 c.2.1 end_ 64 ⟨c.2.2.1 ++ l, c.2.2.2.2.1, c.2.2.2.2.2.1, c.2.2.2.2.2.2⟩).1, true)) ∧
      impl_CombineEvents.L1 N N c.2.1 end_ c.2.2.2.2.1 c.2.2.2.2.2.1 (c.2.2.1 ++ l) c.1 c.2.2.2.2.2.2 [] = some r ∧
      spec_l11Run.F N (c.1, (c.2.1, (c.2.2.1 ++ l, (end_, c.2.2.2.2)))) = some (r.2.1, r.1) ∧ r.2.2 = true := by
  have ha := hs.a
  have hd := hs.d
  have gc := combosT N c.1 ha g1
  have gs : spec_IsCombos.F N c.1 = some true := by
    obtain ⟨b, x1, x2⟩ := Combos_same N (by omega) c.1 ha
    rw [g1] at x2; injection x2 with x2; rw [x1, ← x2]
  have hi := Run_L1 N hN c.1 ha g1 c.2.1 g2 end_ 64 N ⟨c.2.2.1 ++ l, c.2.2.2.2.1, c.2.2.2.2.2.1, c.2.2.2.2.2.2⟩ [] (by simp only []; omega) (by omega) (by omega) (by simp) (by simp only []; omega) hsw
  have hS := RunS_L1 N hN c.1 ha gs gc c.2.1 g2 end_ 64 N ⟨c.2.2.1 ++ l, c.2.2.2.2.1, c.2.2.2.2.2.1, c.2.2.2.2.2.2⟩ [] (by simp only []; omega) (by omega) (by omega) (by simp) (by simp only []; omega) hsw
  have hlen := run_len c.1 c.2.1 end_ 64 ⟨c.2.2.1 ++ l, c.2.2.2.2.1, c.2.2.2.2.2.1, c.2.2.2.2.2.2⟩
  simp only [List.nil_append] at hi hS hlen
  refine ⟨_, ?_, rfl, hi, ?_, rfl⟩
  · exact ⟨ha, by simp only [Sc.cm]; omega, by simp only [Sc.cm]; omega, by simp only []; omega⟩
  · rw [spec_l11Run.F_eq]
    exact hS

theorem CE_same (N : Nat) (hN : 2000000 < N) (c : Cm) (hs : smallC c) (hr : ∀ x ∈ c.2.2.2.2.2.2, x.2.1 ≤ 9223372036854775807) (l : List Ev) (hl : c.2.2.1.length + l.length ≤ 1100000) (end_ : Int) :
    ∃ r, spec_CombineEvents.F N (c, (l, end_)) = some r ∧ impl_CombineEvents.F N (c, (l, end_)) = some r ∧ outC r := by
  have ha := hs.a
  have hb := hs.b
  have hd := hs.d
  have hz : outC (zeroC, ([], false)) := ⟨by simp, by simp, by simp, by simp⟩
  obtain ⟨b, e1, e2⟩ := IsC_same N (by omega) c hs hr
  rw [spec_CombineEvents.F_eq, impl_CombineEvents.F_eq]
  have m1 : c.2.2.1.length ≤ maxN := by unfold maxN; omega
  have m2 : c.2.2.1.length + l.length ≤ maxN := by unfold maxN; omega
  have m3 : c.1.length ≤ maxN := by unfold maxN; omega
  have m4 : c.2.2.2.2.2.2.length ≤ maxN := by unfold maxN; omega
  simp only [List.length_nil, Nat.zero_add, List.nil_append, m1, m2, decide_true, condT, e1, e2, bindV]
  cases b with
  | false => simp only [notF, condT]; exact ⟨_, rfl, rfl, hz⟩
  | true =>
    obtain ⟨g1, g2, g3, down, g4⟩ := IsC_true N c e2
    have hheld : spec_l11Held.F N c = some down := by
      obtain ⟨D, h, y1, y2, y3⟩ := switch_L1 N c.1 c.2.1 c.2.2.1 c.2.2.2.1 c.2.2.2.2.1 c.2.2.2.2.2.1 c.2.2.2.2.2.2 hd N 0 c.2.2.2.2.2.1 (by omega) (by omega)
      rw [spec_l11Held.F_eq, show (0 : Int) = ((0 : Nat) : Int) from rfl, y2]
      rw [impl_switchesDown.F_eq, show (0 : Int) = ((0 : Nat) : Int) from rfl, y1] at g4
      injection g4 with g4
      rw [g4] at y3
      rw [← y3 rfl]
    simp only [notT, condF, l1In_eq, bindV, hheld, g4, impl_copyCombiner.F_eq, spec_l11Copy.F_eq, List.length_nil, Nat.zero_add, List.nil_append, m1, m2, m3, m4, decide_true, condT]
    by_cases a1 : end_ < c.2.2.2.1
    · have q : ¬ (c.2.2.2.1 ≤ end_ ∧ end_ ≤ 1000000) := by omega
      simp only [a1, q, decide_true, decide_false, notF, condT]; exact ⟨_, rfl, rfl, hz⟩
    by_cases a2 : end_ > 1000000
    · have q : ¬ (c.2.2.2.1 ≤ end_ ∧ end_ ≤ 1000000) := by omega
      simp only [a1, a2, q, decide_true, decide_false, notF, condT, condF]; exact ⟨_, rfl, rfl, hz⟩
    have q : c.2.2.2.1 ≤ end_ ∧ end_ ≤ 1000000 := by omega
    rw [decide_eq_true q]
    obtain ⟨fb, f1, f2⟩ := Queue_same N (by omega) (c.2.2.1 ++ l) (by rw [List.length_append]; omega) down
    have hnb := NB_eq N l (by omega) end_
    simp only [a1, a2, decide_false, notT, condF, f1, f2, hnb, bindV]
    by_cases hl0 : 0 < l.length
    · have h0' : (l.length : Int) > 0 := by omega
      have hne : ¬ l.length = 0 := by omega
      have w : IntKind.wrap .i64 ((l.length : Int) - 1) = ((l.length - 1 : Nat) : Int) := by rw [wrap64 (by omega) (by omega)]; omega
      have hp : l.length - 1 < l.length := by omega
      simp only [h0', decide_true, condT, inRangez, hl0, nthz, w, inRange_nat, hp, nth_nat, hne, decide_false, Bool.false_or]
      by_cases a3 : (l.getD 0 (0, 0, false)).1 < c.2.2.2.1
      · simp only [a3, decide_true, condT]
        cases fb with
        | false => simp only [notF, condT]; exact ⟨_, rfl, rfl, hz⟩
        | true => simp only [notT, condF]; exact ⟨_, rfl, rfl, hz⟩
      by_cases a4 : (l.getD (l.length - 1) (0, 0, false)).1 > end_
      · have a4' : ¬ (l.getD (l.length - 1) (0, 0, false)).1 ≤ end_ := by omega
        simp only [a3, a4, a4', decide_true, decide_false, condT, condF, notF]
        cases fb with
        | false => simp only [notF, condT]; exact ⟨_, rfl, rfl, hz⟩
        | true => simp only [notT, condF]; exact ⟨_, rfl, rfl, hz⟩
      have a4' : (l.getD (l.length - 1) (0, 0, false)).1 ≤ end_ := by omega
      simp only [a3, a4, a4', decide_true, decide_false, condF, notT]
      cases fb with
      | false => simp only [notF, condT]; exact ⟨_, rfl, rfl, hz⟩
      | true =>
        obtain ⟨z1, z2⟩ := Follows_true N (c.2.2.1 ++ l) (by rw [List.length_append]; omega) down f1
        obtain ⟨r, r0, r1, r2, r3, r4⟩ := CE_run N hN c hs l z2 z1 end_ g1 g2
        simp only [notT, condF, r2, r3, bindV]
        refine ⟨r, ?_, rfl, r0⟩
        rw [← r4]
    · have h0' : ¬ (l.length : Int) > 0 := by omega
      have hne : l.length = 0 := by omega
      simp only [h0', decide_eq_true hne, decide_false, condF, Bool.true_or, notT]
      cases fb with
      | false => simp only [notF, condT]; exact ⟨_, rfl, rfl, hz⟩
      | true =>
        obtain ⟨z1, z2⟩ := Follows_true N (c.2.2.1 ++ l) (by rw [List.length_append]; omega) down f1
        obtain ⟨r, r0, r1, r2, r3, r4⟩ := CE_run N hN c hs l z2 z1 end_ g1 g2
        simp only [notT, condF, r2, r3, bindV]
        refine ⟨r, ?_, rfl, r0⟩
        rw [← r4]
end Go.Kb
