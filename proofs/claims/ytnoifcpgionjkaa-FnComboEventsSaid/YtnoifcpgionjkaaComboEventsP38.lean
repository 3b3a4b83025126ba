/- The draws: combiners and events for them. -/
import Derived.Test.YtnoifcpgionjkaaComboEventsP37
namespace Go.Kb

theorem CombosD_L1 (N : Nat) (code : List Int) (hm : code.length ≤ maxN) : ∀ (n m at_ : Nat) (c : List Int × Int × Int) (o2 : List Cb), m ≤ 4 → m < n → at_ ≤ 1000 → okC code c → o2.length + m ≤ 4 →
    ∃ (qs : List Nat) (c' : List Int × Int × Int), spec_l11Combos.L1 N n (at_ : Int) (m : Int) c.1 c.2.1 c.2.2 tblC o2 = some (o2 ++ mkC o2.length qs, c') ∧ okC code c' ∧ inc at_ qs ∧ qs.length ≤ m := by
  intro n
  induction n with
  | zero => intro m at_ c o2 h1 h2; omega
  | succ n ih =>
    intro m at_ c o2 h1 h2 h4 hc h5
    rw [spec_l11Combos.L1_eq]
    have ht : tblC.length = 10 := rfl
    by_cases hz : (m : Int) > 0
    · by_cases ha : at_ < 10
      · obtain ⟨k, rfl⟩ : ∃ k, m = k + 1 := ⟨m - 1, by omega⟩
        have ha' : (at_ : Int) < (tblC.length : Int) := by rw [ht]; omega
        have hi : inRange (at_ : Int) tblC.length = true := by rw [inRange_nat, ht]; exact decide_eq_true ha
        obtain ⟨v, c', e, v0, v1, hc'⟩ := l1Below_ok N code c 3 hc hm (by omega)
        have e' : spec_l1Below.F N ((c.1, (c.2.1, c.2.2)), 3) = some (v, c') := e
        obtain ⟨w, rfl⟩ := Int.eq_ofNat_of_zero_le v0
        have hl : ∀ x : Cb, o2.length + List.length ([x] : List Cb) ≤ maxN := fun x => by simp only [maxN, List.length_cons, List.length_nil]; omega
        have w1 : IntKind.wrap .i64 ((at_ : Int) + 1) = ((at_ + 1 : Nat) : Int) := wrap_succ (by omega)
        have w2 : IntKind.wrap .i64 (((at_ + 1 : Nat) : Int) + (w : Int)) = ((at_ + 1 + w : Nat) : Int) := by rw [wrap64 (by omega) (by omega)]; omega
        have w3 : IntKind.wrap .i64 (((k + 1 : Nat) : Int) - 1) = (k : Int) := by rw [wrap64 (by omega) (by omega)]; omega
        have w4 : IntKind.wrap .i64 ((24 : Int) + (o2.length : Int)) = ((24 + o2.length : Nat) : Int) := by rw [wrap64 (by omega) (by omega)]; omega
        simp only [hz, ha', hi, hl, decide_true, condT, e', bindV, w1, w2, w3, w4, Int.toNat_natCast]
        obtain ⟨qs, c'', f1, f2, f3, f4⟩ := ih k (at_ + 1 + w) c' (o2 ++ [((tblC.getD at_ 0, ((24 + o2.length : Nat) : Int)) : Cb)]) (by omega) (by omega) (by omega) hc' (by simp only [List.length_append, List.length_cons, List.length_nil]; omega)
        refine ⟨at_ :: qs, c'', ?_, f2, ⟨Nat.le_refl _, ha, inc_le qs _ _ (by omega) f3⟩, by simp only [List.length_cons]; omega⟩
        simp only [List.length_append, List.length_cons, List.length_nil, Nat.zero_add] at f1
        rw [f1]
        simp only [mkC, List.append_assoc, List.cons_append, List.nil_append]
      · have ha' : ¬ (at_ : Int) < (tblC.length : Int) := by rw [ht]; omega
        simp only [hz, ha', decide_true, decide_false, condT, condF]
        exact ⟨[], c, by simp [mkC], hc, trivial, by simp⟩
    · simp only [hz, decide_false, condF]
      exact ⟨[], c, by simp [mkC], hc, trivial, by simp⟩

theorem CombosD (N : Nat) (hN : 100 < N) (code : List Int) (hm : code.length ≤ maxN) (c : List Int × Int × Int) (hc : okC code c) : ∃ (l : List Cb) (c' : List Int × Int × Int), spec_l11Combos.F N c = some (l, c') ∧ okC code c' ∧ okF l := by
  rw [spec_l11Combos.F_eq]
  obtain ⟨v, c1, e1, v0, v1, k1⟩ := l1Below_ok N code c 4 hc hm (by omega)
  obtain ⟨w, c2, e2, w0, w1, k2⟩ := l1Below_ok N code c1 5 k1 hm (by omega)
  obtain ⟨m, rfl⟩ := Int.eq_ofNat_of_zero_le v0
  simp only [e1, e2, bindV]
  obtain ⟨m2, rfl⟩ := Int.eq_ofNat_of_zero_le w0
  obtain ⟨qs, c', f1, f2, f3, f4⟩ := CombosD_L1 N code hm N m2 m c2 [] (by omega) (by omega) (by omega) k2 (by simp; omega)
  rw [List.nil_append] at f1
  exact ⟨_, c', f1, f2, combos_right (inc_le qs _ _ (by omega) f3) (by omega)⟩

theorem NewD (N : Nat) (hN : 1048576 < N) (code : List Int) (hm : code.length ≤ maxN) (c : List Int × Int × Int) (hc : okC code c) : ∃ (l : List Cb) (t : Int) (c' : List Int × Int × Int), okF l ∧ 1 ≤ t ∧ t ≤ 6 ∧ spec_l11New.F N c = some (idle l t, c') ∧ okC code c' := by
  rw [spec_l11New.F_eq]
  obtain ⟨l, c1, e1, k1, l1⟩ := CombosD N (by omega) code hm c hc
  obtain ⟨v, c2, e2, v0, v1, k2⟩ := l1Below_ok N code c1 6 k1 hm (by omega)
  have w : IntKind.wrap .i64 ((1 : Int) + v) = 1 + v := wrap64 (by omega) (by omega)
  obtain ⟨n, rfl⟩ : ∃ n, N = n + 1 := ⟨N - 1, by omega⟩
  have hF := combos_F (n + 1) (by omega) l l1
  have hl := l1.len
  obtain ⟨b, x1, x2⟩ := Combos_same (n + 1) hN l (by omega)
  rw [hF] at x2; injection x2 with x2; subst x2
  have s1 : spec_IsCombiner.F (n + 1) (l, (1 + v, (([] : List (Int × Int × Bool)), ((0 : Int), ((0 : Int), ((0 : Int), ([] : List (Int × Int × Bool)))))))) = some (true && decide (1 ≤ 1 + v ∧ 1 + v ≤ 200)) := IsC_spec n l (1 + v) true x1
  have ht : (1 ≤ 1 + v ∧ 1 + v ≤ 200) := by omega
  rw [decide_eq_true ht, Bool.and_true] at s1
  have hm' : l.length ≤ maxN := by unfold maxN; omega
  have h0 : (0 : Nat) ≤ maxN := by omega
  have e3 : spec_NewCombiner.F (n + 1) (l, 1 + v) = some (idle l (1 + v), true) := by
    rw [spec_NewCombiner.F_eq, s1]
    simp only [bindV, notT, condF, spec_l11Copy.F_eq, List.length_nil, Nat.zero_add, hm', h0, decide_true, condT, List.nil_append]
    rfl
  simp only [e1, e2, bindV, w, e3]
  exact ⟨l, 1 + v, c2, l1, by omega, by omega, rfl, k2⟩

theorem EventsD_L1 (N : Nat) (code : List Int) (hm : code.length ≤ maxN) (term : Int) (ht : 0 ≤ term ∧ term ≤ 6) : ∀ (n m : Nat) (held : Nat) (time : Int) (c : List Int × Int × Int) (o : List Ev), m < n → held < 4294967296 → 0 ≤ time → time + 7 * m ≤ 1000 → okC code c → o.length + m ≤ 1000 →
    ∃ (r : List Ev) (c' : List Int × Int × Int), spec_l11Events.L1 N n (held : Int) time term (m : Int) c.1 c.2.1 c.2.2 o = some (o ++ r, c') ∧ okC code c' ∧ fol 5 held time r ∧ r.length ≤ m ∧ lT time r ≤ time + 7 * m := by
  intro n
  induction n with
  | zero => intro m held time c o h1; omega
  | succ n ih =>
    intro m held time c o h1 h2 h3 h4 hc h5
    rw [spec_l11Events.L1_eq]
    by_cases hz : (m : Int) > 0
    · obtain ⟨j, rfl⟩ : ∃ j, m = j + 1 := ⟨m - 1, by omega⟩
      have x1 : maxI 0 (IntKind.wrap .i64 (term - 1)) ≤ 7 ∧ 0 ≤ maxI 0 (IntKind.wrap .i64 (term - 1)) := by
        rw [wrap64 (by omega) (by omega)]; unfold maxI; split <;> omega
      have x2 : IntKind.wrap .i64 (term + 1) = term + 1 := wrap64 (by omega) (by omega)
      obtain ⟨v, c1, e1, g1, k1⟩ := l1PickInt_ok N code c [0, 0, 0, 1, 1, 2, maxI 0 (IntKind.wrap .i64 (term - 1)), term, IntKind.wrap .i64 (term + 1)] hc hm (by simp)
      have e1' : spec_l1PickInt.F N ((c.1, (c.2.1, c.2.2)), [0, 0, 0, 1, 1, 2, maxI 0 (IntKind.wrap .i64 (term - 1)), term, IntKind.wrap .i64 (term + 1)]) = some (v, c1) := e1
      have hv : 0 ≤ v ∧ v ≤ 7 := by
        simp only [List.mem_cons, List.not_mem_nil, or_false, x2] at g1
        omega
      obtain ⟨w, c2, e2, w0, w1, k2⟩ := l1Below_ok N code c1 5 k1 hm (by omega)
      obtain ⟨k, rfl⟩ := Int.eq_ofNat_of_zero_le w0
      have hk : k < 5 := by omega
      have wt : IntKind.wrap .i64 (time + v) = time + v := wrap64 (by omega) (by omega)
      have wn : IntKind.wrap .i64 (((j + 1 : Nat) : Int) - 1) = (j : Int) := by rw [wrap64 (by omega) (by omega)]; omega
      have fl : held ^^^ 2 ^ k < 4294967296 := by
        have := Nat.xor_lt_two_pow (n := 32) (x := held) (y := 2 ^ k) (by omega) (by have := pow_lt32 (k := k) (by omega); omega)
        omega
      have sx : bitXor .i64 (held : Int) (shiftL .i64 1 (k : Int)) = ((held ^^^ 2 ^ k : Nat) : Int) := xorI h2 (by omega)
      have sb : (bitAnd .i64 (shiftR .i64 ((held ^^^ 2 ^ k : Nat) : Int) (k : Int)) 1 == 1) = !(held.testBit k) := by
        rw [bitOf fl (by omega), xor_bit]; simp
      have hl : ∀ x : Ev, o.length + List.length ([x] : List Ev) ≤ maxN := fun x => by simp only [maxN, List.length_cons, List.length_nil]; omega
      simp only [hz, decide_true, condT, e1', bindV, e2, show (0 : Int) ≤ (k : Int) by omega, wt, wn, sx, sb, hl]
      obtain ⟨r, c', f1, f2, f3, f4, f5⟩ := ih j (held ^^^ 2 ^ k) (time + v) c2 (o ++ [(time + v, ((k : Int), !(held.testBit k)))]) (by omega) fl (by omega) (by omega) k2 (by simp only [List.length_append, List.length_cons, List.length_nil]; omega)
      refine ⟨(time + v, ((k : Int), !(held.testBit k))) :: r, c', ?_, f2, ⟨by simp only []; omega, by simp only []; omega, k, hk, rfl, rfl, f3⟩, by simp only [List.length_cons]; omega, ?_⟩
      · rw [List.append_assoc] at f1
        exact f1
      · have : lT time ((time + v, ((k : Int), !(held.testBit k))) :: r) = lT (time + v) r := rfl
        rw [this]; omega
    · simp only [hz, decide_false, condF]
      refine ⟨[], c, by rw [List.append_nil], hc, trivial, by simp, ?_⟩
      show time ≤ _
      omega

theorem EventsD (N : Nat) (hN : 30 < N) (code : List Int) (hm : code.length ≤ maxN) (term : Int) (ht : 0 ≤ term ∧ term ≤ 6) (held : Nat) (hh : held < 4294967296) (time : Int) (h0 : 0 ≤ time ∧ time ≤ 500) (most : Nat) (hmost : most ≤ 12) (c : List Int × Int × Int) (hc : okC code c) :
    ∃ (r : List Ev) (c' : List Int × Int × Int), spec_l11Events.F N (c, ((held : Int), (time, (term, (most : Int))))) = some (r, c') ∧ okC code c' ∧ fol 5 held time r ∧ r.length ≤ most ∧ lT time r ≤ time + 7 * most := by
  rw [spec_l11Events.F_eq]
  have w : IntKind.wrap .i64 ((most : Int) + 1) = (most : Int) + 1 := wrap64 (by omega) (by omega)
  obtain ⟨v, c1, e1, v0, v1, k1⟩ := l1Below_ok N code c ((most : Int) + 1) hc hm (by omega)
  obtain ⟨m, rfl⟩ := Int.eq_ofNat_of_zero_le v0
  obtain ⟨r, c', f1, f2, f3, f4, f5⟩ := EventsD_L1 N code hm term ht N m held time c1 [] (by omega) hh (by omega) (by omega) k1 (by simp only [List.length_nil]; omega)
  simp only [w, e1, bindV]
  exact ⟨r, c', f1, f2, f3, by omega, by omega⟩

/-- a fresh combiner and events for it -/
theorem FreshD (N : Nat) (hN : 1048576 < N) (code : List Int) (hm : code.length ≤ maxN) (hc : code.length < N) :
    ∃ (l : List Cb) (t : Int) (r : List Ev), okF l ∧ 1 ≤ t ∧ t ≤ 6 ∧ spec_MakeFresh.F N code = some (idle l t, r) ∧ fol 5 0 0 r ∧ r.length ≤ 12 ∧ lT 0 r ≤ 84 := by
  rw [spec_MakeFresh.F_eq]
  obtain ⟨c, e, k⟩ := l24New_ok N code 11 hm hc
  obtain ⟨l, t, c1, a1, a2, a3, e1, k1⟩ := NewD N hN code hm c k
  obtain ⟨r, c2, e2, g, g1, g2, g3⟩ := EventsD N (by omega) code hm t ⟨by omega, a3⟩ 0 (by omega) 0 (by omega) 12 (by omega) c1 k1
  have e2' : spec_l11Events.F N (c1, (0, (0, ((idle l t).2.1, 12)))) = some (r, c2) := e2
  rw [e, bindV, e1, bindV]
  simp only [e2', bindV]
  exact ⟨l, t, r, a1, a2, a3, rfl, g1, g2, by omega⟩

def idleS : Sc := ⟨[], 0, 0, []⟩
theorem idle_cm (l : List Cb) (t : Int) : idleS.cm l t 0 = idle l t := rfl

theorem idle_ok {N : Nat} (hN : 100 < N) {l : List Cb} (hl : okF l) {t : Int} (ht : 1 ≤ t ∧ t ≤ 6) : okM N l t 0 idleS 0 :=
  ⟨hl.ok, combos_F N hN l hl, ⟨ht.1, by omega⟩, ⟨by omega, by omega⟩, ⟨by simp [idleS], by simp [idleS]⟩, ⟨⟨0, rfl, by omega, rfl⟩, by simp [idleS]⟩, trivial, fun e he => (by cases he), by simp [idleS]⟩

theorem lT_getD : ∀ (l : List Ev) (t : Int), 0 < l.length → (l.getD (l.length - 1) (0, 0, false)).1 = lT t l := by
  intro l
  induction l with
  | nil => intro t h; simp at h
  | cons e r ih =>
    intro t _
    cases r with
    | nil => rfl
    | cons x r =>
      have := ih e.1 (by simp)
      have h1 : lT t (e :: x :: r) = lT e.1 (x :: r) := rfl
      rw [h1, ← this]
      simp

end Go.Kb
