/- The draws: combiners and events for them. -/
import Derived.Test.YtnoifcpgionjkaaCombinedP37
namespace Go.Kb

theorem CombosD_L1 (N : Nat) (code : List Int) (hm : code.length ≤ maxN) : ∀ (n m at_ : Nat) (c : List Int × Int × Int) (o2 : List Cb), m ≤ 4 → m < n → at_ ≤ 1000 → okC code c → o2.length + m ≤ 4 →
    ∃ (qs : List Nat) (c' : List Int × Int × Int), spec_l11Combos.L1 N n (at_ : Int) (m : Int) c.1 c.2.1 c.2.2 tblC o2 = some (o2 ++ mkC o2.length qs, c') ∧ okC code c' ∧ inc at_ qs ∧ qs.length ≤ m := by
  intro n
  induction n with
  | zero => intro m at_ c o2 h1 h2; omega
  | succ n ih =>
    intro m at_ c o2 h1 h2 h4 hc h5
    rw [spec_l11Combos.L1_eq]
    have ht : tblC.length = 10 := rfl
    by_cases hz : (m : Int) > 0
    · by_cases ha : at_ < 10
      · obtain ⟨k, rfl⟩ : ∃ k, m = k + 1 := ⟨m - 1, by omega⟩
        have ha' : (at_ : Int) < (tblC.length : Int) := by rw [ht]; omega
        have hi : inRange (at_ : Int) tblC.length = true := by rw [inRange_nat, ht]; exact decide_eq_true ha
        obtain ⟨v, c', e, v0, v1, hc'⟩ := l1Below_ok N code c 3 hc hm (by omega)
        have e' : spec_l1Below.F N ((c.1, (c.2.1, c.2.2)), 3) = some (v, c') := e
        obtain ⟨w, rfl⟩ := Int.eq_ofNat_of_zero_le v0
        have hl : ∀ x : Cb, o2.length + List.length ([x] : List Cb) ≤ maxN := fun x => by simp only [maxN, List.length_cons, List.length_nil]; omega
        have w1 : IntKind.wrap .i64 ((at_ : Int) + 1) = ((at_ + 1 : Nat) : Int) := wrap_succ (by omega)
        have w2 : IntKind.wrap .i64 (((at_ + 1 : Nat) : Int) + (w : Int)) = ((at_ + 1 + w : Nat) : Int) := by rw [wrap64 (by omega) (by omega)]; omega
        have w3 : IntKind.wrap .i64 (((k + 1 : Nat) : Int) - 1) = (k : Int) := by rw [wrap64 (by omega) (by omega)]; omega
        have w4 : IntKind.wrap .i64 ((24 : Int) + (o2.length : Int)) = ((24 + o2.length : Nat) : Int) := by rw [wrap64 (by omega) (by omega)]; omega
        simp only [hz, ha', hi, hl, decide_true, condT, e', bindV, w1, w2, w3, w4, Int.toNat_natCast]
        obtain ⟨qs, c'', f1, f2, f3, f4⟩ := ih k (at_ + 1 + w) c' (o2 ++ [((tblC.getD at_ 0, ((24 + o2.length : Nat) : Int)) : Cb)]) (by omega) (by omega) (by omega) hc' (by simp only [List.length_append, List.length_cons, List.length_nil]; omega)
        refine ⟨at_ :: qs, c'', ?_, f2, ⟨Nat.le_refl _, ha, inc_le qs _ _ (by omega) f3⟩, by simp only [List.length_cons]; omega⟩
        simp only [List.length_append, List.length_cons, List.length_nil, Nat.zero_add] at f1
        rw [f1]
        simp only [mkC, List.append_assoc, List.cons_append, List.nil_append]
      · have ha' : ¬ (at_ : Int) < (tblC.length : Int) := by rw [ht]; omega
        simp only [hz, ha', decide_true, decide_false, condT, condF]
        exact ⟨[], c, by simp [mkC], hc, trivial, by simp⟩
    · simp only [hz, decide_false, condF]
      exact ⟨[], c, by simp [mkC], hc, trivial, by simp⟩

theorem CombosD (N : Nat) (hN : 100 < N) (code : List Int) (hm : code.length ≤ maxN) (c : List Int × Int × Int) (hc : okC code c) : ∃ (l : List Cb) (c' : List Int × Int × Int), spec_l11Combos.F N c = some (l, c') ∧ okC code c' ∧ okF l := by
  rw [spec_l11Combos.F_eq]
  obtain ⟨v, c1, e1, v0, v1, k1⟩ := l1Below_ok N code c 4 hc hm (by omega)
  obtain ⟨w, c2, e2, w0, w1, k2⟩ := l1Below_ok N code c1 5 k1 hm (by omega)
  obtain ⟨m, rfl⟩ := Int.eq_ofNat_of_zero_le v0
  simp only [e1, e2, bindV]
  obtain ⟨m2, rfl⟩ := Int.eq_ofNat_of_zero_le w0
  obtain ⟨qs, c', f1, f2, f3, f4⟩ := CombosD_L1 N code hm N m2 m c2 [] (by omega) (by omega) (by omega) k2 (by simp; omega)
  rw [List.nil_append] at f1
  exact ⟨_, c', f1, f2, combos_right (inc_le qs _ _ (by omega) f3) (by omega)⟩

theorem NewD (N : Nat) (hN : 1048576 < N) (code : List Int) (hm : code.length ≤ maxN) (c : List Int × Int × Int) (hc : okC code c) : ∃ (l : List Cb) (t : Int) (c' : List Int × Int × Int), okF l ∧ 1 ≤ t ∧ t ≤ 6 ∧ spec_l11New.F N c = some (idle l t, c') ∧ okC code c' := by
  rw [spec_l11New.F_eq]
  obtain ⟨l, c1, e1, k1, l1⟩ := CombosD N (by omega) code hm c hc
  obtain ⟨v, c2, e2, v0, v1, k2⟩ := l1Below_ok N code c1 6 k1 hm (by omega)
  have w : IntKind.wrap .i64 ((1 : Int) + v) = 1 + v := wrap64 (by omega) (by omega)
  obtain ⟨n, rfl⟩ : ∃ n, N = n + 1 := ⟨N - 1, by omega⟩
  have hF := combos_F (n + 1) (by omega) l l1
  have hl := l1.len
  obtain ⟨b, x1, x2⟩ := Combos_same (n + 1) hN l (by omega)
  rw [hF] at x2; injection x2 with x2; subst x2
  have s1 : spec_IsCombiner.F (n + 1) (l, (1 + v, (([] : List (Int × Int × Bool)), ((0 : Int), ((0 : Int), ((0 : Int), ([] : List (Int × Int × Bool)))))))) = some (true && decide (1 ≤ 1 + v ∧ 1 + v ≤ 200)) := IsC_spec n l (1 + v) true x1
  have ht : (1 ≤ 1 + v ∧ 1 + v ≤ 200) := by omega
  rw [decide_eq_true ht, Bool.and_true] at s1
  have hm' : l.length ≤ maxN := by unfold maxN; omega
  have h0 : (0 : Nat) ≤ maxN := by omega
  have e3 : spec_NewCombiner.F (n + 1) (l, 1 + v) = some (idle l (1 + v), true) := by
    rw [spec_NewCombiner.F_eq, s1]
    simp only [bindV, notT, condF, spec_l11Copy.F_eq, List.length_nil, Nat.zero_add, hm', h0, decide_true, condT, List.nil_append]
    rfl
  simp only [e1, e2, bindV, w, e3]
  exact ⟨l, 1 + v, c2, l1, by omega, by omega, rfl, k2⟩

theorem EventsD_L1 (N : Nat) (code : List Int) (hm : code.length ≤ maxN) (term : Int) (ht : 0 ≤ term ∧ term ≤ 6) : ∀ (n m : Nat) (held : Nat) (time : Int) (c : List Int × Int × Int) (o : List Ev), m < n → held < 4294967296 → 0 ≤ time → time + 7 * m ≤ 1000 → okC code c → o.length + m ≤ 1000 →
    ∃ (r : List Ev) (c' : List Int × Int × Int), spec_l11Events.L1 N n (held : Int) time term (m : Int) c.1 c.2.1 c.2.2 o = some (o ++ r, c') ∧ okC code c' ∧ fol 5 held time r ∧ r.length ≤ m ∧ lT time r ≤ time + 7 * m := by
  intro n
  induction n with
  | zero => intro m held time c o h1; omega
  | succ n ih =>
    intro m held time c o h1 h2 h3 h4 hc h5
    rw [spec_l11Events.L1_eq]
    by_cases hz : (m : Int) > 0
    · obtain ⟨j, rfl⟩ : ∃ j, m = j + 1 := ⟨m - 1, by omega⟩
      have x1 : maxI 0 (IntKind.wrap .i64 (term - 1)) ≤ 7 ∧ 0 ≤ maxI 0 (IntKind.wrap .i64 (term - 1)) := by
        rw [wrap64 (by omega) (by omega)]; unfold maxI; split <;> omega
      have x2 : IntKind.wrap .i64 (term + 1) = term + 1 := wrap64 (by omega) (by omega)
      obtain ⟨v, c1, e1, g1, k1⟩ := l1PickInt_ok N code c [0, 0, 0, 1, 1, 2, maxI 0 (IntKind.wrap .i64 (term - 1)), term, IntKind.wrap .i64 (term + 1)] hc hm (by simp)
      have e1' : spec_l1PickInt.F N ((c.1, (c.2.1, c.2.2)), [0, 0, 0, 1, 1, 2, maxI 0 (IntKind.wrap .i64 (term - 1)), term, IntKind.wrap .i64 (term + 1)]) = some (v, c1) := e1
      have hv : 0 ≤ v ∧ v ≤ 7 := by
        simp only [List.mem_cons, List.not_mem_nil, or_false, x2] at g1
        omega
      obtain ⟨w, c2, e2, w0, w1, k2⟩ := l1Below_ok N code c1 5 k1 hm (by omega)
      obtain ⟨k, rfl⟩ := Int.eq_ofNat_of_zero_le w0
      have hk : k < 5 := by omega
      have wt : IntKind.wrap .i64 (time + v) = time + v := wrap64 (by omega) (by omega)
      have wn : IntKind.wrap .i64 (((j + 1 : Nat) : Int) - 1) = (j : Int) := by rw [wrap64 (by omega) (by omega)]; omega
      have fl : held ^^^ 2 ^ k < 4294967296 := by
        have := Nat.xor_lt_two_pow (n := 32) (x := held) (y := 2 ^ k) (by omega) (by have := pow_lt32 (k := k) (by omega); omega)
        omega
      have sx : bitXor .i64 (held : Int) (shiftL .i64 1 (k : Int)) = ((held ^^^ 2 ^ k : Nat) : Int) := xorI h2 (by omega)
      have sb : (bitAnd .i64 (shiftR .i64 ((held ^^^ 2 ^ k : Nat) : Int) (k : Int)) 1 == 1) = !(held.testBit k) := by
        rw [bitOf fl (by omega), xor_bit]; simp
      have hl : ∀ x : Ev, o.length + List.length ([x] : List Ev) ≤ maxN := fun x => by simp only [maxN, List.length_cons, List.length_nil]; omega
      simp only [hz, decide_true, condT, e1', bindV, e2, show (0 : Int) ≤ (k : Int) by omega, wt, wn, sx, sb, hl]
      obtain ⟨r, c', f1, f2, f3, f4, f5⟩ := ih j (held ^^^ 2 ^ k) (time + v) c2 (o ++ [(time + v, ((k : Int), !(held.testBit k)))]) (by omega) fl (by omega) (by omega) k2 (by simp only [List.length_append, List.length_cons, List.length_nil]; omega)
      refine ⟨(time + v, ((k : Int), !(held.testBit k))) :: r, c', ?_, f2, ⟨by simp only []; omega, by simp only []; omega, k, hk, rfl, rfl, f3⟩, by simp only [List.length_cons]; omega, ?_⟩
      · rw [List.append_assoc] at f1
        exact f1
      · have : lT time ((time + v, ((k : Int), !(held.testBit k))) :: r) = lT (time + v) r := rfl
        rw [this]; omega
    · simp only [hz, decide_false, condF]
      refine ⟨[], c, by rw [List.append_nil], hc, trivial, by simp, ?_⟩
      show time ≤ _
      omega

theorem EventsD (N : Nat) (hN : 30 < N) (code : List Int) (hm : code.length ≤ maxN) (term : Int) (ht : 0 ≤ term ∧ term ≤ 6) (held : Nat) (hh : held < 4294967296) (time : Int) (h0 : 0 ≤ time ∧ time ≤ 500) (most : Nat) (hmost : most ≤ 12) (c : List Int × Int × Int) (hc : okC code c) :
    ∃ (r : List Ev) (c' : List Int × Int × Int), spec_l11Events.F N (c, ((held : Int), (time, (term, (most : Int))))) = some (r, c') ∧ okC code c' ∧ fol 5 held time r ∧ r.length ≤ most ∧ lT time r ≤ time + 7 * most := by
  rw [spec_l11Events.F_eq]
  have w : IntKind.wrap .i64 ((most : Int) + 1) = (most : Int) + 1 := wrap64 (by omega) (by omega)
  obtain ⟨v, c1, e1, v0, v1, k1⟩ := l1Below_ok N code c ((most : Int) + 1) hc hm (by omega)
  obtain ⟨m, rfl⟩ := Int.eq_ofNat_of_zero_le v0
  obtain ⟨r, c', f1, f2, f3, f4, f5⟩ := EventsD_L1 N code hm term ht N m held time c1 [] (by omega) hh (by omega) (by omega) k1 (by simp only [List.length_nil]; omega)
  simp only [w, e1, bindV]
  exact ⟨r, c', f1, f2, f3, by omega, by omega⟩

def idleS : Sc := ⟨[], 0, 0, []⟩
theorem idle_cm (l : List Cb) (t : Int) : idleS.cm l t 0 = idle l t := rfl

theorem idle_ok {N : Nat} (hN : 100 < N) {l : List Cb} (hl : okF l) {t : Int} (ht : 1 ≤ t ∧ t ≤ 6) : okM N l t 0 idleS 0 :=
  ⟨hl.ok, combos_F N hN l hl, ⟨ht.1, by omega⟩, ⟨by omega, by omega⟩, ⟨by simp [idleS], by simp [idleS]⟩, ⟨⟨0, rfl, by omega, rfl⟩, by simp [idleS]⟩, trivial, fun e he => (by cases he), by simp [idleS]⟩

theorem lT_getD : ∀ (l : List Ev) (t : Int), 0 < l.length → (l.getD (l.length - 1) (0, 0, false)).1 = lT t l := by
  intro l
  induction l with
  | nil => intro t h; simp at h
  | cons e r ih =>
    intro t _
    cases r with
    | nil => rfl
    | cons x r =>
      have := ih e.1 (by simp)
      have h1 : lT t (e :: x :: r) = lT e.1 (x :: r) := rfl
      rw [h1, ← this]
      simp

theorem Last_eq (N : Nat) (l : List Ev) (hl : l.length ≤ 1000) (t : Int) : spec_l11Last.F N (l, t) = some (lT t l) := by
  rw [spec_l11Last.F_eq]
  by_cases h : l.length = 0
  · have e : ((l.length : Int) == 0) = true := by rw [beqI]; exact decide_eq_true (by omega)
    have : l = [] := List.length_eq_zero_iff.1 h
    rw [e, condT, this]; rfl
  · have e : ((l.length : Int) == 0) = false := by rw [beqI]; exact decide_eq_false (by omega)
    have w : IntKind.wrap .i64 ((l.length : Int) - 1) = ((l.length - 1 : Nat) : Int) := by rw [wrap64 (by omega) (by omega)]; omega
    have hp : l.length - 1 < l.length := by omega
    simp only [e, condF, w, inRange_nat, hp, decide_true, condT, nth_nat]
    rw [lT_getD l t (by omega)]

/-- what the program answers on a right state is what the reference answers -/
theorem okM_CES {N : Nat} (hN : 2000000 < N) {l : List Cb} {term now : Int} {s : Sc} {h : Nat} (ho : okM N l term now s h) {L : List Ev} (hL : s.q.length + L.length ≤ 1100000) (e : Int) : spec_CombineEvents.F N (s.cm l term now, (L, e)) = impl_CombineEvents.F N (s.cm l term now, (L, e)) := by
  have hac := ac_small ho.ol ho.os
  have hl8 := ho.ol.1
  have hq := ho.olen
  obtain ⟨d, d1, d2, d3⟩ := ho.os.d
  obtain ⟨r, r1, r2, _⟩ := CE_same N hN (s.cm l term now) ⟨by simp only [Sc.cm]; omega, by simp only [Sc.cm]; omega, by simp only [Sc.cm]; omega⟩ (by
    intro x hx
    obtain ⟨m, K, m1, _, m3, _⟩ := AOk_mem d3 x hx
    rw [m1]; omega) L (by simp only [Sc.cm]; omega) e
  rw [r1, r2]

theorem hA_held (N : Nat) (o10 : List Cb) (o11 : Int) (o12 : List Ev) (o13 o14 o15 : Int) (o16 : List Ev) (most : Int) (c0 : List Int) (c1 c2 : Int) (t : Int) (hl : o12.length ≤ 1000) : ∀ (n i : Nat) (h : Nat), i ≤ o12.length → o12.length < n + i → h < 4294967296 → fol 24 h t (o12.drop i) →
    spec_l11More.L1 N n most (h : Int) (i : Int) c0 c1 c2 o10 o11 o12 o13 o14 o15 o16 = bindO (spec_l11Events.F N ((c0, (c1, c2)), ((hA h (o12.drop i) : Int), (o13, (o11, most))))) fun r3 => some r3 := by
  intro n
  induction n generalizing t with
  | zero => intro i h h1 h2; omega
  | succ n ih =>
    intro i h h1 h2 h3 h4
    rw [spec_l11More.L1_eq]
    by_cases hi : i < o12.length
    · have ws : IntKind.wrap .i64 ((i : Int) + 1) = ((i + 1 : Nat) : Int) := wrap_succ (by omega)
      rw [drop_cons (0, 0, false) o12 i hi] at h4 ⊢
      obtain ⟨g1, g2, k, g3, g4, g5, g6⟩ := h4
      have hb : spec_l10Bit.F N (o12.getD i (0, 0, false)).2.1 = some (shiftL .i64 1 (k : Int)) := by
        have a1 : (0 : Int) ≤ (k : Int) ∧ (k : Int) ≤ 31 := by omega
        rw [spec_l10Bit.F_eq, g4, l1In_eq]
        simp only [bindV, a1, and_self, decide_true, notT, condF, condT]
      have hx := xorI (h := h) (k := k) h3 (by omega)
      have hlt : h ^^^ 2 ^ k < 4294967296 := by
        have := Nat.xor_lt_two_pow (n := 32) (x := h) (y := 2 ^ k) (by omega) (by have := pow_lt32 (k := k) (by omega); omega)
        omega
      have e1 : ∀ r : List Ev, hA h (o12.getD i (0, 0, false) :: r) = hA (h ^^^ 2 ^ k) r := by intro r; simp only [hA, List.foldl_cons, g4, Int.toNat_natCast]
      simp only [Int.ofNat_lt, hi, decide_true, condT, inRange_nat, nth_nat, ws, hb, bindV, hx]
      rw [ih _ (i + 1) (h ^^^ 2 ^ k) (by omega) (by omega) hlt g6, e1]
    · simp only [Int.ofNat_lt, hi, decide_false, condF]
      rw [List.drop_of_length_le (by omega)]
      rfl

/-- a combiner that has been used, and events for it -/
theorem CombinerD (N : Nat) (hN : 2000000 < N) (code : List Int) (hm : code.length ≤ maxN) (hc : code.length < N) :
    ∃ (l : List Cb) (t now : Int) (s : Sc) (h : Nat) (r : List Ev) (e : Int), okF l ∧ okM N l t now s h ∧ spec_MakeCombiner.F N code = some (s.cm l t now, (r, e)) ∧ fol 24 (hA h s.q) now r ∧ (∀ x ∈ r, x.1 ≤ e) ∧ (now ≤ e ∧ e ≤ 1000000) ∧ s.q.length + r.length ≤ 64 := by
  rw [spec_MakeCombiner.F_eq]
  obtain ⟨c, e, k⟩ := l24New_ok N code 10 hm hc
  obtain ⟨l, t, c1, a1, a2, a3, e1, k1⟩ := NewD N (by omega) code hm c k
  obtain ⟨r, c2, e2, g, g1, g2, g3⟩ := EventsD N (by omega) code hm t ⟨by omega, a3⟩ 0 (by omega) 0 (by omega) 8 (by omega) c1 k1
  have e2' : spec_l11Events.F N (c1, (0, (0, ((idle l t).2.1, 8)))) = some (r, c2) := e2
  have e3 := Last_eq N r (by omega) 0
  obtain ⟨v, c3, e4, v0, v1, k3⟩ := l1Below_ok N code c2 3 g hm (by omega)
  have hlt0 := lT_ge 5 r 0 0 g1
  have w : IntKind.wrap .i64 (lT 0 r + v) = lT 0 r + v := wrap64 (by omega) (by omega)
  have hid := idle_ok (N := N) (by omega) a1 ⟨a2, a3⟩
  have hre : ∀ x ∈ r, x.1 ≤ lT 0 r + v := fun x hx => by have := fol_time 5 r 0 0 g1 x hx; omega
  obtain ⟨f1, f2, h', f3, f4⟩ := okM_CE hN hid (L := r) (e := lT 0 r + v) ⟨by omega, by omega⟩ (fol_mono (by omega) r _ 0 0 (by omega) g1) hre (by simp only [idleS, List.length_nil]; omega)
  have f5 := okM_CES hN hid (L := r) (by simp only [idleS, List.length_nil]; omega) (lT 0 r + v)
  rw [f1, idle_cm] at f5
  have f6 := f2.len
  have f7 : (idleS.add r).q = r := rfl
  rw [f7] at f6
  generalize hR : (runA l t (lT 0 r + v) (idleS.add r)).2 = s at *
  have d1 : spec_l11Draw.F N c = some (s.cm l t (lT 0 r + v), c3) := by
    rw [spec_l11Draw.F_eq]
    simp only [e1, bindV, e2', e3, e4, w, f5]
  have hnw : 0 ≤ lT 0 r + v ∧ lT 0 r + v ≤ 100 := by omega
  clear f1 f2 f5 w hre hR
  generalize lT 0 r + v = nw at d1 f4 hnw
  obtain ⟨dd, d2, d3, d4⟩ := f4.os.d
  have hhl := AOk_lt d3 d4
  obtain ⟨_, i2⟩ := okM_IsC hN f4
  have hac := ac_small f4.ol f4.os
  have hheld : spec_l11Held.F N (s.cm l t (nw)) = some (h' : Int) := by
    obtain ⟨D, hh, y1, y2, y3⟩ := switch_L1 N l t s.q (nw) s.ck s.dn s.ac (by omega) N 0 s.dn (by omega) (by omega)
    rw [spec_l11Held.F_eq]
    simp only [Sc.cm]
    rw [show (0 : Int) = ((0 : Nat) : Int) from rfl, y2]
    rw [impl_switchesDown.F_eq] at i2
    simp only [Sc.cm] at i2
    rw [show (0 : Int) = ((0 : Nat) : Int) from rfl, y1] at i2
    have i3 := Option.some.inj i2
    rw [i3] at y3
    rw [← y3 rfl]
  have hq24 := hA_lt 24 (by omega) s.q h' 0 (by omega) f4.of
  obtain ⟨r2, c4, e5, k4, g4, g5, g6⟩ := EventsD N (by omega) code hm t ⟨by omega, a3⟩ (hA h' s.q) hq24 (nw) ⟨by omega, by omega⟩ 9 (by omega) c3 k3
  have e5' : spec_l11Events.F N ((c3.1, (c3.2.1, c3.2.2)), ((hA h' s.q : Int), (nw, (t, 9)))) = some (r2, c4) := e5
  have hmore : spec_l11More.F N (c3, (s.cm l t (nw), 9)) = some (r2, c4) := by
    rw [spec_l11More.F_eq, hheld, bindV]
    simp only [Sc.cm]
    have := hA_held N l t s.q (nw) s.ck s.dn s.ac 9 c3.1 c3.2.1 c3.2.2 0 (by omega) N 0 h' (by omega) (by omega) (by omega) (by rw [List.drop_zero]; exact f4.of)
    rw [List.drop_zero] at this
    rw [show (0 : Int) = ((0 : Nat) : Int) from rfl, this, e5', bindV]
  have e6 := Last_eq N r2 (by omega) (nw)
  have hlt2 := lT_ge 5 r2 _ _ g4
  obtain ⟨u, c5, e7, u0, u1, k5⟩ := l1Below_ok N code c4 8 k4 hm (by omega)
  have w2 : IntKind.wrap .i64 (lT (nw) r2 + u) = lT (nw) r2 + u := wrap64 (by omega) (by omega)
  refine ⟨l, t, nw, s, h', r2, lT (nw) r2 + u, a1, f4, ?_, fol_mono (by omega) r2 _ _ _ (by omega) g4, ?_, ⟨by omega, by omega⟩, by omega⟩
  · simp only [e, bindV, d1, hmore]
    have e6' : spec_l11Last.F N (r2, (s.cm l t (nw)).2.2.2.1) = some (lT (nw) r2) := e6
    simp only [e6', bindV, e7, w2]
  · intro x hx
    have := fol_time 5 r2 _ _ g4 x hx
    omega
end Go.Kb
