/- The reference's walks compute the same plain functions. -/
import Derived.Test.YtnoifcpgionjkaaCombinedP27
import Derived.Test.YtnoifcpgionjkaaCombinedF7
namespace Go.Kb

theorem fits_L1 (N : Nat) (s : Int) (l : List Cb) (hl : l.length ≤ 1048576) : ∀ (n i : Nat), i ≤ l.length → l.length < n + i →
    spec_l11Fits.L1 N n l s (i : Int) = some (win (l.drop i) s) := by
  intro n
  induction n with
  | zero => intro i h1 h2; omega
  | succ n ih =>
    intro i h1 h2
    rw [spec_l11Fits.L1_eq]
    by_cases hi : i < l.length
    · have ws : IntKind.wrap .i64 ((i : Int) + 1) = ((i + 1 : Nat) : Int) := wrap_succ (by omega)
      simp only [Int.ofNat_lt, hi, decide_true, condT, inRange_nat, nth_nat, ws, ih (i + 1) (by omega) (by omega)]
      rw [drop_cons (0, 0) l i hi]
      show _ = some (fitB s (l.getD i (0, 0)).1 || win (l.drop (i + 1)) s)
      unfold fitB
      cases bitAndNot .i64 s (l.getD i (0, 0)).1 == 0 with
      | true => simp only [condT, Bool.true_or]
      | false => simp only [condF, Bool.false_or]
    · simp only [Int.ofNat_lt, hi, decide_false, condF]
      rw [List.drop_of_length_le (by omega)]; rfl

theorem fits_eq (N : Nat) (hN : 1048576 < N) (s : Int) (l : List Cb) (hl : l.length ≤ 1048576) : spec_l11Fits.F N (l, s) = some (win l s) := by
  rw [spec_l11Fits.F_eq]
  have h := fits_L1 N s l hl N 0 (by omega) (by omega)
  rw [List.drop_zero] at h
  exact h

theorem out_L1 (N : Nat) (s : Int) (l : List Cb) (hl : l.length ≤ 1048576) : ∀ (n i : Nat) (o : Int) (m : Bool), i ≤ l.length → l.length < n + i →
    spec_l11Out.L1 N n l s o m (i : Int) = some ((l.drop i).foldl (whlStep s) (o, m)) := by
  intro n
  induction n with
  | zero => intro i o m h1 h2; omega
  | succ n ih =>
    intro i o m h1 h2
    rw [spec_l11Out.L1_eq]
    by_cases hi : i < l.length
    · have ws : IntKind.wrap .i64 ((i : Int) + 1) = ((i + 1 : Nat) : Int) := wrap_succ (by omega)
      simp only [Int.ofNat_lt, hi, decide_true, condT, inRange_nat, nth_nat, ws, ih (i + 1) _ _ (by omega) (by omega)]
      rw [drop_cons (0, 0) l i hi, List.foldl_cons]
      show _ = some (List.foldl (whlStep s) (bif (l.getD i (0, 0)).1 == s then ((l.getD i (0, 0)).2, m) else bif fitB s (l.getD i (0, 0)).1 then (o, true) else (o, m)) _)
      unfold fitB
      have hsw : (s == (l.getD i (0, 0)).1) = ((l.getD i (0, 0)).1 == s) := by rw [Bool.eq_iff_iff]; simp only [beq_iff_eq]; exact eq_comm
      rw [hsw]
      cases (l.getD i (0, 0)).1 == s with
      | true => simp only [condT]
      | false =>
        simp only [condF]
        cases bitAndNot .i64 s (l.getD i (0, 0)).1 == 0 with
        | true => simp only [condT]
        | false => simp only [condF]
    · simp only [Int.ofNat_lt, hi, decide_false, condF]
      rw [List.drop_of_length_le (by omega)]; rfl

theorem out_eq (N : Nat) (hN : 1048576 < N) (s : Int) (l : List Cb) (hl : l.length ≤ 1048576) : spec_l11Out.F N (l, s) = some (whl l s) := by
  rw [spec_l11Out.F_eq]
  have h := out_L1 N s l hl N 0 (-1) false (by omega) (by omega)
  rw [List.drop_zero] at h
  exact h

theorem switch_eq (N : Nat) (t : Int) (kv : Int × Bool) : spec_l11Switch.F N (t, kv) = some (isSw (t, kv)) := by
  rw [spec_l11Switch.F_eq, IsEv_spec N t kv, bindV]
  unfold isSw
  cases isEv t kv.1 with
  | true => simp only [condT, Bool.true_and]
  | false => simp only [condF, Bool.false_and]

theorem whl_fst (s : Int) : ∀ (l : List Cb) (o : Int) (m : Bool), (o = -1 ∨ 0 ≤ o) → (∀ x ∈ l, 24 ≤ x.2 ∧ x.2 ≤ 31) → (l.foldl (whlStep s) (o, m)).1 = -1 ∨ 0 ≤ (l.foldl (whlStep s) (o, m)).1 := by
  intro l
  induction l with
  | nil => intro o m h _; exact h
  | cons c r ih =>
    intro o m h hc
    rw [List.foldl_cons]
    unfold whlStep
    have h1 := (hc c (by simp)).1
    have h2 := fun x hx => hc x (List.mem_cons_of_mem c hx)
    cases c.1 == s with
    | true => simp only [condT]; exact ih _ _ (Or.inr (by omega)) h2
    | false =>
      simp only [condF]
      cases fitB s c.1 with
      | true => simp only [condT]; exact ih _ _ h h2
      | false => simp only [condF]; exact ih _ _ h h2

theorem pick_spec (l : List Cb) (hc : ∀ x ∈ l, 24 ≤ x.2 ∧ x.2 ≤ 31) (s n at_ : Int) :
    (bif decide ((whl l s).1 < 0) then some ((1 : Int), (at_, (whl l s).1)) else some (n, (at_, (whl l s).1))) = some (pickO l s n at_) := by
  unfold pickO
  rcases whl_fst s l (-1) false (Or.inl rfl) hc with h | h
  · have h' : (whl l s).1 = -1 := h
    have a : (whl l s).1 < 0 := by omega
    have b : ¬ (whl l s).1 ≥ 0 := by omega
    simp only [a, b, decide_true, decide_false, condT, condF]
    rw [h']
  · have h' : 0 ≤ (whl l s).1 := h
    have a : ¬ (whl l s).1 < 0 := by omega
    have b : (whl l s).1 ≥ 0 := by omega
    simp only [a, b, decide_true, decide_false, condT, condF]

theorem minI_ge {x y : Int} (h : y ≥ x) : minI x y = x := by unfold minI; rw [if_neg (by omega)]
theorem minI_lt {x y : Int} (h : ¬ y ≥ x) : minI x y = y := by unfold minI; rw [if_pos (by omega)]

theorem MatchS_L1 (N : Nat) (hN : 1048576 < N) (l : List Cb) (hl : l.length ≤ 1048576) (hc : ∀ x ∈ l, 24 ≤ x.2 ∧ x.2 ≤ 31) (now tend : Int) (f : Ev) (q : List Ev) (hq : q.length ≤ 1048576) : ∀ (n i : Nat) (s : Int), i ≤ q.length → q.length < n + i →
    spec_MatchCombo.L1 N n l (f :: q) now s tend ((i + 1 : Nat) : Int) tend = some (mgo l now tend (q.drop i) s ((i + 1 : Nat) : Int)) := by
  intro n
  induction n with
  | zero => intro i s h1 h2; omega
  | succ n ih =>
    intro i s h1 h2
    rw [spec_MatchCombo.L1_eq]
    by_cases hi : i < q.length
    · have wn : IntKind.wrap .i64 (((i + 1 : Nat) : Int) + 1) = ((i + 1 + 1 : Nat) : Int) := wrap_succ (by omega)
      have ih' := fun s => ih (i + 1) s (by omega) (by omega)
      have e0 : (((i + 1 : Nat) : Int) == ((f :: q).length : Int)) = false := by rw [beqI]; exact decide_eq_false (by simp only [List.length_cons]; omega)
      have e1 : i + 1 < (f :: q).length := by simp only [List.length_cons]; omega
      have e2 : (f :: q).getD (i + 1) (0, 0, false) = q.getD i (0, 0, false) := by simp [List.getD_cons_succ]
      rw [drop_cons (0, 0, false) q i hi]
      simp only [e0, condF, inRange_nat, e1, decide_true, condT, nth_nat, e2, wn, switch_eq, bindV, out_eq N hN _ l hl, fits_eq N hN _ l hl, ih', mgo, pick_spec l hc]
      generalize q.getD i (0, 0, false) = x
      obtain ⟨t, k, d⟩ := x
      simp only []
      cases hsw : isSw (t, k, d) with
      | false => simp only [notF, condT]
      | true =>
        have hk := (isSw_spec hsw).2.2.1
        simp only [] at hk
        simp only [notT, condF, hk, decide_true, condT]
        rw [show ((i + 1 + 1 : Nat) : Int) = ((i + 1 : Nat) : Int) + 1 by omega]
        by_cases ht : t ≥ tend
        · simp only [ht, decide_true, condT, minI_ge ht]
        · simp only [ht, decide_false, condF, minI_lt ht, someCond, condAnd, bitK]
          rfl
    · have e0 : (((i + 1 : Nat) : Int) == ((f :: q).length : Int)) = true := by rw [beqI]; exact decide_eq_true (by simp only [List.length_cons]; omega)
      simp only [e0, condT, out_eq N hN _ l hl, bindV, pick_spec l hc]
      rw [List.drop_of_length_le (by omega)]
      simp only [someCond, mgo]

theorem MatchS_eq (N : Nat) (hN : 1048576 < N) (l : List Cb) (hl : l.length ≤ 1048576) (hs : spec_IsCombos.F N l = some true) (hc : ∀ x ∈ l, 24 ≤ x.2 ∧ x.2 ≤ 31) (term : Int) (ht : 1 ≤ term ∧ term ≤ 200) (q : List Ev) (hq : q.length ≤ 1048576) (now : Int) :
    spec_MatchCombo.F N (l, (term, (q, now))) = some (mtc l term now q) := by
  rw [spec_MatchCombo.F_eq]
  cases q with
  | nil => simp only [hs, bindV, notT, condF, l1In_eq, ht, and_self, decide_true, List.length_nil, Int.natCast_zero, beq_self_eq_true, condT, mtc]
  | cons f r =>
    have e0 : (((f :: r).length : Int) == 0) = false := by rw [beqI]; exact decide_eq_false (by simp only [List.length_cons]; omega)
    have hr : r.length ≤ 1048576 := by simp only [List.length_cons] at hq; omega
    have h := fun s => MatchS_L1 N hN l hl hc now (IntKind.wrap .i64 (f.1 + term)) f r hr N 0 s (by omega) (by omega)
    simp only [List.drop_zero, Nat.zero_add] at h
    have h' : ∀ s, spec_MatchCombo.L1 N N l (f :: r) now s (IntKind.wrap .i64 (f.1 + term)) 1 (IntKind.wrap .i64 (f.1 + term)) = some (mgo l now (IntKind.wrap .i64 (f.1 + term)) r s 1) := h
    simp only [hs, bindV, notT, condF, l1In_eq, ht, and_self, decide_true, e0, inRange0, condT, nth0, switch_eq, fits_eq N hN _ l hl, h', mtc]
    cases hsw : isSw (f.1, f.2) with
    | false => simp only [notF, condT]
    | true =>
      have h2 : isSw f = true := hsw
      have hk := (isSw_spec h2).2.2.1
      simp only [notT, condF, hk, decide_true, condT, someCond, bitK]

theorem keysS_L1 (N : Nat) (out : Int) (l : List Cb) (hl : l.length ≤ 1048576) : ∀ (n i : Nat), i ≤ l.length → l.length < n + i → spec_l11Keys.L1 N n l out (i : Int) = some (keysOf (l.drop i) out) := by
  intro n
  induction n with
  | zero => intro i h1 h2; omega
  | succ n ih =>
    intro i h1 h2
    rw [spec_l11Keys.L1_eq]
    by_cases hi : i < l.length
    · have e2 := ih (i + 1) (by omega) (by omega)
      have ws : IntKind.wrap .i64 ((i : Int) + 1) = ((i + 1 : Nat) : Int) := wrap_succ (by omega)
      simp only [Int.ofNat_lt, hi, decide_true, condT, inRange_nat, nth_nat, ws, e2]
      rw [drop_cons (0, 0) l i hi]
      unfold keysOf
      rw [List.find?_cons]
      cases (l.getD i (0, 0)).2 == out with
      | true => simp only [condT]
      | false => simp only [condF]
    · simp only [Int.ofNat_lt, hi, decide_false, condF]
      rw [List.drop_of_length_le (by omega)]; rfl

theorem keysS_eq (N : Nat) (hN : 1048576 < N) (out : Int) (l : List Cb) (hl : l.length ≤ 1048576) : spec_l11Keys.F N (l, out) = some (keysOf l out) := by
  rw [spec_l11Keys.F_eq]
  have h := keysS_L1 N out l hl N 0 (by omega) (by omega)
  rw [List.drop_zero] at h
  exact h

theorem UpS_L1 (N : Nat) (key : Int) (hk : 0 ≤ key) (at_ : Int) (c0 : List Cb) (c1 : Int) (c2 : List Ev) (c3 c4 c5 : Int) (o : List Ev) (ho : o.length ≤ 2000000) : ∀ (n i : Nat), i ≤ o.length → o.length < n + i →
    spec_l11Up.L1 N n key at_ (i : Int) c0 c1 c2 c3 c4 c5 o = some (match upGo key at_ (o.drop i) with
      | some (e, q) => (e, (c0, (c1, (c2, (c3, (c4, (c5, o.take i ++ q)))))))
      | none => ([(at_, (key, false))], (c0, (c1, (c2, (c3, (c4, (bitAndNot .i64 c5 (bitK key), o)))))))) := by
  intro n
  induction n with
  | zero => intro i h1 h2; omega
  | succ n ih =>
    intro i h1 h2
    rw [spec_l11Up.L1_eq]
    by_cases hi : i < o.length
    · have ws : IntKind.wrap .i64 ((i : Int) + 1) = ((i + 1 : Nat) : Int) := wrap_succ (by omega)
      have g := ih (i + 1) (by omega) (by omega)
      have tk : o.take (i + 1) = o.take i ++ [o.getD i (0, 0, false)] := by
        rw [List.take_succ_eq_append_getElem hi, List.getD_eq_getElem?_getD, List.getElem?_eq_getElem hi]; rfl
      rw [drop_cons (0, 0, false) o i hi]
      obtain ⟨⟨u, m, d⟩, hx⟩ : ∃ x, o.getD i (0, 0, false) = x := ⟨_, rfl⟩
      simp only [Int.ofNat_lt, hi, decide_true, condT, inRange_nat, Int.toNat_natCast, ws, g, hk, upGo, List.length_set, tk, hx]
      cases bitAnd .i64 (shiftR .i64 m key) 1 == 0 with
      | true =>
        simp only [condT]
        cases upGo key at_ (o.drop (i + 1)) with
        | none => rfl
        | some p => obtain ⟨e, q⟩ := p; simp only [List.append_assoc, List.cons_append, List.nil_append]
      | false =>
        simp only [condF]
        have l0 : (0 : Int) ≤ (i : Int) := by omega
        have l1 : (i : Int) ≤ (o.length : Int) := by omega
        have l2 : (0 : Int) ≤ ((i + 1 : Nat) : Int) := by omega
        have l2' : ((i + 1 : Nat) : Int) ≤ (o.length : Int) := by omega
        have tks : ∀ v : Ev, List.take i (o.set i v) = o.take i := fun v => List.take_set_of_le (by omega)
        have dps : ∀ v : Ev, List.drop (i + 1) (o.set i v) = o.drop (i + 1) := fun v => List.drop_set_of_lt (by omega)
        have l3 : (o.take i).length ≤ maxN := by simp only [List.length_take, maxN]; omega
        have l4 : (o.take i).length + (o.drop (i + 1)).length ≤ maxN := by simp only [List.length_take, List.length_drop, maxN]; omega
        have l5 : (0 : Nat) + 1 ≤ maxN := by unfold maxN; omega
        cases d with
        | true =>
          simp only [condT, l0, l1, l2, l2', Bool.and_self, tks, dps, l3, l4, l5, decide_true, List.drop_zero, Int.toNat_natCast, bitK, List.nil_append, List.length_nil, List.length_cons, Nat.zero_add]
          cases bitAndNot .i64 m (shiftL .i64 1 key) == 0 with
          | true => simp only [condT]
          | false => simp only [condF, set_split o i _ hi]
        | false =>
          simp only [condF, condT, l0, l1, l2, l2', Bool.and_self, tks, dps, l3, l4, decide_true, List.drop_zero, Int.toNat_natCast, bitK, List.nil_append, List.length_nil, Nat.zero_add]
          cases bitAndNot .i64 m (shiftL .i64 1 key) == 0 with
          | true => simp only [condT]
          | false => simp only [condF, set_split o i _ hi]
    · have l5 : (0 : Nat) + 1 ≤ maxN := by unfold maxN; omega
      simp only [Int.ofNat_lt, hi, decide_false, condF, hk, decide_true, condT]
      rw [List.drop_of_length_le (by omega)]
      simp only [upGo, bitK]

theorem UpS_eq (N : Nat) (hN : 2000000 < N) (key : Int) (hk : 0 ≤ key) (at_ : Int) (c0 : List Cb) (c1 : Int) (c2 : List Ev) (c3 c4 c5 : Int) (o : List Ev) (ho : o.length ≤ 2000000) :
    spec_l11Up.F N ((c0, (c1, (c2, (c3, (c4, (c5, o)))))), (key, at_)) = some (match upGo key at_ o with
      | some (e, q) => (e, (c0, (c1, (c2, (c3, (c4, (c5, q)))))))
      | none => ([(at_, (key, false))], (c0, (c1, (c2, (c3, (c4, (bitAndNot .i64 c5 (bitK key), o)))))))) := by
  rw [spec_l11Up.F_eq]
  have h := UpS_L1 N key hk at_ c0 c1 c2 c3 c4 c5 o ho N 0 (by omega) (by omega)
  simp only [List.drop_zero, List.take_zero, List.nil_append, Int.natCast_zero] at h
  exact h

theorem RunS_L1 (N : Nat) (hN' : 2000000 < N) (l : List Cb) (hl : l.length ≤ 1048576) (hs : spec_IsCombos.F N l = some true) (hc : ∀ x ∈ l, 24 ≤ x.2 ∧ x.2 ≤ 31) (term : Int) (ht : 1 ≤ term ∧ term ≤ 200) (now : Int) :
    ∀ (k n : Nat) (s : Sc) (g : List Ev), s.q.length ≤ k → k < n → k ≤ 1000 → g.length + k ≤ 1000000 → s.ac.length + k ≤ 2000000 → (∀ e ∈ s.q, isSw e = true) →
    spec_l11Run.L1 N n l term s.q now s.ck s.dn g s.ac = some (g ++ (runC l term now k s).1, (runC l term now k s).2.cm l term now) := by
  have hN : 1048576 < N := by omega
  intro k
  induction k with
  | zero =>
    intro n s g h1 h2 h3 h4 h5 h6
    obtain ⟨n, rfl⟩ : ∃ m, n = m + 1 := ⟨n - 1, by omega⟩
    rw [spec_l11Run.L1_eq]
    have : ¬ ((s.q.length : Int) > 0) := by omega
    simp only [this, decide_false, condF, runC, List.append_nil, Sc.cm]
  | succ k ih =>
    intro n s g h1 h2 h3 h4 h5 h6
    obtain ⟨n, rfl⟩ : ∃ m, n = m + 1 := ⟨n - 1, by omega⟩
    rw [spec_l11Run.L1_eq]
    by_cases h0 : 0 < s.q.length
    · have h0' : ((s.q.length : Int) > 0) := by omega
      have ih' : ∀ o s', stepC l term now s = some (o, s') → spec_l11Run.L1 N n l term s'.q now s'.ck s'.dn (g ++ o) s'.ac = some (g ++ (o ++ (runC l term now k s').1), (runC l term now k s').2.cm l term now) := by
        intro o s' hs
        obtain ⟨⟨m, m1, m2, m3⟩, m4, m5⟩ := step_shape hs
        have hi := ih n s' (g ++ o) (by rw [m3, List.length_drop]; omega) (by omega) (by omega) (by rw [List.length_append]; omega) (by omega) (by intro e he; rw [m3] at he; exact h6 e (List.mem_of_mem_drop he))
        rw [hi, List.append_assoc]
      have hlen : ∀ o s', stepC l term now s = some (o, s') → o.length ≤ 1 := fun o s' hs => (step_shape hs).2.1
      obtain ⟨q, ck, dn, ac⟩ := s
      cases q with
      | nil => simp at h0
      | cons e r =>
        simp only [] at h1 h5 h6 h0' ih' hlen ⊢
        have hk := (isSw_spec (h6 e (by simp))).2.2.1
        have hq : (e :: r).length ≤ 1048576 := by omega
        have hm := MatchS_eq N hN l hl hs hc term ht (e :: r) hq now
        have hb := mtc_bound l term now (e :: r)
        have hu := UpS_eq N hN' e.2.1 hk (maxI ck e.1) l term (e :: r) now ck dn ac (by omega)
        have e0 : (0 : Int) ≤ 1 := by omega
        have e1 : (1 : Int) ≤ ((e :: r).length : Int) := by simp only [List.length_cons]; omega
        have e2 : r.length ≤ maxN := by simp only [List.length_cons] at hq; unfold maxN; omega
        simp only [h0', decide_true, condT, inRange0, nth0, runC]
        simp only [stepC] at ih' hlen ⊢
        cases hd : e.2.2 with
        | false =>
          rw [hd] at ih' hlen
          simp only [notF, condT] at ih' hlen
          simp only [condF, notF, condT, hu, bindV]
          cases hg : upGo e.2.1 (maxI ck e.1) ac with
          | none =>
            rw [hg] at ih' hlen
            have hi := ih' _ _ rfl
            simp only [] at hi
            have e3 : g.length + ([(maxI ck e.1, (e.2.1, false))] : List Ev).length ≤ maxN := by simp only [List.length_cons, List.length_nil]; unfold maxN; omega
            simp only [e3, e0, e1, Bool.and_self, List.drop_succ_cons, List.drop_zero, List.nil_append, List.length_nil, Nat.zero_add, e2, decide_true, condT]
            exact hi
          | some p =>
            obtain ⟨o1, q1⟩ := p
            rw [hg] at ih' hlen
            have hi := ih' _ _ rfl
            have hl1 := hlen _ _ rfl
            simp only [] at hi
            have e3 : g.length + o1.length ≤ maxN := by unfold maxN; omega
            simp only [e3, e0, e1, Bool.and_self, List.drop_succ_cons, List.drop_zero, List.nil_append, List.length_nil, Nat.zero_add, e2, decide_true, condT]
            exact hi
        | true =>
          rw [hd] at ih' hlen
          simp only [notT, condF] at ih' hlen
          simp only [condT, notT, condF, hm, bindV]
          generalize mtc l term now (e :: r) = m at *
          cases hz : m.1 == 0 with
          | true => simp only [condT, List.append_nil, Sc.cm]
          | false =>
            rw [hz] at ih' hlen
            simp only [condF] at ih' hlen
            have e4 : (List.drop (Int.toNat m.1) (e :: r)).length ≤ maxN := by simp only [List.length_drop]; unfold maxN; omega
            cases hx : decide (m.2.2 < 0) with
            | true =>
              rw [hx] at ih'
              simp only [condT] at ih'
              have hi := ih' _ _ rfl
              simp only [] at hi
              have hx' : ¬ m.2.2 ≥ 0 := by have := of_decide_eq_true hx; omega
              have e3 : g.length + ([(maxI (maxI ck e.1) m.2.1, (e.2.1, true))] : List Ev).length ≤ maxN := by simp only [List.length_cons, List.length_nil]; unfold maxN; omega
              simp only [hx', decide_false, condF, e3, hk, hb.1, hb.2, Bool.and_self, List.nil_append, List.length_nil, Nat.zero_add, e4, decide_true, condT]
              exact hi
            | false =>
              rw [hx] at ih'
              simp only [condF] at ih'
              have hi := ih' _ _ rfl
              simp only [] at hi
              have hx' : m.2.2 ≥ 0 := by have := of_decide_eq_false hx; omega
              have e3 : g.length + ([(maxI (maxI ck e.1) m.2.1, (m.2.2, true))] : List Ev).length ≤ maxN := by simp only [List.length_cons, List.length_nil]; unfold maxN; omega
              have e5 : ac.length ≤ maxN := by unfold maxN; omega
              have e6 : ac.length + ([(m.2.2, (keysOf l m.2.2, true))] : List Ev).length ≤ maxN := by simp only [List.length_cons, List.length_nil]; unfold maxN; omega
              simp only [hx', decide_true, condT, condF, keysS_eq N hN _ l hl, bindV, e3, e5, e6, hb.1, hb.2, Bool.and_self, List.nil_append, List.length_nil, Nat.zero_add, e4]
              exact hi
    · have h0' : ¬ ((s.q.length : Int) > 0) := by omega
      have hs : stepC l term now s = none := by
        obtain ⟨q, ck, dn, ac⟩ := s
        cases q with
        | nil => rfl
        | cons e r => simp at h0
      simp only [h0', decide_false, condF, runC, hs, List.append_nil, Sc.cm]
end Go.Kb
