/- Drawn reports; a report that may be dropped hides nothing that is typed. -/
import Derived.Test.YtipjdpnpahhndaaDoorDroppedP44
import Derived.Test.YtipjdpnpahhndaaDoorDroppedP4
namespace Go.Kb
set_option maxRecDepth 100000

def sub4 (q : List Int) : Prop := ∃ b0 b1 b2 b3 : Bool, q = ((((if b0 then [1] else []) ++ (if b1 then [2] else [])) ++ (if b2 then [3] else [])) ++ (if b3 then [4] else []) : List Int)
theorem sub4_len {q : List Int} (h : sub4 q) : q.length ≤ 4 := by
  obtain ⟨b0, b1, b2, b3, rfl⟩ := h
  cases b0 <;> cases b1 <;> cases b2 <;> cases b3 <;> decide
def goodR (r : Rpt) : Prop := (∃ m : Nat, m < 4 ∧ r.1 = (m : Int)) ∧ sub4 r.2

theorem l1Once_ok (N : Nat) (code : List Int) (c : List Int × Int × Int) (n : Int) (h : okC code c) (hm : code.length ≤ maxN) (hn : 0 < n) : ∃ b c', spec_l1Once.F N (c, n) = some (b, c') ∧ okC code c' := by
  rw [spec_l1Once.F_eq]
  obtain ⟨v, c', e, _, _, k⟩ := l1Below_ok N code c n h hm hn
  rw [e, bindV]
  exact ⟨_, _, rfl, k⟩

theorem Keys_step (N n1 n : Nat) (on mods n_ : Int) (k : Nat) (hk : k < 4) (c0 : List Int) (c1 c2 : Int) (o1 : List Rpt) (o3 : List Int) (ho : o3.length ≤ 4) (o40 : Int) :
    ∃ b : Bool, spec_l13Reports.L2 N n1 (n + 1) on mods n_ (k : Int) c0 c1 c2 o1 o3 o40 = spec_l13Reports.L2 N n1 n on mods n_ ((k + 1 : Nat) : Int) c0 c1 c2 o1 (o3 ++ (if b then [((k + 1 : Nat) : Int)] else [])) o40 := by
  rw [spec_l13Reports.L2_eq, decide_eq_true (by omega : (k : Int) < 4), decide_eq_true (by omega : (0 : Int) ≤ (k : Int)), condT, condT, wrap_succ (by omega)]
  cases (bitAnd .i64 (shiftR .i64 on (k : Int)) 1) == 1 with
  | true =>
    refine ⟨true, ?_⟩
    have hm : decide (List.length o3 + List.length ([((k + 1 : Nat) : Int)] : List Int) ≤ maxN) = true := decide_eq_true (by unfold maxN; simp; omega)
    rw [condT, hm, condT]; rfl
  | false =>
    refine ⟨false, ?_⟩
    rw [condF]; simp

theorem Keys_all (N n1 n : Nat) (on mods n_ : Int) (c0 : List Int) (c1 c2 : Int) (o1 : List Rpt) (ho1 : o1.length ≤ 1000) (o40 : Int) :
    ∃ q, sub4 q ∧ spec_l13Reports.L2 N n1 (n + 1 + 1 + 1 + 1 + 1) on mods n_ 0 c0 c1 c2 o1 [] o40 = spec_l13Reports.L1 N n1 on mods (IntKind.wrap .i64 (n_ - 1)) c0 c1 c2 (o1 ++ [(o40, q)]) := by
  obtain ⟨b0, e0⟩ := Keys_step N n1 (n + 1 + 1 + 1 + 1) on mods n_ 0 (by omega) c0 c1 c2 o1 [] (by simp) o40
  obtain ⟨b1, e1⟩ := Keys_step N n1 (n + 1 + 1 + 1) on mods n_ 1 (by omega) c0 c1 c2 o1 ([] ++ (if b0 then [((0 + 1 : Nat) : Int)] else [])) (by cases b0 <;> simp) o40
  obtain ⟨b2, e2⟩ := Keys_step N n1 (n + 1 + 1) on mods n_ 2 (by omega) c0 c1 c2 o1 (([] ++ (if b0 then [((0 + 1 : Nat) : Int)] else [])) ++ (if b1 then [((1 + 1 : Nat) : Int)] else [])) (by cases b0 <;> cases b1 <;> simp) o40
  obtain ⟨b3, e3⟩ := Keys_step N n1 (n + 1) on mods n_ 3 (by omega) c0 c1 c2 o1 ((([] ++ (if b0 then [((0 + 1 : Nat) : Int)] else [])) ++ (if b1 then [((1 + 1 : Nat) : Int)] else [])) ++ (if b2 then [((2 + 1 : Nat) : Int)] else [])) (by cases b0 <;> cases b1 <;> cases b2 <;> simp) o40
  refine ⟨(((if b0 then [1] else []) ++ (if b1 then [2] else [])) ++ (if b2 then [3] else [])) ++ (if b3 then [4] else []), ⟨b0, b1, b2, b3, rfl⟩, ?_⟩
  refine (e0.trans (e1.trans (e2.trans (e3.trans ?_))))
  rw [spec_l13Reports.L2_eq, decide_eq_false (by omega), condF]
  have hm : ∀ q : List Int, decide (List.length o1 + List.length ([(o40, q)] : List Rpt) ≤ maxN) = true := fun q => decide_eq_true (by unfold maxN; simp; omega)
  rw [hm, condT]
  rfl

theorem mods_tbl : ((List.range 4).all fun m => (List.range 4).all fun v => decide (0 ≤ bitXor .i64 (m : Int) (v : Int)) && decide (bitXor .i64 (m : Int) (v : Int) < 4)) = true := by kernel_rfl
theorem mods_ok {m v : Int} (h0 : 0 ≤ m ∧ m < 4) (h1 : 0 ≤ v ∧ v < 4) : 0 ≤ bitXor .i64 m v ∧ bitXor .i64 m v < 4 := by
  obtain ⟨k, rfl⟩ : ∃ k : Nat, m = (k : Int) := ⟨m.toNat, by omega⟩
  obtain ⟨j, rfl⟩ : ∃ j : Nat, v = (j : Int) := ⟨v.toNat, by omega⟩
  have h := List.all_eq_true.1 mods_tbl k (List.mem_range.2 (by omega))
  have h := List.all_eq_true.1 h j (List.mem_range.2 (by omega))
  simpa using h

theorem ReportsD_L1 (N : Nat) (hN : 10 < N) (code : List Int) (hm : code.length ≤ maxN) : ∀ (n m : Nat) (on mods : Int) (c : List Int × Int × Int) (o : List Rpt), m ≤ 100 → m < n → 0 ≤ mods ∧ mods < 4 → okC code c → o.length + m ≤ 1000 →
    ∃ l c', spec_l13Reports.L1 N n on mods (m : Int) c.1 c.2.1 c.2.2 o = some (o ++ l, c') ∧ okC code c' ∧ l.length = m ∧ ∀ r ∈ l, goodR r := by
  intro n
  induction n with
  | zero => intro m on mods c o h1 h2; omega
  | succ n ih =>
    intro m on mods c o h1 h2 h3 h4 h5
    rw [spec_l13Reports.L1_eq]
    cases m with
    | zero =>
      rw [decide_eq_false (by omega), condF]
      exact ⟨[], c, by simp, h4, rfl, by intro r hr; cases hr⟩
    | succ m =>
      rw [decide_eq_true (by omega), condT]
      obtain ⟨v, c2, e2, v0, v1, k2⟩ := l1Below_ok N code (c.1, (c.2.1, c.2.2)) 4 h4 hm (by omega)
      rw [e2, bindV, decide_eq_true v0, condT]
      obtain ⟨b, c3, e3, k3⟩ := l1Once_ok N code c2 4 k2 hm (by omega)
      simp only [e3, bindV]
      have hw : IntKind.wrap .i64 (((m + 1 : Nat) : Int) - 1) = (m : Int) := by rw [wrap64 (by omega) (by omega)]; omega
      obtain ⟨M, rfl⟩ : ∃ M, N = M + 1 + 1 + 1 + 1 + 1 := ⟨N - 5, by omega⟩
      have fin : ∀ (on' mods' : Int) (c' : List Int × Int × Int), 0 ≤ mods' ∧ mods' < 4 → okC code c' → ∃ l c'', spec_l13Reports.L2 (M + 1 + 1 + 1 + 1 + 1) n (M + 1 + 1 + 1 + 1 + 1) on' mods' ((m + 1 : Nat) : Int) 0 c'.1 c'.2.1 c'.2.2 o [] mods' = some (o ++ l, c'') ∧ okC code c'' ∧ l.length = m + 1 ∧ ∀ r ∈ l, goodR r := by
        intro on' mods' c' hm' hc'
        obtain ⟨q, hq, e⟩ := Keys_all (M + 1 + 1 + 1 + 1 + 1) n M on' mods' ((m + 1 : Nat) : Int) c'.1 c'.2.1 c'.2.2 o (by omega) mods'
        rw [e, hw]
        obtain ⟨l, c'', e', k', hl, hg⟩ := ih m on' mods' c' (o ++ [(mods', q)]) (by omega) (by omega) hm' hc' (by simp; omega)
        refine ⟨(mods', q) :: l, c'', by rw [e']; simp, k', by simp [hl], ?_⟩
        intro r hr
        rcases List.mem_cons.1 hr with rfl | hr
        · exact ⟨⟨mods'.toNat, by omega, by show mods' = _; omega⟩, hq⟩
        · exact hg r hr
      cases b with
      | true =>
        rw [condT]
        obtain ⟨v4, c4, e4, hv4, k4⟩ := l1PickInt_ok (M + 1 + 1 + 1 + 1 + 1) code c3 [1, 2, 3] k3 hm (by simp)
        rw [e4, bindV]
        have hv : 0 ≤ v4 ∧ v4 < 4 := by
          simp only [List.mem_cons, List.not_mem_nil, or_false] at hv4; omega
        exact fin _ _ c4 (mods_ok h3 hv) k4
      | false =>
        rw [condF]
        exact fin _ _ c3 h3 k3

theorem ReportsD (N : Nat) (hN : 200 < N) (code : List Int) (hm : code.length ≤ maxN) (c : List Int × Int × Int) (hc : okC code c) (most : Nat) (hmost : most ≤ 50) :
    ∃ l c', spec_l13Reports.F N (c, (most : Int)) = some (l, c') ∧ okC code c' ∧ l.length ≤ most ∧ ∀ r ∈ l, goodR r := by
  rw [spec_l13Reports.F_eq, wrap_succ (by omega)]
  obtain ⟨v, c2, e2, v0, v1, k2⟩ := l1Below_ok N code c ((most + 1 : Nat) : Int) hc hm (by omega)
  rw [e2, bindV]
  obtain ⟨k, rfl⟩ : ∃ k : Nat, v = (k : Int) := ⟨v.toNat, by omega⟩
  obtain ⟨l, c', e, k', hl, hg⟩ := ReportsD_L1 N (by omega) code hm N k 0 0 c2 [] (by omega) (by omega) (by omega) k2 (by simp; omega)
  exact ⟨l, c', by simpa using e, k', by omega, hg⟩

theorem ReportD_L1 (N : Nat) (code : List Int) (hm : code.length ≤ maxN) (o40 : Int) : ∀ (n m : Nat) (k : Int) (c : List Int × Int × Int) (o : List Int), m < n → 0 ≤ k → k ≤ 1000 → okC code c → o.length + m ≤ 1000 →
    ∃ q c', spec_l7Report.L1 N n k (m : Int) c.1 c.2.1 c.2.2 o o40 = some ((o40, q), c') ∧ okC code c' ∧ q.length ≤ o.length + m := by
  intro n
  induction n with
  | zero => intro m k c o h1; omega
  | succ n ih =>
    intro m k c o h1 h2 h3 h4 h5
    rw [spec_l7Report.L1_eq]
    cases m with
    | zero =>
      rw [decide_eq_false (by omega), condF]
      exact ⟨o, c, rfl, h4, by omega⟩
    | succ m =>
      rw [decide_eq_true (by omega), condT]
      by_cases hk : k < 56
      · rw [decide_eq_true hk, condT]
        obtain ⟨v, c2, e2, v0, v1, k2⟩ := l1Below_ok N code (c.1, (c.2.1, c.2.2)) 7 h4 hm (by omega)
        have w1 : IntKind.wrap .i64 (k + 1) = k + 1 := wrap64 (by omega) (by omega)
        have w2 : IntKind.wrap .i64 (k + 1 + v) = k + 1 + v := wrap64 (by omega) (by omega)
        have w3 : IntKind.wrap .i64 (((m + 1 : Nat) : Int) - 1) = (m : Int) := by rw [wrap64 (by omega) (by omega)]; omega
        simp only [e2, bindV, w1, w2, w3]
        cases decide (k + 1 + v ≤ 56) with
        | true =>
          have hmx : decide (List.length o + List.length ([k + 1 + v] : List Int) ≤ maxN) = true := decide_eq_true (by unfold maxN; simp; omega)
          rw [condT, hmx, condT]
          obtain ⟨q, c', e, k', hq⟩ := ih m (k + 1 + v) c2 (o ++ [k + 1 + v]) (by omega) (by omega) (by omega) k2 (by simp; omega)
          exact ⟨q, c', e, k', by simp at hq; omega⟩
        | false =>
          rw [condF]
          obtain ⟨q, c', e, k', hq⟩ := ih m (k + 1 + v) c2 o (by omega) (by omega) (by omega) k2 (by omega)
          exact ⟨q, c', e, k', by omega⟩
      · rw [decide_eq_false hk, condF]
        exact ⟨o, c, rfl, h4, by omega⟩

theorem BentD (N : Nat) (hN : 200 < N) (code : List Int) (hm : code.length ≤ maxN) (c : List Int × Int × Int) (hc : okC code c) : ∃ r c', spec_l7Bent.F N c = some (r, c') ∧ okC code c' ∧ r.2.length ≤ 20 := by
  rw [spec_l7Bent.F_eq, spec_l7Report.F_eq]
  obtain ⟨v1, c1, e1, _, k1⟩ := l1PickInt_ok N code c [0, 0, 2, 1, 15] hc hm (by simp)
  obtain ⟨v2, c2, e2, v20, v21, k2⟩ := l1Below_ok N code c1 9 k1 hm (by omega)
  obtain ⟨j, rfl⟩ : ∃ j : Nat, v2 = (j : Int) := ⟨v2.toNat, by omega⟩
  obtain ⟨q, c3, e3, k3, hq⟩ := ReportD_L1 N code hm v1 N j 0 c2 [] (by omega) (by omega) (by omega) k2 (by simp; omega)
  obtain ⟨v4, c4, e4, _, _, k4⟩ := l1Below_ok N code c3 14 k3 hm (by omega)
  simp only [List.length_nil] at hq
  simp only [e1, e2, e3, e4, bindV]
  cases v4 == 0 with
  | true =>
    rw [condT]
    obtain ⟨v5, c5, e5, _, k5⟩ := l1PickInt_ok N code c4 [-1, 16] k4 hm (by simp)
    rw [e5, bindV]
    exact ⟨_, _, rfl, k5, by show q.length ≤ 20; omega⟩
  | false =>
    rw [condF]
    cases v4 == 1 with
    | true =>
      rw [condT]
      obtain ⟨v5, c5, e5, _, k5⟩ := l1PickInt_ok N code c4 [0, 1, 57, -1] k4 hm (by simp)
      have hmx : decide (List.length q + List.length ([v5] : List Int) ≤ maxN) = true := decide_eq_true (by unfold maxN; simp; omega)
      rw [e5, bindV, hmx, condT]
      exact ⟨_, _, rfl, k5, by show (q ++ [v5]).length ≤ 20; simp; omega⟩
    | false =>
      rw [condF]
      exact ⟨_, _, rfl, k4, by show q.length ≤ 20; omega⟩

theorem MayDropD (N : Nat) (hN : 1048576 < N) (code : List Int) (hc : code.length ≤ 1048576) : ∃ a b c : Rpt, spec_DrawMayDrop.F N code = some (a, b, c) ∧ a.2.length ≤ 20 ∧ b.2.length ≤ 20 ∧ c.2.length ≤ 20 := by
  have hm : code.length ≤ maxN := by unfold maxN; omega
  rw [spec_DrawMayDrop.F_eq, spec_l1New.F_eq]
  obtain ⟨h', e0⟩ := l1New_L1 N N 0 (IntKind.wrap .i64 ((10729 : Int) + (List.length code : Int))) code hm (by omega) (by omega)
  rw [show ((0 : Nat) : Int) = 0 from rfl] at e0
  rw [e0, bindV]
  obtain ⟨l, c1, e1, k1, hl, hg⟩ := ReportsD N (by omega) code hm (code, (0, h')) ⟨rfl, by simp, by simp⟩ 6 (by omega)
  obtain ⟨r3, c3, e3, k3, h3⟩ := BentD N (by omega) code hm c1 k1
  obtain ⟨r4, c4, e4, k4, h4⟩ := BentD N (by omega) code hm c3 k3
  obtain ⟨r5, c5, e5, k5, h5⟩ := BentD N (by omega) code hm c4 k4
  have e1' : spec_l13Reports.F N ((code, (0, h')), (6 : Int)) = some (l, c1) := e1
  simp only [e1', e3, e4, e5, bindV]
  have hmx : decide (List.length l + List.length ([r3, r4, r5] : List Rpt) ≤ maxN) = true := decide_eq_true (by unfold maxN; simp; omega)
  have hall : ∀ r ∈ l ++ [r3, r4, r5], r.2.length ≤ 20 := by
    intro r hr
    rcases List.mem_append.1 hr with hr | hr
    · have := sub4_len (hg r hr).2; omega
    · simp only [List.mem_cons, List.not_mem_nil, or_false] at hr
      rcases hr with rfl | rfl | rfl <;> assumption
  have hlen : 3 ≤ (l ++ [r3, r4, r5]).length := by simp
  generalize l ++ [r3, r4, r5] = L at *
  have i0 : inRange 0 L.length = true := by have := inRange_nat 0 L.length; rw [decide_eq_true (by omega)] at this; exact this
  have i1 : inRange 1 L.length = true := by have := inRange_nat 1 L.length; rw [decide_eq_true (by omega)] at this; exact this
  have i2 : inRange 2 L.length = true := by have := inRange_nat 2 L.length; rw [decide_eq_true (by omega)] at this; exact this
  rw [hmx, i0, i1, i2]
  have hget : ∀ i, i < L.length → (L.getD i (0, [])).2.length ≤ 20 := by
    intro i hi
    refine hall _ ?_
    rw [List.getD_eq_getElem?_getD, List.getElem?_eq_getElem hi]; exact List.getElem_mem hi
  exact ⟨_, _, _, rfl, hget 0 (by omega), hget 1 (by omega), hget 2 (by omega)⟩

theorem sameInts_L1 (N : Nat) (a : List Int) (ha : a.length ≤ 1048576) : ∀ (n i : Nat), i ≤ a.length → a.length < n + i → laws_sameInts.L1 N n a a (i : Int) = some true := by
  intro n
  induction n with
  | zero => intro i h1 h2; omega
  | succ n ih =>
    intro i h1 h2
    rw [laws_sameInts.L1_eq]
    by_cases hi : i < a.length
    · have ws : IntKind.wrap .i64 ((i : Int) + 1) = ((i + 1 : Nat) : Int) := wrap_succ (by omega)
      simp only [Int.ofNat_lt, hi, decide_true, condT, inRange_nat, nth_nat, ws, bne_self_eq_false, condF]
      exact ih (i + 1) (by omega) (by omega)
    · simp only [Int.ofNat_lt, hi, decide_false, condF]
theorem sameInts_self (N : Nat) (hN : 1048576 < N) (a : List Int) (ha : a.length ≤ 1048576) : laws_sameInts.F N (a, a) = some true := by
  rw [laws_sameInts.F_eq]
  have : ((a.length : Int) != (a.length : Int)) = false := by simp
  rw [this, condF]
  exact sameInts_L1 N a ha N 0 (by omega) (by omega)

theorem Dropped_F (code : List Int) : laws_FnDropped.F 2000000 code = some true := by
  rw [laws_FnDropped.F_eq, laws_big.F_eq, bindV]
  by_cases hb : (code.length : Int) > 1048576
  · rw [decide_eq_true hb]; rfl
  · rw [decide_eq_false hb, condF]
    obtain ⟨a, b, c, e, ha, hb, hc⟩ := MayDropD 2000000 (by omega) code (by omega)
    have sa : smallR a := by unfold smallR; omega
    have sb : smallR b := by unfold smallR; omega
    have sc : smallR c := by unfold smallR; omega
    obtain ⟨x, x1, x2⟩ := MayDrop_same 2000000 (by omega) a b c sa sb sc
    have x3 := MayDrop_eq 2000000 (by omega) a b c sa sb sc
    rw [e, bindV, x2, bindV]
    cases hx : x with
    | false =>
      rw [x1, bindV, hx]
      rfl
    | true =>
      have hmd : mdB a b c = true := by
        rw [x2, hx] at x3
        exact (Option.some.inj x3).symm
      obtain ⟨n1, n2⟩ := mdB_keys hmd
      have t1 := TypedText_eq 2000000 (by omega) a sa [b, c] 20 (by omega) (by intro r hr; simp only [List.mem_cons, List.not_mem_nil, or_false] at hr; rcases hr with rfl | rfl <;> assumption) (by simp) (by simp)
      have t2 := TypedText_eq 2000000 (by omega) a sa [c] 20 (by omega) (by intro r hr; simp only [List.mem_cons, List.not_mem_nil, or_false] at hr; subst hr; assumption) (by simp) (by simp)
      have ht : typed a [b, c] = typed a [c] := by
        simp only [typed, n1, n2, tx, List.flatMap_nil, List.nil_append]
      rw [ht] at t1
      have k1 := NewKeys_eq 2000000 (by omega) a c sa sc
      have k2 := NewKeys_eq 2000000 (by omega) b c sb sc
      have k3 := NewKeys_eq 2000000 (by omega) a b sa sb
      rw [n1] at k3
      rw [n2] at k1
      have hl := nk_len b c
      have s := sameInts_self 2000000 (by omega) (nk b c) (by omega)
      have hr2 : ((b, c) : Rpt × Rpt) = (a, b, c).2 := rfl
      simp only [notT, condF, t1, t2, k1, k2, k3, s, bindV, beq_self_eq_true, condT]
      rfl
end Go.Kb
