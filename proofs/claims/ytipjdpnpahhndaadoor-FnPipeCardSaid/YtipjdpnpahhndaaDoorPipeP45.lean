/- Drawn reports; a report that may be dropped hides nothing that is typed. -/
import Derived.Test.YtipjdpnpahhndaaDoorPipeP44
import Derived.Test.YtipjdpnpahhndaaDoorPipeP4
namespace Go.Kb
set_option maxRecDepth 100000

def sub4 (q : List Int) : Prop := ∃ b0 b1 b2 b3 : Bool, q = ((((if b0 then [1] else []) ++ (if b1 then [2] else [])) ++ (if b2 then [3] else [])) ++ (if b3 then [4] else []) : List Int)
theorem sub4_len {q : List Int} (h : sub4 q) : q.length ≤ 4 := by
  obtain ⟨b0, b1, b2, b3, rfl⟩ := h
  cases b0 <;> cases b1 <;> cases b2 <;> cases b3 <;> decide
def goodR (r : Rpt) : Prop := (∃ m : Nat, m < 4 ∧ r.1 = (m : Int)) ∧ sub4 r.2

theorem l1Once_ok (N : Nat) (code : List Int) (c : List Int × Int × Int) (n : Int) (h : okC code c) (hm : code.length ≤ maxN) (hn : 0 < n) : ∃ b c', spec_l1Once.F N (c, n) = some (b, c') ∧ okC code c' := by
  rw [spec_l1Once.F_eq]
  obtain ⟨v, c', e, _, _, k⟩ := l1Below_ok N code c n h hm hn
  rw [e, bindV]
  exact ⟨_, _, rfl, k⟩

theorem Keys_step (N n1 n : Nat) (on mods n_ : Int) (k : Nat) (hk : k < 4) (c0 : List Int) (c1 c2 : Int) (o1 : List Rpt) (o3 : List Int) (ho : o3.length ≤ 4) (o40 : Int) :
    ∃ b : Bool, spec_l13Reports.L2 N n1 (n + 1) on mods n_ (k : Int) c0 c1 c2 o1 o3 o40 = spec_l13Reports.L2 N n1 n on mods n_ ((k + 1 : Nat) : Int) c0 c1 c2 o1 (o3 ++ (if b then [((k + 1 : Nat) : Int)] else [])) o40 := by
  rw [spec_l13Reports.L2_eq, decide_eq_true (by omega : (k : Int) < 4), decide_eq_true (by omega : (0 : Int) ≤ (k : Int)), condT, condT, wrap_succ (by omega)]
  cases (bitAnd .i64 (shiftR .i64 on (k : Int)) 1) == 1 with
  | true =>
    refine ⟨true, ?_⟩
    have hm : decide (List.length o3 + List.length ([((k + 1 : Nat) : Int)] : List Int) ≤ maxN) = true := decide_eq_true (by unfold maxN; simp; omega)
    rw [condT, hm, condT]; rfl
  | false =>
    refine ⟨false, ?_⟩
    rw [condF]; simp

theorem Keys_all (N n1 n : Nat) (on mods n_ : Int) (c0 : List Int) (c1 c2 : Int) (o1 : List Rpt) (ho1 : o1.length ≤ 1000) (o40 : Int) :
    ∃ q, sub4 q ∧ spec_l13Reports.L2 N n1 (n + 1 + 1 + 1 + 1 + 1) on mods n_ 0 c0 c1 c2 o1 [] o40 = spec_l13Reports.L1 N n1 on mods (IntKind.wrap .i64 (n_ - 1)) c0 c1 c2 (o1 ++ [(o40, q)]) := by
  obtain ⟨b0, e0⟩ := Keys_step N n1 (n + 1 + 1 + 1 + 1) on mods n_ 0 (by omega) c0 c1 c2 o1 [] (by simp) o40
  obtain ⟨b1, e1⟩ := Keys_step N n1 (n + 1 + 1 + 1) on mods n_ 1 (by omega) c0 c1 c2 o1 ([] ++ (if b0 then [((0 + 1 : Nat) : Int)] else [])) (by cases b0 <;> simp) o40
  obtain ⟨b2, e2⟩ := Keys_step N n1 (n + 1 + 1) on mods n_ 2 (by omega) c0 c1 c2 o1 (([] ++ (if b0 then [((0 + 1 : Nat) : Int)] else [])) ++ (if b1 then [((1 + 1 : Nat) : Int)] else [])) (by cases b0 <;> cases b1 <;> simp) o40
  obtain ⟨b3, e3⟩ := Keys_step N n1 (n + 1) on mods n_ 3 (by omega) c0 c1 c2 o1 ((([] ++ (if b0 then [((0 + 1 : Nat) : Int)] else [])) ++ (if b1 then [((1 + 1 : Nat) : Int)] else [])) ++ (if b2 then [((2 + 1 : Nat) : Int)] else [])) (by cases b0 <;> cases b1 <;> cases b2 <;> simp) o40
  refine ⟨(((if b0 then [1] else []) ++ (if b1 then [2] else [])) ++ (if b2 then [3] else [])) ++ (if b3 then [4] else []), ⟨b0, b1, b2, b3, rfl⟩, ?_⟩
  refine (e0.trans (e1.trans (e2.trans (e3.trans ?_))))
  rw [spec_l13Reports.L2_eq, decide_eq_false (by omega), condF]
  have hm : ∀ q : List Int, decide (List.length o1 + List.length ([(o40, q)] : List Rpt) ≤ maxN) = true := fun q => decide_eq_true (by unfold maxN; simp; omega)
  rw [hm, condT]
  rfl

theorem mods_tbl : ((List.range 4).all fun m => (List.range 4).all fun v => decide (0 ≤ bitXor .i64 (m : Int) (v : Int)) && decide (bitXor .i64 (m : Int) (v : Int) < 4)) = true := by kernel_rfl
theorem mods_ok {m v : Int} (h0 : 0 ≤ m ∧ m < 4) (h1 : 0 ≤ v ∧ v < 4) : 0 ≤ bitXor .i64 m v ∧ bitXor .i64 m v < 4 := by
  obtain ⟨k, rfl⟩ : ∃ k : Nat, m = (k : Int) := ⟨m.toNat, by omega⟩
  obtain ⟨j, rfl⟩ : ∃ j : Nat, v = (j : Int) := ⟨v.toNat, by omega⟩
  have h := List.all_eq_true.1 mods_tbl k (List.mem_range.2 (by omega))
  have h := List.all_eq_true.1 h j (List.mem_range.2 (by omega))
  simpa using h

theorem ReportsD_L1 (N : Nat) (hN : 10 < N) (code : List Int) (hm : code.length ≤ maxN) : ∀ (n m : Nat) (on mods : Int) (c : List Int × Int × Int) (o : List Rpt), m ≤ 100 → m < n → 0 ≤ mods ∧ mods < 4 → okC code c → o.length + m ≤ 1000 →
    ∃ l c', spec_l13Reports.L1 N n on mods (m : Int) c.1 c.2.1 c.2.2 o = some (o ++ l, c') ∧ okC code c' ∧ l.length = m ∧ ∀ r ∈ l, goodR r := by
  intro n
  induction n with
  | zero => intro m on mods c o h1 h2; omega
  | succ n ih =>
    intro m on mods c o h1 h2 h3 h4 h5
    rw [spec_l13Reports.L1_eq]
    cases m with
    | zero =>
      rw [decide_eq_false (by omega), condF]
      exact ⟨[], c, by simp, h4, rfl, by intro r hr; cases hr⟩
    | succ m =>
      rw [decide_eq_true (by omega), condT]
      obtain ⟨v, c2, e2, v0, v1, k2⟩ := l1Below_ok N code (c.1, (c.2.1, c.2.2)) 4 h4 hm (by omega)
      rw [e2, bindV, decide_eq_true v0, condT]
      obtain ⟨b, c3, e3, k3⟩ := l1Once_ok N code c2 4 k2 hm (by omega)
      simp only [e3, bindV]
      have hw : IntKind.wrap .i64 (((m + 1 : Nat) : Int) - 1) = (m : Int) := by rw [wrap64 (by omega) (by omega)]; omega
      obtain ⟨M, rfl⟩ : ∃ M, N = M + 1 + 1 + 1 + 1 + 1 := ⟨N - 5, by omega⟩
      have fin : ∀ (on' mods' : Int) (c' : List Int × Int × Int), 0 ≤ mods' ∧ mods' < 4 → okC code c' → ∃ l c'', spec_l13Reports.L2 (M + 1 + 1 + 1 + 1 + 1) n (M + 1 + 1 + 1 + 1 + 1) on' mods' ((m + 1 : Nat) : Int) 0 c'.1 c'.2.1 c'.2.2 o [] mods' = some (o ++ l, c'') ∧ okC code c'' ∧ l.length = m + 1 ∧ ∀ r ∈ l, goodR r := by
        intro on' mods' c' hm' hc'
        obtain ⟨q, hq, e⟩ := Keys_all (M + 1 + 1 + 1 + 1 + 1) n M on' mods' ((m + 1 : Nat) : Int) c'.1 c'.2.1 c'.2.2 o (by omega) mods'
        rw [e, hw]
        obtain ⟨l, c'', e', k', hl, hg⟩ := ih m on' mods' c' (o ++ [(mods', q)]) (by omega) (by omega) hm' hc' (by simp; omega)
        refine ⟨(mods', q) :: l, c'', by rw [e']; simp, k', by simp [hl], ?_⟩
        intro r hr
        rcases List.mem_cons.1 hr with rfl | hr
        · exact ⟨⟨mods'.toNat, by omega, by show mods' = _; omega⟩, hq⟩
        · exact hg r hr
      cases b with
      | true =>
        rw [condT]
        obtain ⟨v4, c4, e4, hv4, k4⟩ := l1PickInt_ok (M + 1 + 1 + 1 + 1 + 1) code c3 [1, 2, 3] k3 hm (by simp)
        rw [e4, bindV]
        have hv : 0 ≤ v4 ∧ v4 < 4 := by
          simp only [List.mem_cons, List.not_mem_nil, or_false] at hv4; omega
        exact fin _ _ c4 (mods_ok h3 hv) k4
      | false =>
        rw [condF]
        exact fin _ _ c3 h3 k3

theorem ReportsD (N : Nat) (hN : 200 < N) (code : List Int) (hm : code.length ≤ maxN) (c : List Int × Int × Int) (hc : okC code c) (most : Nat) (hmost : most ≤ 50) :
    ∃ l c', spec_l13Reports.F N (c, (most : Int)) = some (l, c') ∧ okC code c' ∧ l.length ≤ most ∧ ∀ r ∈ l, goodR r := by
  rw [spec_l13Reports.F_eq, wrap_succ (by omega)]
  obtain ⟨v, c2, e2, v0, v1, k2⟩ := l1Below_ok N code c ((most + 1 : Nat) : Int) hc hm (by omega)
  rw [e2, bindV]
  obtain ⟨k, rfl⟩ : ∃ k : Nat, v = (k : Int) := ⟨v.toNat, by omega⟩
  obtain ⟨l, c', e, k', hl, hg⟩ := ReportsD_L1 N (by omega) code hm N k 0 0 c2 [] (by omega) (by omega) (by omega) k2 (by simp; omega)
  exact ⟨l, c', by simpa using e, k', by omega, hg⟩

end Go.Kb
