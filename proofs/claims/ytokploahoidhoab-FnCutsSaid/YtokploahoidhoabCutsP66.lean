/- Writing a setting: the operations, cut or whole; the program's and the reference's are the same. -/
import Derived.Test.YtokploahoidhoabCutsP65
import Derived.Test.YtokploahoidhoabCutsP12
namespace Go.Kb
set_option maxRecDepth 100000

theorem wrap_wrap (x y : Int) : IntKind.wrap .i64 (IntKind.wrap .i64 x + y) = IntKind.wrap .i64 (x + y) := by
  rw [IntKind.wrap_i64, IntKind.wrap_i64, IntKind.wrap_i64]; omega

/-- the operations that write a record -/
def recV (page at_ s v r : Int) : List FOp :=
  [(false, page, IntKind.wrap .i64 (1 + IntKind.wrap .i64 (3 * at_)), s), (false, page, IntKind.wrap .i64 (2 + IntKind.wrap .i64 (3 * at_)), v), (false, page, IntKind.wrap .i64 (3 + IntKind.wrap .i64 (3 * at_)), r)]
theorem Record_same (N : Nat) (hN : 1048576 < N) (page at_ s v h : Int) (hh : 1 ≤ h ∧ h ≤ 60000) : ∃ r, spec_CheckOf.F N (s, v, h) = some r ∧ impl_CheckOf.F N (s, v, h) = some r ∧
    spec_l14Record.F N (page, at_, s, v, h) = some (recV page at_ s v r) ∧ impl_recordOps.F N (page, at_, s, v, h) = some (recV page at_ s v r) := by
  obtain ⟨r, e1, e2, _⟩ := CheckOf_val N s v h hh
  refine ⟨r, e1, e2, ?_, ?_⟩
  · rw [spec_l14Record.F_eq, e1, bindV]; rfl
  · rw [impl_recordOps.F_eq, e2, bindV]
    have w0 : IntKind.wrap .i64 (IntKind.wrap .i64 (1 + IntKind.wrap .i64 (3 * at_)) + 0) = IntKind.wrap .i64 (1 + IntKind.wrap .i64 (3 * at_)) := by rw [wrap_wrap]; congr 1; omega
    have w1 : IntKind.wrap .i64 (IntKind.wrap .i64 (1 + IntKind.wrap .i64 (3 * at_)) + 1) = IntKind.wrap .i64 (2 + IntKind.wrap .i64 (3 * at_)) := by rw [wrap_wrap]; congr 1; omega
    have w2 : IntKind.wrap .i64 (IntKind.wrap .i64 (1 + IntKind.wrap .i64 (3 * at_)) + 2) = IntKind.wrap .i64 (3 + IntKind.wrap .i64 (3 * at_)) := by rw [wrap_wrap]; congr 1; omega
    have s0 : IntKind.wrap .i64 (0 + 1) = 1 := by rw [wrap64 (by omega) (by omega)]; rfl
    have s1 : IntKind.wrap .i64 (1 + 1) = 2 := by rw [wrap64 (by omega) (by omega)]; rfl
    have s2 : IntKind.wrap .i64 (2 + 1) = 3 := by rw [wrap64 (by omega) (by omega)]; rfl
    obtain ⟨n, rfl⟩ : ∃ n, N = n + 1 + 1 + 1 + 1 := ⟨N - 4, by omega⟩
    have l3 : (([s, v, r] : List Int).length : Int) = 3 := rfl
    have g0 : ∀ x : FOp, decide (List.length ([] : List FOp) + List.length [x] ≤ maxN) = true := fun x => rfl
    have r0 : inRange 0 ([s, v, r] : List Int).length = true := rfl
    have r1 : inRange 1 ([s, v, r] : List Int).length = true := rfl
    have r2 : inRange 2 ([s, v, r] : List Int).length = true := rfl
    rw [l3, impl_recordOps.L1_eq, decide_eq_true (show (0 : Int) < 3 by omega), condT, r0, condT, g0, condT, s0, w0,
      impl_recordOps.L1_eq, decide_eq_true (show (1 : Int) < 3 by omega), condT, r1, condT, decide_eq_true (show List.length _ + List.length _ ≤ maxN by unfold maxN; simp), condT, s1, w1,
      impl_recordOps.L1_eq, decide_eq_true (show (2 : Int) < 3 by omega), condT, r2, condT, decide_eq_true (show List.length _ + List.length _ ≤ maxN by unfold maxN; simp), condT, s2, w2,
      impl_recordOps.L1_eq, decide_eq_false (show ¬ (3 : Int) < 3 by omega), condF]
    rfl

theorem recV_len (page at_ s v r : Int) : (recV page at_ s v r).length = 3 := rfl

theorem Ops_L1 (N : Nat) (hN : 1048576 < N) (f : Fl) (hf : smallF f) (s v p h : Int) (hh : 1 ≤ h ∧ h ≤ 59999) : ∀ (n k : Nat) (at_ : Int) (o : List FOp), k ≤ 4 → 4 < n + k → o.length ≤ 3 * k + 1 →
    ∃ l, spec_SettingOps.L1 N n s v p h at_ (k : Int) f.1 f.2 o = some (l, true) ∧ impl_SettingOps.L1 N n s v h (IntKind.wrap .i64 (1 - p)) at_ (k : Int) f.1 f.2 o = some (l, true) ∧ l.length ≤ 14 := by
  intro n
  induction n with
  | zero => intro k at_ o h1 h2; omega
  | succ n ih =>
    intro k at_ o h1 h2 h3
    rw [spec_SettingOps.L1_eq, impl_SettingOps.L1_eq]
    have wh : IntKind.wrap .i64 (h + 1) = h + 1 := wrap64 (by omega) (by omega)
    by_cases hk : k < 4
    · obtain ⟨rd, q1, q2⟩ := Read_same N hN f (k : Int) hf
      have hk' : (k : Int) < 4 := by omega
      have ws : IntKind.wrap .i64 ((k : Int) + 1) = ((k + 1 : Nat) : Int) := wrap_succ (by omega)
      have cap : ∀ (p a s v r : Int), decide (o.length + (recV p a s v r).length ≤ maxN) = true := fun p a s v r => decide_eq_true (by rw [recV_len]; unfold maxN; omega)
      have lapp : ∀ (p a s v r : Int), (o ++ recV p a s v r).length ≤ 3 * (k + 1) + 1 := fun p a s v r => by rw [List.length_append, recV_len]; omega
      rw [decide_eq_true hk', condT, condT, show (f.1, f.2) = f from rfl, q1, q2, bindV, bindV, ws, wh, beqI]
      by_cases hs : (k : Int) = s
      · rw [decide_eq_true hs, condT, condT, condT]
        obtain ⟨r, _, _, g1, g2⟩ := Record_same N hN (IntKind.wrap .i64 (1 - p)) at_ (k : Int) v (h + 1) (by omega)
        rw [g1, g2, bindV, bindV, cap, condT, condT]
        cases rd.2
        · rw [condF]; exact ih (k + 1) _ _ (by omega) (by omega) (lapp _ _ _ _ _)
        · rw [condT]; exact ih (k + 1) _ _ (by omega) (by omega) (lapp _ _ _ _ _)
      · rw [decide_eq_false hs, condF, condF, condF]
        obtain ⟨r, _, _, g1, g2⟩ := Record_same N hN (IntKind.wrap .i64 (1 - p)) at_ (k : Int) rd.1 (h + 1) (by omega)
        cases rd.2
        · rw [condF, condF]; exact ih (k + 1) _ _ (by omega) (by omega) (by omega)
        · rw [condT, condT, g1, g2, bindV, bindV, cap, condT, condT]
          exact ih (k + 1) _ _ (by omega) (by omega) (lapp _ _ _ _ _)
    · have c1 : ∀ x : FOp, decide (o.length + List.length [x] ≤ maxN) = true := fun x => decide_eq_true (by unfold maxN; show o.length + 1 ≤ _; omega)
      rw [decide_eq_false (by omega), condF, condF, wh, c1, condT]
      exact ⟨_, rfl, rfl, by rw [List.length_append]; show o.length + 1 ≤ 14; omega⟩

theorem Ops_same (N : Nat) (hN : 1048576 < N) (f : Fl) (hf : smallF f) (s v : Int) : ∃ l b, spec_SettingOps.F N (f, s, v) = some (l, b) ∧ impl_SettingOps.F N (f, s, v) = some (l, b) ∧ l.length ≤ 14 := by
  rw [spec_SettingOps.F_eq, impl_SettingOps.F_eq]
  obtain ⟨p, e1, e2, hp⟩ := Active_same N hN f hf
  rw [e1, e2, bindV, bindV]
  by_cases h0 : p < 0
  · rw [decide_eq_true h0, condT, condT]; exact ⟨_, _, rfl, rfl, by decide⟩
  obtain ⟨sh, h2, h3, h4⟩ := hp (by omega)
  obtain ⟨q1, q2, q3⟩ := pageAt sh (j := p) (by omega) h2
  have hok : okF f = true := by
    have := okF_impl N hN f hf
    rw [impl_ActivePage.F_eq, this, bindV] at e2
    cases hk : okF f
    · rw [hk, notF, condT] at e2; injection e2 with e2; omega
    · rfl
  obtain ⟨fa, fb, fc, fd⟩ := okF_facts hok
  have q4 : inRange 0 (nth [] f.1 p).length = true := inRange_of (by omega) (by rw [q2]; omega)
  rw [decide_eq_false h0, condF, condF, l1In_eq, bindV, isSetting_eq, bindV]
  unfold okS
  by_cases a1 : 0 ≤ s ∧ s ≤ 3
  rotate_left
  · rw [decide_eq_false a1, notF, condT, Bool.false_and, notF, condT]; exact ⟨_, _, rfl, rfl, by decide⟩
  rw [decide_eq_true a1, notT, condF, l1In_eq, bindV, Bool.true_and]
  by_cases a2 : 0 ≤ v ∧ v ≤ 9999
  rotate_left
  · rw [decide_eq_false a2, notF, condT, condT]; exact ⟨_, _, rfl, rfl, by decide⟩
  obtain ⟨r, f1, f2⟩ := Free_same N hN f p hf
  rw [decide_eq_true a2, notT, condF, condF, f1, f2, bindV, q1, condT, condT, q4, condT, condT, bindV]
  by_cases a3 : r < 6
  · obtain ⟨c, _, _, g1, g2⟩ := Record_same N hN p r s v (nth 0 (nth [] f.1 p) 0) ⟨h3, h4⟩
    rw [decide_eq_true a3, condT, condT, g1, g2, bindV]
    exact ⟨_, _, rfl, rfl, by rw [recV_len]; decide⟩
  rw [decide_eq_false a3, condF, condF, beqI]
  by_cases a4 : nth 0 (nth [] f.1 p) 0 = 60000
  · rw [decide_eq_true a4, condT, decide_eq_true (show nth 0 (nth [] f.1 p) 0 ≥ 60000 by omega), condT]; exact ⟨_, _, rfl, rfl, by decide⟩
  obtain ⟨j, rfl⟩ := Int.eq_ofNat_of_zero_le (show 0 ≤ p by omega)
  have w1 : IntKind.wrap .i64 (1 - (j : Int)) = ((1 - j : Nat) : Int) := by rw [wrap64 (by omega) (by omega)]; omega
  have q5 : inRange (IntKind.wrap .i64 (1 - (j : Int))) f.2.length = true := by rw [w1, inRange_nat]; exact decide_eq_true (by omega)
  have q6 := getD_cOk hok (p := 1 - j) (by omega)
  rw [decide_eq_false a4, condF, decide_eq_false (show ¬ nth 0 (nth [] f.1 (j : Int)) 0 ≥ 60000 by omega), condF, q5, condT, condT, beqI]
  have q7 : nth 0 f.2 (IntKind.wrap .i64 (1 - (j : Int))) = f.2.getD (1 - j) 0 := by rw [w1, nth_nat]
  rw [q7]
  by_cases a5 : f.2.getD (1 - j) 0 = 1000
  · rw [decide_eq_true a5, condT, decide_eq_true (show f.2.getD (1 - j) 0 ≥ 1000 by omega), condT]; exact ⟨_, _, rfl, rfl, by decide⟩
  rw [decide_eq_false a5, condF, decide_eq_false (show ¬ f.2.getD (1 - j) 0 ≥ 1000 by omega), condF]
  obtain ⟨l, g1, g2, g3⟩ := Ops_L1 N hN f hf s v (j : Int) (nth 0 (nth [] f.1 (j : Int)) 0) (by omega) N 0 0 [(true, IntKind.wrap .i64 (1 - (j : Int)), 0, 0)] (by omega) (by omega) (by show 1 ≤ _; omega)
  rw [show ((0 : Nat) : Int) = 0 from rfl] at g1 g2
  exact ⟨l, true, g1, g2, g3⟩

/-! ### doing the operations -/
/-- operations done one after the other; none where one fails -/
def runV : Fl → List FOp → Fl × Bool
  | f, [] => (f, true)
  | f, o :: l => bif (doV f o).2 then runV (doV f o).1 l else noF
theorem runV_cons (f : Fl) (o : FOp) (l : List FOp) : runV f (o :: l) = bif (doV f o).2 then runV (doV f o).1 l else noF := rfl
theorem RunI (N : Nat) (hN : 1048576 < N) (ops : List FOp) (hl : ops.length ≤ 14) : ∀ (n i : Nat) (f : Fl) (hs : List Hnd) (D0 D : List HRow) (lo : Nat), smallF f → i ≤ ops.length → ops.length < n + i → D0 <+: D → D0.length ≤ lo → lo ≤ D.length →
    Own (u := .int .i64) 2 D lo D.length hs f.1 → FlOutB (impl_doOps.L1 N n ops (ops.length : Int) (i : Int) hs f.2 D) D0 (runV f (ops.drop i)) := by
  intro n
  induction n with
  | zero => intro i f hs D0 D lo h0 h1 h2; omega
  | succ n ih =>
    intro i f hs D0 D lo h0 h1 h2 hp hlo hlD ow
    rw [impl_doOps.L1_eq]
    by_cases hi : i < ops.length
    · rw [decide_eq_true (Int.ofNat_lt.mpr hi), condT, inRange_nat, decide_eq_true hi, condT, ow.unok, condT, ow.un2, nth_nat, wrap_succ (by omega), drop_cons (false, 0, 0, 0) ops i hi, runV_cons]
      obtain ⟨h, E, e, pre, o2⟩ := (DoI N hN f h0 (ops.getD i (false, 0, 0, 0)) (hhide D)).call
      have e' : impl_DoFlash.H N ((f.1, f.2), (ops.getD i (false, 0, 0, 0)).1, (ops.getD i (false, 0, 0, 0)).2.1, (ops.getD i (false, 0, 0, 0)).2.2) (hhide D) = _ := e
      rw [e', bindV]
      dsimp only
      generalize hmerge D E = M at *
      cases hb : (doV f (ops.getD i (false, 0, 0, 0))).2
      · rw [notF, condT, condF]
        exact FlOutB.no (hp.trans pre)
      · rw [notT, condF, condT]
        exact ih (i + 1) (doV f (ops.getD i (false, 0, 0, 0))).1 h D0 M D.length (doV_small _ _) (by omega) (by omega) (hp.trans pre) (hp.length_le) pre.length_le o2
    · rw [decide_eq_false (by omega), condF, List.drop_of_length_le (by omega)]
      exact ⟨hs, D, rfl, hp, ow.mono hlo (Nat.le_refl _)⟩
theorem doOps_eq (N : Nat) (hN : 1048576 < N) (f : Fl) (hf : smallF f) (ops : List FOp) (hl : ops.length ≤ 14) (D : List HRow) : FlOutB (impl_doOps.H N (f, ops) D) D (runV f ops) := by
  rw [impl_doOps.H_eq]
  obtain ⟨hs, E, e, pre, ow⟩ := (copyI_eq N hN f hf (hhide D)).call
  rw [e, bindV]
  dsimp only
  generalize hmerge D E = M at *
  exact RunI N hN ops hl N 0 f hs D M D.length hf (by omega) (by omega) pre (Nat.le_refl _) pre.length_le ow

theorem RunS (N : Nat) (hN : 1048576 < N) (ops : List FOp) (hl : ops.length ≤ 14) (m : Nat) (hm : m ≤ ops.length) : ∀ (n i : Nat) (f : Fl) (hs : List Hnd) (D0 D : List HRow) (lo : Nat), smallF f → i ≤ m → m < n + i → D0 <+: D → D0.length ≤ lo → lo ≤ D.length →
    Own (u := .int .i64) 2 D lo D.length hs f.1 → FlOutB (spec_CutSetting.L1 N n (m : Int) ops (i : Int) hs f.2 D) D0 (runV f ((ops.take m).drop i)) := by
  intro n
  induction n with
  | zero => intro i f hs D0 D lo h0 h1 h2; omega
  | succ n ih =>
    intro i f hs D0 D lo h0 h1 h2 hp hlo hlD ow
    have htl : (ops.take m).length = m := by rw [List.length_take]; omega
    rw [spec_CutSetting.L1_eq]
    by_cases hi : i < m
    · have hg : (ops.take m).getD i (false, 0, 0, 0) = ops.getD i (false, 0, 0, 0) := by
        simp only [List.getD_eq_getElem?_getD, List.getElem?_take, hi, if_true]
      rw [decide_eq_true (Int.ofNat_lt.mpr hi), condT, inRange_nat, decide_eq_true (show i < ops.length by omega), condT, ow.unok, condT, ow.un2, nth_nat, wrap_succ (by omega), drop_cons (false, 0, 0, 0) _ i (by omega), runV_cons, hg]
      obtain ⟨h, E, e, pre, o2⟩ := (DoS N hN f h0 (ops.getD i (false, 0, 0, 0)) (hhide D)).call
      have e' : spec_DoFlash.H N ((f.1, f.2), (ops.getD i (false, 0, 0, 0)).1, (ops.getD i (false, 0, 0, 0)).2.1, (ops.getD i (false, 0, 0, 0)).2.2) (hhide D) = _ := e
      rw [e', bindV]
      dsimp only
      generalize hmerge D E = M at *
      cases hb : (doV f (ops.getD i (false, 0, 0, 0))).2
      · rw [notF, condT, condF]
        exact FlOutB.no (hp.trans pre)
      · rw [notT, condF, condT]
        exact ih (i + 1) (doV f (ops.getD i (false, 0, 0, 0))).1 h D0 M D.length (doV_small _ _) (by omega) (by omega) (hp.trans pre) (hp.length_le) pre.length_le o2
    · rw [decide_eq_false (by omega), condF, List.drop_of_length_le (by omega)]
      exact ⟨hs, D, rfl, hp, ow.mono hlo (Nat.le_refl _)⟩

/-- a setting written, cut after m operations -/
def cutV (f : Fl) (l : List FOp) (b : Bool) (m : Int) : Fl × Bool := bif b && inB 0 m (l.length : Int) then runV f (l.take m.toNat) else noF
theorem CutS (N : Nat) (hN : 1048576 < N) (f : Fl) (hf : smallF f) (s v m : Int) {l : List FOp} {b : Bool} (e : spec_SettingOps.F N (f, s, v) = some (l, b)) (hl : l.length ≤ 14) (D : List HRow) : FlOutB (spec_CutSetting.H N (f, s, v, m) D) D (cutV f l b m) := by
  rw [spec_CutSetting.H_eq, e, bindV]
  unfold cutV
  cases b
  · rw [Bool.false_and, condF, notF, condT]; exact FlOutB.no (List.prefix_refl _)
  rw [notT, condF, Bool.true_and, l1In_eq, bindV]
  unfold inB
  by_cases h : 0 ≤ m ∧ m ≤ (l.length : Int)
  rotate_left
  · rw [decide_eq_false h, notF, condT, condF]; exact FlOutB.no (List.prefix_refl _)
  rw [decide_eq_true h, notT, condF, condT]
  obtain ⟨k, rfl⟩ := Int.eq_ofNat_of_zero_le h.1
  obtain ⟨hs, E, e, pre, ow⟩ := (copyS_eq N hN f hf (hhide D)).call
  rw [e, bindV, Int.toNat_natCast]
  dsimp only
  generalize hmerge D E = M at *
  exact RunS N hN l hl k (by omega) N 0 f hs D M D.length hf (by omega) (by omega) pre (Nat.le_refl _) pre.length_le ow
theorem FlOutB.up {r : Option ((((List Hnd) × List Int) × Bool) × List HRow)} {D : List HRow} {v : Fl × Bool} (h : FlOutB r (hhide D) v) : FlOutB (bindO r fun r2 => some (r2.1, hmerge D r2.2)) D v := by
  obtain ⟨hs, E, e, pre, ow⟩ := h.call
  rw [e, bindV]
  exact ⟨hs, _, rfl, pre, ow⟩
theorem CutI (N : Nat) (hN : 1048576 < N) (f : Fl) (hf : smallF f) (s v m : Int) {l : List FOp} {b : Bool} (e : impl_SettingOps.F N (f, s, v) = some (l, b)) (hl : l.length ≤ 14) (D : List HRow) : FlOutB (impl_CutSetting.H N (f, s, v, m) D) D (cutV f l b m) := by
  rw [impl_CutSetting.H_eq, e, bindV]
  unfold cutV
  cases b
  · rw [Bool.false_and, condF, notF, condT]; exact FlOutB.no (List.prefix_refl _)
  rw [notT, condF, Bool.true_and]
  unfold inB
  by_cases h0 : m < 0
  · rw [decide_eq_true h0, condT, decide_eq_false (by omega), condF]; exact FlOutB.no (List.prefix_refl _)
  rw [decide_eq_false h0, condF]
  by_cases h1 : m > (l.length : Int)
  · rw [decide_eq_true h1, condT, decide_eq_false (by omega), condF]; exact FlOutB.no (List.prefix_refl _)
  rw [decide_eq_false h1, condF, decide_eq_true (show 0 ≤ m by omega), decide_eq_true (show m ≤ (l.length : Int) by omega), Bool.and_self, condT, decide_eq_true (by omega), condT]
  exact (doOps_eq N hN f hf (l.take m.toNat) (by rw [List.length_take]; omega) (hhide D)).up
def writeV (f : Fl) (l : List FOp) (b : Bool) : Fl × Bool := bif b then runV f l else noF
theorem cutV_all (f : Fl) (l : List FOp) (b : Bool) : cutV f l b (l.length : Int) = writeV f l b := by
  unfold cutV writeV inB
  rw [decide_eq_true (by omega), Bool.and_true, Int.toNat_natCast, List.take_length]
theorem WriteI (N : Nat) (hN : 1048576 < N) (f : Fl) (hf : smallF f) (s v : Int) {l : List FOp} {b : Bool} (e : impl_SettingOps.F N (f, s, v) = some (l, b)) (hl : l.length ≤ 14) (D : List HRow) : FlOutB (impl_WriteSetting.H N (f, s, v) D) D (writeV f l b) := by
  rw [impl_WriteSetting.H_eq, e, bindV]
  unfold writeV
  cases b
  · rw [condF, notF, condT]; exact FlOutB.no (List.prefix_refl _)
  rw [notT, condF, condT]
  exact (doOps_eq N hN f hf l hl (hhide D)).up

end Go.Kb
