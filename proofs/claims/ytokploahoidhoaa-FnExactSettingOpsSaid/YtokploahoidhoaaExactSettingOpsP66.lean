/- Writing a setting: the operations, cut or whole; the program's and the reference's are the same. -/
import Derived.Test.YtokploahoidhoaaExactSettingOpsP65
import Derived.Test.YtokploahoidhoaaExactSettingOpsP12
namespace Go.Kb
set_option maxRecDepth 100000

theorem wrap_wrap (x y : Int) : IntKind.wrap .i64 (IntKind.wrap .i64 x + y) = IntKind.wrap .i64 (x + y) := by
  rw [IntKind.wrap_i64, IntKind.wrap_i64, IntKind.wrap_i64]; omega

/-- the operations that write a record -/
def recV (page at_ s v r : Int) : List FOp :=
  [(false, page, IntKind.wrap .i64 (1 + IntKind.wrap .i64 (3 * at_)), s), (false, page, IntKind.wrap .i64 (2 + IntKind.wrap .i64 (3 * at_)), v), (false, page, IntKind.wrap .i64 (3 + IntKind.wrap .i64 (3 * at_)), r)]
theorem Record_same (N : Nat) (hN : 1048576 < N) (page at_ s v h : Int) (hh : 1 ≤ h ∧ h ≤ 60000) : ∃ r, spec_CheckOf.F N (s, v, h) = some r ∧ impl_CheckOf.F N (s, v, h) = some r ∧
    spec_l14Record.F N (page, at_, s, v, h) = some (recV page at_ s v r) ∧ impl_recordOps.F N (page, at_, s, v, h) = some (recV page at_ s v r) := by
  obtain ⟨r, e1, e2, _⟩ := CheckOf_val N s v h hh
  refine ⟨r, e1, e2, ?_, ?_⟩
  · rw [spec_l14Record.F_eq, e1, bindV]; rfl
  · rw [impl_recordOps.F_eq, e2, bindV]
    have w0 : IntKind.wrap .i64 (IntKind.wrap .i64 (1 + IntKind.wrap .i64 (3 * at_)) + 0) = IntKind.wrap .i64 (1 + IntKind.wrap .i64 (3 * at_)) := by rw [wrap_wrap]; congr 1; omega
    have w1 : IntKind.wrap .i64 (IntKind.wrap .i64 (1 + IntKind.wrap .i64 (3 * at_)) + 1) = IntKind.wrap .i64 (2 + IntKind.wrap .i64 (3 * at_)) := by rw [wrap_wrap]; congr 1; omega
    have w2 : IntKind.wrap .i64 (IntKind.wrap .i64 (1 + IntKind.wrap .i64 (3 * at_)) + 2) = IntKind.wrap .i64 (3 + IntKind.wrap .i64 (3 * at_)) := by rw [wrap_wrap]; congr 1; omega
    have s0 : IntKind.wrap .i64 (0 + 1) = 1 := by rw [wrap64 (by omega) (by omega)]; rfl
    have s1 : IntKind.wrap .i64 (1 + 1) = 2 := by rw [wrap64 (by omega) (by omega)]; rfl
    have s2 : IntKind.wrap .i64 (2 + 1) = 3 := by rw [wrap64 (by omega) (by omega)]; rfl
    obtain ⟨n, rfl⟩ : ∃ n, N = n + 1 + 1 + 1 + 1 := ⟨N - 4, by omega⟩
    have l3 : (([s, v, r] : List Int).length : Int) = 3 := rfl
    have g0 : ∀ x : FOp, decide (List.length ([] : List FOp) + List.length [x] ≤ maxN) = true := fun x => rfl
    have r0 : inRange 0 ([s, v, r] : List Int).length = true := rfl
    have r1 : inRange 1 ([s, v, r] : List Int).length = true := rfl
    have r2 : inRange 2 ([s, v, r] : List Int).length = true := rfl
    rw [l3, impl_recordOps.L1_eq, decide_eq_true (show (0 : Int) < 3 by omega), condT, r0, condT, g0, condT, s0, w0,
      impl_recordOps.L1_eq, decide_eq_true (show (1 : Int) < 3 by omega), condT, r1, condT, decide_eq_true (show List.length _ + List.length _ ≤ maxN by unfold maxN; simp), condT, s1, w1,
      impl_recordOps.L1_eq, decide_eq_true (show (2 : Int) < 3 by omega), condT, r2, condT, decide_eq_true (show List.length _ + List.length _ ≤ maxN by unfold maxN; simp), condT, s2, w2,
      impl_recordOps.L1_eq, decide_eq_false (show ¬ (3 : Int) < 3 by omega), condF]
    rfl

theorem recV_len (page at_ s v r : Int) : (recV page at_ s v r).length = 3 := rfl

theorem Ops_L1 (N : Nat) (hN : 1048576 < N) (f : Fl) (hf : smallF f) (s v p h : Int) (hh : 1 ≤ h ∧ h ≤ 59999) : ∀ (n k : Nat) (at_ : Int) (o : List FOp), k ≤ 4 → 4 < n + k → o.length ≤ 3 * k + 1 →
    ∃ l, spec_SettingOps.L1 N n s v p h at_ (k : Int) f.1 f.2 o = some (l, true) ∧ impl_SettingOps.L1 N n s v h (IntKind.wrap .i64 (1 - p)) at_ (k : Int) f.1 f.2 o = some (l, true) ∧ l.length ≤ 14 := by
  intro n
  induction n with
  | zero => intro k at_ o h1 h2; omega
  | succ n ih =>
    intro k at_ o h1 h2 h3
    rw [spec_SettingOps.L1_eq, impl_SettingOps.L1_eq]
    have wh : IntKind.wrap .i64 (h + 1) = h + 1 := wrap64 (by omega) (by omega)
    by_cases hk : k < 4
    · obtain ⟨rd, q1, q2⟩ := Read_same N hN f (k : Int) hf
      have hk' : (k : Int) < 4 := by omega
      have ws : IntKind.wrap .i64 ((k : Int) + 1) = ((k + 1 : Nat) : Int) := wrap_succ (by omega)
      have cap : ∀ (p a s v r : Int), decide (o.length + (recV p a s v r).length ≤ maxN) = true := fun p a s v r => decide_eq_true (by rw [recV_len]; unfold maxN; omega)
      have lapp : ∀ (p a s v r : Int), (o ++ recV p a s v r).length ≤ 3 * (k + 1) + 1 := fun p a s v r => by rw [List.length_append, recV_len]; omega
      rw [decide_eq_true hk', condT, condT, show (f.1, f.2) = f from rfl, q1, q2, bindV, bindV, ws, wh, beqI]
      by_cases hs : (k : Int) = s
      · rw [decide_eq_true hs, condT, condT, condT]
        obtain ⟨r, _, _, g1, g2⟩ := Record_same N hN (IntKind.wrap .i64 (1 - p)) at_ (k : Int) v (h + 1) (by omega)
        rw [g1, g2, bindV, bindV, cap, condT, condT]
        cases rd.2
        · rw [condF]; exact ih (k + 1) _ _ (by omega) (by omega) (lapp _ _ _ _ _)
        · rw [condT]; exact ih (k + 1) _ _ (by omega) (by omega) (lapp _ _ _ _ _)
      · rw [decide_eq_false hs, condF, condF, condF]
        obtain ⟨r, _, _, g1, g2⟩ := Record_same N hN (IntKind.wrap .i64 (1 - p)) at_ (k : Int) rd.1 (h + 1) (by omega)
        cases rd.2
        · rw [condF, condF]; exact ih (k + 1) _ _ (by omega) (by omega) (by omega)
        · rw [condT, condT, g1, g2, bindV, bindV, cap, condT, condT]
          exact ih (k + 1) _ _ (by omega) (by omega) (lapp _ _ _ _ _)
    · have c1 : ∀ x : FOp, decide (o.length + List.length [x] ≤ maxN) = true := fun x => decide_eq_true (by unfold maxN; show o.length + 1 ≤ _; omega)
      rw [decide_eq_false (by omega), condF, condF, wh, c1, condT]
      exact ⟨_, rfl, rfl, by rw [List.length_append]; show o.length + 1 ≤ 14; omega⟩

theorem Ops_same (N : Nat) (hN : 1048576 < N) (f : Fl) (hf : smallF f) (s v : Int) : ∃ l b, spec_SettingOps.F N (f, s, v) = some (l, b) ∧ impl_SettingOps.F N (f, s, v) = some (l, b) ∧ l.length ≤ 14 := by
  rw [spec_SettingOps.F_eq, impl_SettingOps.F_eq]
  obtain ⟨p, e1, e2, hp⟩ := Active_same N hN f hf
  rw [e1, e2, bindV, bindV]
  by_cases h0 : p < 0
  · rw [decide_eq_true h0, condT, condT]; exact ⟨_, _, rfl, rfl, by decide⟩
  obtain ⟨sh, h2, h3, h4⟩ := hp (by omega)
  obtain ⟨q1, q2, q3⟩ := pageAt sh (j := p) (by omega) h2
  have hok : okF f = true := by
    have := okF_impl N hN f hf
    rw [impl_ActivePage.F_eq, this, bindV] at e2
    cases hk : okF f
    · rw [hk, notF, condT] at e2; injection e2 with e2; omega
    · rfl
  obtain ⟨fa, fb, fc, fd⟩ := okF_facts hok
  have q4 : inRange 0 (nth [] f.1 p).length = true := inRange_of (by omega) (by rw [q2]; omega)
  rw [decide_eq_false h0, condF, condF, l1In_eq, bindV, isSetting_eq, bindV]
  unfold okS
  by_cases a1 : 0 ≤ s ∧ s ≤ 3
  rotate_left
  · rw [decide_eq_false a1, notF, condT, Bool.false_and, notF, condT]; exact ⟨_, _, rfl, rfl, by decide⟩
  rw [decide_eq_true a1, notT, condF, l1In_eq, bindV, Bool.true_and]
  by_cases a2 : 0 ≤ v ∧ v ≤ 9999
  rotate_left
  · rw [decide_eq_false a2, notF, condT, condT]; exact ⟨_, _, rfl, rfl, by decide⟩
  obtain ⟨r, f1, f2⟩ := Free_same N hN f p hf
  rw [decide_eq_true a2, notT, condF, condF, f1, f2, bindV, q1, condT, condT, q4, condT, condT, bindV]
  by_cases a3 : r < 6
  · obtain ⟨c, _, _, g1, g2⟩ := Record_same N hN p r s v (nth 0 (nth [] f.1 p) 0) ⟨h3, h4⟩
    rw [decide_eq_true a3, condT, condT, g1, g2, bindV]
    exact ⟨_, _, rfl, rfl, by rw [recV_len]; decide⟩
  rw [decide_eq_false a3, condF, condF, beqI]
  by_cases a4 : nth 0 (nth [] f.1 p) 0 = 60000
  · rw [decide_eq_true a4, condT, decide_eq_true (show nth 0 (nth [] f.1 p) 0 ≥ 60000 by omega), condT]; exact ⟨_, _, rfl, rfl, by decide⟩
  obtain ⟨j, rfl⟩ := Int.eq_ofNat_of_zero_le (show 0 ≤ p by omega)
  have w1 : IntKind.wrap .i64 (1 - (j : Int)) = ((1 - j : Nat) : Int) := by rw [wrap64 (by omega) (by omega)]; omega
  have q5 : inRange (IntKind.wrap .i64 (1 - (j : Int))) f.2.length = true := by rw [w1, inRange_nat]; exact decide_eq_true (by omega)
  have q6 := getD_cOk hok (p := 1 - j) (by omega)
  rw [decide_eq_false a4, condF, decide_eq_false (show ¬ nth 0 (nth [] f.1 (j : Int)) 0 ≥ 60000 by omega), condF, q5, condT, condT, beqI]
  have q7 : nth 0 f.2 (IntKind.wrap .i64 (1 - (j : Int))) = f.2.getD (1 - j) 0 := by rw [w1, nth_nat]
  rw [q7]
  by_cases a5 : f.2.getD (1 - j) 0 = 1000
  · rw [decide_eq_true a5, condT, decide_eq_true (show f.2.getD (1 - j) 0 ≥ 1000 by omega), condT]; exact ⟨_, _, rfl, rfl, by decide⟩
  rw [decide_eq_false a5, condF, decide_eq_false (show ¬ f.2.getD (1 - j) 0 ≥ 1000 by omega), condF]
  obtain ⟨l, g1, g2, g3⟩ := Ops_L1 N hN f hf s v (j : Int) (nth 0 (nth [] f.1 (j : Int)) 0) (by omega) N 0 0 [(true, IntKind.wrap .i64 (1 - (j : Int)), 0, 0)] (by omega) (by omega) (by show 1 ≤ _; omega)
  rw [show ((0 : Nat) : Int) = 0 from rfl] at g1 g2
  exact ⟨l, true, g1, g2, g3⟩

/-! ### doing the operations -/
theorem FlOutB.up {r : Option ((((List Hnd) × List Int) × Bool) × List HRow)} {D : List HRow} {v : Fl × Bool} (h : FlOutB r (hhide D) v) : FlOutB (bindO r fun r2 => some (r2.1, hmerge D r2.2)) D v := by
  obtain ⟨hs, E, e, pre, ow⟩ := h.call
  rw [e, bindV]
  exact ⟨hs, _, rfl, pre, ow⟩
end Go.Kb
