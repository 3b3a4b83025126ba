/- A setting read: the last record that fits. -/
import Derived.Test.YtokploahoidhoaaSettingsP11
namespace Go.Kb

def okS (s v : Int) : Bool := decide (0 ≤ s ∧ s ≤ 3) && decide (0 ≤ v ∧ v ≤ 9999)

theorem isSetting_eq (N : Nat) (s v : Int) : impl_isSetting.F N (s, v) = some (okS s v) := by
  rw [impl_isSetting.F_eq]
  unfold okS
  by_cases a1 : 0 ≤ s <;> by_cases a2 : s ≤ 3 <;> by_cases a3 : 0 ≤ v <;> by_cases a4 : v ≤ 9999 <;>
    (have b2 : (s < 4) = (s ≤ 3) := by simp; omega
     simp [a1, a2, a3, a4, b2])

theorem CheckOf_val (N : Nat) (s v h : Int) (hh : 1 ≤ h ∧ h ≤ 60000) : ∃ r, spec_CheckOf.F N (s, v, h) = some r ∧ impl_CheckOf.F N (s, v, h) = some r ∧ (r ≠ 65535 ↔ okS s v = true) := by
  obtain ⟨r, e1, e2⟩ := CheckOf_same N s v h
  refine ⟨r, e1, e2, ?_⟩
  rw [impl_CheckOf.F_eq, isSetting_eq, bindV] at e2
  cases hk : okS s v with
  | false =>
    rw [hk] at e2
    simp only [notF, condT] at e2
    injection e2 with e2
    subst e2
    simp
  | true =>
    rw [hk] at e2
    have b5 : ¬ (h < 1) := by omega
    have b6 : ¬ (h > 60000) := by omega
    simp only [notT, condF, b5, b6, decide_false] at e2
    injection e2 with e2
    have : r < 60000 := by
      rw [← e2]
      exact Int.tmod_lt_of_pos _ (by omega)
    simp only [iff_true]
    omega

section
variable (N : Nat) (setting : Int) (pg : List Int)
/-- does the record fit? -/
def fits (i : Nat) : Bool := (pg.getD (3 * i + 1) 0 == setting) && (okS setting (pg.getD (3 * i + 2) 0) && ((impl_CheckOf.F N (setting, pg.getD (3 * i + 2) 0, pg.getD 0 0)) == some (pg.getD (3 * i + 3) 0)))
/-- what the first records give -/
def rec : Nat → Int × Bool
  | 0 => (0, false)
  | i + 1 => bif fits N setting pg i then (pg.getD (3 * i + 2) 0, true) else rec i
end

theorem Read_spec (N : Nat) (f : Fl) (setting p : Int) (pg : List Int) (hp : nth [] f.1 p = pg) (hr : inRange p f.1.length = true) (hl : pg.length = 19) (hh : 1 ≤ pg.getD 0 0 ∧ pg.getD 0 0 ≤ 60000) :
    ∀ (n i : Nat), i ≤ 6 → 6 < n + i → spec_ReadSetting.L1 N n setting p (rec N setting pg i).1 (rec N setting pg i).2 (i : Int) f.1 f.2 = some (rec N setting pg 6) := by
  intro n
  induction n with
  | zero => intro i h1 h2; omega
  | succ n ih =>
    intro i h1 h2
    rw [spec_ReadSetting.L1_eq]
    by_cases hi : (i : Int) < 6
    · have w0 : IntKind.wrap .i64 ((3 : Int) * (i : Int)) = ((3 * i : Nat) : Int) := by rw [wrap64 (by omega) (by omega)]; omega
      have w1 : IntKind.wrap .i64 ((1 : Int) + ((3 * i : Nat) : Int)) = ((3 * i + 1 : Nat) : Int) := by rw [wrap64 (by omega) (by omega)]; omega
      have w2 : IntKind.wrap .i64 (((3 * i + 1 : Nat) : Int) + 1) = ((3 * i + 2 : Nat) : Int) := wrap_succ (by omega)
      have w3 : IntKind.wrap .i64 (((3 * i + 1 : Nat) : Int) + 2) = ((3 * i + 3 : Nat) : Int) := by rw [wrap64 (by omega) (by omega)]; omega
      have ws : IntKind.wrap .i64 ((i : Int) + 1) = ((i + 1 : Nat) : Int) := wrap_succ (by omega)
      have r0 : inRange 0 pg.length = true := inRange_of (by omega) (by omega)
      have r1 : inRange ((3 * i + 1 : Nat) : Int) pg.length = true := inRange_of (by omega) (by omega)
      have r2 : inRange ((3 * i + 2 : Nat) : Int) pg.length = true := inRange_of (by omega) (by omega)
      have r3 : inRange ((3 * i + 3 : Nat) : Int) pg.length = true := inRange_of (by omega) (by omega)
      have g0 : nth 0 pg 0 = pg.getD 0 0 := nth_nat 0 pg 0
      obtain ⟨c, e1, e2, e3⟩ := CheckOf_val N setting (pg.getD (3 * i + 2) 0) (pg.getD 0 0) hh
      have hI := ih (i + 1) (by omega) (by omega)
      simp only [hi, decide_true, condT, hp, hr, w0, w1, w2, w3, ws, r0, r1, r2, r3, nth_nat, g0, e1, bindV]
      have hf : fits N setting pg i = ((pg.getD (3 * i + 1) 0 == setting) && (okS setting (pg.getD (3 * i + 2) 0) && (c == pg.getD (3 * i + 3) 0))) := by
        unfold fits; rw [e2]; rfl
      by_cases a1 : pg.getD (3 * i + 1) 0 = setting
      · have b1 : (pg.getD (3 * i + 1) 0 == setting) = true := by rw [beqI]; exact decide_eq_true a1
        by_cases a2 : c = 65535
        · have b2 : (c != 65535) = false := by rw [a2]; rfl
          have k2 : okS setting (pg.getD (3 * i + 2) 0) = false := by
            cases hq : okS setting (pg.getD (3 * i + 2) 0) with
            | false => rfl
            | true => exact absurd a2 (e3.2 hq)
          have hfit : fits N setting pg i = false := by rw [hf, k2, Bool.false_and, Bool.and_false]
          simp only [rec, hfit, condF] at hI
          simp only [b1, b2, condT, condF]
          exact hI
        · have b2 : (c != 65535) = true := by rw [bneI]; simp only [a2, decide_false, notF]
          have k2 : okS setting (pg.getD (3 * i + 2) 0) = true := e3.1 a2
          by_cases a3 : pg.getD (3 * i + 3) 0 = c
          · have b3 : (pg.getD (3 * i + 3) 0 == c) = true := by rw [beqI]; exact decide_eq_true a3
            have b4 : (c == pg.getD (3 * i + 3) 0) = true := by rw [beqI]; exact decide_eq_true a3.symm
            have hfit : fits N setting pg i = true := by rw [hf, b1, k2, b4]; rfl
            simp only [rec, hfit, condT] at hI
            simp only [b1, b2, b3, condT]
            exact hI
          · have b3 : (pg.getD (3 * i + 3) 0 == c) = false := by rw [beqI]; exact decide_eq_false a3
            have b4 : (c == pg.getD (3 * i + 3) 0) = false := by rw [beqI]; exact decide_eq_false fun h => a3 h.symm
            have hfit : fits N setting pg i = false := by rw [hf, b4, Bool.and_false, Bool.and_false]
            simp only [rec, hfit, condF] at hI
            simp only [b1, b2, b3, condT, condF]
            exact hI
      · have b1 : (pg.getD (3 * i + 1) 0 == setting) = false := by rw [beqI]; exact decide_eq_false a1
        have hfit : fits N setting pg i = false := by rw [hf, b1, Bool.false_and]
        simp only [rec, hfit, condF] at hI
        simp only [b1, condF]
        exact hI
    · have h6 : i = 6 := by omega
      subst h6
      simp only [hi, decide_false, condF]

theorem Read_impl (N : Nat) (setting : Int) (pg : List Int) (hl : pg.length = 19) (hh : 1 ≤ pg.getD 0 0 ∧ pg.getD 0 0 ≤ 60000) :
    ∀ (k n : Nat), k ≤ 6 → k < n → impl_ReadSetting.L1 N n setting pg ((k : Int) - 1) = some (rec N setting pg k) := by
  intro k
  induction k with
  | zero =>
    intro n h1 h2
    obtain ⟨n, rfl⟩ : ∃ j, n = j + 1 := ⟨n - 1, by omega⟩
    rw [impl_ReadSetting.L1_eq]
    have c1 : decide ((((0 : Nat) : Int) - 1) ≥ 0) = false := by decide
    simp only [c1, condF]
    rfl
  | succ i ih =>
    intro n h1 h2
    obtain ⟨n, rfl⟩ : ∃ j, n = j + 1 := ⟨n - 1, by omega⟩
    have hI := ih n (by omega) (by omega)
    rw [impl_ReadSetting.L1_eq]
    have k1 : (((i + 1 : Nat) : Int) - 1) = (i : Int) := by omega
    have c1 : decide ((i : Int) ≥ 0) = true := decide_eq_true (by omega)
    have w0 : IntKind.wrap .i64 ((3 : Int) * (i : Int)) = ((3 * i : Nat) : Int) := by rw [wrap64 (by omega) (by omega)]; omega
    have w1 : IntKind.wrap .i64 ((1 : Int) + ((3 * i : Nat) : Int)) = ((3 * i + 1 : Nat) : Int) := by rw [wrap64 (by omega) (by omega)]; omega
    have w2 : IntKind.wrap .i64 ((4 : Int) + ((3 * i : Nat) : Int)) = ((3 * i + 1 + 3 : Nat) : Int) := by rw [wrap64 (by omega) (by omega)]; omega
    have w3 : IntKind.wrap .i64 ((i : Int) - 1) = (i : Int) - 1 := wrap64 (by omega) (by omega)
    have bd : bounds ((3 * i + 1 : Nat) : Int) ((3 * i + 1 + 3 : Nat) : Int) pg.length = true := bounds_of (by omega) (by omega) (by omega)
    have sl : (List.drop (3 * i + 1) (List.take (3 * i + 1 + 3) pg)).length = 3 := sub_len (by omega)
    have n0 : nth 0 (List.drop (3 * i + 1) (List.take (3 * i + 1 + 3) pg)) 0 = pg.getD (3 * i + 1) 0 := by
      have := nth_nat 0 (List.drop (3 * i + 1) (List.take (3 * i + 1 + 3) pg)) 0
      rw [sub_nth 0 (by omega) (by omega)] at this; exact this
    have n1 : nth 0 (List.drop (3 * i + 1) (List.take (3 * i + 1 + 3) pg)) 1 = pg.getD (3 * i + 2) 0 := by
      have := nth_nat 0 (List.drop (3 * i + 1) (List.take (3 * i + 1 + 3) pg)) 1
      rw [sub_nth 1 (by omega) (by omega)] at this; exact this
    have n2 : nth 0 (List.drop (3 * i + 1) (List.take (3 * i + 1 + 3) pg)) 2 = pg.getD (3 * i + 3) 0 := by
      have := nth_nat 0 (List.drop (3 * i + 1) (List.take (3 * i + 1 + 3) pg)) 2
      rw [sub_nth 2 (by omega) (by omega)] at this; exact this
    have g0 : nth 0 pg 0 = pg.getD 0 0 := nth_nat 0 pg 0
    have i0 : inRange 0 3 = true := by decide
    have i1 : inRange 1 3 = true := by decide
    have i2 : inRange 2 3 = true := by decide
    have r0 : inRange 0 pg.length = true := inRange_of (by omega) (by omega)
    simp only [k1, c1, condT, w0, w1, w2, w3, bd, Int.toNat_natCast, sl, n0, n1, n2, i0, i1, i2, r0, g0, isSetting_eq, bindV, hI]
    by_cases a1 : pg.getD (3 * i + 1) 0 = setting
    · have b1 : (pg.getD (3 * i + 1) 0 == setting) = true := by rw [beqI]; exact decide_eq_true a1
      obtain ⟨c, e1, e2, e3⟩ := CheckOf_val N setting (pg.getD (3 * i + 2) 0) (pg.getD 0 0) hh
      have hf : fits N setting pg i = ((pg.getD (3 * i + 1) 0 == setting) && (okS setting (pg.getD (3 * i + 2) 0) && (c == pg.getD (3 * i + 3) 0))) := by
        unfold fits; rw [e2]; rfl
      have b0 : (setting == setting) = true := by rw [beqI]; exact decide_eq_true rfl
      simp only [a1, b0, e2, bindV]
      cases k2 : okS setting (pg.getD (3 * i + 2) 0) with
      | false =>
        have hfit : fits N setting pg i = false := by rw [hf, k2, Bool.false_and, Bool.and_false]
        simp only [condF, rec, hfit]
      | true =>
        by_cases a3 : pg.getD (3 * i + 3) 0 = c
        · have b3 : (pg.getD (3 * i + 3) 0 == c) = true := by rw [beqI]; exact decide_eq_true a3
          have b4 : (c == pg.getD (3 * i + 3) 0) = true := by rw [beqI]; exact decide_eq_true a3.symm
          have hfit : fits N setting pg i = true := by rw [hf, b1, k2, b4]; rfl
          simp only [b3, condT, rec, hfit]
        · have b3 : (pg.getD (3 * i + 3) 0 == c) = false := by rw [beqI]; exact decide_eq_false a3
          have b4 : (c == pg.getD (3 * i + 3) 0) = false := by rw [beqI]; exact decide_eq_false fun h => a3 h.symm
          have hfit : fits N setting pg i = false := by rw [hf, b4, Bool.and_false, Bool.and_false]
          simp only [b3, condT, condF, rec, hfit]
    · have b1 : (pg.getD (3 * i + 1) 0 == setting) = false := by rw [beqI]; exact decide_eq_false a1
      have hfit : fits N setting pg i = false := by unfold fits; rw [b1, Bool.false_and]
      simp only [b1, condF, rec, hfit]
      cases okS (pg.getD (3 * i + 1) 0) (pg.getD (3 * i + 2) 0) with
      | false => simp only [condF]
      | true => simp only [condT]

theorem rec_bad (N : Nat) (setting : Int) (pg : List Int) (h : ¬ (0 ≤ setting ∧ setting ≤ 3)) : ∀ k, rec N setting pg k = (0, false)
  | 0 => rfl
  | i + 1 => by
    have hk : okS setting (pg.getD (3 * i + 2) 0) = false := by unfold okS; rw [decide_eq_false h, Bool.false_and]
    have hfit : fits N setting pg i = false := by unfold fits; rw [hk, Bool.false_and, Bool.and_false]
    simp only [rec, hfit, condF]
    exact rec_bad N setting pg h i

theorem Read_same (N : Nat) (hN : 1048576 < N) (f : Fl) (setting : Int) (hs : smallF f) : ∃ r, spec_ReadSetting.F N (f, setting) = some r ∧ impl_ReadSetting.F N (f, setting) = some r := by
  rw [spec_ReadSetting.F_eq, impl_ReadSetting.F_eq]
  obtain ⟨p, e1, e2, hp⟩ := Active_same N hN f hs
  simp only [e1, e2, bindV, l1In_eq]
  by_cases h0 : p < 0
  · simp only [h0, decide_true, condT]; exact ⟨_, rfl, rfl⟩
  · obtain ⟨h1, h2, h3, h4⟩ := hp (by omega)
    obtain ⟨q1, q2, q3⟩ := pageAt h1 (j := p) (by omega) h2
    have g0 : nth 0 (nth [] f.1 p) 0 = (nth [] f.1 p).getD 0 0 := nth_nat 0 _ 0
    rw [g0] at h3 h4
    have hI := Read_impl N setting (nth [] f.1 p) q2 ⟨h3, h4⟩ 6 N (by omega) (by omega)
    have k5 : (((6 : Nat) : Int) - 1) = 5 := by decide
    rw [k5] at hI
    simp only [h0, decide_false, condF, q1, condT, hI]
    by_cases hq : 0 ≤ setting ∧ setting ≤ 3
    · have hS := Read_spec N f setting p _ rfl q1 q2 ⟨h3, h4⟩ N 0 (by omega) (by omega)
      simp only [rec, Int.natCast_zero] at hS
      rw [decide_eq_true hq, notT, condF]
      exact ⟨_, hS, rfl⟩
    · rw [decide_eq_false hq, notF, condT]
      exact ⟨_, rfl, by rw [rec_bad N setting _ hq]⟩

end Go.Kb
