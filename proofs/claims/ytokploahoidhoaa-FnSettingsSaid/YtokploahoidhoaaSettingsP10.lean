/- Which page is active; what a free record is. -/
import Derived.Test.YtokploahoidhoaaSettingsP9
namespace Go.Kb

theorem inRange_of {j : Int} {n : Nat} (h0 : 0 ≤ j) (h1 : j < n) : inRange j n = true := by
  obtain ⟨k, rfl⟩ := Int.eq_ofNat_of_zero_le h0
  rw [inRange_nat]; exact decide_eq_true (by omega)

theorem pageAt {f : Fl} (h : shapeF f) {j : Int} (h0 : 0 ≤ j) (h1 : j < 2) : inRange j f.1.length = true ∧ (nth [] f.1 j).length = 19 ∧ ∀ w ∈ nth [] f.1 j, 0 ≤ w ∧ w ≤ 65535 := by
  obtain ⟨k, rfl⟩ := Int.eq_ofNat_of_zero_le h0
  have hk : k < f.1.length := by rw [h.1]; omega
  rw [nth_nat]
  obtain ⟨g1, g2⟩ := h.2 _ (nth_mem [] f.1 k hk)
  exact ⟨by rw [inRange_nat]; exact decide_eq_true hk, g1, g2⟩

theorem Active_L1 (N : Nat) (f : Fl) (h : shapeF f) (hf : spec_IsFlash.F N (f.1, f.2) = some true) : ∀ (n i : Nat) (best : Int), i ≤ 2 → 2 < n + i → (best = -1 ∨ (0 ≤ best ∧ best < 2 ∧ 1 ≤ nth 0 (nth [] f.1 best) 0 ∧ nth 0 (nth [] f.1 best) 0 ≤ 60000)) →
    ∃ r, spec_ActivePage.L1 N n best (i : Int) f.1 f.2 = some r ∧ impl_ActivePage.L1 N n best f.1 (f.1.length : Int) (i : Int) f.1 f.2 = some r ∧ (r = -1 ∨ (0 ≤ r ∧ r < 2 ∧ 1 ≤ nth 0 (nth [] f.1 r) 0 ∧ nth 0 (nth [] f.1 r) 0 ≤ 60000)) := by
  intro n
  induction n with
  | zero => intro i best h2 h3; omega
  | succ n ih =>
    intro i best h2 h3 hb
    rw [spec_ActivePage.L1_eq, impl_ActivePage.L1_eq]
    have hl : (f.1.length : Int) = 2 := by rw [h.1]; rfl
    by_cases hi : (i : Int) < 2
    · obtain ⟨p1, p2, p3⟩ := pageAt h (j := (i : Int)) (by omega) hi
      have p4 : inRange 0 (nth [] f.1 (i : Int)).length = true := inRange_of (by omega) (by rw [p2]; omega)
      have ws : IntKind.wrap .i64 ((i : Int) + 1) = ((i + 1 : Nat) : Int) := wrap_succ (by omega)
      simp only [hl, hi, decide_true, condT, hf, bindV, p1, p4, l1In_eq, ws]
      simp only [hl] at ih
      by_cases a1 : 1 ≤ nth 0 (nth [] f.1 (i : Int)) 0
      · by_cases a2 : nth 0 (nth [] f.1 (i : Int)) 0 ≤ 60000
        · simp only [a1, a2, and_self, decide_true, condT]
          by_cases b0 : best < 0
          · simp only [b0, decide_true, condT]
            exact ih (i + 1) (i : Int) (by omega) (by omega) (.inr ⟨by omega, hi, a1, a2⟩)
          · obtain ⟨g1, g2, g3, g4⟩ : 0 ≤ best ∧ best < 2 ∧ 1 ≤ nth 0 (nth [] f.1 best) 0 ∧ nth 0 (nth [] f.1 best) 0 ≤ 60000 := by
              rcases hb with hb | hb
              · omega
              · exact hb
            obtain ⟨q1, q2, q3⟩ := pageAt h g1 g2
            have q4 : inRange 0 (nth [] f.1 best).length = true := inRange_of (by omega) (by rw [q2]; omega)
            simp only [b0, decide_false, condF, condT, q1, q4]
            by_cases c : nth 0 (nth [] f.1 (i : Int)) 0 > nth 0 (nth [] f.1 best) 0
            · simp only [c, decide_true, condT]
              exact ih (i + 1) (i : Int) (by omega) (by omega) (.inr ⟨by omega, hi, a1, a2⟩)
            · simp only [c, decide_false, condF]
              exact ih (i + 1) best (by omega) (by omega) hb
        · simp only [a1, a2, and_false, decide_true, decide_false, condT, condF]
          exact ih (i + 1) best (by omega) (by omega) hb
      · simp only [a1, false_and, decide_false, condF]
        exact ih (i + 1) best (by omega) (by omega) hb
    · simp only [hl, hi, decide_false, condF]
      exact ⟨_, rfl, rfl, hb⟩

theorem Active_same (N : Nat) (hN : 1048576 < N) (f : Fl) (hs : smallF f) : ∃ r, spec_ActivePage.F N f = some r ∧ impl_ActivePage.F N f = some r ∧ (0 ≤ r → shapeF f ∧ r < 2 ∧ 1 ≤ nth 0 (nth [] f.1 r) 0 ∧ nth 0 (nth [] f.1 r) 0 ≤ 60000) := by
  rw [spec_ActivePage.F_eq, impl_ActivePage.F_eq]
  obtain ⟨b, e, hb⟩ := IsFlash_impl N hN f hs
  have e2 : spec_IsFlash.F N (f.1, f.2) = some b := by
    have := IsFlash_same N hN f hs
    rw [e] at this; exact this
  rw [e, bindV]
  cases b with
  | false =>
    simp only [notF, condT]
    obtain ⟨n, rfl⟩ : ∃ n, N = n + 1 := ⟨N - 1, by omega⟩
    rw [spec_ActivePage.L1_eq]
    have h0 : (0 : Int) < 2 := by omega
    simp only [h0, decide_true, condT, e2, bindV, condF]
    exact ⟨-1, rfl, rfl, fun h => by omega⟩
  | true =>
    simp only [notT, condF]
    obtain ⟨r, e3, e4, hr⟩ := Active_L1 N f (hb rfl) e2 N 0 (-1) (by omega) (by omega) (.inl rfl)
    simp only [Int.natCast_zero] at e3 e4
    refine ⟨r, e3, e4, fun h => ⟨hb rfl, ?_⟩⟩
    rcases hr with hr | hr
    · omega
    · exact ⟨hr.2.1, hr.2.2⟩

end Go.Kb
