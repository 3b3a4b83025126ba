/- Is it a flash? The program answers as the reference. -/
import Derived.Test.YtokploahoidhoaaSettingsP8
namespace Go.Kb
theorem IsFlash_L2 (N n1 : Nat) (i : Nat) (o0 : List (List Int)) (o1 : List Int) (hi : i < o0.length) (hl : (o0.getD i []).length ≤ 1048576)
    (h1 : spec_IsFlash.L1 N n1 ((i + 1 : Nat) : Int) o0 o1 = impl_IsFlash.L1 N n1 ((i + 1 : Nat) : Int) o0 o1) (hi2 : i < 5) :
    ∀ (n k : Nat), k ≤ (o0.getD i []).length → (o0.getD i []).length < n + k → spec_IsFlash.L2 N n1 n (i : Int) (k : Int) o0 o1 = impl_IsFlash.L2 N n1 n (i : Int) (o0.getD i []) ((o0.getD i []).length : Int) (k : Int) o0 o1 := by
  intro n
  induction n with
  | zero => intro k h2 h3; omega
  | succ n ih =>
    intro k h2 h3
    rw [spec_IsFlash.L2_eq, impl_IsFlash.L2_eq]
    simp only [inRange_nat, hi, decide_true, condT, nth_nat]
    by_cases hk : k < (o0.getD i []).length
    · simp only [Int.ofNat_lt, hk, decide_true, condT, l1In_eq, bindV]
      rw [wrap_succ (by omega), ih (k + 1) (by omega) (by omega)]
      generalize (o0.getD i []).getD k 0 = x
      by_cases a1 : x < 0
      · have a2 : ¬ (0 ≤ x) := by omega
        simp only [a1, a2, false_and, decide_true, decide_false, condT, notF]
      · by_cases a3 : x > 65535
        · have a4 : ¬ (x ≤ 65535) := by omega
          simp only [a1, a3, a4, and_false, decide_true, decide_false, condT, condF, notF]
        · have a4 : x ≤ 65535 := by omega
          have a2 : 0 ≤ x := by omega
          simp only [a1, a3, a2, a4, and_self, decide_true, decide_false, condF, notT]
    · simp only [Int.ofNat_lt, hk, decide_false, condF]
      rw [wrap_succ (by omega)]
      exact h1

theorem IsFlash_L1 (N : Nat) (hN : 1048576 < N) (o0 : List (List Int)) (o1 : List Int) (h0 : o0.length = 2) (h1 : o1.length = 2) (hs : ∀ x ∈ o0, x.length ≤ 1048576) : ∀ (n i : Nat), i ≤ 2 → 2 < n + i →
    spec_IsFlash.L1 N n (i : Int) o0 o1 = impl_IsFlash.L1 N n (i : Int) o0 o1 := by
  intro n
  induction n with
  | zero => intro i h2 h3; omega
  | succ n ih =>
    intro i h2 h3
    rw [spec_IsFlash.L1_eq, impl_IsFlash.L1_eq]
    by_cases hi : i < 2
    · have hi' : ((i : Int) < 2) := by omega
      have hr : i < o0.length := by omega
      have hr1 : i < o1.length := by omega
      have h2 := IsFlash_L2 N n i o0 o1 hr (hs _ (nth_mem [] o0 i hr)) (ih (i + 1) (by omega) (by omega)) (by omega) N 0 (by omega) (by have := hs _ (nth_mem [] o0 i hr); omega)
      simp only [Int.natCast_zero] at h2
      simp only [hi', decide_true, condT, inRange_nat, hr, hr1, nth_nat, l1In_eq, bindV, h2]
      generalize o1.getD i 0 = x
      by_cases a1 : x < 0
      · have a2 : ¬ (0 ≤ x) := by omega
        simp only [a1, a2, false_and, decide_true, decide_false, condT, notF]
      · by_cases a3 : x > 1000
        · have a4 : ¬ (x ≤ 1000) := by omega
          simp only [a1, a3, a4, and_false, decide_true, decide_false, condT, condF, notF]
        · have a4 : x ≤ 1000 := by omega
          have a2 : 0 ≤ x := by omega
          simp only [a1, a3, a2, a4, and_self, decide_true, decide_false, condF, notT]
    · have hi' : ¬ ((i : Int) < 2) := by omega
      simp only [hi', decide_false, condF]

theorem IsFlash_same (N : Nat) (hN : 1048576 < N) (f : Fl) (h : smallF f) : spec_IsFlash.F N f = impl_IsFlash.F N f := by
  rw [spec_IsFlash.F_eq, impl_IsFlash.F_eq]
  by_cases h0 : f.1.length = 2
  · by_cases h1 : f.2.length = 2
    · have := IsFlash_L1 N hN f.1 f.2 h0 h1 h.1.2 N 0 (by omega) (by omega)
      simp only [Int.natCast_zero] at this
      rw [this]
    · have e : ((f.2.length : Int) != 2) = true := by simp; omega
      simp only [e, condT]
  · have e : ((f.1.length : Int) != 2) = true := by simp; omega
    simp only [e, condT]

theorem IsFlash_impl_L2 (N n1 : Nat) (i : Int) (pg : List Int) (o0 : List (List Int)) (o1 : List Int) (hl : pg.length ≤ 1048576)
    (h1 : ∃ b, impl_IsFlash.L1 N n1 (IntKind.wrap .i64 (i + 1)) o0 o1 = some b) :
    ∀ (n k : Nat), k ≤ pg.length → pg.length < n + k → ∃ b, impl_IsFlash.L2 N n1 n i pg (pg.length : Int) (k : Int) o0 o1 = some b ∧ (b = true → impl_IsFlash.L1 N n1 (IntKind.wrap .i64 (i + 1)) o0 o1 = some true ∧ ∀ w ∈ pg.drop k, 0 ≤ w ∧ w ≤ 65535) := by
  intro n
  induction n with
  | zero => intro k h2 h3; omega
  | succ n ih =>
    intro k h2 h3
    rw [impl_IsFlash.L2_eq]
    by_cases hk : k < pg.length
    · obtain ⟨b, e, hb⟩ := ih (k + 1) (by omega) (by omega)
      have ws : IntKind.wrap .i64 ((k : Int) + 1) = ((k + 1 : Nat) : Int) := wrap_succ (by omega)
      simp only [Int.ofNat_lt, hk, decide_true, condT, inRange_nat, nth_nat, ws, e]
      by_cases a1 : pg.getD k 0 < 0
      · simp only [a1, decide_true, condT]; exact ⟨_, rfl, fun h => by cases h⟩
      · by_cases a3 : pg.getD k 0 > 65535
        · simp only [a1, a3, decide_true, decide_false, condT, condF]; exact ⟨_, rfl, fun h => by cases h⟩
        · simp only [a1, a3, decide_false, condF]
          refine ⟨_, rfl, fun h => ⟨(hb h).1, fun w hw => ?_⟩⟩
          rw [drop_cons 0 pg k hk] at hw
          rcases List.mem_cons.1 hw with rfl | hw
          · omega
          · exact (hb h).2 w hw
    · simp only [Int.ofNat_lt, hk, decide_false, condF]
      obtain ⟨b, e⟩ := h1
      refine ⟨b, e, fun h => ⟨by rw [e, h], fun w hw => ?_⟩⟩
      rw [List.drop_of_length_le (by omega)] at hw
      cases hw

theorem IsFlash_impl_L1 (N : Nat) (hN : 1048576 < N) (o0 : List (List Int)) (o1 : List Int) (h0 : o0.length = 2) (h1 : o1.length = 2) (hs : ∀ x ∈ o0, x.length ≤ 1048576) : ∀ (n i : Nat), i ≤ 2 → 2 < n + i →
    ∃ b, impl_IsFlash.L1 N n (i : Int) o0 o1 = some b ∧ (b = true → ∀ x ∈ o0.drop i, x.length = 19 ∧ ∀ w ∈ x, 0 ≤ w ∧ w ≤ 65535) := by
  intro n
  induction n with
  | zero => intro i h2 h3; omega
  | succ n ih =>
    intro i h2 h3
    rw [impl_IsFlash.L1_eq]
    by_cases hi : i < 2
    · have hi' : ((i : Int) < 2) := by omega
      have hr : i < o0.length := by omega
      have hr1 : i < o1.length := by omega
      obtain ⟨b, e, hb⟩ := ih (i + 1) (by omega) (by omega)
      have ws : IntKind.wrap .i64 ((i : Int) + 1) = ((i + 1 : Nat) : Int) := wrap_succ (by omega)
      obtain ⟨c, e2, hc⟩ := IsFlash_impl_L2 N n (i : Int) (o0.getD i []) o0 o1 (hs _ (nth_mem [] o0 i hr)) (by rw [ws]; exact ⟨b, e⟩) N 0 (by omega) (by have := hs _ (nth_mem [] o0 i hr); omega)
      simp only [Int.natCast_zero] at e2
      simp only [hi', decide_true, condT, inRange_nat, hr, hr1, nth_nat, e2]
      by_cases a0 : (o0.getD i []).length = 19
      · have a0' : (((o0.getD i []).length : Int) != 19) = false := by rw [a0]; rfl
        simp only [a0', condF]
        by_cases a1 : o1.getD i 0 < 0
        · simp only [a1, decide_true, condT]; exact ⟨_, rfl, fun h => by cases h⟩
        · by_cases a3 : o1.getD i 0 > 1000
          · simp only [a1, a3, decide_true, decide_false, condT, condF]; exact ⟨_, rfl, fun h => by cases h⟩
          · simp only [a1, a3, decide_false, condF]
            refine ⟨_, rfl, fun h x hx => ?_⟩
            rw [drop_cons [] o0 i hr] at hx
            obtain ⟨g1, g2⟩ := hc h
            rcases List.mem_cons.1 hx with rfl | hx
            · exact ⟨a0, fun w hw => g2 w (by simpa using hw)⟩
            · rw [ws, e] at g1
              exact hb (by injection g1) x hx
      · have a9 : ¬ (((o0.getD i []).length : Int) = 19) := by omega
        have a0' : (((o0.getD i []).length : Int) != 19) = true := by rw [bneI]; simp only [a9, decide_false, notF]
        simp only [a0', condT]; exact ⟨_, rfl, fun h => by cases h⟩
    · have hi' : ¬ ((i : Int) < 2) := by omega
      simp only [hi', decide_false, condF]
      refine ⟨_, rfl, fun _ x hx => ?_⟩
      rw [List.drop_of_length_le (by omega)] at hx
      cases hx

/-- what a flash is -/
def shapeF (f : Fl) : Prop := f.1.length = 2 ∧ ∀ x ∈ f.1, x.length = 19 ∧ ∀ w ∈ x, 0 ≤ w ∧ w ≤ 65535

theorem IsFlash_impl (N : Nat) (hN : 1048576 < N) (f : Fl) (h : smallF f) : ∃ b, impl_IsFlash.F N f = some b ∧ (b = true → shapeF f) := by
  rw [impl_IsFlash.F_eq]
  by_cases h0 : f.1.length = 2
  · have e0 : ((f.1.length : Int) != 2) = false := by rw [h0]; rfl
    by_cases h1 : f.2.length = 2
    · have e1 : ((f.2.length : Int) != 2) = false := by rw [h1]; rfl
      simp only [e0, e1, condF]
      obtain ⟨b, e, hb⟩ := IsFlash_impl_L1 N hN f.1 f.2 h0 h1 h.1.2 N 0 (by omega) (by omega)
      simp only [Int.natCast_zero] at e
      exact ⟨b, e, fun hh => ⟨h0, by simpa using hb hh⟩⟩
    · have e : ((f.2.length : Int) != 2) = true := by simp; omega
      simp only [e0, e, condT, condF]; exact ⟨_, rfl, fun h => by cases h⟩
  · have e : ((f.1.length : Int) != 2) = true := by simp; omega
    simp only [e, condT]; exact ⟨_, rfl, fun h => by cases h⟩

end Go.Kb
