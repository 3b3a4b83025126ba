/- Without combinations all events go through; what waits for a combination. -/
import Derived.Test.YtnoifcpgionjkaaComboPromptP38
namespace Go.Kb

/-! ### what waits -/
theorem fol_get (K : Nat) : ∀ (a : List Ev) (h : Nat) (t : Int), fol K h t a → ∀ i, i < a.length → (0 < i → (a.getD (i - 1) (0, 0, false)).1 ≤ (a.getD i (0, 0, false)).1) ∧ ∃ k : Nat, k < K ∧ (a.getD i (0, 0, false)).2.1 = (k : Int) := by
  intro a
  induction a with
  | nil => intro h t _ i hi; simp at hi
  | cons e r ih =>
    rintro h t ⟨h1, h2, k, h3, h4, h5, h6⟩ i hi
    cases i with
    | zero => exact ⟨fun h => by omega, k, h3, by simp only [List.getD_cons_zero]; exact h4⟩
    | succ i =>
      simp only [List.length_cons] at hi
      obtain ⟨g1, g2⟩ := ih _ _ h6 i (by omega)
      rw [List.getD_cons_succ]
      refine ⟨fun _ => ?_, g2⟩
      cases i with
      | zero =>
        rw [show 0 + 1 - 1 = 0 from rfl, List.getD_cons_zero]
        cases r with
        | nil => simp at hi
        | cons x r => rw [List.getD_cons_zero]; exact h6.1
      | succ i =>
        rw [show i + 1 + 1 - 1 = i + 1 by omega, List.getD_cons_succ]
        exact g1 (by omega)

theorem isEv_of {t k : Int} (h : (0 ≤ t ∧ t ≤ 1000000) ∧ (0 ≤ k ∧ k ≤ 31)) : isEv t k = true := by
  unfold isEv; rw [decide_eq_true h.1, decide_eq_true h.2]; rfl

theorem Prompt_L1 (N : Nat) (e : Int) (got : List Ev) (hg : got.length ≤ 1000) (h : Nat) (t : Int) (ht : 0 ≤ t) (hf : fol 32 h t got) (hte : ∀ x ∈ got, x.1 ≤ e) (o10 : List Cb) (o11 : Int) (o12 : List Ev) (o13 o14 o15 : Int) (o16 : List Ev)
    (hend : laws_FnComboPrompt.L1 N 1 e got (got.length : Int) o10 o11 o12 o13 o14 o15 o16 = some true) : ∀ (n i : Nat), i ≤ got.length → got.length < n + i → laws_FnComboPrompt.L1 N n e got (i : Int) o10 o11 o12 o13 o14 o15 o16 = some true := by
  intro n
  induction n with
  | zero => intro i h1 h2; omega
  | succ n ih =>
    intro i h1 h2
    by_cases hi : i < got.length
    · rw [laws_FnComboPrompt.L1_eq]
      have ws : IntKind.wrap .i64 ((i : Int) + 1) = ((i + 1 : Nat) : Int) := wrap_succ (by omega)
      have hm := nth_mem (0, 0, false) got i hi
      have h3 := hte _ hm
      have h4 := fol_time 32 got h t hf _ hm
      obtain ⟨h5, k, h6, h7⟩ := fol_get 32 got h t hf i hi
      have h8 : ¬ (got.getD i (0, 0, false)).1 > e := by omega
      have h9 : isEv (got.getD i (0, 0, false)).1 (got.getD i (0, 0, false)).2.1 = true := isEv_of (by omega)
      simp only [Int.ofNat_lt, hi, decide_true, condT, inRange_nat, nth_nat, h8, decide_false, condF, IsEv_impl, h9, bindV, notT, ws, ih (i + 1) (by omega) (by omega)]
      by_cases hz : (i : Int) > 0
      · have wp : IntKind.wrap .i64 ((i : Int) - 1) = ((i - 1 : Nat) : Int) := by rw [wrap64 (by omega) (by omega)]; omega
        have hp : i - 1 < got.length := by omega
        have h10 : ¬ (got.getD (i - 1) (0, 0, false)).1 > (got.getD i (0, 0, false)).1 := by have := h5 (by omega); omega
        simp only [hz, decide_true, condT, wp, inRange_nat, hp, nth_nat, h10, decide_false, condF]
      · simp only [hz, decide_false, condF]
    · have : i = got.length := by omega
      subst this
      have hni : ¬ got.length < got.length := by omega
      rw [laws_FnComboPrompt.L1_eq] at hend ⊢
      simp only [Int.ofNat_lt, hni, decide_false, condF] at hend ⊢
      exact hend

theorem FnComboPrompt_true (N : Nat) (hN : 2000000 < N) (code : List Int) : laws_FnComboPrompt.F N code = some true := by
  rw [laws_FnComboPrompt.F_eq]
  rw [laws_big.F_eq, bindV]
  by_cases hbig : (code.length : Int) > 1048576
  · simp only [hbig, decide_true, condT]
  · have hmN : code.length ≤ maxN := by unfold maxN; omega
    obtain ⟨l, t, now, s, h, r, e, a1, a2, e1, g1, g2, g3, g4⟩ := CombinerD N (by omega) code hmN (by omega)
    obtain ⟨f1, f2, h', f3, f4⟩ := okM_CE (by omega) a2 g3 g1 g2 g4
    generalize runA l t e (s.add r) = R at *
    have hl8 := a1.len
    simp only [hbig, decide_false, condF, e1, bindV, f1, notT]
    have hlen := f2.len
    have hsq : (s.add r).q.length = s.q.length + r.length := by simp [Sc.add]
    have hck : (s.add r).ck = s.ck := rfl
    have hck0 := a2.ock.1
    refine Prompt_L1 N e R.1 (by omega) _ s.ck hck0 (by have := f2.f; rwa [hck] at this) (fun x hx => Int.le_trans (f2.t x hx) f2.ck.2) _ _ _ _ _ _ _ ?_ N 0 (by omega) (by omega)
    rw [laws_FnComboPrompt.L1_eq]
    have hni : ¬ R.1.length < R.1.length := by omega
    simp only [Int.ofNat_lt, hni, decide_false, condF, Sc.cm]
    by_cases hq : R.2.q.length = 0
    · have : ((R.2.q.length : Int) == 0) = true := by rw [beqI]; exact decide_eq_true (by omega)
      rw [this, condT]
    · have h0 : ((R.2.q.length : Int) == 0) = false := by rw [beqI]; exact decide_eq_false (by omega)
      rw [h0, condF]
      have hmatch := Match_eq N (by omega) l (by omega) a2.oc t a2.ot R.2.q (by omega) e
      obtain ⟨x, y, hqq⟩ : ∃ x y, R.2.q = x :: y := by
        cases hqq : R.2.q with
        | nil => rw [hqq] at hq; simp at hq
        | cons x y => exact ⟨x, y, rfl⟩
      obtain ⟨s1, s2, s3, s4⟩ := stuck (by omega) f4.of f4.oq f2.stop hqq
      rw [hqq] at hmatch s2
      have s3' : IntKind.wrap .i64 (x.1 + t) > e := s3
      simp only [hqq, inRange0, condT, hmatch, bindV, nth0, s1, s3', decide_true, s2, beq_self_eq_true]
end Go.Kb
