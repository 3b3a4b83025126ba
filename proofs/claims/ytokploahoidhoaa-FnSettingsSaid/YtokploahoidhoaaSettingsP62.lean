/- The flash by handles: making, copying, marking; the law of an exact function that gives back a flash. -/
import Derived.Test.YtokploahoidhoaaSettingsP61
import Derived.Test.YtokploahoidhoaaSettingsF21
namespace Go.Kb
set_option maxRecDepth 100000

theorem take_push {α : Type} (d : α) (l : List α) (i : Nat) (h : i < l.length) : l.take (i + 1) = l.take i ++ [l.getD i d] := by
  rw [List.take_add_one, List.getElem?_eq_getElem h, List.getD_eq_getElem?_getD, List.getElem?_eq_getElem h]; rfl

/-! ### making copies -/
/-- a flash comes out, by handles of rows that are new -/
def FlOut (r : Option (((List Hnd) × List Int) × List HRow)) (D : List HRow) (v : Fl) : Prop :=
  ∃ hs D', r = some ((hs, v.2), D') ∧ D <+: D' ∧ Own (u := .int .i64) 2 D' D.length D'.length hs v.1
/-- a flash and a yes or no -/
def FlOutB (r : Option ((((List Hnd) × List Int) × Bool) × List HRow)) (D : List HRow) (v : Fl × Bool) : Prop :=
  ∃ hs D', r = some (((hs, v.1.2), v.2), D') ∧ D <+: D' ∧ Own (u := .int .i64) 2 D' D.length D'.length hs v.1.1
theorem FlOut.call {r : Option (((List Hnd) × List Int) × List HRow)} {D : List HRow} {v : Fl} (h : FlOut r (hhide D) v) :
    ∃ hs D', r = some ((hs, v.2), D') ∧ D <+: hmerge D D' ∧ Own (u := .int .i64) 2 (hmerge D D') D.length (hmerge D D').length hs v.1 := by
  obtain ⟨hs, D', e, p, o⟩ := h
  have o' := o.shown p (by rw [hide_len]; exact Nat.le_refl _)
  rw [hide_len] at o'
  exact ⟨hs, D', e, (hide_more p).1, by rw [(hide_more p).2.1]; exact o'⟩
theorem FlOutB.call {r : Option ((((List Hnd) × List Int) × Bool) × List HRow)} {D : List HRow} {v : Fl × Bool} (h : FlOutB r (hhide D) v) :
    ∃ hs D', r = some (((hs, v.1.2), v.2), D') ∧ D <+: hmerge D D' ∧ Own (u := .int .i64) 2 (hmerge D D') D.length (hmerge D D').length hs v.1.1 := by
  obtain ⟨hs, D', e, p, o⟩ := h
  have o' := o.shown p (by rw [hide_len]; exact Nat.le_refl _)
  rw [hide_len] at o'
  exact ⟨hs, D', e, (hide_more p).1, by rw [(hide_more p).2.1]; exact o'⟩

theorem copyS_L1 (N : Nat) (a : List (List Int)) (ha : smallSS a) (c c' : List Int) (lo : Nat) : ∀ (n i : Nat) (o : List Hnd) (D : List HRow), i ≤ a.length → a.length < n + i → o.length = i →
    lo ≤ D.length → Own (u := .int .i64) 2 D lo D.length o (a.take i) →
    ∃ hs D', spec_l14Copy.L1 N n (i : Int) a c' c o D = some ((hs, c), D') ∧ D <+: D' ∧ Own (u := .int .i64) 2 D' lo D'.length hs a := by
  intro n
  induction n with
  | zero => intro i o D h1 h2; omega
  | succ n ih =>
    intro i o D h1 h2 h3 h4 h5
    have hal := ha.1
    rw [spec_l14Copy.L1_eq]
    by_cases hi : i < a.length
    · have hx := ha.2 _ (nth_mem [] a i hi)
      have hp := h5.push h4 (a.getD i [])
      rw [← take_push [] a i hi] at hp
      have c1 : decide (List.length ([] : List Int) + (a.getD i []).length ≤ maxN) = true := decide_eq_true (by unfold maxN; simp only [List.length_nil]; omega)
      have c2 : ∀ x : Hnd, decide (o.length + List.length [x] ≤ maxN) = true := fun x => decide_eq_true (by unfold maxN; show o.length + 1 ≤ _; omega)
      rw [decide_eq_true (Int.ofNat_lt.mpr hi), condT, inRange_nat, decide_eq_true hi, condT, nth_nat, c1, condT, c2, condT, wrap_succ (by omega), List.nil_append]
      obtain ⟨hs, D', e, p, q⟩ := ih (i + 1) (o ++ [some (D.length, 0, (a.getD i []).length)]) (D ++ [HRow.row 2 (.int .i64) (a.getD i [])]) (by omega) (by omega) (by rw [List.length_append, h3]; rfl) (by rw [List.length_append]; omega) (by rw [List.length_append]; exact hp)
      exact ⟨hs, D', e, (List.prefix_append _ _).trans p, q⟩
    · rw [decide_eq_false (by omega), condF]
      refine ⟨o, D, rfl, List.prefix_refl _, ?_⟩
      rw [List.take_of_length_le (by omega)] at h5
      exact h5
theorem copyS_eq (N : Nat) (hN : 1048576 < N) (f : Fl) (h : smallF f) (D : List HRow) : FlOut (spec_l14Copy.H N f D) D f := by
  have hl := h.2
  have hal := h.1.1
  have c1 : decide (List.length ([] : List Int) + f.2.length ≤ maxN) = true := decide_eq_true (by unfold maxN; simp only [List.length_nil]; omega)
  rw [spec_l14Copy.H_eq, c1, condT, List.nil_append]
  exact copyS_L1 N f.1 h.1 f.2 f.2 D.length N 0 [] D (by omega) (by omega) rfl (by omega) (by simpa using own_nil)

theorem copyInts_eq (N : Nat) (l : List Int) (h : l.length ≤ 1048576) : impl_copyInts.F N l = some l := by
  rw [impl_copyInts.F_eq, decide_eq_true (p := l.length ≤ maxN) (by unfold maxN; omega), condT]
theorem copyI_L1 (N : Nat) (a : List (List Int)) (ha : smallSS a) (c : List Int) (lo : Nat) : ∀ (n i : Nat) (o : List Hnd) (D : List HRow), i ≤ a.length → a.length < n + i → o.length = i →
    lo ≤ D.length → Own (u := .int .i64) 2 D lo D.length o (a.take i) →
    ∃ hs D', impl_copyFlash.L1 N n a (a.length : Int) (i : Int) o c D = some ((hs, c), D') ∧ D <+: D' ∧ Own (u := .int .i64) 2 D' lo D'.length hs a := by
  intro n
  induction n with
  | zero => intro i o D h1 h2; omega
  | succ n ih =>
    intro i o D h1 h2 h3 h4 h5
    have hal := ha.1
    rw [impl_copyFlash.L1_eq]
    by_cases hi : i < a.length
    · have hx := ha.2 _ (nth_mem [] a i hi)
      have hp := h5.push h4 (a.getD i [])
      rw [← take_push [] a i hi] at hp
      have c2 : ∀ x : Hnd, decide (o.length + List.length [x] ≤ maxN) = true := fun x => decide_eq_true (by unfold maxN; show o.length + 1 ≤ _; omega)
      rw [decide_eq_true (Int.ofNat_lt.mpr hi), condT, inRange_nat, decide_eq_true hi, condT, nth_nat, copyInts_eq N _ hx, bindV, c2, condT, wrap_succ (by omega)]
      obtain ⟨hs, D', e, p, q⟩ := ih (i + 1) (o ++ [some (D.length, 0, (a.getD i []).length)]) (D ++ [HRow.row 2 (.int .i64) (a.getD i [])]) (by omega) (by omega) (by rw [List.length_append, h3]; rfl) (by rw [List.length_append]; omega) (by rw [List.length_append]; exact hp)
      exact ⟨hs, D', e, (List.prefix_append _ _).trans p, q⟩
    · rw [decide_eq_false (by omega), condF]
      refine ⟨o, D, rfl, List.prefix_refl _, ?_⟩
      rw [List.take_of_length_le (by omega)] at h5
      exact h5
theorem copyI_eq (N : Nat) (hN : 1048576 < N) (f : Fl) (h : smallF f) (D : List HRow) : FlOut (impl_copyFlash.H N f D) D f := by
  have hl := h.2
  have hal := h.1.1
  rw [impl_copyFlash.H_eq, copyInts_eq N _ hl, bindV]
  exact copyI_L1 N f.1 h.1 f.2 D.length N 0 [] D (by omega) (by omega) rfl (by omega) (by simpa using own_nil)

/-! ### marking -/
end Go.Kb
