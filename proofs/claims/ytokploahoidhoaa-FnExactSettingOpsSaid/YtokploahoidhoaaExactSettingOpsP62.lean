/- The flash by handles: making, copying, marking; the law of an exact function that gives back a flash. -/
import Derived.Test.YtokploahoidhoaaExactSettingOpsP61
import Derived.Test.YtokploahoidhoaaExactSettingOpsF21
namespace Go.Kb
set_option maxRecDepth 100000

theorem take_push {α : Type} (d : α) (l : List α) (i : Nat) (h : i < l.length) : l.take (i + 1) = l.take i ++ [l.getD i d] := by
  rw [List.take_add_one, List.getElem?_eq_getElem h, List.getD_eq_getElem?_getD, List.getElem?_eq_getElem h]; rfl

/-! ### making copies -/
theorem toIntSSh_L1 (N : Nat) (hN : 1048576 < N) (a : List (List Int)) (ha : smallSS a) (lo : Nat) : ∀ (n i : Nat) (o : List Hnd) (D : List HRow), i ≤ a.length → a.length < n + i → o.length = a.length →
    lo ≤ D.length → Own (u := .int .i64) 2 D lo D.length (o.take i) (a.take i) →
    ∃ hs D', laws_toIntSSh.L1 N n a (i : Int) o D = some (hs, D') ∧ D <+: D' ∧ Own (u := .int .i64) 2 D' lo D'.length hs a := by
  intro n
  induction n with
  | zero => intro i o D h1 h2; omega
  | succ n ih =>
    intro i o D h1 h2 h3 h4 h5
    have hal := ha.1
    rw [laws_toIntSSh.L1_eq]
    by_cases hi : i < a.length
    · have hx := ha.2 _ (nth_mem [] a i hi)
      rw [decide_eq_true (Int.ofNat_lt.mpr hi), condT, inRange_nat, decide_eq_true hi, condT, nth_nat, toIntS_eq N _ (by omega) (by unfold maxN; omega), bindV, inRange_nat, h3, decide_eq_true hi, condT, Int.toNat_natCast, wrap_succ (by omega)]
      have hp := h5.push h4 (a.getD i [])
      rw [← take_push [] a i hi] at hp
      have ht : (o.set i (some (D.length, 0, (a.getD i []).length))).take (i + 1) = o.take i ++ [some (D.length, 0, (a.getD i []).length)] := by
        rw [take_push none _ i (by rw [List.length_set]; omega), List.take_set_of_le (by omega)]
        congr 2
        simp [List.getD_eq_getElem?_getD, h3, hi]
      rw [← ht] at hp
      obtain ⟨hs, D', e, p, q⟩ := ih (i + 1) (o.set i (some (D.length, 0, (a.getD i []).length))) (D ++ [HRow.row 2 (.int .i64) (a.getD i [])]) (by omega) (by omega) (by rw [List.length_set]; exact h3) (by rw [List.length_append]; omega) (by rw [List.length_append]; exact hp)
      exact ⟨hs, D', e, (List.prefix_append _ _).trans p, q⟩
    · rw [decide_eq_false (by omega), condF]
      refine ⟨o, D, rfl, List.prefix_refl _, ?_⟩
      rw [List.take_of_length_le (by omega), List.take_of_length_le (by omega)] at h5
      exact h5
theorem toIntSSh_eq (N : Nat) (hN : 1048576 < N) (a : List (List Int)) (ha : smallSS a) (D : List HRow) : ∃ hs D', laws_toIntSSh.H N a D = some (hs, D') ∧ D <+: D' ∧ Own (u := .int .i64) 2 D' D.length D'.length hs a := by
  have hal := ha.1
  rw [laws_toIntSSh.H_eq, lenOk (by unfold maxN; omega), condT]
  exact toIntSSh_L1 N hN a ha D.length N 0 _ D (by omega) (by omega) (by simp) (by omega) (by simpa using own_nil)

/-- a flash comes out, by handles of rows that are new -/
def FlOut (r : Option (((List Hnd) × List Int) × List HRow)) (D : List HRow) (v : Fl) : Prop :=
  ∃ hs D', r = some ((hs, v.2), D') ∧ D <+: D' ∧ Own (u := .int .i64) 2 D' D.length D'.length hs v.1
/-- a flash and a yes or no -/
def FlOutB (r : Option ((((List Hnd) × List Int) × Bool) × List HRow)) (D : List HRow) (v : Fl × Bool) : Prop :=
  ∃ hs D', r = some (((hs, v.1.2), v.2), D') ∧ D <+: D' ∧ Own (u := .int .i64) 2 D' D.length D'.length hs v.1.1
theorem FlOut.call {r : Option (((List Hnd) × List Int) × List HRow)} {D : List HRow} {v : Fl} (h : FlOut r (hhide D) v) :
    ∃ hs D', r = some ((hs, v.2), D') ∧ D <+: hmerge D D' ∧ Own (u := .int .i64) 2 (hmerge D D') D.length (hmerge D D').length hs v.1 := by
  obtain ⟨hs, D', e, p, o⟩ := h
  have o' := o.shown p (by rw [hide_len]; exact Nat.le_refl _)
  rw [hide_len] at o'
  exact ⟨hs, D', e, (hide_more p).1, by rw [(hide_more p).2.1]; exact o'⟩
theorem FlOutB.call {r : Option ((((List Hnd) × List Int) × Bool) × List HRow)} {D : List HRow} {v : Fl × Bool} (h : FlOutB r (hhide D) v) :
    ∃ hs D', r = some (((hs, v.1.2), v.2), D') ∧ D <+: hmerge D D' ∧ Own (u := .int .i64) 2 (hmerge D D') D.length (hmerge D D').length hs v.1.1 := by
  obtain ⟨hs, D', e, p, o⟩ := h
  have o' := o.shown p (by rw [hide_len]; exact Nat.le_refl _)
  rw [hide_len] at o'
  exact ⟨hs, D', e, (hide_more p).1, by rw [(hide_more p).2.1]; exact o'⟩

theorem toFlashh_eq (N : Nat) (hN : 1048576 < N) (f : Fl) (h : smallF f) (D : List HRow) : FlOut (laws_toFlashh.H N f D) D f := by
  have hl := h.2
  rw [laws_toFlashh.H_eq]
  obtain ⟨hs, D', e, p, o⟩ := toIntSSh_eq N hN f.1 h.1 (hhide D)
  have o' := o.shown p (by rw [hide_len]; exact Nat.le_refl _)
  rw [hide_len] at o'
  rw [e, bindV, toIntS_eq N f.2 (by omega) (by unfold maxN; omega), bindV]
  exact ⟨hs, _, rfl, (hide_more p).1, by rw [(hide_more p).2.1]; exact o'⟩

/-! ### marking -/
theorem markSS_L1 (N : Nat) (hN : 1048576 < N) (hs : List Hnd) (lo hi : Nat) : ∀ (n i : Nat) (c : Int) (vs : List (List Int)) (D : List HRow), smallSS vs → i ≤ vs.length → vs.length < n + i → 0 ≤ c →
    c + (vs.length - i : Nat) * 1048576 ≤ 2305843009213693952 → Own (u := .int .i64) 2 D lo hi hs vs →
    ∃ c' vs' D', laws_markIntSS.L1 N n hs c (i : Int) D = some (c', D') ∧ Fr lo hi D D' ∧ Own (u := .int .i64) 2 D' lo hi hs vs' ∧ vs'.length = vs.length ∧ (∀ j, j < i → vs'.getD j [] = vs.getD j []) ∧
      c ≤ c' ∧ c' ≤ c + (vs.length - i : Nat) * 1048576 ∧ laws_heldIntSS.L1 N n vs' c (i : Int) = some c' := by
  intro n
  induction n with
  | zero => intro i c vs D h0 h1 h2; omega
  | succ n ih =>
    intro i c vs D h0 h1 h2 h3 h4 h5
    have hal := h0.1
    have hl := h5.len
    rw [laws_markIntSS.L1_eq, hl]
    by_cases hi' : i < vs.length
    · have hx := h0.2 _ (nth_mem [] vs i hi')
      obtain ⟨c1, o1, m1, m2, m3, m4, m5⟩ := marksI_eq N (vs.getD i []) c (by omega) (by unfold maxN; omega) h3 (by omega)
      obtain ⟨q1, q2⟩ := h5.put hi' (v := o1) m5
      have cutE := h5.cut hi'
      rw [decide_eq_true (Int.ofNat_lt.mpr hi'), condT, inRange_nat, decide_eq_true hi', condT, nth_nat, h5.full hi', condT, cutE, m1, bindV, wrap_succ (by omega)]
      have small' : smallSS (vs.set i o1) := by
        refine ⟨by rw [List.length_set]; exact hal, fun x hxm => ?_⟩
        rcases List.mem_or_eq_of_mem_set hxm with g | g
        · exact h0.2 x g
        · rw [g, m5]; exact hx
      obtain ⟨c', vs', D', e1, e2, e3, e4, e5, e6, e7, e8⟩ := ih (i + 1) c1 (vs.set i o1) _ small' (by rw [List.length_set]; omega) (by rw [List.length_set]; omega) (by omega) (by rw [List.length_set]; omega) q1
      rw [List.length_set] at e4 e7
      refine ⟨c', vs', D', e1, q2.trans e2, e3, e4, fun j hj => ?_, by omega, by omega, ?_⟩
      · rw [e5 j (by omega)]
        simp only [List.getD_eq_getElem?_getD]
        rw [List.getElem?_set_ne (by omega)]
      · have hk' : i < vs'.length := by omega
        have hg : vs'.getD i [] = o1 := by
          rw [e5 i (by omega)]
          simp [List.getD_eq_getElem?_getD, hi']
        rw [laws_heldIntSS.L1_eq, decide_eq_true (Int.ofNat_lt.mpr hk'), condT, inRange_nat, decide_eq_true hk', condT, nth_nat, hg, m4, bindV, decide_eq_false (by omega), condF, wrap_succ (by omega)]
        exact e8
    · rw [decide_eq_false (by omega), condF]
      refine ⟨c, vs, D, rfl, Fr.refl, h5, rfl, fun _ _ => rfl, Int.le_refl _, by omega, ?_⟩
      rw [laws_heldIntSS.L1_eq, decide_eq_false (by omega), condF]

theorem markFlash_eq (N : Nat) (hN : 1048576 < N) {hs : List Hnd} {c : List Int} {vs : List (List Int)} {lo hi : Nat} {D : List HRow} (o : Own (u := .int .i64) 2 D lo hi hs vs) (h : smallF (vs, c)) :
    ∃ k cs vs' D', laws_markFlash.H N ((hs, c), 1) D = some ((k, cs), D') ∧ 0 ≤ k ∧ Fr lo hi D D' ∧ Own (u := .int .i64) 2 D' lo hi hs vs' ∧ laws_heldFlash.F N ((vs', cs), 1) = some k := by
  have hal := h.1.1
  have hcl := h.2
  simp only at hal hcl
  obtain ⟨c1, vs', D', e1, e2, e3, e4, e5, e6, e7, e8⟩ := markSS_L1 N hN hs lo hi N 0 1 vs D h.1 (by omega) (by omega) (by omega) (by omega) o
  obtain ⟨c2, o2, m1, m2, m3, m4, m5⟩ := marksI_eq N c c1 (by omega) (by unfold maxN; omega) (by omega) (by omega)
  refine ⟨c2, o2, vs', D', ?_, by omega, e2, e3, ?_⟩
  · rw [laws_markFlash.H_eq, laws_markIntSS.H_eq]
    simp only
    rw [show (0 : Int) = ((0 : Nat) : Int) from rfl, e1, bindV]
    simp only
    rw [m1, bindV]
  · rw [laws_heldFlash.F_eq, laws_heldIntSS.F_eq]
    simp only
    rw [show laws_heldIntSS.L1 N N vs' 1 0 = _ from e8, bindV, decide_eq_false (by omega), condF, m4, bindV, decide_eq_false (by omega), condF]
end Go.Kb
