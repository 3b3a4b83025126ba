/- Pipes: what pushing and taking return, as plain values; the reference's side. -/
import Derived.Test.YtokploahoidhoabExactTakeReportP75
import Derived.Test.YtokploahoidhoabExactTakeReportP11
import Derived.Test.YtokploahoidhoabExactTakeReportF22
namespace Go.Kb
set_option maxRecDepth 100000

theorem sameI_L1 (N : Nat) (l1 l2 : List Int) (hl : l1.length ≤ 1048576) (h2 : l2.length = l1.length) : ∀ (n i : Nat), i ≤ l1.length → l1.length < n + i →
    impl_sameInts.L1 N n l1 l2 (l1.length : Int) (i : Int) = some (decide (l1.drop i = l2.drop i)) := by
  intro n
  induction n with
  | zero => intro i h1 h3; omega
  | succ n ih =>
    intro i h1 h3
    rw [impl_sameInts.L1_eq]
    by_cases hi : i < l1.length
    · have hi2 : i < l2.length := by omega
      have ws : IntKind.wrap .i64 ((i : Int) + 1) = ((i + 1 : Nat) : Int) := wrap_succ (by omega)
      rw [drop_cons 0 l1 i hi, drop_cons 0 l2 i hi2]
      simp only [Int.ofNat_lt, hi, hi2, decide_true, condT, inRange_nat, nth_nat, ws, ih (i + 1) (by omega) (by omega), bneI]
      by_cases hx : l1.getD i 0 = l2.getD i 0
      · rw [decide_eq_true hx, notT, condF, hx]
        simp only [List.cons.injEq, true_and]
      · rw [decide_eq_false hx, notF, condT]
        simp only [List.cons.injEq, hx, false_and, decide_false]
    · rw [List.drop_eq_nil_of_le (by omega), List.drop_eq_nil_of_le (by omega)]
      simp only [Int.ofNat_lt, hi, decide_false, condF, decide_true]
theorem SameR_eq (N : Nat) (hN : 1048576 < N) (a b : Rpt) (ha : smallR a) : impl_SameReport.F N (a, b) = some (decide (a = b)) := by
  unfold smallR at ha
  rw [impl_SameReport.F_eq, impl_sameInts.F_eq]
  obtain ⟨m1, l1⟩ := a
  obtain ⟨m2, l2⟩ := b
  simp only at ha ⊢
  by_cases h : m1 = m2
  · have e2 : (m1 == m2) = true := by rw [beqI, decide_eq_true h]
    rw [e2, condT]
    by_cases hl : l1.length = l2.length
    · have e3 : ((l1.length : Int) != (l2.length : Int)) = false := by rw [bneI, decide_eq_true (by omega), notT]
      have d := sameI_L1 N l1 l2 ha hl.symm N 0 (by omega) (by omega)
      rw [Int.natCast_zero, List.drop_zero, List.drop_zero] at d
      simp only [e3, condF, d, bindV, Prod.mk.injEq, h, true_and]
    · have e3 : ((l1.length : Int) != (l2.length : Int)) = true := by rw [bneI, decide_eq_false (by omega), notF]
      have : ¬ (l1 = l2) := fun e => hl (by rw [e])
      simp only [e3, condT, bindV, Prod.mk.injEq, this, and_false, decide_false]
  · have e2 : (m1 == m2) = false := by rw [beqI, decide_eq_false h]
    simp only [e2, condF, Prod.mk.injEq, h, false_and, decide_false]

/-! ### is it a pipe? -/
def chain : Rpt → List Rpt → Bool
  | _, [] => true
  | a, r :: l => rpB r && (!decide (a = r) && chain r l)
def ipB (p : Rpt × List Rpt) : Bool := rpB p.1 && (decide (p.2.length ≤ 8) && chain p.1 p.2)
theorem IsPipe_v (N : Nat) (hN : 1048576 < N) (l : List Rpt) (hl : smallRS l) : ∀ (n i : Nat) (c : Rpt), smallR c → i ≤ l.length → l.length < n + i →
    impl_IsPipe.L1 N n l (l.length : Int) (i : Int) c.1 c.2 = some (chain c (l.drop i)) := by
  intro n
  induction n with
  | zero => intro i c hc h1 h2; omega
  | succ n ih =>
    intro i c hc h1 h2
    have hl1 := hl.1
    rw [impl_IsPipe.L1_eq]
    by_cases hi : i < l.length
    · have hs := hl.2 _ (nth_mem (0, []) l i hi)
      have g2' : impl_SameReport.F N ((c.1, c.2), l.getD i (0, [])) = some (decide (c = l.getD i (0, []))) := SameR_eq N hN c _ hc
      have ws : IntKind.wrap .i64 ((i : Int) + 1) = ((i + 1 : Nat) : Int) := wrap_succ (by omega)
      rw [drop_cons (0, []) l i hi, chain]
      simp only [Int.ofNat_lt, hi, decide_true, condT, inRange_nat, nth_nat, ws, IsReport_eq N hN _ hs, g2', bindV, ih (i + 1) (l.getD i (0, [])) hs (by omega) (by omega)]
      cases rpB (l.getD i (0, [])) with
      | false => rfl
      | true =>
        simp only [notT, condF, Bool.true_and]
        cases decide (c = l.getD i (0, [])) with
        | true => rfl
        | false => rfl
    · rw [List.drop_eq_nil_of_le (by omega)]
      simp only [Int.ofNat_lt, hi, decide_false, condF]
      rfl
theorem IsPipe_eq (N : Nat) (hN : 1048576 < N) (p : Rpt × List Rpt) (h1 : smallR p.1) (h2 : smallRS p.2) : impl_IsPipe.F N p = some (ipB p) := by
  have e1 := IsPipe_v N hN p.2 h2 N 0 p.1 h1 (by omega) (by have := h2.1; omega)
  rw [Int.natCast_zero, List.drop_zero] at e1
  rw [impl_IsPipe.F_eq, IsReport_eq N hN p.1 h1, bindV, e1]
  unfold ipB
  cases rpB p.1 with
  | false => rfl
  | true =>
    simp only [notT, condF, Bool.true_and]
    by_cases h : p.2.length ≤ 8
    · rw [decide_eq_false (by omega : ¬ (p.2.length : Int) > 8), decide_eq_true h]; simp only [condF, Bool.true_and]
    · rw [decide_eq_true (by omega : (p.2.length : Int) > 8), decide_eq_false h]; simp only [condT, Bool.false_and]

/-! ### copies -/
theorem copyR_eq (N : Nat) (r : Rpt) (h : smallR r) : impl_copyReport.F N r = some r := by
  unfold smallR at h
  rw [impl_copyReport.F_eq, impl_copyInts.F_eq, decide_eq_true (by unfold maxN; omega), condT, bindV]
theorem copyR_eqS (N : Nat) (r : Rpt) (h : smallR r) : spec_l7Copy.F N r = some r := by
  unfold smallR at h
  rw [spec_l7Copy.F_eq, decide_eq_true (by unfold maxN; simp; omega), condT, List.nil_append]
theorem copyP_L1S (N : Nat) (l : List Rpt) (hl : smallRS l) (m0 : Int) (ks0 : List Int) (m : Int) (ks : List Int) : ∀ (n i : Nat) (o : List Rpt), i ≤ l.length → l.length < n + i → o.length = i →
    spec_l13Copy.L1 N n (i : Int) m0 ks0 l m ks o = some ((m, ks), o ++ l.drop i) := by
  intro n
  induction n with
  | zero => intro i o h1 h2; omega
  | succ n ih =>
    intro i o h1 h2 h3
    have hl1 := hl.1
    rw [spec_l13Copy.L1_eq]
    by_cases hi : i < l.length
    · have hs := hl.2 _ (nth_mem (0, []) l i hi)
      have ws : IntKind.wrap .i64 ((i : Int) + 1) = ((i + 1 : Nat) : Int) := wrap_succ (by omega)
      have hmx : o.length + List.length ([l.getD i (0, [])] : List Rpt) ≤ maxN := by unfold maxN; simp; omega
      rw [drop_cons (0, []) l i hi]
      simp only [Int.ofNat_lt, hi, decide_true, condT, inRange_nat, nth_nat, ws, copyR_eqS N _ hs, bindV, hmx]
      rw [ih (i + 1) _ (by omega) (by omega) (by simp [h3])]
      simp
    · rw [List.drop_eq_nil_of_le (by omega)]
      simp only [Int.ofNat_lt, hi, decide_false, condF, List.append_nil]
theorem copyP_eqS (N : Nat) (hN : 1048576 < N) (p : Rpt × List Rpt) (h1 : smallR p.1) (h2 : smallRS p.2) : spec_l13Copy.F N p = some p := by
  have e := copyP_L1S N p.2 h2 p.1.1 p.1.2 p.1.1 p.1.2 N 0 [] (by omega) (by have := h2.1; omega) rfl
  rw [Int.natCast_zero, List.drop_zero, List.nil_append] at e
  rw [spec_l13Copy.F_eq, copyR_eqS N _ h1, bindV]
  exact e

/-! ### the reference's values -/
abbrev Pp := Rpt × List Rpt
def zeroP : Pp := ((0, []), [])
def takeB (p : Pp) : Pp × Bool := bif ipB p then (match p.2 with | [] => (zeroP, false) | x :: w => ((x, w), true)) else (zeroP, false)
def smallP (p : Pp) : Prop := smallR p.1 ∧ smallRS p.2

theorem IsPipeS (N : Nat) (hN : 1048576 < N) (p : Pp) (h : smallP p) : spec_IsPipe.F N p = some (ipB p) := by
  obtain ⟨x1, x2, x3⟩ := IsPipe_same N hN p h.1 h.2
  rw [IsPipe_eq N hN p h.1 h.2] at x3
  rw [x2, ← x3]
theorem TakeS (N : Nat) (hN : 1048576 < N) (p : Pp) (h : smallP p) : spec_TakeReport.F N p = some (takeB p) := by
  rw [spec_TakeReport.F_eq, IsPipeS N hN p h, bindV]
  unfold takeB
  cases hk : ipB p
  · rw [notF, condT, condF]; rfl
  rw [notT, condF, condT, copyP_eqS N hN p h.1 h.2, beqI]
  obtain ⟨a, w⟩ := p
  cases w with
  | nil => rw [decide_eq_true (by rfl), condT]; rfl
  | cons x w =>
    have e2 : inRange 0 (x :: w).length = true := by have := inRange_nat 0 (x :: w).length; rw [decide_eq_true (by simp)] at this; exact this
    have e3 : (decide ((0 : Int) ≤ 1) && decide ((1 : Int) ≤ ((x :: w).length : Int))) = true := by
      rw [decide_eq_true (by omega), decide_eq_true (by simp; omega)]; rfl
    rw [decide_eq_false (by simp; omega), condF, bindV]
    simp only
    rw [e2, condT, e3, condT]
    rfl

end Go.Kb
