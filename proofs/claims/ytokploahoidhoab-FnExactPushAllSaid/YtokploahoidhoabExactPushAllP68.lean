/- Pipes: what pushing and taking return, as plain values; the reference's side. -/
import Derived.Test.YtokploahoidhoabExactPushAllP75
import Derived.Test.YtokploahoidhoabExactPushAllP11
import Derived.Test.YtokploahoidhoabExactPushAllF22
namespace Go.Kb
set_option maxRecDepth 100000

theorem sameI_L1 (N : Nat) (l1 l2 : List Int) (hl : l1.length ≤ 1048576) (h2 : l2.length = l1.length) : ∀ (n i : Nat), i ≤ l1.length → l1.length < n + i →
    impl_sameInts.L1 N n l1 l2 (l1.length : Int) (i : Int) = some (decide (l1.drop i = l2.drop i)) := by
  intro n
  induction n with
  | zero => intro i h1 h3; omega
  | succ n ih =>
    intro i h1 h3
    rw [impl_sameInts.L1_eq]
    by_cases hi : i < l1.length
    · have hi2 : i < l2.length := by omega
      have ws : IntKind.wrap .i64 ((i : Int) + 1) = ((i + 1 : Nat) : Int) := wrap_succ (by omega)
      rw [drop_cons 0 l1 i hi, drop_cons 0 l2 i hi2]
      simp only [Int.ofNat_lt, hi, hi2, decide_true, condT, inRange_nat, nth_nat, ws, ih (i + 1) (by omega) (by omega), bneI]
      by_cases hx : l1.getD i 0 = l2.getD i 0
      · rw [decide_eq_true hx, notT, condF, hx]
        simp only [List.cons.injEq, true_and]
      · rw [decide_eq_false hx, notF, condT]
        simp only [List.cons.injEq, hx, false_and, decide_false]
    · rw [List.drop_eq_nil_of_le (by omega), List.drop_eq_nil_of_le (by omega)]
      simp only [Int.ofNat_lt, hi, decide_false, condF, decide_true]
theorem SameR_eq (N : Nat) (hN : 1048576 < N) (a b : Rpt) (ha : smallR a) : impl_SameReport.F N (a, b) = some (decide (a = b)) := by
  unfold smallR at ha
  rw [impl_SameReport.F_eq, impl_sameInts.F_eq]
  obtain ⟨m1, l1⟩ := a
  obtain ⟨m2, l2⟩ := b
  simp only at ha ⊢
  by_cases h : m1 = m2
  · have e2 : (m1 == m2) = true := by rw [beqI, decide_eq_true h]
    rw [e2, condT]
    by_cases hl : l1.length = l2.length
    · have e3 : ((l1.length : Int) != (l2.length : Int)) = false := by rw [bneI, decide_eq_true (by omega), notT]
      have d := sameI_L1 N l1 l2 ha hl.symm N 0 (by omega) (by omega)
      rw [Int.natCast_zero, List.drop_zero, List.drop_zero] at d
      simp only [e3, condF, d, bindV, Prod.mk.injEq, h, true_and]
    · have e3 : ((l1.length : Int) != (l2.length : Int)) = true := by rw [bneI, decide_eq_false (by omega), notF]
      have : ¬ (l1 = l2) := fun e => hl (by rw [e])
      simp only [e3, condT, bindV, Prod.mk.injEq, this, and_false, decide_false]
  · have e2 : (m1 == m2) = false := by rw [beqI, decide_eq_false h]
    simp only [e2, condF, Prod.mk.injEq, h, false_and, decide_false]

/-! ### is it a pipe? -/
def chain : Rpt → List Rpt → Bool
  | _, [] => true
  | a, r :: l => rpB r && (!decide (a = r) && chain r l)
def ipB (p : Rpt × List Rpt) : Bool := rpB p.1 && (decide (p.2.length ≤ 8) && chain p.1 p.2)
theorem IsPipe_v (N : Nat) (hN : 1048576 < N) (l : List Rpt) (hl : smallRS l) : ∀ (n i : Nat) (c : Rpt), smallR c → i ≤ l.length → l.length < n + i →
    impl_IsPipe.L1 N n l (l.length : Int) (i : Int) c.1 c.2 = some (chain c (l.drop i)) := by
  intro n
  induction n with
  | zero => intro i c hc h1 h2; omega
  | succ n ih =>
    intro i c hc h1 h2
    have hl1 := hl.1
    rw [impl_IsPipe.L1_eq]
    by_cases hi : i < l.length
    · have hs := hl.2 _ (nth_mem (0, []) l i hi)
      have g2' : impl_SameReport.F N ((c.1, c.2), l.getD i (0, [])) = some (decide (c = l.getD i (0, []))) := SameR_eq N hN c _ hc
      have ws : IntKind.wrap .i64 ((i : Int) + 1) = ((i + 1 : Nat) : Int) := wrap_succ (by omega)
      rw [drop_cons (0, []) l i hi, chain]
      simp only [Int.ofNat_lt, hi, decide_true, condT, inRange_nat, nth_nat, ws, IsReport_eq N hN _ hs, g2', bindV, ih (i + 1) (l.getD i (0, [])) hs (by omega) (by omega)]
      cases rpB (l.getD i (0, [])) with
      | false => rfl
      | true =>
        simp only [notT, condF, Bool.true_and]
        cases decide (c = l.getD i (0, [])) with
        | true => rfl
        | false => rfl
    · rw [List.drop_eq_nil_of_le (by omega)]
      simp only [Int.ofNat_lt, hi, decide_false, condF]
      rfl
theorem IsPipe_eq (N : Nat) (hN : 1048576 < N) (p : Rpt × List Rpt) (h1 : smallR p.1) (h2 : smallRS p.2) : impl_IsPipe.F N p = some (ipB p) := by
  have e1 := IsPipe_v N hN p.2 h2 N 0 p.1 h1 (by omega) (by have := h2.1; omega)
  rw [Int.natCast_zero, List.drop_zero] at e1
  rw [impl_IsPipe.F_eq, IsReport_eq N hN p.1 h1, bindV, e1]
  unfold ipB
  cases rpB p.1 with
  | false => rfl
  | true =>
    simp only [notT, condF, Bool.true_and]
    by_cases h : p.2.length ≤ 8
    · rw [decide_eq_false (by omega : ¬ (p.2.length : Int) > 8), decide_eq_true h]; simp only [condF, Bool.true_and]
    · rw [decide_eq_true (by omega : (p.2.length : Int) > 8), decide_eq_false h]; simp only [condT, Bool.false_and]

/-! ### copies -/
theorem copyR_eq (N : Nat) (r : Rpt) (h : smallR r) : impl_copyReport.F N r = some r := by
  unfold smallR at h
  rw [impl_copyReport.F_eq, impl_copyInts.F_eq, decide_eq_true (by unfold maxN; omega), condT, bindV]
theorem copyR_eqS (N : Nat) (r : Rpt) (h : smallR r) : spec_l7Copy.F N r = some r := by
  unfold smallR at h
  rw [spec_l7Copy.F_eq, decide_eq_true (by unfold maxN; simp; omega), condT, List.nil_append]
theorem copyP_L1S (N : Nat) (l : List Rpt) (hl : smallRS l) (m0 : Int) (ks0 : List Int) (m : Int) (ks : List Int) : ∀ (n i : Nat) (o : List Rpt), i ≤ l.length → l.length < n + i → o.length = i →
    spec_l13Copy.L1 N n (i : Int) m0 ks0 l m ks o = some ((m, ks), o ++ l.drop i) := by
  intro n
  induction n with
  | zero => intro i o h1 h2; omega
  | succ n ih =>
    intro i o h1 h2 h3
    have hl1 := hl.1
    rw [spec_l13Copy.L1_eq]
    by_cases hi : i < l.length
    · have hs := hl.2 _ (nth_mem (0, []) l i hi)
      have ws : IntKind.wrap .i64 ((i : Int) + 1) = ((i + 1 : Nat) : Int) := wrap_succ (by omega)
      have hmx : o.length + List.length ([l.getD i (0, [])] : List Rpt) ≤ maxN := by unfold maxN; simp; omega
      rw [drop_cons (0, []) l i hi]
      simp only [Int.ofNat_lt, hi, decide_true, condT, inRange_nat, nth_nat, ws, copyR_eqS N _ hs, bindV, hmx]
      rw [ih (i + 1) _ (by omega) (by omega) (by simp [h3])]
      simp
    · rw [List.drop_eq_nil_of_le (by omega)]
      simp only [Int.ofNat_lt, hi, decide_false, condF, List.append_nil]
theorem copyP_eqS (N : Nat) (hN : 1048576 < N) (p : Rpt × List Rpt) (h1 : smallR p.1) (h2 : smallRS p.2) : spec_l13Copy.F N p = some p := by
  have e := copyP_L1S N p.2 h2 p.1.1 p.1.2 p.1.1 p.1.2 N 0 [] (by omega) (by have := h2.1; omega) rfl
  rw [Int.natCast_zero, List.drop_zero, List.nil_append] at e
  rw [spec_l13Copy.F_eq, copyR_eqS N _ h1, bindV]
  exact e

def lastR : Rpt → List Rpt → Rpt
  | a, [] => a
  | _, r :: l => lastR r l
theorem lastR_getD (a d : Rpt) (l : List Rpt) : (a :: l).getD l.length d = lastR a l := by
  induction l generalizing a with
  | nil => rfl
  | cons x l ih => exact ih x
def dropF : Rpt → List Rpt → Option (List Rpt)
  | _, [] => none
  | _, [_] => none
  | a, b :: c :: r => bif mdB a b c then some (c :: r) else (dropF b (c :: r)).map (b :: ·)
theorem dropF_two (a b c : Rpt) (r : List Rpt) : dropF a (b :: c :: r) = bif mdB a b c then some (c :: r) else (dropF b (c :: r)).map (b :: ·) := rfl

theorem drop_two (l : List Rpt) (i : Nat) (h : i + 1 < l.length) : l.drop i = l.getD i (0, []) :: l.getD (i + 1) (0, []) :: l.drop (i + 2) := by
  rw [drop_cons (0, []) l i (by omega), drop_cons (0, []) l (i + 1) h]

def pushV (p : Rpt × List Rpt) (r : Rpt) : Option (Rpt × List Rpt) :=
  if lastR p.1 p.2 = r then some p else if p.2.length + 1 ≤ 8 then some (p.1, p.2 ++ [r]) else (dropF p.1 (p.2 ++ [r])).map fun w => (p.1, w)


theorem DropS_eq (N : Nat) (hN : 1048576 < N) (A : List Rpt) (hA : smallRS A) (m : Int) (ks : List Int) : ∀ (n i : Nat) (c : Rpt), smallR c → i ≤ A.length → A.length < n + i →
    spec_l13Drop.L1 N n (i : Int) m ks A c.1 c.2 = match dropF c (A.drop i) with
      | some t => some (true, ((m, ks), A.take i ++ t))
      | none => some (false, ((m, ks), A)) := by
  intro n
  induction n with
  | zero => intro i c hc h1 h2; omega
  | succ n ih =>
    intro i c hc h1 h2
    have hl1 := hA.1
    have ws : IntKind.wrap .i64 ((i : Int) + 1) = ((i + 1 : Nat) : Int) := wrap_succ (by omega)
    rw [spec_l13Drop.L1_eq, ws]
    by_cases hi : i + 1 < A.length
    · have s1 := hA.2 _ (nth_mem (0, []) A i (by omega))
      have s2 := hA.2 _ (nth_mem (0, []) A (i + 1) (by omega))
      have i0 : i < A.length := by omega
      rw [drop_two A i hi, dropF_two]
      obtain ⟨x, x1, x2⟩ := MayDrop_same N hN c _ _ hc s1 s2
      rw [MayDrop_eq N hN _ _ _ hc s1 s2] at x2
      have x2 := (Option.some.inj x2).symm
      subst x2
      have x1' : spec_MayDrop.F N ((c.1, c.2), (A.getD i (0, []), A.getD (i + 1) (0, []))) = some (mdB c (A.getD i (0, [])) (A.getD (i + 1) (0, []))) := x1
      have b1 : (decide (0 ≤ (i : Int)) && decide ((i : Int) ≤ (A.length : Int))) = true := by rw [decide_eq_true (by omega), decide_eq_true (by omega)]; rfl
      have b2 : decide (List.length ([] : List Rpt) + List.length (List.take i A) ≤ maxN) = true := decide_eq_true (by unfold maxN; simp; omega)
      have b3 : (decide (0 ≤ ((i + 1 : Nat) : Int)) && decide (((i + 1 : Nat) : Int) ≤ (A.length : Int))) = true := by rw [decide_eq_true (by omega), decide_eq_true (by omega)]; rfl
      have b4 : decide (List.length (([] : List Rpt) ++ List.take i A) + List.length (List.drop (i + 1) A) ≤ maxN) = true := decide_eq_true (by unfold maxN; simp; omega)
      rw [decide_eq_true (Int.ofNat_lt.mpr hi), condT, inRange_nat, decide_eq_true i0, condT, inRange_nat, decide_eq_true hi, condT, nth_nat, nth_nat, x1', bindV]
      cases hmd : mdB c (A.getD i (0, [])) (A.getD (i + 1) (0, [])) with
      | true =>
        rw [condT, condT, b1, condT, Int.toNat_natCast, Int.toNat_natCast, b2, condT, b3, condT, b4, condT, List.nil_append, drop_cons (0, []) A (i + 1) hi]
      | false =>
        rw [condF, condF, condT]
        have e := ih (i + 1) (A.getD i (0, [])) s1 (by omega) (by omega)
        rw [e, drop_cons (0, []) A (i + 1) hi]
        cases hq : dropF (A.getD i (0, [])) (A.getD (i + 1) (0, []) :: A.drop (i + 1 + 1)) with
        | none => rfl
        | some t =>
          simp only [Option.map_some]
          have e3 : A.take (i + 1) = A.take i ++ [A.getD i (0, [])] := by
            rw [List.take_add_one, List.getElem?_eq_getElem i0, List.getD_eq_getElem?_getD, List.getElem?_eq_getElem i0]; rfl
          rw [e3, List.append_assoc]; rfl
    · rw [decide_eq_false (by omega), condF]
      have hd : dropF c (A.drop i) = none := by
        by_cases hj : i < A.length
        · rw [drop_cons (0, []) A i hj, List.drop_eq_nil_of_le (by omega)]; rfl
        · rw [List.drop_eq_nil_of_le (by omega)]; rfl
      rw [hd]

/-! ### the reference's values -/
abbrev Pp := Rpt × List Rpt
def zeroP : Pp := ((0, []), [])
def pushB (p : Pp) (r : Rpt) : Pp × Bool := bif ipB p && rpB r then (match pushV p r with | some q => (q, true) | none => (zeroP, false)) else (zeroP, false)
def smallP (p : Pp) : Prop := smallR p.1 ∧ smallRS p.2

theorem IsPipeS (N : Nat) (hN : 1048576 < N) (p : Pp) (h : smallP p) : spec_IsPipe.F N p = some (ipB p) := by
  obtain ⟨x1, x2, x3⟩ := IsPipe_same N hN p h.1 h.2
  rw [IsPipe_eq N hN p h.1 h.2] at x3
  rw [x2, ← x3]
theorem IsReportS (N : Nat) (hN : 1048576 < N) (r : Rpt) (h : smallR r) : spec_IsReport.F N r = some (rpB r) := by
  obtain ⟨x1, x2, x3⟩ := IsReport_same N hN r h
  rw [IsReport_eq N hN r h] at x3
  rw [x2, ← x3]
theorem SameRS (N : Nat) (hN : 1048576 < N) (a b : Rpt) (h : smallR a) : spec_SameReport.F N (a, b) = some (decide (a = b)) := by
  obtain ⟨x1, x2, x3⟩ := SameR_same N hN a b h
  rw [SameR_eq N hN a b h] at x3
  rw [x2, ← x3]

theorem last_getD (a : Rpt) (l : List Rpt) (hl : 0 < l.length) : l.getD (l.length - 1) (0, []) = lastR a l := by
  cases l with
  | nil => simp at hl
  | cons b l => exact lastR_getD b (0, []) l
theorem PushS (N : Nat) (hN : 1048576 < N) (p : Pp) (r : Rpt) (h : smallP p) (hr : smallR r) : spec_PushReport.F N (p, r) = some (pushB p r) := by
  have hl := h.2.1
  rw [spec_PushReport.F_eq, IsPipeS N hN p h, bindV]
  unfold pushB
  cases hk : ipB p
  · rw [notF, condT, Bool.false_and, condF]; rfl
  have hl8 : p.2.length ≤ 8 := by
    unfold ipB at hk
    simp only [Bool.and_eq_true, decide_eq_true_eq] at hk
    exact hk.2.1
  rw [notT, condF, IsReportS N hN r hr, bindV, Bool.true_and]
  cases hk2 : rpB r
  · rw [notF, condT, condF]; rfl
  rw [notT, condF, condT, copyP_eqS N hN p h.1 h.2, bindV, copyR_eqS N r hr]
  unfold pushV
  have cap : decide (p.2.length + List.length [r] ≤ maxN) = true := decide_eq_true (by unfold maxN; show p.2.length + 1 ≤ _; omega)
  have tail : (bif decide ((List.length (p.2 ++ [r]) : Int) > 8) then bindO (spec_l13Drop.F N (p.1, p.2 ++ [r])) fun r6 => bif !r6.1 then some ((((0 : Int), ([] : List Int)), ([] : List (Int × List Int))), false) else some (r6.2, true) else some ((p.1, p.2 ++ [r]), true))
      = some (match (if p.2.length + 1 ≤ 8 then some (p.1, p.2 ++ [r]) else (dropF p.1 (p.2 ++ [r])).map fun w => (p.1, w)) with | some q => (q, true) | none => (zeroP, false)) := by
    by_cases h8 : p.2.length + 1 ≤ 8
    · rw [decide_eq_false (by simp; omega), condF, if_pos h8]
    · rw [decide_eq_true (by simp; omega), condT, if_neg h8, spec_l13Drop.F_eq]
      have hS2 : smallRS (p.2 ++ [r]) := by
        refine ⟨by simp; omega, fun x hx => ?_⟩
        simp only [List.mem_append, List.mem_cons, List.not_mem_nil, or_false] at hx
        rcases hx with hx | rfl
        · exact h.2.2 x hx
        · exact hr
      have e := DropS_eq N hN (p.2 ++ [r]) hS2 p.1.1 p.1.2 N 0 p.1 h.1 (by omega) (by simp; omega)
      rw [show ((0 : Nat) : Int) = 0 from rfl, List.drop_zero, List.take_zero] at e
      simp only
      rw [e]
      cases dropF p.1 (p.2 ++ [r]) with
      | none => rw [bindV, notF, condT]; rfl
      | some t => rw [bindV, notT, condF]; rfl
  by_cases h0 : 0 < p.2.length
  · have w1 : IntKind.wrap .i64 ((p.2.length : Int) - 1) = ((p.2.length - 1 : Nat) : Int) := by rw [wrap64 (by omega) (by omega)]; omega
    rw [decide_eq_true (show (p.2.length : Int) > 0 by omega), condT, w1, inRange_nat, decide_eq_true (by omega), condT, nth_nat, last_getD p.1 p.2 h0, SameRS N hN _ _ (by rw [← last_getD p.1 p.2 h0]; exact h.2.2 _ (nth_mem _ _ _ (by omega))), bindV]
    by_cases hs : lastR p.1 p.2 = r
    · rw [decide_eq_true hs, condT, if_pos hs]
    · rw [decide_eq_false hs, condF, if_neg hs, bindV, cap, condT]
      exact tail
  · have hn : p.2 = [] := List.length_eq_zero_iff.mp (by omega)
    have hlast : lastR p.1 p.2 = p.1 := by rw [hn]; rfl
    rw [decide_eq_false (show ¬ (p.2.length : Int) > 0 by omega), condF, SameRS N hN _ _ h.1, bindV, hlast]
    by_cases hs : p.1 = r
    · rw [decide_eq_true hs, condT, if_pos hs]
    · rw [decide_eq_false hs, condF, if_neg hs, bindV, cap, condT]
      exact tail
end Go.Kb
