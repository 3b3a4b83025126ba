/- Pipes: what pushing and taking return, as plain values. -/
import Derived.Test.YtipjdpnpahhndaaDoorPipeP45
import Derived.Test.YtipjdpnpahhndaaDoorPipeP11
import Derived.Test.YtipjdpnpahhndaaDoorPipeF11
namespace Go.Kb
set_option maxRecDepth 100000

theorem sameI_L1 (N : Nat) (l1 l2 : List Int) (hl : l1.length ≤ 1048576) (h2 : l2.length = l1.length) : ∀ (n i : Nat), i ≤ l1.length → l1.length < n + i →
    impl_sameInts.L1 N n l1 l2 (l1.length : Int) (i : Int) = some (decide (l1.drop i = l2.drop i)) := by
  intro n
  induction n with
  | zero => intro i h1 h3; omega
  | succ n ih =>
    intro i h1 h3
    rw [impl_sameInts.L1_eq]
    by_cases hi : i < l1.length
    · have hi2 : i < l2.length := by omega
      have ws : IntKind.wrap .i64 ((i : Int) + 1) = ((i + 1 : Nat) : Int) := wrap_succ (by omega)
      rw [drop_cons 0 l1 i hi, drop_cons 0 l2 i hi2]
      simp only [Int.ofNat_lt, hi, hi2, decide_true, condT, inRange_nat, nth_nat, ws, ih (i + 1) (by omega) (by omega), bneI]
      by_cases hx : l1.getD i 0 = l2.getD i 0
      · rw [decide_eq_true hx, notT, condF, hx]
        simp only [List.cons.injEq, true_and]
      · rw [decide_eq_false hx, notF, condT]
        simp only [List.cons.injEq, hx, false_and, decide_false]
    · rw [List.drop_eq_nil_of_le (by omega), List.drop_eq_nil_of_le (by omega)]
      simp only [Int.ofNat_lt, hi, decide_false, condF, decide_true]
theorem SameR_eq (N : Nat) (hN : 1048576 < N) (a b : Rpt) (ha : smallR a) : impl_SameReport.F N (a, b) = some (decide (a = b)) := by
  unfold smallR at ha
  rw [impl_SameReport.F_eq, impl_sameInts.F_eq]
  obtain ⟨m1, l1⟩ := a
  obtain ⟨m2, l2⟩ := b
  simp only at ha ⊢
  by_cases h : m1 = m2
  · have e2 : (m1 == m2) = true := by rw [beqI, decide_eq_true h]
    rw [e2, condT]
    by_cases hl : l1.length = l2.length
    · have e3 : ((l1.length : Int) != (l2.length : Int)) = false := by rw [bneI, decide_eq_true (by omega), notT]
      have d := sameI_L1 N l1 l2 ha hl.symm N 0 (by omega) (by omega)
      rw [Int.natCast_zero, List.drop_zero, List.drop_zero] at d
      simp only [e3, condF, d, bindV, Prod.mk.injEq, h, true_and]
    · have e3 : ((l1.length : Int) != (l2.length : Int)) = true := by rw [bneI, decide_eq_false (by omega), notF]
      have : ¬ (l1 = l2) := fun e => hl (by rw [e])
      simp only [e3, condT, bindV, Prod.mk.injEq, this, and_false, decide_false]
  · have e2 : (m1 == m2) = false := by rw [beqI, decide_eq_false h]
    simp only [e2, condF, Prod.mk.injEq, h, false_and, decide_false]

/-! ### is it a pipe? -/
def chain : Rpt → List Rpt → Bool
  | _, [] => true
  | a, r :: l => rpB r && (!decide (a = r) && chain r l)
def ipB (p : Rpt × List Rpt) : Bool := rpB p.1 && (decide (p.2.length ≤ 8) && chain p.1 p.2)
theorem IsPipe_v (N : Nat) (hN : 1048576 < N) (l : List Rpt) (hl : smallRS l) : ∀ (n i : Nat) (c : Rpt), smallR c → i ≤ l.length → l.length < n + i →
    impl_IsPipe.L1 N n l (l.length : Int) (i : Int) c.1 c.2 = some (chain c (l.drop i)) := by
  intro n
  induction n with
  | zero => intro i c hc h1 h2; omega
  | succ n ih =>
    intro i c hc h1 h2
    have hl1 := hl.1
    rw [impl_IsPipe.L1_eq]
    by_cases hi : i < l.length
    · have hs := hl.2 _ (nth_mem (0, []) l i hi)
      have g2' : impl_SameReport.F N ((c.1, c.2), l.getD i (0, [])) = some (decide (c = l.getD i (0, []))) := SameR_eq N hN c _ hc
      have ws : IntKind.wrap .i64 ((i : Int) + 1) = ((i + 1 : Nat) : Int) := wrap_succ (by omega)
      rw [drop_cons (0, []) l i hi, chain]
      simp only [Int.ofNat_lt, hi, decide_true, condT, inRange_nat, nth_nat, ws, IsReport_eq N hN _ hs, g2', bindV, ih (i + 1) (l.getD i (0, [])) hs (by omega) (by omega)]
      cases rpB (l.getD i (0, [])) with
      | false => rfl
      | true =>
        simp only [notT, condF, Bool.true_and]
        cases decide (c = l.getD i (0, [])) with
        | true => rfl
        | false => rfl
    · rw [List.drop_eq_nil_of_le (by omega)]
      simp only [Int.ofNat_lt, hi, decide_false, condF]
      rfl
theorem IsPipe_eq (N : Nat) (hN : 1048576 < N) (p : Rpt × List Rpt) (h1 : smallR p.1) (h2 : smallRS p.2) : impl_IsPipe.F N p = some (ipB p) := by
  have e1 := IsPipe_v N hN p.2 h2 N 0 p.1 h1 (by omega) (by have := h2.1; omega)
  rw [Int.natCast_zero, List.drop_zero] at e1
  rw [impl_IsPipe.F_eq, IsReport_eq N hN p.1 h1, bindV, e1]
  unfold ipB
  cases rpB p.1 with
  | false => rfl
  | true =>
    simp only [notT, condF, Bool.true_and]
    by_cases h : p.2.length ≤ 8
    · rw [decide_eq_false (by omega : ¬ (p.2.length : Int) > 8), decide_eq_true h]; simp only [condF, Bool.true_and]
    · rw [decide_eq_true (by omega : (p.2.length : Int) > 8), decide_eq_false h]; simp only [condT, Bool.false_and]

/-! ### copies -/
theorem copyR_eq (N : Nat) (r : Rpt) (h : smallR r) : impl_copyReport.F N r = some r := by
  unfold smallR at h
  rw [impl_copyReport.F_eq, impl_copyInts.F_eq, decide_eq_true (by unfold maxN; omega), condT, bindV]
theorem copyR_eqS (N : Nat) (r : Rpt) (h : smallR r) : spec_l7Copy.F N r = some r := by
  unfold smallR at h
  rw [spec_l7Copy.F_eq, decide_eq_true (by unfold maxN; simp; omega), condT, List.nil_append]
theorem copyP_L1 (N : Nat) (l : List Rpt) (hl : smallRS l) (m : Int) (ks : List Int) : ∀ (n i : Nat) (o : List Rpt), i ≤ l.length → l.length < n + i → o.length = i →
    impl_copyPipe.L1 N n l (l.length : Int) (i : Int) m ks o = some ((m, ks), o ++ l.drop i) := by
  intro n
  induction n with
  | zero => intro i o h1 h2; omega
  | succ n ih =>
    intro i o h1 h2 h3
    have hl1 := hl.1
    rw [impl_copyPipe.L1_eq]
    by_cases hi : i < l.length
    · have hs := hl.2 _ (nth_mem (0, []) l i hi)
      have ws : IntKind.wrap .i64 ((i : Int) + 1) = ((i + 1 : Nat) : Int) := wrap_succ (by omega)
      have hmx : o.length + List.length ([l.getD i (0, [])] : List Rpt) ≤ maxN := by unfold maxN; simp; omega
      rw [drop_cons (0, []) l i hi]
      simp only [Int.ofNat_lt, hi, decide_true, condT, inRange_nat, nth_nat, ws, copyR_eq N _ hs, bindV, hmx]
      rw [ih (i + 1) _ (by omega) (by omega) (by simp [h3])]
      simp
    · rw [List.drop_eq_nil_of_le (by omega)]
      simp only [Int.ofNat_lt, hi, decide_false, condF, List.append_nil]
theorem copyP_eq (N : Nat) (hN : 1048576 < N) (p : Rpt × List Rpt) (h1 : smallR p.1) (h2 : smallRS p.2) : impl_copyPipe.F N p = some p := by
  have e := copyP_L1 N p.2 h2 p.1.1 p.1.2 N 0 [] (by omega) (by have := h2.1; omega) rfl
  rw [Int.natCast_zero, List.drop_zero, List.nil_append] at e
  rw [impl_copyPipe.F_eq, copyR_eq N _ h1, bindV]
  exact e
theorem copyP_L1S (N : Nat) (l : List Rpt) (hl : smallRS l) (m0 : Int) (ks0 : List Int) (m : Int) (ks : List Int) : ∀ (n i : Nat) (o : List Rpt), i ≤ l.length → l.length < n + i → o.length = i →
    spec_l13Copy.L1 N n (i : Int) m0 ks0 l m ks o = some ((m, ks), o ++ l.drop i) := by
  intro n
  induction n with
  | zero => intro i o h1 h2; omega
  | succ n ih =>
    intro i o h1 h2 h3
    have hl1 := hl.1
    rw [spec_l13Copy.L1_eq]
    by_cases hi : i < l.length
    · have hs := hl.2 _ (nth_mem (0, []) l i hi)
      have ws : IntKind.wrap .i64 ((i : Int) + 1) = ((i + 1 : Nat) : Int) := wrap_succ (by omega)
      have hmx : o.length + List.length ([l.getD i (0, [])] : List Rpt) ≤ maxN := by unfold maxN; simp; omega
      rw [drop_cons (0, []) l i hi]
      simp only [Int.ofNat_lt, hi, decide_true, condT, inRange_nat, nth_nat, ws, copyR_eqS N _ hs, bindV, hmx]
      rw [ih (i + 1) _ (by omega) (by omega) (by simp [h3])]
      simp
    · rw [List.drop_eq_nil_of_le (by omega)]
      simp only [Int.ofNat_lt, hi, decide_false, condF, List.append_nil]
theorem copyP_eqS (N : Nat) (hN : 1048576 < N) (p : Rpt × List Rpt) (h1 : smallR p.1) (h2 : smallRS p.2) : spec_l13Copy.F N p = some p := by
  have e := copyP_L1S N p.2 h2 p.1.1 p.1.2 p.1.1 p.1.2 N 0 [] (by omega) (by have := h2.1; omega) rfl
  rw [Int.natCast_zero, List.drop_zero, List.nil_append] at e
  rw [spec_l13Copy.F_eq, copyR_eqS N _ h1, bindV]
  exact e

theorem Take_eq (N : Nat) (hN : 1048576 < N) (a x : Rpt) (w : List Rpt) (h1 : smallR a) (h2 : smallRS (x :: w)) (hp : ipB (a, x :: w) = true) : impl_TakeReport.F N (a, x :: w) = some ((x, w), true) := by
  rw [impl_TakeReport.F_eq, IsPipe_eq N hN _ h1 h2, hp, bindV, copyP_eq N hN _ h1 h2]
  have e : (((x :: w).length : Int) == 0) = false := by rw [beqI, decide_eq_false (by simp; omega)]
  have e2 : inRange 0 (x :: w).length = true := by have := inRange_nat 0 (x :: w).length; rw [decide_eq_true (by simp)] at this; exact this
  have e3 : (decide ((0 : Int) ≤ 1) && decide ((1 : Int) ≤ ((x :: w).length : Int))) = true := by
    rw [decide_eq_true (by omega), decide_eq_true (by simp; omega)]; rfl
  simp only [notT, condF, e, bindV, e2, e3, condT]
  rfl

/-! ### pushing -/
def lastR : Rpt → List Rpt → Rpt
  | a, [] => a
  | _, r :: l => lastR r l
theorem lastR_append (a r : Rpt) (l : List Rpt) : lastR a (l ++ [r]) = r := by
  induction l generalizing a with
  | nil => rfl
  | cons x l ih => exact ih x
theorem lastR_app2 (a : Rpt) (l m : List Rpt) : lastR a (l ++ m) = lastR (lastR a l) m := by
  induction l generalizing a with
  | nil => rfl
  | cons x l ih => exact ih x
theorem lastR_getD (a d : Rpt) (l : List Rpt) : (a :: l).getD l.length d = lastR a l := by
  induction l generalizing a with
  | nil => rfl
  | cons x l ih => exact ih x
def dropF : Rpt → List Rpt → Option (List Rpt)
  | _, [] => none
  | _, [_] => none
  | a, b :: c :: r => bif mdB a b c then some (c :: r) else (dropF b (c :: r)).map (b :: ·)
theorem dropF_two (a b c : Rpt) (r : List Rpt) : dropF a (b :: c :: r) = bif mdB a b c then some (c :: r) else (dropF b (c :: r)).map (b :: ·) := rfl

theorem drop_two (l : List Rpt) (i : Nat) (h : i + 1 < l.length) : l.drop i = l.getD i (0, []) :: l.getD (i + 1) (0, []) :: l.drop (i + 2) := by
  rw [drop_cons (0, []) l i (by omega), drop_cons (0, []) l (i + 1) h]

theorem Push_L1 (N : Nat) (hN : 1048576 < N) (A : List Rpt) (hA : smallRS A) (m : Int) (ks : List Int) (o2 : List Rpt) : ∀ (n i : Nat), i + 1 ≤ A.length → A.length < n + i →
    impl_PushReport.L1 N n ((i + 1 : Nat) : Int) m ks o2 A = match dropF (A.getD i (0, [])) (A.drop (i + 1)) with
      | some t => some (((m, ks), (A.take (i + 1)).drop 1 ++ t), true)
      | none => some ((((0, []), []) : Rpt × List Rpt), false) := by
  intro n
  induction n with
  | zero => intro i h1 h2; omega
  | succ n ih =>
    intro i h1 h2
    have hl1 := hA.1
    have ws : IntKind.wrap .i64 (((i + 1 : Nat) : Int) + 1) = ((i + 2 : Nat) : Int) := wrap_succ (by omega)
    have wp : IntKind.wrap .i64 (((i + 1 : Nat) : Int) - 1) = ((i : Nat) : Int) := by rw [wrap64 (by omega) (by omega)]; omega
    rw [impl_PushReport.L1_eq, ws, wp]
    by_cases hi : i + 2 < A.length
    · have s0 := hA.2 _ (nth_mem (0, []) A i (by omega))
      have s1 := hA.2 _ (nth_mem (0, []) A (i + 1) (by omega))
      have s2 := hA.2 _ (nth_mem (0, []) A (i + 2) (by omega))
      have i0 : i < A.length := by omega
      have i1 : i + 1 < A.length := by omega
      rw [drop_two A (i + 1) (by omega), dropF_two]
      simp only [Int.ofNat_lt, hi, i0, i1, decide_true, condT, inRange_nat, Int.toNat_natCast, MayDrop_eq N hN _ _ _ s0 s1 s2, bindV]
      cases mdB (A.getD i (0, [])) (A.getD (i + 1) (0, [])) (A.getD (i + 2) (0, [])) with
      | true =>
        have b1 : bounds 1 ((i + 1 : Nat) : Int) A.length = true := bounds_of (by omega) (by omega) (by omega)
        have b2 : decide (List.length (List.drop 1 (List.take (i + 1) A)) ≤ maxN) = true := decide_eq_true (by unfold maxN; simp; omega)
        have b3 : (decide (0 ≤ ((i + 2 : Nat) : Int)) && decide (((i + 2 : Nat) : Int) ≤ (A.length : Int))) = true := by
          rw [decide_eq_true (by omega), decide_eq_true (by omega)]; rfl
        have b4 : decide (List.length (List.drop 1 (List.take (i + 1) A)) + List.length (List.drop (i + 2) A) ≤ maxN) = true := decide_eq_true (by unfold maxN; simp; omega)
        simp only [condT, b1, b2, b3, b4]
        rw [drop_cons (0, []) A (i + 2) hi]
      | false =>
        simp only [condF]
        rw [ih (i + 1) (by omega) (by omega), drop_cons (0, []) A (i + 1 + 1) hi]
        cases dropF (A.getD (i + 1) (0, [])) (A.getD (i + 1 + 1) (0, []) :: A.drop (i + 1 + 1 + 1)) with
        | none => rfl
        | some t =>
          simp only [Option.map_some]
          have e : (A.take (i + 1 + 1)).drop 1 = (A.take (i + 1)).drop 1 ++ [A.getD (i + 1) (0, [])] := by
            rw [List.take_add_one, List.drop_append_of_le_length (by simp; omega)]
            congr 1
            rw [List.getD_eq_getElem?_getD, List.getElem?_eq_getElem i1]; rfl
          rw [e, List.append_assoc]; rfl
    · have hd : dropF (A.getD i (0, [])) (A.drop (i + 1)) = none := by
        by_cases hj : i + 1 < A.length
        · rw [drop_cons (0, []) A (i + 1) hj, List.drop_eq_nil_of_le (by omega)]; rfl
        · rw [List.drop_eq_nil_of_le (by omega)]; rfl
      rw [hd]
      simp only [Int.ofNat_lt, hi, decide_false, condF]

theorem Drop_none (N : Nat) (hN : 1048576 < N) (A : List Rpt) (hA : smallRS A) (m : Int) (ks : List Int) : ∀ (n i : Nat) (c : Rpt), smallR c → i ≤ A.length → A.length < n + i → dropF c (A.drop i) = none →
    ∃ x, spec_l13Drop.L1 N n (i : Int) m ks A c.1 c.2 = some (false, x) := by
  intro n
  induction n with
  | zero => intro i c hc h1 h2; omega
  | succ n ih =>
    intro i c hc h1 h2 h3
    have hl1 := hA.1
    have ws : IntKind.wrap .i64 ((i : Int) + 1) = ((i + 1 : Nat) : Int) := wrap_succ (by omega)
    rw [spec_l13Drop.L1_eq, ws]
    by_cases hi : i + 1 < A.length
    · have s1 := hA.2 _ (nth_mem (0, []) A i (by omega))
      have s2 := hA.2 _ (nth_mem (0, []) A (i + 1) (by omega))
      have i0 : i < A.length := by omega
      rw [drop_two A i hi, dropF_two] at h3
      obtain ⟨x, x1, x2⟩ := MayDrop_same N hN c _ _ hc s1 s2
      rw [MayDrop_eq N hN _ _ _ hc s1 s2] at x2
      have x2 := (Option.some.inj x2).symm
      subst x2
      have x1' : spec_MayDrop.F N ((c.1, c.2), (A.getD i (0, []), A.getD (i + 1) (0, []))) = some (mdB c (A.getD i (0, [])) (A.getD (i + 1) (0, []))) := x1
      simp only [Int.ofNat_lt, hi, i0, decide_true, condT, inRange_nat, nth_nat, x1', bindV]
      cases hmd : mdB c (A.getD i (0, [])) (A.getD (i + 1) (0, [])) with
      | true => rw [hmd, condT] at h3; cases h3
      | false =>
        rw [hmd, condF] at h3
        simp only [condF]
        refine ih (i + 1) (A.getD i (0, [])) s1 (by omega) (by omega) ?_
        rw [drop_cons (0, []) A (i + 1) hi]
        cases hq : dropF (A.getD i (0, [])) (A.getD (i + 1) (0, []) :: A.drop (i + 1 + 1)) with
        | none => rfl
        | some t => rw [show i + 1 + 1 = i + 2 from rfl] at hq; rw [hq] at h3; cases h3
    · simp only [Int.ofNat_lt, hi, decide_false, condF]
      exact ⟨_, rfl⟩

def pushV (p : Rpt × List Rpt) (r : Rpt) : Option (Rpt × List Rpt) :=
  if lastR p.1 p.2 = r then some p else if p.2.length + 1 ≤ 8 then some (p.1, p.2 ++ [r]) else (dropF p.1 (p.2 ++ [r])).map fun w => (p.1, w)

theorem Push_eq (N : Nat) (hN : 1048576 < N) (p : Rpt × List Rpt) (r : Rpt) (h1 : smallR p.1) (h2 : ∀ x ∈ p.2, smallR x) (h3 : smallR r) (hp : ipB p = true) (hr : rpB r = true) :
    impl_PushReport.F N (p, r) = match pushV p r with | some q => some (q, true) | none => some ((((0, []), []) : Rpt × List Rpt), false) := by
  have hlen : p.2.length ≤ 8 := by
    unfold ipB at hp
    simp only [Bool.and_eq_true, decide_eq_true_eq] at hp
    exact hp.2.1
  have hS : smallRS p.2 := ⟨by omega, h2⟩
  have hA : smallRS (p.1 :: p.2 ++ [r]) := by
    refine ⟨by simp; omega, fun x hx => ?_⟩
    simp only [List.cons_append, List.mem_cons, List.mem_append, List.not_mem_nil, or_false] at hx
    rcases hx with rfl | hx | rfl
    · exact h1
    · exact h2 x hx
    · exact h3
  rw [impl_PushReport.F_eq, IsPipe_eq N hN p h1 hS, IsReport_eq N hN r h3, hp, hr, bindV, bindV, copyP_eq N hN p h1 hS, copyR_eq N r h3]
  simp only [notT, condF, bindV]
  have c1 : decide (List.length ([p.1] : List Rpt) + List.length p.2 ≤ maxN) = true := decide_eq_true (by unfold maxN; simp; omega)
  have w1 : IntKind.wrap .i64 ((List.length ([p.1] ++ p.2) : Int) - 1) = ((p.2.length : Nat) : Int) := by
    have hq : (List.length ([p.1] ++ p.2) : Int) = (p.2.length : Int) + 1 := by simp
    rw [hq, wrap64 (by omega) (by omega)]; omega
  have c2 : inRange ((p.2.length : Nat) : Int) (List.length ([p.1] ++ p.2)) = true := by rw [inRange_nat]; simp
  rw [c1, w1, c2, condT, condT, Int.toNat_natCast]
  have hg : ([p.1] ++ p.2).getD p.2.length (0, []) = lastR p.1 p.2 := lastR_getD p.1 (0, []) p.2
  have hsl : smallR (lastR p.1 p.2) := by
    rw [← hg]
    exact hA.2 _ (List.mem_append_left _ (nth_mem (0, []) ([p.1] ++ p.2) p.2.length (by simp)))
  rw [hg, SameR_eq N hN _ _ hsl, bindV]
  unfold pushV
  by_cases hs : lastR p.1 p.2 = r
  · rw [decide_eq_true hs, condT, if_pos hs]
  · rw [decide_eq_false hs, condF, if_neg hs]
    have c3 : decide (List.length ([p.1] ++ p.2) + List.length ([r] : List Rpt) ≤ maxN) = true := decide_eq_true (by unfold maxN; simp; omega)
    have w2 : IntKind.wrap .i64 ((List.length ([p.1] ++ p.2 ++ [r]) : Int) - 1) = ((p.2.length + 1 : Nat) : Int) := by
      rw [wrap64 (by simp; omega) (by simp; omega)]; simp
    rw [c3, condT, w2]
    by_cases h8 : p.2.length + 1 ≤ 8
    · have c4 : (decide ((0 : Int) ≤ 1) && decide ((1 : Int) ≤ (List.length ([p.1] ++ p.2 ++ [r]) : Int))) = true := by
        rw [decide_eq_true (by omega), decide_eq_true (by simp; omega)]; rfl
      rw [decide_eq_true (by omega : ((p.2.length + 1 : Nat) : Int) ≤ 8), condT, c4, condT, if_pos h8]
      rfl
    · rw [decide_eq_false (by omega : ¬ ((p.2.length + 1 : Nat) : Int) ≤ 8), condF, if_neg h8]
      have e := Push_L1 N hN (p.1 :: p.2 ++ [r]) hA p.1.1 p.1.2 p.2 N 0 (by simp) (by simp; omega)
      refine Eq.trans e ?_
      have eg : (p.1 :: p.2 ++ [r]).getD 0 (0, []) = p.1 := rfl
      have ed : (p.1 :: p.2 ++ [r]).drop (0 + 1) = p.2 ++ [r] := rfl
      rw [eg, ed]
      cases dropF p.1 (p.2 ++ [r]) <;> rfl

theorem PushS_none (N : Nat) (hN : 1048576 < N) (p : Rpt × List Rpt) (r : Rpt) (h1 : smallR p.1) (h2 : ∀ x ∈ p.2, smallR x) (h3 : smallR r) (hp : ipB p = true) (hr : rpB r = true) (hv : pushV p r = none) :
    ∃ x, spec_PushReport.F N (p, r) = some (x, false) := by
  have hlen : p.2.length ≤ 8 := by
    unfold ipB at hp
    simp only [Bool.and_eq_true, decide_eq_true_eq] at hp
    exact hp.2.1
  have hS : smallRS p.2 := ⟨by omega, h2⟩
  have hS2 : smallRS (p.2 ++ [r]) := by
    refine ⟨by simp; omega, fun x hx => ?_⟩
    simp only [List.mem_append, List.mem_cons, List.not_mem_nil, or_false] at hx
    rcases hx with hx | rfl
    · exact h2 x hx
    · exact h3
  unfold pushV at hv
  by_cases hs : lastR p.1 p.2 = r
  · rw [if_pos hs] at hv; cases hv
  rw [if_neg hs] at hv
  by_cases h8 : p.2.length + 1 ≤ 8
  · rw [if_pos h8] at hv; cases hv
  rw [if_neg h8] at hv
  have hd : dropF p.1 (p.2 ++ [r]) = none := by
    cases hq : dropF p.1 (p.2 ++ [r]) with
    | none => rfl
    | some t => rw [hq] at hv; cases hv
  obtain ⟨x1, x2, x3⟩ := IsPipe_same N hN p h1 hS
  rw [IsPipe_eq N hN p h1 hS, hp] at x3
  obtain ⟨y1, y2, y3⟩ := IsReport_same N hN r h3
  rw [IsReport_eq N hN r h3, hr] at y3
  have x3 := Option.some.inj x3
  have y3 := Option.some.inj y3
  subst x3; subst y3
  rw [spec_PushReport.F_eq, x2, bindV, y2, bindV, copyP_eqS N hN p h1 hS, copyR_eqS N r h3]
  simp only [notT, condF, bindV]
  have w1 : IntKind.wrap .i64 ((List.length p.2 : Int) - 1) = ((p.2.length - 1 : Nat) : Int) := by
    rw [wrap64 (by omega) (by omega)]; omega
  have hl8 : p.2.length = 8 := by omega
  have c2 : inRange ((p.2.length - 1 : Nat) : Int) (List.length p.2) = true := by rw [inRange_nat]; simp; omega
  have hne : ∀ (a : Rpt) (l : List Rpt), 0 < l.length → l.getD (l.length - 1) (0, []) = lastR a l := by
    intro a l hl
    cases l with
    | nil => simp at hl
    | cons b l => exact lastR_getD b (0, []) l
  have hsl : smallR (p.2.getD (p.2.length - 1) (0, [])) := h2 _ (nth_mem (0, []) p.2 (p.2.length - 1) (by omega))
  obtain ⟨z1, z2, z3⟩ := SameR_same N hN (p.2.getD (p.2.length - 1) (0, [])) r hsl
  rw [SameR_eq N hN _ _ hsl, hne p.1 p.2 (by omega), decide_eq_false hs] at z3
  have z3 := Option.some.inj z3
  subst z3
  have c3 : decide (List.length p.2 + List.length ([r] : List Rpt) ≤ maxN) = true := decide_eq_true (by unfold maxN; simp; omega)
  have c4 : decide ((List.length (p.2 ++ [r]) : Int) > 8) = true := decide_eq_true (by simp; omega)
  obtain ⟨q, hq⟩ := Drop_none N hN (p.2 ++ [r]) hS2 p.1.1 p.1.2 N 0 p.1 h1 (by omega) (by simp; omega) (by rw [List.drop_zero]; exact hd)
  have hq' : spec_l13Drop.F N (p.1, p.2 ++ [r]) = some (false, q) := by rw [spec_l13Drop.F_eq]; exact hq
  rw [decide_eq_true (by omega : (p.2.length : Int) > 0), condT, w1, c2, condT, nth_nat, z2, bindV, condF, c3, condT, c4, condT, hq', bindV]
  exact ⟨_, rfl⟩
end Go.Kb
