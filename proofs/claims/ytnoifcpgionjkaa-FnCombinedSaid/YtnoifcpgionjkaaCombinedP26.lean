/- A down is decided, a switch goes up: the program's walks. -/
import Derived.Test.YtnoifcpgionjkaaCombinedP25
namespace Go.Kb

theorem someCond {α : Type} (b : Bool) (x y : α) : (bif b then some x else some y) = some (bif b then x else y) := by cases b <;> rfl
theorem condAnd {α : Type} (a b : Bool) (x y : α) : (bif a then (bif b then x else y) else y) = bif (a && b) then x else y := by cases a <;> cases b <;> rfl

theorem isSw_eq' (N : Nat) (t : Int) (kv : Int × Bool) : impl_isSwitchEvent.F N (t, kv) = some (isSw (t, kv)) := isSw_eq N (t, kv)

theorem mgo_bound (l : List Cb) (now tend : Int) : ∀ (r : List Ev) (s n : Int), 1 ≤ n → 0 ≤ (mgo l now tend r s n).1 ∧ (mgo l now tend r s n).1 ≤ n + r.length := by
  have hp : ∀ s n at_, 1 ≤ n → 0 ≤ (pickO l s n at_).1 ∧ (pickO l s n at_).1 ≤ n := by
    intro s n at_ h
    unfold pickO
    cases decide ((whl l s).1 ≥ 0) with
    | true => simp only [condT]; omega
    | false => simp only [condF]; omega
  intro r
  induction r with
  | nil =>
    intro s n h
    have := hp s n tend h
    simp only [mgo, List.length_nil]
    cases decide (now < tend) with
    | true => simp only [condT]; omega
    | false => simp only [condF]; omega
  | cons e r ih =>
    intro s n h
    have h1 := hp s n (minI tend e.1) h
    have h2 := ih (bitOr .i64 s (bitK e.2.1)) (n + 1) (by omega)
    simp only [mgo, List.length_cons]
    cases !isSw e with
    | true => simp only [condT]; omega
    | false =>
      simp only [condF]
      cases decide (e.1 ≥ tend) with
      | true => simp only [condT]; omega
      | false =>
        simp only [condF]
        cases !e.2.2 with
        | true => simp only [condT]; omega
        | false =>
          simp only [condF]
          cases !win l (bitOr .i64 s (bitK e.2.1)) with
          | true => simp only [condT]; omega
          | false =>
            simp only [condF]
            cases decide ((whl l (bitOr .i64 s (bitK e.2.1))).1 ≥ 0) && !(whl l (bitOr .i64 s (bitK e.2.1))).2 with
            | true => simp only [condT]; omega
            | false => simp only [condF]; omega

theorem mtc_bound (l : List Cb) (term now : Int) (q : List Ev) : 0 ≤ (mtc l term now q).1 ∧ (mtc l term now q).1 ≤ q.length := by
  cases q with
  | nil => simp [mtc]
  | cons f r =>
    have h := mgo_bound l now (IntKind.wrap .i64 (f.1 + term)) r (bitK f.2.1) 1 (by omega)
    simp only [mtc, List.length_cons]
    cases !isSw f with
    | true => simp only [condT]; omega
    | false =>
      simp only [condF]
      cases !f.2.2 with
      | true => simp only [condT]; omega
      | false =>
        simp only [condF]
        cases !win l (bitK f.2.1) with
        | true => simp only [condT]; omega
        | false => simp only [condF]; omega

theorem Match_L1 (N : Nat) (hN : 1048576 < N) (l : List Cb) (hl : l.length ≤ 1048576) (term now : Int) (q : List Ev) (hq : q.length ≤ 1048576) (t0 k0 : Int) (d0 : Bool) : ∀ (n i : Nat) (s : Int), i ≤ q.length → q.length < n + i →
    impl_MatchCombo.L1 N n l term now s (IntKind.wrap .i64 (t0 + term)) ((i + 1 : Nat) : Int) q (q.length : Int) (i : Int) t0 k0 d0 = some (mgo l now (IntKind.wrap .i64 (t0 + term)) (q.drop i) s ((i + 1 : Nat) : Int)) := by
  intro n
  induction n with
  | zero => intro i s h1 h2; omega
  | succ n ih =>
    intro i s h1 h2
    rw [impl_MatchCombo.L1_eq]
    by_cases hi : i < q.length
    · have ws : IntKind.wrap .i64 ((i : Int) + 1) = ((i + 1 : Nat) : Int) := wrap_succ (by omega)
      have wn : IntKind.wrap .i64 (((i + 1 : Nat) : Int) + 1) = ((i + 1 + 1 : Nat) : Int) := wrap_succ (by omega)
      have ih' := fun s => ih (i + 1) s (by omega) (by omega)
      rw [drop_cons (0, 0, false) q i hi]
      simp only [Int.ofNat_lt, hi, decide_true, condT, inRange_nat, nth_nat, ws, wn, isSw_eq', bindV, whole_eq N hN _ l hl, within_eq N hN _ l hl, ih', mgo]
      generalize q.getD i (0, 0, false) = x
      obtain ⟨t, k, d⟩ := x
      simp only []
      cases hsw : isSw (t, k, d) with
      | false => simp only [notF, condT]
      | true =>
        have hk := (isSw_spec hsw).2.2.1
        simp only [] at hk
        simp only [notT, condF, hk, decide_true, condT]
        rw [show ((i + 1 + 1 : Nat) : Int) = ((i + 1 : Nat) : Int) + 1 by omega]
        simp only [someCond, condAnd, pickO, bitK]
        rfl
    · simp only [Int.ofNat_lt, hi, decide_false, condF, whole_eq N hN _ l hl, bindV]
      rw [List.drop_of_length_le (by omega)]
      simp only [someCond, mgo, pickO]

theorem nth0 {α : Type} (d f : α) (r : List α) : nth d (f :: r) (0 : Int) = f := rfl
theorem inRange0 {α : Type} (f : α) (r : List α) : inRange (0 : Int) (List.length (f :: r)) = true := by
  have := inRange_nat 0 (f :: r).length
  simp only [Int.natCast_zero] at this
  rw [this]; exact decide_eq_true (by simp)

theorem Match_eq (N : Nat) (hN : 1048576 < N) (l : List Cb) (hl : l.length ≤ 1048576) (hc : impl_IsCombos.F N l = some true) (term : Int) (ht : 1 ≤ term ∧ term ≤ 200) (q : List Ev) (hq : q.length ≤ 1048576) (now : Int) :
    impl_MatchCombo.F N (l, (term, (q, now))) = some (mtc l term now q) := by
  rw [impl_MatchCombo.F_eq]
  have t1 : ¬ term < 1 := by omega
  have t2 : ¬ term > 200 := by omega
  cases q with
  | nil => simp only [hc, bindV, notT, condF, t1, t2, decide_false, List.length_nil, Int.natCast_zero, beq_self_eq_true, condT, mtc]
  | cons f r =>
    have e0 : (((f :: r).length : Int) == 0) = false := by rw [beqI]; exact decide_eq_false (by simp only [List.length_cons]; omega)
    have e1 : (decide (0 ≤ (1 : Int)) && decide ((1 : Int) ≤ ((f :: r).length : Int))) = true := by
      simp only [List.length_cons]
      rw [decide_eq_true (by omega), decide_eq_true (by omega)]; rfl
    have hr : r.length ≤ 1048576 := by simp only [List.length_cons] at hq; omega
    have h := fun s => Match_L1 N hN l hl term now r hr f.1 f.2.1 f.2.2 N 0 s (by omega) (by omega)
    simp only [List.drop_zero, Nat.zero_add, Int.natCast_zero] at h
    have h' : ∀ s, impl_MatchCombo.L1 N N l term now s (IntKind.wrap .i64 (f.1 + term)) 1 r (r.length : Int) 0 f.1 f.2.1 f.2.2 = some (mgo l now (IntKind.wrap .i64 (f.1 + term)) r s 1) := h
    simp only [hc, bindV, notT, condF, t1, t2, decide_false, e0, e1, inRange0, condT, nth0, isSw_eq', within_eq N hN _ l hl, List.drop_succ_cons, List.drop_zero, h', mtc]
    cases hsw : isSw (f.1, f.2) with
    | false => simp only [notF, condT]
    | true =>
      have h2 : isSw f = true := hsw
      have hk := (isSw_spec h2).2.2.1
      simp only [notT, condF, hk, decide_true, condT, someCond, bitK]

/-! ### a switch goes up -/
theorem getD_set_self {α : Type} (o : List α) (i : Nat) (v d : α) (h : i < o.length) : (o.set i v).getD i d = v := getD_set o i v d h
theorem set_split {α : Type} (o : List α) (i : Nat) (v : α) (h : i < o.length) : o.set i v = o.take i ++ v :: o.drop (i + 1) := by
  rw [List.set_eq_take_append_cons_drop, if_pos h]

theorem Up_L1 (N : Nat) (key : Int) (hk : 0 ≤ key) (at_ : Int) (c0 : List Cb) (c1 : Int) (c2 : List Ev) (c3 c4 c5 : Int) (o : List Ev) (ho : o.length ≤ 2000000) : ∀ (n i : Nat), i ≤ o.length → o.length < n + i →
    impl_Combiner_up.L1 N n key at_ (o.length : Int) (i : Int) c1 c3 c4 c5 c0 c2 o = some (match upGo key at_ (o.drop i) with
      | some (e, q) => (e, (c0, (c1, (c2, (c3, (c4, (c5, o.take i ++ q)))))))
      | none => ([(at_, (key, false))], (c0, (c1, (c2, (c3, (c4, (bitAndNot .i64 c5 (bitK key), o)))))))) := by
  intro n
  induction n with
  | zero => intro i h1 h2; omega
  | succ n ih =>
    intro i h1 h2
    rw [impl_Combiner_up.L1_eq]
    by_cases hi : i < o.length
    · have ws : IntKind.wrap .i64 ((i : Int) + 1) = ((i + 1 : Nat) : Int) := wrap_succ (by omega)
      have g := ih (i + 1) (by omega) (by omega)
      have tk : o.take (i + 1) = o.take i ++ [o.getD i (0, 0, false)] := by
        rw [List.take_succ_eq_append_getElem hi, List.getD_eq_getElem?_getD, List.getElem?_eq_getElem hi]; rfl
      rw [drop_cons (0, 0, false) o i hi]
      obtain ⟨⟨u, m, d⟩, hx⟩ : ∃ x, o.getD i (0, 0, false) = x := ⟨_, rfl⟩
      simp only [Int.ofNat_lt, hi, decide_true, condT, inRange_nat, Int.toNat_natCast, ws, g, impl_bit.F_eq, hk, bindV, upGo, getD_set_self, List.length_set, List.set_set, tk, hx]
      cases bitAnd .i64 (shiftR .i64 m key) 1 == 0 with
      | true =>
        simp only [condT]
        cases upGo key at_ (o.drop (i + 1)) with
        | none => rfl
        | some p => obtain ⟨e, q⟩ := p; simp only [List.append_assoc, List.cons_append, List.nil_append]
      | false =>
        simp only [condF]
        have l1 : (decide (0 ≤ (i : Int)) && decide ((i : Int) ≤ (o.length : Int))) = true := by
          rw [decide_eq_true (by omega), decide_eq_true (by omega)]; rfl
        have l2 : (decide (0 ≤ ((i + 1 : Nat) : Int)) && decide (((i + 1 : Nat) : Int) ≤ (o.length : Int))) = true := by
          rw [decide_eq_true (by omega), decide_eq_true (by omega)]; rfl
        have tks : ∀ v : Ev, List.take i (o.set i v) = o.take i := fun v => List.take_set_of_le (by omega)
        have dps : ∀ v : Ev, List.drop (i + 1) (o.set i v) = o.drop (i + 1) := fun v => List.drop_set_of_lt (by omega)
        have l3 : (o.take i).length ≤ maxN := by simp only [List.length_take, maxN]; omega
        have l4 : (o.take i).length + (o.drop (i + 1)).length ≤ maxN := by simp only [List.length_take, List.length_drop, maxN]; omega
        cases d with
        | true =>
          simp only [condT, l1, l2, tks, dps, l3, l4, decide_true, List.drop_zero, Int.toNat_natCast, bitK]
          cases bitAndNot .i64 m (shiftL .i64 1 key) == 0 with
          | true => simp only [condT]
          | false => simp only [condF, set_split o i _ hi]
        | false =>
          simp only [condF, condT, l1, l2, tks, dps, l3, l4, decide_true, List.drop_zero, Int.toNat_natCast, bitK]
          cases bitAndNot .i64 m (shiftL .i64 1 key) == 0 with
          | true => simp only [condT]
          | false => simp only [condF, set_split o i _ hi]
    · simp only [Int.ofNat_lt, hi, decide_false, condF, hk, decide_true, condT]
      rw [List.drop_of_length_le (by omega)]
      simp only [upGo, bitK]

theorem Up_eq (N : Nat) (hN : 2000000 < N) (key : Int) (hk : 0 ≤ key) (at_ : Int) (c0 : List Cb) (c1 : Int) (c2 : List Ev) (c3 c4 c5 : Int) (o : List Ev) (ho : o.length ≤ 2000000) :
    impl_Combiner_up.F N ((c0, (c1, (c2, (c3, (c4, (c5, o)))))), (key, at_)) = some (match upGo key at_ o with
      | some (e, q) => (e, (c0, (c1, (c2, (c3, (c4, (c5, q)))))))
      | none => ([(at_, (key, false))], (c0, (c1, (c2, (c3, (c4, (bitAndNot .i64 c5 (bitK key), o)))))))) := by
  rw [impl_Combiner_up.F_eq]
  have h := Up_L1 N key hk at_ c0 c1 c2 c3 c4 c5 o ho N 0 (by omega) (by omega)
  simp only [List.drop_zero, List.take_zero, List.nil_append, Int.natCast_zero] at h
  exact h
end Go.Kb
