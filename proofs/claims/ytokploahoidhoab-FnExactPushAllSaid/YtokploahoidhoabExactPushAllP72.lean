/- Pipes: letting a report wait; the exact row of PushReport. -/
import Derived.Test.YtokploahoidhoabExactPushAllP71
namespace Go.Kb
set_option maxRecDepth 100000

theorem zeroP_small : smallP zeroP := ⟨by show 0 ≤ _; omega, by show 0 ≤ _; omega, fun x hx => by cases hx⟩

/-- the search for a report that may be left out -/
theorem PushH_L1 (N : Nat) (hN : 1048576 < N) (B : List RH) (A : List Rpt) (hA : smallRS A) (m : Int) (k : Hnd) (o2 : List RH) (D : List HRow) (lo hi : Nat) (ow : OwnR D lo hi B A) : ∀ (n i : Nat), i + 1 ≤ A.length → A.length < n + i →
    (∃ j, i + 1 ≤ j ∧ j + 1 < A.length ∧ impl_PushReporth.L1 N n ((i + 1 : Nat) : Int) m k B o2 D = some ((((m, k), (B.take j).drop 1 ++ B.drop (j + 1)), true), D) ∧
      dropF (A.getD i (0, [])) (A.drop (i + 1)) = some ((A.take j).drop (i + 1) ++ A.drop (j + 1))) ∨
    (impl_PushReporth.L1 N n ((i + 1 : Nat) : Int) m k B o2 D = some (((((0 : Int), (none : Hnd)), ([] : List RH)), false), D) ∧ dropF (A.getD i (0, [])) (A.drop (i + 1)) = none) := by
  intro n
  have hlB := ow.len
  induction n with
  | zero => intro i h1 h2; omega
  | succ n ih =>
    intro i h1 h2
    have hl1 := hA.1
    have ws : IntKind.wrap .i64 (((i + 1 : Nat) : Int) + 1) = ((i + 2 : Nat) : Int) := wrap_succ (by omega)
    have wp : IntKind.wrap .i64 (((i + 1 : Nat) : Int) - 1) = ((i : Nat) : Int) := by rw [wrap64 (by omega) (by omega)]; omega
    rw [impl_PushReporth.L1_eq, ws, wp, hlB]
    by_cases hi' : i + 2 < A.length
    · have s0 := hA.2 _ (nth_mem (0, []) A i (by omega))
      have s1 := hA.2 _ (nth_mem (0, []) A (i + 1) (by omega))
      have s2 := hA.2 _ (nth_mem (0, []) A (i + 2) (by omega))
      rw [drop_two A (i + 1) (by omega), dropF_two]
      rw [decide_eq_true (Int.ofNat_lt.mpr hi'), condT, inRange_nat, decide_eq_true (show i < A.length by omega), condT, inRange_nat, decide_eq_true (show i + 1 < A.length by omega), condT, inRange_nat, decide_eq_true hi', condT,
        Int.toNat_natCast, Int.toNat_natCast, Int.toNat_natCast, ow.ok (show i < A.length by omega), ow.ok (show i + 1 < A.length by omega), ow.ok hi', Bool.and_self, Bool.and_self, condT,
        ow.cut (show i < A.length by omega), ow.cut (show i + 1 < A.length by omega), ow.cut hi', ow.fst, ow.fst, ow.fst]
      have md : impl_MayDrop.F N (((A.getD i (0, [])).1, (A.getD i (0, [])).2), ((A.getD (i + 1) (0, [])).1, (A.getD (i + 1) (0, [])).2), ((A.getD (i + 2) (0, [])).1, (A.getD (i + 2) (0, [])).2)) = some (mdB (A.getD i (0, [])) (A.getD (i + 1) (0, [])) (A.getD (i + 2) (0, []))) := MayDrop_eq N hN _ _ _ s0 s1 s2
      rw [md, bindV]
      cases mdB (A.getD i (0, [])) (A.getD (i + 1) (0, [])) (A.getD (i + 2) (0, [])) with
      | true =>
        have b1 : bounds 1 ((i + 1 : Nat) : Int) A.length = true := bounds_of (by omega) (by omega) (by omega)
        have b2 : decide (List.length (List.drop 1 (List.take (i + 1) B)) ≤ maxN) = true := decide_eq_true (by unfold maxN; simp; omega)
        have b3 : (decide (0 ≤ ((i + 2 : Nat) : Int)) && decide (((i + 2 : Nat) : Int) ≤ (A.length : Int))) = true := by
          rw [decide_eq_true (by omega), decide_eq_true (by omega)]; rfl
        have b4 : decide (List.length (List.drop 1 (List.take (i + 1) B)) + List.length (List.drop (i + 2) B) ≤ maxN) = true := decide_eq_true (by unfold maxN; simp; omega)
        rw [condT, condT, b1, condT, b2, condT, b3, condT, b4, condT]
        refine Or.inl ⟨i + 1, Nat.le_refl _, hi', rfl, ?_⟩
        have dz : (A.take (i + 1)).drop (i + 1) = [] := List.drop_eq_nil_of_le (by rw [List.length_take]; omega)
        rw [dz, List.nil_append, drop_cons (0, []) A (i + 1 + 1) hi']
      | false =>
        rw [condF, condF]
        have e0 : A.drop (i + 1 + 1) = A.getD (i + 1 + 1) (0, []) :: A.drop (i + 1 + 1 + 1) := drop_cons (0, []) A (i + 1 + 1) hi'
        rcases ih (i + 1) (by omega) (by omega) with ⟨j, j1, j2, j3, j4⟩ | ⟨j3, j4⟩
        · refine Or.inl ⟨j, by omega, j2, j3, ?_⟩
          rw [e0] at j4
          rw [show i + 2 = i + 1 + 1 from rfl, j4]
          show some (A.getD (i + 1) (0, []) :: ((A.take j).drop (i + 1 + 1) ++ A.drop (j + 1))) = _
          have : (A.take j).drop (i + 1) = A.getD (i + 1) (0, []) :: (A.take j).drop (i + 1 + 1) := by
            rw [drop_cons (0, []) (A.take j) (i + 1) (by rw [List.length_take]; omega)]
            congr 1
            simp only [List.getD_eq_getElem?_getD, List.getElem?_take]
            rw [if_pos (by omega)]
          rw [this]; rfl
        · refine Or.inr ⟨j3, ?_⟩
          rw [e0] at j4
          rw [show i + 2 = i + 1 + 1 from rfl, j4]; rfl
    · have hd : dropF (A.getD i (0, [])) (A.drop (i + 1)) = none := by
        by_cases hj : i + 1 < A.length
        · rw [drop_cons (0, []) A (i + 1) hj, List.drop_eq_nil_of_le (by omega)]; rfl
        · rw [List.drop_eq_nil_of_le (by omega)]; rfl
      rw [decide_eq_false (by omega), condF]
      exact Or.inr ⟨rfl, hd⟩

theorem PushI (N : Nat) (hN : 1048576 < N) (p : Pp) (r : Rpt) (h : smallP p) (hr : smallR r) (D : List HRow) : PpOutB (impl_PushReporth.H N (p, r) D) D (pushB p r) := by
  have hl := h.2.1
  rw [impl_PushReporth.H_eq, IsPipe_eq N hN p h.1 h.2, bindV]
  unfold pushB
  cases hk : ipB p
  · rw [notF, condT, Bool.false_and, condF]; exact PpOutB.no (List.prefix_refl _)
  have hl8 : p.2.length ≤ 8 := by
    unfold ipB at hk
    simp only [Bool.and_eq_true, decide_eq_true_eq] at hk
    exact hk.2.1
  rw [notT, condF, IsReport_eq N hN r hr, bindV, Bool.true_and]
  cases hk2 : rpB r
  · rw [notF, condT, condF]; exact PpOutB.no (List.prefix_refl _)
  rw [notT, condF, condT]
  obtain ⟨a, A, E, e, pre, o⟩ := (copyPh_eq N hN p h (hhide D)).call
  rw [e, bindV]
  dsimp only
  generalize hmerge D E = M at *
  have hlen := o.len
  simp only [List.length_cons] at hlen
  have c1 : decide (List.length ([a] : List RH) + A.length ≤ maxN) = true := decide_eq_true (by unfold maxN; show 1 + A.length ≤ _; omega)
  have la : (List.length ([a] ++ A) : Int) = (p.2.length : Int) + 1 := by simp; omega
  have w1 : IntKind.wrap .i64 ((List.length ([a] ++ A) : Int) - 1) = ((p.2.length : Nat) : Int) := by rw [la, wrap64 (by omega) (by omega)]; omega
  have c2 : inRange ((p.2.length : Nat) : Int) (List.length ([a] ++ A)) = true := by rw [inRange_nat]; exact decide_eq_true (by simp; omega)
  have oA : OwnR M D.length M.length ([a] ++ A) ([p.1] ++ p.2) := o
  have hg : ([p.1] ++ p.2).getD p.2.length (0, []) = lastR p.1 p.2 := lastR_getD p.1 (0, []) p.2
  have ok2 := oA.ok (i := p.2.length) (by simp)
  have cut2 := oA.cut (i := p.2.length) (by simp)
  have fst2 := oA.fst p.2.length
  have hsl : smallR (lastR p.1 p.2) := by
    rw [← hg]
    have hm := nth_mem (0, []) ([p.1] ++ p.2) p.2.length (by simp)
    rcases List.mem_cons.1 hm with g | g
    · rw [g]; exact h.1
    · exact h.2.2 _ g
  rw [c1, condT, w1, c2, condT, Int.toNat_natCast, ok2, condT, cut2, fst2, hg, show ((lastR p.1 p.2).1, (lastR p.1 p.2).2) = lastR p.1 p.2 from rfl, SameR_eq N hN _ _ hsl, bindV]
  unfold pushV
  by_cases hs : lastR p.1 p.2 = r
  · rw [decide_eq_true hs, condT, if_pos hs]
    exact ⟨a, A, M, rfl, pre, o⟩
  rw [decide_eq_false hs, condF, if_neg hs, copyR_eq N r hr, bindV]
  have lo1 := pre.length_le
  have oB := oA.push lo1 r.1 r.2
  have c3 : ∀ x : RH, decide (List.length ([a] ++ A) + List.length [x] ≤ maxN) = true := fun x => decide_eq_true (by unfold maxN; simp; omega)
  have pre2 : D <+: M ++ [HRow.row 2 (.int .i64) r.2] := pre.trans (List.prefix_append _ _)
  rw [c3, condT]
  have lb : ∀ x : RH, (List.length ([a] ++ A ++ [x]) : Int) = (p.2.length : Int) + 2 := fun x => by simp; omega
  rw [lb, wrap64 (x := (p.2.length : Int) + 2 - 1) (by omega) (by omega)]
  by_cases h8 : p.2.length + 1 ≤ 8
  · rw [decide_eq_true (show (p.2.length : Int) + 2 - 1 ≤ 8 by omega), condT, decide_eq_true (show (0 : Int) ≤ 1 by omega), decide_eq_true (show (1 : Int) ≤ (p.2.length : Int) + 2 by omega), Bool.and_self, condT, if_pos h8]
    exact ⟨a, A ++ [(r.1, some (M.length, 0, r.2.length))], _, rfl, pre2, by rw [List.length_append]; exact oB⟩
  · rw [decide_eq_false (show ¬ (p.2.length : Int) + 2 - 1 ≤ 8 by omega), condF, if_neg h8]
    have hAs : smallRS ([p.1] ++ p.2 ++ [(r.1, r.2)]) := by
      refine ⟨by simp; omega, fun x hx => ?_⟩
      simp only [List.cons_append, List.nil_append, List.mem_cons, List.mem_append, List.not_mem_nil, or_false] at hx
      rcases hx with rfl | hx | rfl
      · exact h.1
      · exact h.2.2 x hx
      · exact hr
    have lenV : ([p.1] ++ p.2 ++ [(r.1, r.2)]).length = p.2.length + 2 := by simp
    have lenB : ([a] ++ A ++ [(r.1, (some (M.length, 0, r.2.length) : Hnd))]).length = p.2.length + 2 := by simp; omega
    have eg : ([p.1] ++ p.2 ++ [(r.1, r.2)]).getD 0 (0, []) = p.1 := rfl
    have ed : ([p.1] ++ p.2 ++ [(r.1, r.2)]).drop (0 + 1) = p.2 ++ [r] := rfl
    rcases PushH_L1 N hN _ _ hAs a.1 a.2 A (M ++ [HRow.row 2 (.int .i64) r.2]) D.length (M.length + 1) oB N 0 (by omega) (by omega) with ⟨j, j1, j2, j3, j4⟩ | ⟨j3, j4⟩
    · rw [eg, ed] at j4
      rw [show (1 : Int) = ((0 + 1 : Nat) : Int) from rfl, j3, j4]
      refine ⟨a, _, _, rfl, pre2, ?_⟩
      rw [List.length_append]
      have eA : a :: (List.drop 1 (List.take j ([a] ++ A ++ [(r.1, (some (M.length, 0, r.2.length) : Hnd))])) ++ List.drop (j + 1) ([a] ++ A ++ [(r.1, (some (M.length, 0, r.2.length) : Hnd))])) = List.take j ([a] ++ A ++ [(r.1, (some (M.length, 0, r.2.length) : Hnd))]) ++ List.drop (j + 1) ([a] ++ A ++ [(r.1, (some (M.length, 0, r.2.length) : Hnd))]) := by
        obtain ⟨j, rfl⟩ : ∃ i, j = i + 1 := ⟨j - 1, by omega⟩
        rfl
      have eV : p.1 :: (List.drop (0 + 1) (List.take j ([p.1] ++ p.2 ++ [(r.1, r.2)])) ++ List.drop (j + 1) ([p.1] ++ p.2 ++ [(r.1, r.2)])) = List.take j ([p.1] ++ p.2 ++ [(r.1, r.2)]) ++ List.drop (j + 1) ([p.1] ++ p.2 ++ [(r.1, r.2)]) := by
        obtain ⟨j, rfl⟩ : ∃ i, j = i + 1 := ⟨j - 1, by omega⟩
        rfl
      show OwnR _ _ _ (a :: (List.drop 1 (List.take j ([a] ++ A ++ [(r.1, (some (M.length, 0, r.2.length) : Hnd))])) ++ List.drop (j + 1) ([a] ++ A ++ [(r.1, (some (M.length, 0, r.2.length) : Hnd))]))) (p.1 :: (List.drop (0 + 1) (List.take j ([p.1] ++ p.2 ++ [(r.1, r.2)])) ++ List.drop (j + 1) ([p.1] ++ p.2 ++ [(r.1, r.2)])))
      rw [eA, eV]
      have gd : ∀ {α : Type} (d : α) (l : List α) (i : Nat), j < l.length → (List.take j l ++ List.drop (j + 1) l).getD i d = l.getD (if i < j then i else i + 1) d := by
        intro α d l i hj
        simp only [List.getD_eq_getElem?_getD]
        by_cases hij : i < j
        · rw [if_pos hij, List.getElem?_append_left (by rw [List.length_take]; omega), List.getElem?_take, if_pos hij]
        · rw [if_neg hij, List.getElem?_append_right (by rw [List.length_take]; omega), List.length_take, Nat.min_eq_left (by omega), List.getElem?_drop]
          congr 2; omega
      refine oB.sub (fun i => if i < j then i else i + 1) (by rw [List.length_append, List.length_append, List.length_take, List.length_take, List.length_drop, List.length_drop, lenV, lenB]) (fun i hi' => ⟨?_, gd _ _ _ (by omega), gd _ _ _ (by omega)⟩) (fun i i' _ _ he => ?_)
      · rw [List.length_append, List.length_take, List.length_drop] at hi'
        rw [lenV] at hi' ⊢
        split <;> omega
      · split at he <;> split at he <;> omega
    · rw [eg, ed] at j4
      rw [show (1 : Int) = ((0 + 1 : Nat) : Int) from rfl, j3, j4]
      exact PpOutB.no pre2

theorem pushB_small (p : Pp) (r : Rpt) (h : smallP p) (hr : smallR r) : smallP (pushB p r).1 := by
  unfold pushB
  cases hk : ipB p && rpB r
  · exact zeroP_small
  simp only [Bool.and_eq_true] at hk
  have hl8 : p.2.length ≤ 8 := by
    have := hk.1
    unfold ipB at this
    simp only [Bool.and_eq_true, decide_eq_true_eq] at this
    exact this.2.1
  rw [condT]
  have all : ∀ x ∈ p.2 ++ [r], smallR x := fun x hx => by
    rcases List.mem_append.1 hx with g | g
    · exact h.2.2 x g
    · rw [List.mem_singleton.1 g]; exact hr
  have dropM : ∀ (l : List Rpt) (a : Rpt) (t : List Rpt), dropF a l = some t → t.length ≤ l.length ∧ ∀ x ∈ t, x ∈ l := by
    intro l
    induction l with
    | nil => intro a t h; cases h
    | cons b l ih =>
      intro a t ht
      cases l with
      | nil => cases ht
      | cons c l =>
        rw [dropF_two] at ht
        cases hm : mdB a b c
        · rw [hm, condF] at ht
          cases hq : dropF b (c :: l) with
          | none => rw [hq] at ht; cases ht
          | some s =>
            rw [hq] at ht
            injection ht with ht
            subst ht
            obtain ⟨i1, i2⟩ := ih b s hq
            exact ⟨by simp only [List.length_cons] at i1 ⊢; omega, fun x hx => by
              rcases List.mem_cons.1 hx with g | g
              · rw [g]; exact List.mem_cons_self
              · exact List.mem_cons_of_mem _ (i2 x g)⟩
        · rw [hm, condT] at ht
          injection ht with ht
          subst ht
          exact ⟨by simp, fun x hx => List.mem_cons_of_mem _ hx⟩
  unfold pushV
  by_cases h1 : lastR p.1 p.2 = r
  · rw [if_pos h1]; exact h
  rw [if_neg h1]
  by_cases h2 : p.2.length + 1 ≤ 8
  · rw [if_pos h2]; exact ⟨h.1, by simp; omega, all⟩
  rw [if_neg h2]
  cases hq : dropF p.1 (p.2 ++ [r]) with
  | none => exact zeroP_small
  | some t =>
    obtain ⟨i1, i2⟩ := dropM _ _ _ hq
    simp only [List.length_append, List.length_cons, List.length_nil] at i1
    exact ⟨h.1, by show t.length ≤ _; omega, fun x hx => all x (i2 x hx)⟩
end Go.Kb
