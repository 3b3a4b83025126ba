/- One step on the flash: the reference and the program give back the plain value. -/
import Derived.Test.YtokploahoidhoaaSettingsP64
namespace Go.Kb
set_option maxRecDepth 100000

theorem set_replicate (x : List Int) (i : Nat) (v : Int) (hi : i < x.length) (h : x.take i = List.replicate i v) : (x.set i v).take (i + 1) = List.replicate (i + 1) v := by
  rw [take_push 0 _ i (by rw [List.length_set]; exact hi), List.take_set_of_le (by omega), h]
  rw [List.replicate_succ']
  congr 2
  simp [List.getD_eq_getElem?_getD, hi]

theorem EraseS (N : Nat) (b : Bool) (p : Nat) (x y : Int) (hs : List Hnd) (c : List Int) (lo hi : Nat) : ∀ (m i : Nat) (vs : List (List Int)) (D : List HRow), i + m = 19 → Own (u := .int .i64) 2 D lo hi hs vs → p < vs.length →
    (vs.getD p []).length = 19 → (vs.getD p []).take i = List.replicate i 65535 → ∀ n,
    ∃ D', spec_DoFlash.L1 N (n + 1 + m) (i : Int) b (p : Int) x y hs c D = spec_DoFlash.L1 N (n + 1) 19 b (p : Int) x y hs c D' ∧ Fr lo hi D D' ∧ Own (u := .int .i64) 2 D' lo hi hs (vs.set p blank) := by
  intro m
  induction m with
  | zero =>
    intro i vs D hm o hp hl ht n
    have hi' : i = 19 := by omega
    subst hi'
    refine ⟨D, rfl, Fr.refl, ?_⟩
    have : vs.set p blank = vs := by
      have h1 : vs.getD p [] = blank := by rw [← List.take_of_length_le (l := vs.getD p []) (i := 19) (by omega), ht]; rfl
      refine List.ext_getElem (by simp) fun j h1' h2 => ?_
      rw [List.getElem_set]
      split
      · next e => subst e; rw [← h1, List.getD_eq_getElem?_getD, List.getElem?_eq_getElem h2]; rfl
      · rfl
    rw [this]
    exact o
  | succ m ih =>
    intro i vs D hm o hp hl ht n
    obtain ⟨q1, q2⟩ := o.put hp (v := (vs.getD p []).set i 65535) (by rw [List.length_set])
    have hl' := o.len
    obtain ⟨D', e, f, g⟩ := ih (i + 1) (vs.set p ((vs.getD p []).set i 65535)) _ (by omega) q1 (by rw [List.length_set]; exact hp)
      (by simp only [List.getD_eq_getElem?_getD, List.getElem?_set_self hp, Option.getD_some, List.length_set]; simpa [List.getD_eq_getElem?_getD] using hl)
      (by
        have h1 : (vs.set p ((vs.getD p []).set i 65535)).getD p [] = (vs.getD p []).set i 65535 := by simp [List.getD_eq_getElem?_getD, hp]
        rw [h1]
        exact set_replicate _ i _ (by omega) ht) n
    refine ⟨D', ?_, q2.trans f, by rw [List.set_set] at g; exact g⟩
    rw [show n + 1 + (m + 1) = (n + 1 + m) + 1 by omega, spec_DoFlash.L1_eq, decide_eq_true (show (i : Int) < 19 by omega), condT, inRange_nat, decide_eq_true (show p < hs.length by omega), condT, nth_nat, o.full hp, condT,
      show hcut D (.int .i64) (hs.getD p none) = vs.getD p [] from o.cut hp, inRange_nat, decide_eq_true (show i < (vs.getD p []).length by omega), condT, wrap_succ (by omega), Int.toNat_natCast]
    exact e

theorem EraseI (N : Nat) (b : Bool) (p : Int) (x y : Int) (hs : List Hnd) (c : List Int) (h : Hnd) (D : List HRow) : ∀ (m i : Nat) (l : List Int), i + m = 19 → l.length = 19 → l.take i = List.replicate i 65535 → ∀ n,
    impl_DoFlash.L1 N (n + 1 + m) 19 (i : Int) b p x y hs l c D h = impl_DoFlash.L1 N (n + 1) 19 19 b p x y hs blank c D h := by
  intro m
  induction m with
  | zero =>
    intro i l hm hl ht n
    have hi' : i = 19 := by omega
    subst hi'
    have h1 : l = blank := by rw [← List.take_of_length_le (l := l) (i := 19) (by omega), ht]; rfl
    rw [h1]; rfl
  | succ m ih =>
    intro i l hm hl ht n
    rw [show n + 1 + (m + 1) = (n + 1 + m) + 1 by omega, impl_DoFlash.L1_eq, decide_eq_true (show (i : Int) < 19 by omega), condT, inRange_nat, decide_eq_true (show i < l.length by omega), condT, wrap_succ (by omega), Int.toNat_natCast]
    exact ih (i + 1) _ (by omega) (by rw [List.length_set]; exact hl) (set_replicate l i _ (by omega) ht) n

theorem getD_pOk {f : Fl} (h : okF f = true) {p : Nat} (hp : p < 2) : pOk (f.1.getD p []) = true := by
  obtain ⟨a, _, c, _⟩ := okF_facts h
  exact c _ (nth_mem [] f.1 p (by omega))
theorem getD_cOk {f : Fl} (h : okF f = true) {p : Nat} (hp : p < 2) : 0 ≤ f.2.getD p 0 ∧ f.2.getD p 0 ≤ 1000 := by
  obtain ⟨_, b, _, d⟩ := okF_facts h
  exact cOk_facts (d _ (nth_mem 0 f.2 p (by omega)))
theorem pOk_blank : pOk blank = true := by decide

theorem DoS (N : Nat) (hN : 1048576 < N) (f : Fl) (hf : smallF f) (o : FOp) (D : List HRow) : FlOutB (spec_DoFlash.H N (f, o) D) D (doV f o) := by
  rw [spec_DoFlash.H_eq, okF_spec N hN f hf, bindV]
  unfold doV
  cases hk : okF f
  · rw [notF, condT, Bool.false_and, condF]
    exact FlOutB.no (List.prefix_refl _)
  rw [notT, condF, l1In_eq, bindV, Bool.true_and]
  unfold inB
  by_cases h1 : 0 ≤ o.2.1 ∧ o.2.1 ≤ 1
  rotate_left
  · rw [decide_eq_false h1, notF, condT, condF]
    exact FlOutB.no (List.prefix_refl _)
  rw [decide_eq_true h1, notT, condF, condT]
  obtain ⟨b, p', x, y⟩ := o
  simp only at h1 ⊢
  obtain ⟨p, rfl⟩ := Int.eq_ofNat_of_zero_le h1.1
  have hp : p < 2 := by omega
  obtain ⟨fa, fb, fc, fd⟩ := okF_facts hk
  have pk := getD_pOk hk hp
  have ck := getD_cOk hk hp
  have pl := (pOk_facts pk).1
  obtain ⟨hs, E, e, pre, ow⟩ := (copyS_eq N hN f hf (hhide D)).call
  have hln := ow.len
  rw [e, bindV, Int.toNat_natCast]
  dsimp only
  generalize hmerge D E = M at *
  cases b
  · rw [condF, condF, l1In_eq, bindV]
    by_cases h2 : 0 ≤ x ∧ x ≤ 18
    rotate_left
    · rw [decide_eq_false h2, notF, condT, Bool.false_and, condF]
      exact FlOutB.no pre
    rw [decide_eq_true h2, notT, condF, l1In_eq, bindV, Bool.true_and]
    by_cases h3 : 0 ≤ y ∧ y ≤ 65534
    rotate_left
    · rw [decide_eq_false h3, notF, condT, Bool.false_and, condF]
      exact FlOutB.no pre
    obtain ⟨a, rfl⟩ := Int.eq_ofNat_of_zero_le h2.1
    rw [decide_eq_true h3, notT, condF, Bool.true_and, inRange_nat, decide_eq_true (show p < f.1.length by omega), condT, nth_nat, inRange_nat, decide_eq_true (show a < (f.1.getD p []).length by omega), condT, nth_nat, bneI, Int.toNat_natCast]
    by_cases h4 : (f.1.getD p []).getD a 0 = 65535
    rotate_left
    · rw [decide_eq_false h4, notF, condT, condF]
      exact FlOutB.no pre
    rw [decide_eq_true h4, notT, condF, condT, inRange_nat, decide_eq_true (show p < hs.length by omega), condT, nth_nat, ow.full (by omega), condT, show hcut M (.int .i64) (hs.getD p none) = f.1.getD p [] from ow.cut (by omega),
      inRange_nat, decide_eq_true (show a < (f.1.getD p []).length by omega), condT]
    obtain ⟨q1, q2⟩ := ow.put (i := p) (by omega) (v := (f.1.getD p []).set a y) (by rw [List.length_set])
    exact ⟨hs, _, rfl, fr_pre pre (Nat.le_refl _) q2, by rw [q2.1]; exact q1⟩
  · rw [condT, condT]
    obtain ⟨M', e2, f2, o2⟩ := EraseS N true p x y hs f.2 D.length M.length 19 0 f.1 M rfl ow (by omega) pl rfl (N - 20)
    rw [show N - 20 + 1 + 19 = N by omega, show ((0 : Nat) : Int) = 0 from rfl] at e2
    rw [e2, spec_DoFlash.L1_eq, decide_eq_false (by omega), condF, inRange_nat, decide_eq_true (show p < f.2.length by omega), condT, condT, bneI, bneI, Int.toNat_natCast]
    have pre' := fr_pre pre (Nat.le_refl _) f2
    by_cases h2 : x = 0
    rotate_left
    · rw [decide_eq_false h2, notF, condT, Bool.false_and, condF]
      exact FlOutB.no pre'
    rw [decide_eq_true h2, notT, condF, Bool.true_and]
    by_cases h3 : y = 0
    rotate_left
    · rw [decide_eq_false h3, notF, condT, Bool.false_and, condF]
      exact FlOutB.no pre'
    have hc := okF_set hk hp blank (f.2.getD p 0 + 1) pOk_blank
    rw [decide_eq_true h3, notT, condF, Bool.true_and, o2.unok, condT, o2.un2, wrap64 (by omega) (by omega), okF_spec N hN _ ⟨⟨by rw [List.length_set]; omega, fun z hz => by
      rcases List.mem_or_eq_of_mem_set hz with g | g
      · have := (pOk_facts (fc z g)).1; omega
      · rw [g]; decide⟩, by rw [List.length_set]; omega⟩, hc, bindV]
    by_cases h4 : f.2.getD p 0 < 1000
    · have : cOk (f.2.getD p 0 + 1) = true := by unfold cOk; rw [decide_eq_true (show 0 ≤ f.2.getD p 0 + 1 by omega), decide_eq_true (show f.2.getD p 0 + 1 ≤ 1000 by omega)]; rfl
      rw [this, notT, condF, decide_eq_true h4, condT]
      exact ⟨hs, M', rfl, pre', by rw [f2.1]; exact o2⟩
    · have : cOk (f.2.getD p 0 + 1) = false := by unfold cOk; rw [decide_eq_false (show ¬ f.2.getD p 0 + 1 ≤ 1000 by omega), Bool.and_false]
      rw [this, notF, condT, decide_eq_false h4, condF]
      exact FlOutB.no pre'

theorem DoI (N : Nat) (hN : 1048576 < N) (f : Fl) (hf : smallF f) (o : FOp) (D : List HRow) : FlOutB (impl_DoFlash.H N (f, o) D) D (doV f o) := by
  rw [impl_DoFlash.H_eq, okF_impl N hN f hf, bindV]
  unfold doV
  cases hk : okF f
  · rw [notF, condT, Bool.false_and, condF]
    exact FlOutB.no (List.prefix_refl _)
  rw [notT, condF, Bool.true_and]
  unfold inB
  by_cases h0 : o.2.1 < 0
  · rw [decide_eq_true h0, condT, decide_eq_false (by omega), condF]
    exact FlOutB.no (List.prefix_refl _)
  rw [decide_eq_false h0, condF]
  by_cases h1 : o.2.1 > 1
  · rw [decide_eq_true h1, condT, decide_eq_false (by omega), condF]
    exact FlOutB.no (List.prefix_refl _)
  rw [decide_eq_false h1, condF, decide_eq_true (show 0 ≤ o.2.1 ∧ o.2.1 ≤ 1 by omega), condT]
  obtain ⟨b, p', x, y⟩ := o
  simp only at h0 h1 ⊢
  obtain ⟨p, rfl⟩ := Int.eq_ofNat_of_zero_le (show 0 ≤ p' by omega)
  have hp : p < 2 := by omega
  obtain ⟨fa, fb, fc, fd⟩ := okF_facts hk
  have pk := getD_pOk hk hp
  have ck := getD_cOk hk hp
  have pl := (pOk_facts pk).1
  obtain ⟨hs, E, e, pre, ow⟩ := (copyI_eq N hN f hf (hhide D)).call
  have hln := ow.len
  rw [e, bindV, Int.toNat_natCast]
  dsimp only
  generalize hmerge D E = M at *
  rw [inRange_nat, decide_eq_true (show p < hs.length by omega), condT, nth_nat, ow.full (by omega), condT, show hcut M (.int .i64) (hs.getD p none) = f.1.getD p [] from ow.cut (by omega)]
  obtain ⟨n1, n2⟩ := ow.put (i := p) (by omega) (v := f.1.getD p []) rfl
  have pren := fr_pre pre (Nat.le_refl _) n2
  cases b
  · rw [condF, condF, condF]
    by_cases h2 : x < 0
    · rw [decide_eq_true h2, condT, decide_eq_false (show ¬ (0 ≤ x ∧ x ≤ 18) by omega), Bool.false_and, condF]
      exact FlOutB.no pren
    rw [decide_eq_false h2, condF]
    by_cases h3 : x ≥ 19
    · rw [decide_eq_true h3, condT, decide_eq_false (show ¬ (0 ≤ x ∧ x ≤ 18) by omega), Bool.false_and, condF]
      exact FlOutB.no pren
    rw [decide_eq_false h3, condF, decide_eq_true (show 0 ≤ x ∧ x ≤ 18 by omega), Bool.true_and]
    by_cases h4 : y < 0
    · rw [decide_eq_true h4, condT, decide_eq_false (show ¬ (0 ≤ y ∧ y ≤ 65534) by omega), Bool.false_and, condF]
      exact FlOutB.no pren
    rw [decide_eq_false h4, condF]
    by_cases h5 : y ≥ 65535
    · rw [decide_eq_true h5, condT, decide_eq_false (show ¬ (0 ≤ y ∧ y ≤ 65534) by omega), Bool.false_and, condF]
      exact FlOutB.no pren
    rw [decide_eq_false h5, condF, decide_eq_true (show 0 ≤ y ∧ y ≤ 65534 by omega), Bool.true_and]
    obtain ⟨a, rfl⟩ := Int.eq_ofNat_of_zero_le (show 0 ≤ x by omega)
    rw [inRange_nat, decide_eq_true (show a < (f.1.getD p []).length by omega), condT, Int.toNat_natCast, bneI]
    by_cases h6 : (f.1.getD p []).getD a 0 = 65535
    rotate_left
    · rw [decide_eq_false h6, notF, condT, condF]
      exact FlOutB.no pren
    rw [decide_eq_true h6, notT, condF, condT, condT]
    obtain ⟨q1, q2⟩ := ow.put (i := p) (by omega) (v := (f.1.getD p []).set a y) (by rw [List.length_set])
    exact ⟨hs, _, rfl, fr_pre pre (Nat.le_refl _) q2, by rw [q2.1]; exact q1⟩
  · rw [condT, condT, bneI, bneI]
    by_cases h2 : x = 0
    rotate_left
    · rw [decide_eq_false h2, notF, condT, Bool.false_and, condF]
      exact FlOutB.no pren
    rw [decide_eq_true h2, notT, condF, Bool.true_and]
    by_cases h3 : y = 0
    rotate_left
    · rw [decide_eq_false h3, notF, condT, Bool.false_and, condF]
      exact FlOutB.no pren
    rw [decide_eq_true h3, notT, condF, Bool.true_and, inRange_nat, decide_eq_true (show p < f.2.length by omega), condT]
    by_cases h4 : f.2.getD p 0 < 1000
    rotate_left
    · rw [decide_eq_true (show f.2.getD p 0 ≥ 1000 by omega), condT, decide_eq_false h4, condF]
      exact FlOutB.no pren
    rw [decide_eq_false (show ¬ f.2.getD p 0 ≥ 1000 by omega), condF, condT, decide_eq_true h4, condT, pl]
    have e2 := EraseI N true (p : Int) x y hs f.2 (hs.getD p none) (hgone M (hs.getD p none)) 19 0 (f.1.getD p []) rfl pl rfl (N - 20)
    rw [show N - 20 + 1 + 19 = N by omega, show ((0 : Nat) : Int) = 0 from rfl] at e2
    rw [show ((19 : Nat) : Int) = 19 from rfl, e2, impl_DoFlash.L1_eq, decide_eq_false (by omega), condF, inRange_nat, decide_eq_true (show p < f.2.length by omega), condT, condT, Int.toNat_natCast, wrap64 (by omega) (by omega)]
    obtain ⟨q1, q2⟩ := ow.put (i := p) (by omega) (v := blank) (by rw [pl]; rfl)
    exact ⟨hs, _, rfl, fr_pre pre (Nat.le_refl _) q2, by rw [q2.1]; exact q1⟩

theorem doV_ok (f : Fl) (o : FOp) : (doV f o).2 = true → okF (doV f o).1 = true := by
  unfold doV
  cases hk : okF f
  · rw [Bool.false_and, condF]; intro h; cases h
  unfold inB
  by_cases h1 : 0 ≤ o.2.1 ∧ o.2.1 ≤ 1
  rotate_left
  · rw [decide_eq_false h1, Bool.and_false, condF]; intro h; cases h
  rw [decide_eq_true h1, Bool.and_self, condT]
  have hp : o.2.1.toNat < 2 := by omega
  obtain ⟨fa, fb, fc, fd⟩ := okF_facts hk
  have ck := getD_cOk hk hp
  have pk := getD_pOk hk hp
  cases o.1
  · rw [condF]
    by_cases h2 : 0 ≤ o.2.2.1 ∧ o.2.2.1 ≤ 18
    rotate_left
    · rw [decide_eq_false h2, Bool.false_and, condF]; intro h; cases h
    by_cases h3 : 0 ≤ o.2.2.2 ∧ o.2.2.2 ≤ 65534
    rotate_left
    · rw [decide_eq_false h3, Bool.false_and, Bool.and_false, condF]; intro h; cases h
    by_cases h4 : (f.1.getD o.2.1.toNat []).getD o.2.2.1.toNat 0 = 65535
    rotate_left
    · rw [decide_eq_false h4, Bool.and_false, Bool.and_false, condF]; intro h; cases h
    rw [decide_eq_true h2, decide_eq_true h3, decide_eq_true h4, Bool.and_self, Bool.and_self, condT]
    intro _
    have := okF_set hk hp ((f.1.getD o.2.1.toNat []).set o.2.2.1.toNat o.2.2.2) (f.2.getD o.2.1.toNat 0) (by
      obtain ⟨a, b⟩ := pOk_facts pk
      unfold pOk
      rw [List.length_set, decide_eq_true a, Bool.true_and, all_set _ _ _ _ (by omega) b]
      unfold wOk
      rw [decide_eq_true h3.1, decide_eq_true (show o.2.2.2 ≤ 65535 by omega)]; rfl)
    have hs : f.2.set o.2.1.toNat (f.2.getD o.2.1.toNat 0) = f.2 := by
      rw [List.getD_eq_getElem?_getD, List.getElem?_eq_getElem (show o.2.1.toNat < f.2.length by omega)]
      simp
    rw [hs] at this
    rw [this]
    unfold cOk
    rw [decide_eq_true ck.1, decide_eq_true ck.2]; rfl
  · rw [condT]
    by_cases h2 : o.2.2.1 = 0
    rotate_left
    · rw [decide_eq_false h2, Bool.false_and, condF]; intro h; cases h
    by_cases h3 : o.2.2.2 = 0
    rotate_left
    · rw [decide_eq_false h3, Bool.false_and, Bool.and_false, condF]; intro h; cases h
    by_cases h4 : f.2.getD o.2.1.toNat 0 < 1000
    rotate_left
    · rw [decide_eq_false h4, Bool.and_false, Bool.and_false, condF]; intro h; cases h
    rw [decide_eq_true h2, decide_eq_true h3, decide_eq_true h4, Bool.and_self, Bool.and_self, condT]
    intro _
    rw [okF_set hk hp blank _ pOk_blank]
    unfold cOk
    rw [decide_eq_true (show 0 ≤ f.2.getD o.2.1.toNat 0 + 1 by omega), decide_eq_true (show f.2.getD o.2.1.toNat 0 + 1 ≤ 1000 by omega)]; rfl
theorem doV_no (f : Fl) (o : FOp) : (doV f o).2 = false → doV f o = noF := by
  unfold doV
  cases okF f && inB 0 o.2.1 1
  · rw [condF]; intro _; rfl
  rw [condT]
  cases o.1
  · rw [condF]
    cases inB 0 o.2.2.1 18 && (inB 0 o.2.2.2 65534 && decide ((f.1.getD o.2.1.toNat []).getD o.2.2.1.toNat 0 = 65535))
    · rw [condF]; intro _; rfl
    · rw [condT]; intro h; cases h
  · rw [condT]
    cases decide (o.2.2.1 = 0) && (decide (o.2.2.2 = 0) && decide (f.2.getD o.2.1.toNat 0 < 1000))
    · rw [condF]; intro _; rfl
    · rw [condT]; intro h; cases h
theorem smallF_no : smallF noF.1 := ⟨⟨by decide, fun x h => by cases h⟩, by decide⟩
theorem doV_small (f : Fl) (o : FOp) : smallF (doV f o).1 := by
  cases h : (doV f o).2
  · rw [doV_no f o h]; exact smallF_no
  · exact okF_small (doV_ok f o h)

end Go.Kb
