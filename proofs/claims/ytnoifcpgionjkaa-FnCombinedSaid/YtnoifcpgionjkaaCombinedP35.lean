/- All steps; what later events do not change; a right state is a right combiner. -/
import Derived.Test.YtnoifcpgionjkaaCombinedP34
namespace Go.Kb

/-! ### all steps -/
def runA (l : List Cb) (term now : Int) (s : Sc) : List Ev × Sc := runC l term now s.q.length s

theorem runC_fuel (l : List Cb) (term now : Int) : ∀ (k j : Nat) (s : Sc), s.q.length ≤ k → s.q.length ≤ j → runC l term now k s = runC l term now j s := by
  intro k
  induction k with
  | zero =>
    intro j s h1 h2
    have hq : s.q = [] := List.length_eq_zero_iff.1 (by omega)
    have hs : stepC l term now s = none := by unfold stepC; rw [hq]
    cases j with
    | zero => rfl
    | succ j => simp only [runC, hs]
  | succ k ih =>
    intro j s h1 h2
    cases j with
    | zero =>
      have hq : s.q = [] := List.length_eq_zero_iff.1 (by omega)
      have hs : stepC l term now s = none := by unfold stepC; rw [hq]
      simp only [runC, hs]
    | succ j =>
      simp only [runC]
      cases hs : stepC l term now s with
      | none => rfl
      | some p =>
        obtain ⟨o, s'⟩ := p
        obtain ⟨⟨m, m1, m2, m3⟩, _, _⟩ := step_shape hs
        have : s'.q.length = s.q.length - m := by rw [m3, List.length_drop]
        simp only []
        rw [ih j s' (by omega) (by omega)]

theorem runA_eq (l : List Cb) (term now : Int) (k : Nat) (s : Sc) (h : s.q.length ≤ k) : runC l term now k s = runA l term now s := runC_fuel l term now k s.q.length s h (Nat.le_refl _)

theorem runA_step {l : List Cb} {term now : Int} {s : Sc} {o : List Ev} {s' : Sc} (h : stepC l term now s = some (o, s')) : runA l term now s = (o ++ (runA l term now s').1, (runA l term now s').2) := by
  obtain ⟨⟨m, m1, m2, m3⟩, _, _⟩ := step_shape h
  have hl : s'.q.length = s.q.length - m := by rw [m3, List.length_drop]
  obtain ⟨k, hk⟩ : ∃ k, s.q.length = k + 1 := ⟨s.q.length - 1, by omega⟩
  unfold runA
  rw [hk]
  simp only [runC, h]
  rw [runC_fuel l term now k s'.q.length s' (by omega) (Nat.le_refl _)]

theorem runA_none {l : List Cb} {term now : Int} {s : Sc} (h : stepC l term now s = none) : runA l term now s = ([], s) := by
  unfold runA
  cases s.q.length with
  | zero => rfl
  | succ k => simp only [runC, h]

theorem lT_le : ∀ (o : List Ev) (t T : Int), t ≤ T → (∀ e ∈ o, e.1 ≤ T) → lT t o ≤ T := by
  intro o
  induction o with
  | nil => intro t T h _; exact h
  | cons e r ih =>
    intro t T h hh
    exact ih e.1 T (hh e (by simp)) fun x hx => hh x (List.mem_cons_of_mem e hx)

structure runPost (s : Sc) (R : List Ev × Sc) (l : List Cb) (term now : Int) (h : Nat) : Prop where
  st : ∃ (h' : Nat) (t' : Int), okS l R.2 h' ∧ fol 24 h' t' R.2.q ∧ 0 ≤ t' ∧ hA h' R.2.q = hA h s.q
  ck : s.ck ≤ R.2.ck ∧ R.2.ck ≤ now
  f : fol 32 (oHs s) s.ck R.1
  a : hA (oHs s) R.1 = oHs R.2
  t : ∀ e ∈ R.1, e.1 ≤ R.2.ck
  len : R.1.length + R.2.q.length ≤ s.q.length
  stop : stepC l term now R.2 = none
  suf : ∃ j, R.2.q = s.q.drop j
  ac : R.2.ac.length + R.2.q.length ≤ s.ac.length + s.q.length

theorem run_ok {l : List Cb} (hl : okL l) {term now : Int} (hn : now ≤ 1000000) : ∀ (k : Nat) (s : Sc) (h : Nat) (t : Int), s.q.length ≤ k → okS l s h → 0 ≤ t → fol 24 h t s.q → (∀ e ∈ s.q, e.1 ≤ now) → s.ck ≤ now → runPost s (runA l term now s) l term now h := by
  intro k
  induction k with
  | zero =>
    intro s h t h1 h2 h3 h4 h5 h6
    have hq : s.q = [] := List.length_eq_zero_iff.1 (by omega)
    have hs : stepC l term now s = none := by unfold stepC; rw [hq]
    rw [runA_none hs]
    exact ⟨⟨h, t, h2, h4, h3, rfl⟩, ⟨Int.le_refl _, h6⟩, trivial, rfl, fun e he => (by cases he), (by simp), hs, ⟨0, by simp⟩, by simp⟩
  | succ k ih =>
    intro s h t h1 h2 h3 h4 h5 h6
    cases hs : stepC l term now s with
    | none =>
      rw [runA_none hs]
      exact ⟨⟨h, t, h2, h4, h3, rfl⟩, ⟨Int.le_refl _, h6⟩, trivial, rfl, fun e he => (by cases he), (by simp), hs, ⟨0, by simp⟩, by simp⟩
    | some p =>
      obtain ⟨o, s'⟩ := p
      obtain ⟨⟨m, m1, m2, m3⟩, m4, m5⟩ := step_shape hs
      obtain ⟨⟨h', t', g1, g2, g3, g4⟩, g5, g6⟩ := step_ok hl hn h2 h3 h4 h5 h6 hs
      have hlen : s'.q.length = s.q.length - m := by rw [m3, List.length_drop]
      have hmem : ∀ e ∈ s'.q, e ∈ s.q := fun e he => by rw [m3] at he; exact List.mem_of_mem_drop he
      have R := ih s' h' t' (by omega) g1 g3 g2 (fun e he => h5 e (hmem e he)) g5.2
      rw [runA_step hs]
      obtain ⟨h'', t'', r1, r2, r3, r4⟩ := R.st
      refine ⟨⟨h'', t'', r1, r2, r3, r4.trans g4⟩, ⟨Int.le_trans g5.1 R.ck.1, R.ck.2⟩, ?_, ?_, ?_, ?_, R.stop, ?_, ?_⟩
      · simp only []
        rw [fol_append]
        refine ⟨g6.f, ?_⟩
        rw [g6.a]
        exact fol_mono (by omega) _ _ s'.ck _ (lT_le _ _ _ g5.1 g6.t) R.f
      · simp only []
        rw [hA_append, g6.a]; exact R.a
      · intro e he
        rcases List.mem_append.1 he with he | he
        · exact Int.le_trans (g6.t e he) R.ck.1
        · exact R.t e he
      · have := R.len
        simp only [List.length_append]; omega
      · obtain ⟨j, hj⟩ := R.suf
        exact ⟨m + j, by rw [hj, m3, List.drop_drop]⟩
      · have := R.ac
        simp only []; omega

/-! ### what is decided is not decided otherwise by later events -/
theorem mgo_stable (l : List Cb) {now now2 : Int} (tend : Int) (hnn : now ≤ now2) (L : List Ev) (hL : ∀ e ∈ L, isSw e = true ∧ now ≤ e.1) : ∀ (r : List Ev) (s n : Int), (mgo l now tend r s n).1 ≠ 0 → mgo l now2 tend (r ++ L) s n = mgo l now tend r s n := by
  intro r
  induction r with
  | nil =>
    intro s n h
    simp only [mgo] at h ⊢
    by_cases hc : now < tend
    · rw [decide_eq_true hc] at h; exact absurd rfl h
    · rw [decide_eq_false hc, cond_false, List.nil_append]
      cases L with
      | nil => simp only [mgo]; rw [decide_eq_false (by omega), cond_false]
      | cons e r2 =>
        obtain ⟨h1, h2⟩ := hL e (by simp)
        have h3 : e.1 ≥ tend := by omega
        simp only [mgo, h1, Bool.not_true, cond_false]
        rw [decide_eq_true h3, cond_true, minI_ge h3]
  | cons e r ih =>
    intro s n h
    simp only [List.cons_append, mgo] at h ⊢
    cases h1 : !isSw e with
    | true => simp only [cond_true]
    | false =>
      rw [h1] at h
      simp only [cond_false] at h ⊢
      cases h2 : decide (e.1 ≥ tend) with
      | true => simp only [cond_true]
      | false =>
        rw [h2] at h
        simp only [cond_false] at h ⊢
        cases h3 : !e.2.2 with
        | true => simp only [cond_true]
        | false =>
          rw [h3] at h
          simp only [cond_false] at h ⊢
          cases h4 : !win l (bitOr .i64 s (bitK e.2.1)) with
          | true => simp only [cond_true]
          | false =>
            rw [h4] at h
            simp only [cond_false] at h ⊢
            cases h5 : decide ((whl l (bitOr .i64 s (bitK e.2.1))).1 ≥ 0) && !(whl l (bitOr .i64 s (bitK e.2.1))).2 with
            | true => simp only [cond_true]
            | false =>
              rw [h5] at h
              simp only [cond_false] at h ⊢
              exact ih _ _ h

theorem mtc_stable (l : List Cb) (term : Int) {now now2 : Int} (hnn : now ≤ now2) (L : List Ev) (hL : ∀ e ∈ L, isSw e = true ∧ now ≤ e.1) (q : List Ev) (h : (mtc l term now q).1 ≠ 0) : mtc l term now2 (q ++ L) = mtc l term now q := by
  cases q with
  | nil => exact absurd rfl h
  | cons f r =>
    simp only [List.cons_append, mtc] at h ⊢
    cases h1 : !isSw f with
    | true => simp only [cond_true]
    | false =>
      rw [h1] at h
      simp only [cond_false] at h ⊢
      cases h2 : !f.2.2 with
      | true => simp only [cond_true]
      | false =>
        rw [h2] at h
        simp only [cond_false] at h ⊢
        cases h3 : !win l (bitK f.2.1) with
        | true => simp only [cond_true]
        | false =>
          rw [h3] at h
          simp only [cond_false] at h ⊢
          exact mgo_stable l _ hnn L hL r _ _ h

def Sc.add (s : Sc) (L : List Ev) : Sc := ⟨s.q ++ L, s.ck, s.dn, s.ac⟩

theorem step_stable {l : List Cb} {term now now2 : Int} (hnn : now ≤ now2) {L : List Ev} (hL : ∀ e ∈ L, isSw e = true ∧ now ≤ e.1) {s s' : Sc} {o : List Ev} (h : stepC l term now s = some (o, s')) : stepC l term now2 (s.add L) = some (o, s'.add L) := by
  obtain ⟨q, ck, dn, ac⟩ := s
  cases q with
  | nil => simp [stepC] at h
  | cons e r =>
    simp only [stepC, Sc.add, List.cons_append] at h ⊢
    cases hd : e.2.2 with
    | false =>
      rw [hd] at h
      simp only [Bool.not_false, cond_true] at h ⊢
      cases hg : upGo e.2.1 (maxI ck e.1) ac with
      | none =>
        rw [hg] at h
        simp only [Option.some.injEq, Prod.mk.injEq] at h ⊢
        obtain ⟨rfl, rfl⟩ := h
        exact ⟨rfl, rfl⟩
      | some p =>
        rw [hg] at h
        simp only [Option.some.injEq, Prod.mk.injEq] at h ⊢
        obtain ⟨rfl, rfl⟩ := h
        exact ⟨rfl, rfl⟩
    | true =>
      rw [hd] at h
      simp only [Bool.not_true, cond_false] at h ⊢
      cases hz : (mtc l term now (e :: r)).1 == 0 with
      | true => rw [hz, cond_true] at h; cases h
      | false =>
        have hz' : (mtc l term now (e :: r)).1 ≠ 0 := by simpa using hz
        have hb := mtc_bound l term now (e :: r)
        have hm := mtc_stable l term hnn L hL (e :: r) hz'
        rw [List.cons_append] at hm
        rw [hm, hz, cond_false]
        rw [hz, cond_false] at h
        have hdr : List.drop (mtc l term now (e :: r)).1.toNat (e :: (r ++ L)) = List.drop (mtc l term now (e :: r)).1.toNat (e :: r) ++ L := by
          rw [← List.cons_append, List.drop_append_of_le_length (by omega)]
        rw [hdr]
        cases hx : decide ((mtc l term now (e :: r)).2.2 < 0) with
        | true =>
          rw [hx, cond_true] at h
          simp only [Option.some.injEq, Prod.mk.injEq] at h
          obtain ⟨rfl, rfl⟩ := h
          simp only [cond_true]
        | false =>
          rw [hx, cond_false] at h
          simp only [Option.some.injEq, Prod.mk.injEq] at h
          obtain ⟨rfl, rfl⟩ := h
          simp only [cond_false]

/-- part by part is as at once -/
theorem run_split {l : List Cb} {term now now2 : Int} (hnn : now ≤ now2) {L : List Ev} (hL : ∀ e ∈ L, isSw e = true ∧ now ≤ e.1) : ∀ (k : Nat) (s : Sc), s.q.length ≤ k →
    runA l term now2 (s.add L) = ((runA l term now s).1 ++ (runA l term now2 ((runA l term now s).2.add L)).1, (runA l term now2 ((runA l term now s).2.add L)).2) := by
  intro k
  induction k with
  | zero =>
    intro s h
    have hq : s.q = [] := List.length_eq_zero_iff.1 (by omega)
    have hs : stepC l term now s = none := by unfold stepC; rw [hq]
    rw [runA_none hs]; rfl
  | succ k ih =>
    intro s h
    cases hs : stepC l term now s with
    | none => rw [runA_none hs]; rfl
    | some p =>
      obtain ⟨o, s'⟩ := p
      obtain ⟨⟨m, m1, m2, m3⟩, _, _⟩ := step_shape hs
      have hlen : s'.q.length = s.q.length - m := by rw [m3, List.length_drop]
      rw [runA_step hs, runA_step (step_stable hnn hL hs), ih s' (by omega), List.append_assoc]
end Go.Kb
