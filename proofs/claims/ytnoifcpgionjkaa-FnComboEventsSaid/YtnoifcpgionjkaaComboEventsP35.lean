/- All steps; what later events do not change; a right state is a right combiner. -/
import Derived.Test.YtnoifcpgionjkaaComboEventsP34
namespace Go.Kb

/-! ### all steps -/
def runA (l : List Cb) (term now : Int) (s : Sc) : List Ev × Sc := runC l term now s.q.length s

theorem runC_fuel (l : List Cb) (term now : Int) : ∀ (k j : Nat) (s : Sc), s.q.length ≤ k → s.q.length ≤ j → runC l term now k s = runC l term now j s := by
  intro k
  induction k with
  | zero =>
    intro j s h1 h2
    have hq : s.q = [] := List.length_eq_zero_iff.1 (by omega)
    have hs : stepC l term now s = none := by unfold stepC; rw [hq]
    cases j with
    | zero => rfl
    | succ j => simp only [runC, hs]
  | succ k ih =>
    intro j s h1 h2
    cases j with
    | zero =>
      have hq : s.q = [] := List.length_eq_zero_iff.1 (by omega)
      have hs : stepC l term now s = none := by unfold stepC; rw [hq]
      simp only [runC, hs]
    | succ j =>
      simp only [runC]
      cases hs : stepC l term now s with
      | none => rfl
      | some p =>
        obtain ⟨o, s'⟩ := p
        obtain ⟨⟨m, m1, m2, m3⟩, _, _⟩ := step_shape hs
        have : s'.q.length = s.q.length - m := by rw [m3, List.length_drop]
        simp only []
        rw [ih j s' (by omega) (by omega)]

theorem runA_eq (l : List Cb) (term now : Int) (k : Nat) (s : Sc) (h : s.q.length ≤ k) : runC l term now k s = runA l term now s := runC_fuel l term now k s.q.length s h (Nat.le_refl _)

theorem runA_step {l : List Cb} {term now : Int} {s : Sc} {o : List Ev} {s' : Sc} (h : stepC l term now s = some (o, s')) : runA l term now s = (o ++ (runA l term now s').1, (runA l term now s').2) := by
  obtain ⟨⟨m, m1, m2, m3⟩, _, _⟩ := step_shape h
  have hl : s'.q.length = s.q.length - m := by rw [m3, List.length_drop]
  obtain ⟨k, hk⟩ : ∃ k, s.q.length = k + 1 := ⟨s.q.length - 1, by omega⟩
  unfold runA
  rw [hk]
  simp only [runC, h]
  rw [runC_fuel l term now k s'.q.length s' (by omega) (Nat.le_refl _)]

theorem runA_none {l : List Cb} {term now : Int} {s : Sc} (h : stepC l term now s = none) : runA l term now s = ([], s) := by
  unfold runA
  cases s.q.length with
  | zero => rfl
  | succ k => simp only [runC, h]

theorem lT_le : ∀ (o : List Ev) (t T : Int), t ≤ T → (∀ e ∈ o, e.1 ≤ T) → lT t o ≤ T := by
  intro o
  induction o with
  | nil => intro t T h _; exact h
  | cons e r ih =>
    intro t T h hh
    exact ih e.1 T (hh e (by simp)) fun x hx => hh x (List.mem_cons_of_mem e hx)

structure runPost (s : Sc) (R : List Ev × Sc) (l : List Cb) (term now : Int) (h : Nat) : Prop where
  st : ∃ (h' : Nat) (t' : Int), okS l R.2 h' ∧ fol 24 h' t' R.2.q ∧ 0 ≤ t' ∧ hA h' R.2.q = hA h s.q
  ck : s.ck ≤ R.2.ck ∧ R.2.ck ≤ now
  f : fol 32 (oHs s) s.ck R.1
  a : hA (oHs s) R.1 = oHs R.2
  t : ∀ e ∈ R.1, e.1 ≤ R.2.ck
  len : R.1.length + R.2.q.length ≤ s.q.length
  stop : stepC l term now R.2 = none
  suf : ∃ j, R.2.q = s.q.drop j
  ac : R.2.ac.length + R.2.q.length ≤ s.ac.length + s.q.length

theorem run_ok {l : List Cb} (hl : okL l) {term now : Int} (hn : now ≤ 1000000) : ∀ (k : Nat) (s : Sc) (h : Nat) (t : Int), s.q.length ≤ k → okS l s h → 0 ≤ t → fol 24 h t s.q → (∀ e ∈ s.q, e.1 ≤ now) → s.ck ≤ now → runPost s (runA l term now s) l term now h := by
  intro k
  induction k with
  | zero =>
    intro s h t h1 h2 h3 h4 h5 h6
    have hq : s.q = [] := List.length_eq_zero_iff.1 (by omega)
    have hs : stepC l term now s = none := by unfold stepC; rw [hq]
    rw [runA_none hs]
    exact ⟨⟨h, t, h2, h4, h3, rfl⟩, ⟨Int.le_refl _, h6⟩, trivial, rfl, fun e he => (by cases he), (by simp), hs, ⟨0, by simp⟩, by simp⟩
  | succ k ih =>
    intro s h t h1 h2 h3 h4 h5 h6
    cases hs : stepC l term now s with
    | none =>
      rw [runA_none hs]
      exact ⟨⟨h, t, h2, h4, h3, rfl⟩, ⟨Int.le_refl _, h6⟩, trivial, rfl, fun e he => (by cases he), (by simp), hs, ⟨0, by simp⟩, by simp⟩
    | some p =>
      obtain ⟨o, s'⟩ := p
      obtain ⟨⟨m, m1, m2, m3⟩, m4, m5⟩ := step_shape hs
      obtain ⟨⟨h', t', g1, g2, g3, g4⟩, g5, g6⟩ := step_ok hl hn h2 h3 h4 h5 h6 hs
      have hlen : s'.q.length = s.q.length - m := by rw [m3, List.length_drop]
      have hmem : ∀ e ∈ s'.q, e ∈ s.q := fun e he => by rw [m3] at he; exact List.mem_of_mem_drop he
      have R := ih s' h' t' (by omega) g1 g3 g2 (fun e he => h5 e (hmem e he)) g5.2
      rw [runA_step hs]
      obtain ⟨h'', t'', r1, r2, r3, r4⟩ := R.st
      refine ⟨⟨h'', t'', r1, r2, r3, r4.trans g4⟩, ⟨Int.le_trans g5.1 R.ck.1, R.ck.2⟩, ?_, ?_, ?_, ?_, R.stop, ?_, ?_⟩
      · simp only []
        rw [fol_append]
        refine ⟨g6.f, ?_⟩
        rw [g6.a]
        exact fol_mono (by omega) _ _ s'.ck _ (lT_le _ _ _ g5.1 g6.t) R.f
      · simp only []
        rw [hA_append, g6.a]; exact R.a
      · intro e he
        rcases List.mem_append.1 he with he | he
        · exact Int.le_trans (g6.t e he) R.ck.1
        · exact R.t e he
      · have := R.len
        simp only [List.length_append]; omega
      · obtain ⟨j, hj⟩ := R.suf
        exact ⟨m + j, by rw [hj, m3, List.drop_drop]⟩
      · have := R.ac
        simp only []; omega

/-- where it stops, a switch that goes down waits, shorter than the term -/
theorem stuck {l : List Cb} {term now : Int} {s : Sc} {h : Nat} {t : Int} (ht : 0 ≤ t) (hf : fol 24 h t s.q) (hn : ∀ e ∈ s.q, e.1 ≤ now) (hs : stepC l term now s = none) {e : Ev} {r : List Ev} (hq : s.q = e :: r) :
    e.2.2 = true ∧ (mtc l term now s.q).1 = 0 ∧ now < IntKind.wrap .i64 (e.1 + term) ∧ ∀ x ∈ r, x.2.2 = true := by
  rw [hq] at hf hn ⊢
  have hsw := fol_sw _ h t ht hf
  obtain ⟨h1, h2, k, h3, h4, h5, h6⟩ := hf
  unfold stepC at hs
  rw [hq] at hs
  simp only [] at hs
  cases hd : e.2.2 with
  | false =>
    rw [hd, Bool.not_false, cond_true] at hs
    cases hg : upGo e.2.1 (maxI s.ck e.1) s.ac with
    | none => rw [hg] at hs; cases hs
    | some p => rw [hg] at hs; cases hs
  | true =>
    rw [hd, Bool.not_true, cond_false] at hs
    cases hz : (mtc l term now (e :: r)).1 == 0 with
    | false =>
      rw [hz, cond_false] at hs
      cases hx : decide ((mtc l term now (e :: r)).2.2 < 0) with
      | true => rw [hx, cond_true] at hs; cases hs
      | false => rw [hx, cond_false] at hs; cases hs
    | true =>
      have hz : (mtc l term now (e :: r)).1 = 0 := by simpa using hz
      have hse := hsw e (by simp)
      have hbk : bitK e.2.1 = ((2 ^ k : Nat) : Int) := by rw [h4]; exact bitK_nat (by omega)
      have g := mgo_spec l now (IntKind.wrap .i64 (e.1 + term)) r (2 ^ k) 1 (pow_lt24 h3) fun x hx => ⟨hsw x (List.mem_cons_of_mem e hx), hn x (List.mem_cons_of_mem e hx)⟩
      refine ⟨rfl, hz, ?_⟩
      simp only [mtc, hse, hd, Bool.not_true, cond_false, hbk] at hz
      cases hw : win l ((2 ^ k : Nat) : Int) with
      | false => rw [hw, Bool.not_false, cond_true] at hz; cases hz
      | true =>
        rw [hw, Bool.not_true, cond_false] at hz
        rcases g with ⟨_, g⟩ | ⟨g, _⟩ | ⟨_, _, j, _, g, _⟩
        · exact g
        · omega
        · omega

/-! ### what is decided is not decided otherwise by later events -/
def Sc.add (s : Sc) (L : List Ev) : Sc := ⟨s.q ++ L, s.ck, s.dn, s.ac⟩

end Go.Kb
