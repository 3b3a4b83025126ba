/- What comes of switches that all go up again; combinations found on the way. -/
import Derived.Test.YtnoifcpgionjkaaComboEventsP39
namespace Go.Kb

/-! ### all switches go up -/
theorem between_L1 (N : Nat) (h0 : Nat) (hh : h0 < 16777216) (time : Int) (ht : time ≤ 1000000) : ∀ (n k : Nat) (o : List Ev), k ≤ 32 → 32 < n + k → o.length + 32 ≤ 1000 + k →
    ∃ R : List Ev, impl_eventsBetween.L1 N n (h0 : Int) 0 time (k : Int) o = some (o ++ R) ∧ R.length ≤ 32 - k ∧ (∀ x ∈ R, x.1 = time) ∧
      ∀ g : Nat, (∀ i, g.testBit i = (h0.testBit i && decide (k ≤ i))) → fol 24 g time R ∧ hA g R = 0 := by
  intro n
  induction n with
  | zero => intro k o h1 h2; omega
  | succ n ih =>
    intro k o h1 h2 h3
    rw [impl_eventsBetween.L1_eq]
    by_cases hk : k ≤ 31
    · have hk' : (k : Int) ≤ 31 := by omega
      have hk0 : (0 : Int) ≤ (k : Int) := by omega
      have ws : IntKind.wrap .i64 ((k : Int) + 1) = ((k + 1 : Nat) : Int) := wrap_succ (by omega)
      have hb1 : (bitAnd .i64 (shiftR .i64 (h0 : Int) (k : Int)) 1 == 0) = !h0.testBit k := bitOf0 (by omega) hk
      have z : bitAnd .i64 (shiftR .i64 0 (k : Int)) 1 = 0 := by
        have := shr_nat .i64 0 k (by simp only [IntKind.bits]; omega)
        rw [show ((0 : Nat) : Int) = 0 from rfl, Nat.zero_shiftRight] at this
        rw [this]; rfl
      simp only [hk', decide_true, condT, impl_bit.F_eq, hk0, bindV, z, bne, hb1, Bool.not_not, ws]
      cases hb : h0.testBit k with
      | true =>
        have hl : ∀ x : Ev, o.length + List.length ([x] : List Ev) ≤ maxN := fun x => by simp only [maxN, List.length_cons, List.length_nil]; omega
        have z1 : ((0 : Int) == 1) = false := rfl
        simp only [cond_true, hl, decide_true, z1]
        obtain ⟨R, r1, r2, r3, r4⟩ := ih (k + 1) (o ++ [(time, ((k : Int), false))]) (by omega) (by omega) (by simp only [List.length_append, List.length_cons, List.length_nil]; omega)
        refine ⟨(time, ((k : Int), false)) :: R, by rw [r1, List.append_assoc]; rfl, by simp only [List.length_cons]; omega, ?_, fun g hg => ?_⟩
        · intro x hx
          rcases List.mem_cons.1 hx with rfl | hx
          · rfl
          · exact r3 x hx
        · have gk : g.testBit k = true := by rw [hg, hb, decide_eq_true (Nat.le_refl k)]; rfl
          have k24 : k < 24 := by
            apply Classical.byContradiction
            intro hc
            rw [bit24 hh (by omega)] at hb; cases hb
          have hg' : ∀ i, (g ^^^ 2 ^ k).testBit i = (h0.testBit i && decide (k + 1 ≤ i)) := by
            intro i
            rw [xor_clr gk, clr_bit, hg]
            by_cases hi : k = i
            · subst hi; simp
            · by_cases hlt : k ≤ i
              · have : k + 1 ≤ i := by omega
                simp [hlt, this, hi]
              · have : ¬ k + 1 ≤ i := by omega
                simp [hlt, this]
          obtain ⟨f1, f2⟩ := r4 _ hg'
          refine ⟨⟨by simp only []; omega, ht, k, k24, rfl, by simp only []; rw [gk]; rfl, f1⟩, ?_⟩
          simp only [hA, List.foldl_cons, Int.toNat_natCast]
          exact f2
      | false =>
        simp only [cond_false]
        obtain ⟨R, r1, r2, r3, r4⟩ := ih (k + 1) o (by omega) (by omega) (by omega)
        refine ⟨R, r1, by omega, r3, fun g hg => r4 g fun i => ?_⟩
        rw [hg]
        by_cases hi : k = i
        · subst hi; rw [hb]; rfl
        · by_cases hlt : k ≤ i
          · have : k + 1 ≤ i := by omega
            simp [hlt, this]
          · have : ¬ k + 1 ≤ i := by omega
            simp [hlt, this]
    · have hk' : ¬ (k : Int) ≤ 31 := by omega
      simp only [hk', decide_false, condF]
      refine ⟨[], by rw [List.append_nil], by simp, (by intro x hx; cases hx), fun g hg => ⟨trivial, ?_⟩⟩
      show g = 0
      apply Nat.eq_of_testBit_eq; intro i
      rw [hg, Nat.zero_testBit]
      by_cases hi : k ≤ i
      · rw [bit24 hh (by omega)]; rfl
      · simp [hi]

theorem between_eq (N : Nat) (hN : 100 < N) (h0 : Nat) (hh : h0 < 16777216) (time : Int) (ht : time ≤ 1000000) : ∃ R : List Ev, impl_eventsBetween.F N ((h0 : Int), (0, time)) = some R ∧ R.length ≤ 32 ∧ (∀ x ∈ R, x.1 = time) ∧ fol 24 h0 time R ∧ hA h0 R = 0 := by
  rw [impl_eventsBetween.F_eq]
  obtain ⟨R, r1, r2, r3, r4⟩ := between_L1 N h0 hh time ht N 0 [] (by omega) (by omega) (by simp)
  obtain ⟨f1, f2⟩ := r4 h0 (fun i => by simp)
  exact ⟨R, r1, by omega, r3, f1, f2⟩

theorem IsEvents_eq (N : Nat) (hN : 1048576 < N) (r : List Ev) (hl : r.length ≤ 64) (hr : fol 32 0 0 r) : impl_IsEvents.F N r = some true := by
  rw [impl_IsEvents.F_eq]
  have := follow_eq N hN r hl 0 (by omega) 0 (by omega) hr
  rw [show (0 : Int) = ((0 : Nat) : Int) from rfl, this, bindV]

theorem hA_lt5 : ∀ (a : List Ev) (h : Nat) (t : Int), h < 16777216 → fol 24 h t a → hA h a < 16777216 := by
  intro a
  induction a with
  | nil => intro h t hh _; exact hh
  | cons x r ih =>
    rintro h t hh ⟨h1, h2, k, h3, h4, h5, h6⟩
    have e1 : hA h (x :: r) = hA (h ^^^ 2 ^ k) r := by simp only [hA, List.foldl_cons, h4, Int.toNat_natCast]
    rw [e1]
    refine ih _ _ ?_ h6
    have := Nat.xor_lt_two_pow (n := 24) (x := h) (y := 2 ^ k) (by omega) (by have := pow_lt24 h3; omega)
    omega

theorem Release_eq (N : Nat) (hN : 1048576 < N) (r : List Ev) (hl : r.length ≤ 12) (hr : fol 5 0 0 r) (e : Int) (he : 0 ≤ e ∧ e ≤ 1000000) (hre : ∀ x ∈ r, x.1 ≤ e) :
    ∃ all : List Ev, impl_ReleaseAll.F N (r, e) = some (all, true) ∧ all.length ≤ 44 ∧ fol 24 0 0 all ∧ hA 0 all = 0 ∧ ∀ x ∈ all, x.1 ≤ e := by
  have hr24 := fol_mono (K' := 24) (by omega) r _ 0 0 (by omega) hr
  have hr32 := fol_mono (K' := 32) (by omega) r _ 0 0 (by omega) hr
  have hh := hA_lt5 r 0 0 (by omega) hr24
  obtain ⟨R, r1, r2, r3, r4, r5⟩ := between_eq N (by omega) (hA 0 r) hh e he.2
  have hlt := lT_le r 0 e he.1 hre
  have hall : fol 24 0 0 (r ++ R) := (fol_append 24 r 0 0 R).2 ⟨hr24, fol_mono (by omega) R _ e _ hlt r4⟩
  have hlen : (r ++ R).length ≤ 44 := by rw [List.length_append]; omega
  refine ⟨r ++ R, ?_, hlen, hall, by rw [hA_append]; exact r5, ?_⟩
  · rw [impl_ReleaseAll.F_eq, IsEvents_eq N hN r (by omega) hr32]
    have a1 : ¬ e < 0 := by omega
    have a2 : ¬ e > 1000000 := by omega
    have m1 : r.length ≤ maxN := by unfold maxN; omega
    have m2 : r.length + R.length ≤ maxN := by unfold maxN; omega
    have i2 := IsEvents_eq N hN (r ++ R) (by omega) (fol_mono (by omega) _ _ 0 0 (by omega) hall)
    have hd := Held_eq N hN r (by omega) hr32
    simp only [bindV, notT, condF, a1, a2, decide_false, m1, m2, decide_true, condT, hd, r1, i2]
    by_cases h0 : (r.length : Int) > 0
    · have w : IntKind.wrap .i64 ((r.length : Int) - 1) = ((r.length - 1 : Nat) : Int) := by rw [wrap64 (by omega) (by omega)]; omega
      have hp : r.length - 1 < r.length := by omega
      have hlast := hre _ (nth_mem (0, 0, false) r (r.length - 1) hp)
      have hlast' : ¬ e < (r.getD (r.length - 1) (0, 0, false)).1 := by omega
      simp only [h0, decide_true, condT, w, inRange_nat, hp, nth_nat, hlast', decide_false, condF]
    · simp only [h0, decide_false, condF]
  · intro x hx
    rcases List.mem_append.1 hx with hx | hx
    · exact hre x hx
    · rw [r3 x hx]; omega

/-- when all have gone up, nothing waits -/
theorem all_up {N : Nat} {l : List Cb} {t now : Int} {s : Sc} {h : Nat} (ho : okM N l t now s h) (hstop : stepC l t now s = none) (hA0 : hA h s.q = 0) : s.q = [] ∧ s.ac = [] ∧ s.dn = 0 := by
  have hq : s.q = [] := by
    cases hqq : s.q with
    | nil => rfl
    | cons x y =>
      exfalso
      obtain ⟨s1, _, _, s4⟩ := stuck (by omega) ho.of ho.oq hstop hqq
      have hf := ho.of
      rw [hqq] at hf hA0
      obtain ⟨f1, f2⟩ := fol_downs (x :: y) h 0 hf (by
        intro z hz
        rcases List.mem_cons.1 hz with rfl | hz
        · exact s1
        · exact s4 z hz)
      rw [f1] at hA0
      obtain ⟨h1, h2, k, h3, h4, h5, h6⟩ := hf
      have e2 : setN 0 (x :: y) = 2 ^ k ||| setN 0 y := by
        show setN (0 ||| 2 ^ x.2.1.toNat) y = _
        rw [h4, Int.toNat_natCast, Nat.zero_or, setN_or]
      have : (h ||| setN 0 (x :: y)).testBit k = true := by
        rw [e2, Nat.testBit_or, Nat.testBit_or, Nat.testBit_two_pow]; simp
      rw [hA0, Nat.zero_testBit] at this
      cases this
  rw [hq] at hA0
  have h0 : h = 0 := hA0
  obtain ⟨d, d1, d2, d3⟩ := ho.os.d
  rw [h0] at d3
  have hac : s.ac = [] := by
    cases hac : s.ac with
    | nil => rfl
    | cons a r =>
      exfalso
      obtain ⟨m, K, _, m2, _, _, _, m6⟩ := AOk_mem d3 a (by rw [hac]; simp)
      obtain ⟨i, hi⟩ := Nat.exists_testBit_of_ne_zero m2
      have := m6 i hi
      rw [Nat.zero_testBit] at this; cases this
  refine ⟨hq, hac, ?_⟩
  rw [hac] at d3
  have : 0 = d := d3
  rw [d1, ← this]; rfl

theorem CEvents_L1 (N : Nat) (e : Int) (got : List Ev) (hg : got.length ≤ 1000) (hte : ∀ x ∈ got, x.1 ≤ e) (o10 : List Cb) (o11 o13 o14 : Int) : ∀ (n i : Nat), i ≤ got.length → got.length < n + i → laws_FnComboEvents.L1 N n e got (i : Int) o10 o11 [] o13 o14 0 [] = some true := by
  intro n
  induction n with
  | zero => intro i h1 h2; omega
  | succ n ih =>
    intro i h1 h2
    rw [laws_FnComboEvents.L1_eq]
    by_cases hi : i < got.length
    · have ws : IntKind.wrap .i64 ((i : Int) + 1) = ((i + 1 : Nat) : Int) := wrap_succ (by omega)
      have h3 := hte _ (nth_mem (0, 0, false) got i hi)
      have h8 : ¬ (got.getD i (0, 0, false)).1 > e := by omega
      simp only [Int.ofNat_lt, hi, decide_true, condT, inRange_nat, nth_nat, h8, decide_false, condF, ws, ih (i + 1) (by omega) (by omega)]
    · have z0 : ((([] : List Ev).length : Int) == 0) = true := rfl
      have z1 : ((0 : Int) == 0) = true := rfl
      simp only [Int.ofNat_lt, hi, decide_false, condF, z0, condT, z1]

theorem CEvents_core (N : Nat) (hN : 2000000 < N) (l : List Cb) (hl : okF l) (t : Int) (ht : 1 ≤ t ∧ t ≤ 6) (r : List Ev) (hlen : r.length ≤ 12) (hr : fol 5 0 0 r) (e : Int) (he : 0 ≤ e ∧ e ≤ 1000000) (hre : ∀ x ∈ r, x.1 ≤ e) :
    ∃ all got o14, impl_ReleaseAll.F N (r, e) = some (all, true) ∧ impl_CombineEvents.F N (idle l t, (all, e)) = some ((l, (t, ([], (e, (o14, (0, [])))))), (got, true)) ∧
      impl_IsEvents.F N got = some true ∧ impl_HeldAfter.F N got = some 0 ∧ got.length ≤ all.length ∧ got.length ≤ 1000 ∧ ∀ x ∈ got, x.1 ≤ e := by
  obtain ⟨all, a1, a2, a3, a4, a5⟩ := Release_eq N (by omega) r hlen hr e he hre
  have hid := idle_ok (N := N) (by omega) hl ht
  obtain ⟨f1, f2, h', f3, f4⟩ := okM_CE hN hid (L := all) (e := e) he a3 a5 (by simp only [idleS, List.length_nil]; omega)
  have h0 : hA h' (runA l t e (idleS.add all)).2.q = 0 := by rw [f3]; exact a4
  obtain ⟨u1, u2, u3⟩ := all_up f4 f2.stop h0
  have hf := f2.f
  have ha := f2.a
  have hlen2 := f2.len
  have e1 : oHs (idleS.add all) = 0 := rfl
  have e2 : (idleS.add all).ck = 0 := rfl
  have e3 : (idleS.add all).q = all := rfl
  rw [e1, e2] at hf
  rw [e1] at ha
  rw [e3] at hlen2
  have e4 : oHs (runA l t e (idleS.add all)).2 = 0 := by unfold oHs; rw [u2, u3]; rfl
  rw [e4] at ha
  have ht2 : ∀ x ∈ (runA l t e (idleS.add all)).1, x.1 ≤ e := fun x hx => Int.le_trans (f2.t x hx) f2.ck.2
  rw [idle_cm] at f1
  refine ⟨all, (runA l t e (idleS.add all)).1, (runA l t e (idleS.add all)).2.ck, a1, ?_, IsEvents_eq N (by omega) _ (by omega) hf, ?_, by omega, by omega, ht2⟩
  · rw [f1]
    simp only [Sc.cm, u1, u2, u3]
  · rw [Held_eq N (by omega) _ (by omega) hf, ha]; rfl

theorem FnComboEvents_true (N : Nat) (hN : 2000000 < N) (code : List Int) : laws_FnComboEvents.F N code = some true := by
  rw [laws_FnComboEvents.F_eq]
  rw [laws_big.F_eq, bindV]
  by_cases hbig : (code.length : Int) > 1048576
  · simp only [hbig, decide_true, condT]
  · have hmN : code.length ≤ maxN := by unfold maxN; omega
    obtain ⟨l, t, r, a1, a2, a3, e1, g, g1, g2⟩ := FreshD N (by omega) code hmN (by omega)
    simp only [hbig, decide_false, condF, e1, bindV]
    have z0 : ((0 : Int) != 0) = false := rfl
    by_cases h0 : (r.length : Int) > 0
    · have w : IntKind.wrap .i64 ((r.length : Int) - 1) = ((r.length - 1 : Nat) : Int) := by rw [wrap64 (by omega) (by omega)]; omega
      have hp : r.length - 1 < r.length := by omega
      have hlast := lT_getD r 0 (by omega)
      have h00 := lT_ge 5 r 0 0 g
      obtain ⟨all, got, o14, b1, b2, b3, b4, b5, b6, b7⟩ := CEvents_core N hN l a1 t ⟨a2, a3⟩ r g1 g (lT 0 r) ⟨by omega, by omega⟩ (fun x hx => (fol_time 5 r 0 0 g x hx).2.1)
      have b5' : ¬ ((got.length : Int) > (all.length : Int)) := by omega
      have hL := CEvents_L1 N (lT 0 r) got b6 b7 l t (lT 0 r) o14 N 0 (by omega) (by omega)
      simp only [h0, decide_true, condT, w, inRange_nat, hp, nth_nat, hlast, b1, b2, b3, b4, bindV, notT, condF, z0, b5', decide_false]
      exact hL
    · have hr0 : r = [] := List.length_eq_zero_iff.1 (by omega)
      obtain ⟨all, got, o14, b1, b2, b3, b4, b5, b6, b7⟩ := CEvents_core N hN l a1 t ⟨a2, a3⟩ r g1 g 0 ⟨by omega, by omega⟩ (fun x hx => by rw [hr0] at hx; cases hx)
      have b5' : ¬ ((got.length : Int) > (all.length : Int)) := by omega
      have hL := CEvents_L1 N 0 got b6 b7 l t 0 o14 N 0 (by omega) (by omega)
      simp only [h0, decide_false, condF, b1, b2, b3, b4, bindV, notT, z0, b5']
      exact hL

/-! ### on the way -/
end Go.Kb
