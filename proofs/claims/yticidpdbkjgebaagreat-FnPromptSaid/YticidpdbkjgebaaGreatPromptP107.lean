/- The law FnPrompt, as values. -/
import Derived.Test.YticidpdbkjgebaaGreatPromptP106
namespace Go.Kb
set_option maxRecDepth 100000
theorem okK_len : ∀ (l : List Int) (p : Int), 0 ≤ p ∧ p ≤ 56 → okK p l = true → (l.length : Int) ≤ 56 - p := by
 intro l
 induction l with
 | nil => intro p hp _; show (0 : Int) ≤ _; omega
 | cons x r ih =>
  intro p hp h
  rw [okK_cons, Bool.and_eq_true, Bool.and_eq_true, decide_eq_true_iff, decide_eq_true_iff] at h
  have := ih x (by omega) h.2.2
  rw [List.length_cons]
  omega
theorem rpB_small {r : Rpt} (h : rpB r = true) : r.2.length ≤ 56 := by
 unfold rpB at h
 rw [Bool.and_eq_true] at h
 have := okK_len r.2 0 (by omega) h.2
 omega
theorem Prompt_L1 (N : Nat) (hN : 1048576 < N) (en : Int) (all : List Snt) (hl : all.length ≤ 1000000) (h1 : ∀ s ∈ all, s.1 ≤ en ∧ rpB s.2 = true) (h2 : all.Pairwise fun a b => a.1 ≤ b.1) (x : Dcd) (hx : OkD x) (hs : stepD x = none) : ∀ (n i : Nat), i ≤ all.length → all.length < n + i →
  laws_FnPrompt.L1 N n en all (i : Int) x.1.1.1 x.1.1.2 x.1.2.1 x.1.2.2.1 x.1.2.2.2.1 x.1.2.2.2.2.1 x.1.2.2.2.2.2 x.2.1.1 x.2.1.2.1 x.2.1.2.2 x.2.2.1 x.2.2.2.1 x.2.2.2.2.1 x.2.2.2.2.2.1 x.2.2.2.2.2.2 = some true := by
 intro n
 induction n with
 | zero => intro i g1 g2; omega
 | succ n ih =>
  intro i g1 g2
  rw [laws_FnPrompt.L1_eq]
  by_cases hi : i < all.length
  ·have ws : IntKind.wrap .i64 ((i : Int) + 1) = ((i + 1 : Nat) : Int) := yC (by omega)
   obtain ⟨a1, a2⟩ := h1 _ (zAG (0, 0, []) all i hi)
   have hr := IsReport_eq N hN (all.getD i (0, 0, [])).2 (by have := rpB_small a2; unfold smallR; omega)
   rw [dT (Int.ofNat_lt.2 hi), condT, inRange_nat, dT hi, condT, nth_nat, dF (show ¬ (all.getD i (0, 0, [])).1 > en by omega), condF, hr, bindV, a2, notT, condF, condT, ws, ih (i + 1) (by omega) (by omega)]
   by_cases h0 : i = 0
   ·subst h0
    rw [dF (show ¬ (((0 : Nat) : Int) > 0) by omega), condF, condT]
   ·have wp : IntKind.wrap .i64 ((i : Int) - 1) = ((i - 1 : Nat) : Int) := by rw [yr (by omega) (by omega)]; omega
    have hle : (all.getD (i - 1) (0, 0, [])).1 ≤ (all.getD i (0, 0, [])).1 := by
     rw [List.pairwise_iff_getElem] at h2
     have := h2 (i - 1) i (by omega) hi (by omega)
     rw [List.getD_eq_getElem?_getD, List.getD_eq_getElem?_getD, List.getElem?_eq_getElem hi, List.getElem?_eq_getElem (show i - 1 < all.length by omega)]
     exact this
    rw [dT (show (i : Int) > 0 by omega), condT, wp, inRange_nat, dT (show i - 1 < all.length by omega), condT, condT, nth_nat, dF (show ¬ (all.getD (i - 1) (0, 0, [])).1 > (all.getD i (0, 0, [])).1 by omega), condF]
  ·rw [dF (by omega), condF]
   have hq := hx.len
   cases hqq : x.2.2.1 with
   | nil => rfl
   | cons f r =>
    obtain ⟨w1, w2, w3⟩ := waits hx hs hqq
    obtain ⟨⟨k, f1, f2⟩, ⟨t0, t1⟩, _, _⟩ := hx.front hqq
    have hT := (isT_iff _).1 hx.tm
    have i0 : inRange 0 (f :: r).length = true := by
     unfold inRange; rw [List.length_cons, dT (by omega), dT (by omega)]; rfl
    have n0 : nth ((0 : Int), ((0 : Int), false)) (f :: r) 0 = f := rfl
    have hh := hx.eng.len
    have ha := act_impl N hN hx.eng.map f2 (lyOn x.1.2.2.1 x.1.2.2.2.1)
    rw [← f1] at ha
    have wt : IntKind.wrap .i64 (f.1 + x.2.1.1) = f.1 + x.2.1.1 := yr (by omega) (by omega)
    rw [bN (show ((f :: r).length : Int) ≠ 0 by rw [List.length_cons]; omega), condF, i0, condT, n0, ly_impl N hN _ _ (by omega), bindV]
    simp only [pEta]
    rw [ha, bindV, w1, condT, isTH_impl, bindV, w2, condT, wt, dT (show f.1 + x.2.1.1 > x.2.2.2.1 by omega)]
theorem runQ_sent_len : ∀ (k : Nat) (d : Dcd), d.2.2.1.length ≤ k → OkD d → (runQ d).2.length ≤ 17 * d.2.2.1.length := by
 intro k
 induction k with
 | zero =>
  intro d h _
  rw [zAE (zAL (d := d) (List.length_eq_zero_iff.1 (by omega)))]; exact Nat.zero_le _
 | succ k ih =>
  intro d h hd
  cases hs : stepD d with
  | none => rw [zAE hs]; exact Nat.zero_le _
  | some p =>
   obtain ⟨o, d'⟩ := p
   obtain ⟨g1, _, _, _, _, ⟨f, hf⟩, _⟩ := stepD_ok hd hs
   have hl : d.2.2.1.length = d'.2.2.1.length + 1 := by rw [hf]; rfl
   have ho := step_len hd hs
   have := ih d' (by omega) g1
   rw [runQ_some hs]
   dsimp only
   rw [List.length_append, sentB_len]
   omega
theorem FnPrompt_F (code : List Int) : laws_FnPrompt.F 4000000 code = some true := by
 generalize hNN : (4000000 : Nat) = N
 have hN : 3999999 < N := by omega
 rw [laws_FnPrompt.F_eq, zAC.F_eq, bindV]
 by_cases hb : (code.length : Int) > 1048576
 ·rw [dT hb, condT]
 ·rw [dF hb, condF]
  obtain ⟨d, l, en, e1, hd, hP, l1, l2⟩ := MakeD N (by omega) code (by unfold maxN; omega) (by omega)
  have hdl := hd.q
  have hx := hP.ext
  have hq64 := hx.len
  have hp := play_impl N (by omega) d ⟨hP.dk.eng.small, by omega⟩ l (by omega) en
  rw [ply_ok hP] at hp
  obtain ⟨r1, r2, r3, r4, r5, r6, r7⟩ := run_sent _ (ext l en d) (Nat.le_refl _) hx
  have hsl := runQ_sent_len _ (ext l en d) (Nat.le_refl _) hx
  rw [e1, bindV, hp, bindV, notT, condF]
  generalize runQ (ext l en d) = R at *
  have hc := r1.clock
  have hnow : (ext l en d).2.2.2.1 = en := rfl
  rw [hnow] at r5
  exact Prompt_L1 N (by omega) en R.2 (by omega) (fun s hs => by have := r3 s hs; exact ⟨by omega, this.2.2⟩) r4 R.1 r1 r7 N 0 (by omega) (by omega)
end Go.Kb
