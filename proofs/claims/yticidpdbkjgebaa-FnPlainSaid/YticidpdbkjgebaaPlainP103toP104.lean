/- What is played: the program's walk and the reference's. -/
import Derived.Test.YticidpdbkjgebaaPlainP101toP102
namespace Go.Kb
theorem OkD.front {d : Dcd} (h : OkD d) {f : Ev} {r : List Ev} (hq : d.2.2.1 = f :: r) :
  (∃ k : Nat, f.2.1 = (k : Int) /\ (k : Int) < d.1.1.1) /\ (0 <= f.1 /\ f.1 <= 1000000) /\ (f.2.2 = false -> ∃ x ∈ d.1.2.2.2.1, x.1 = f.2.1) /\ (f.2.2 = true -> ∀ x ∈ d.1.2.2.2.1, x.1 ≠ f.2.1) := by
 have hk := h.eng.map.keys
 have hf := h.f
 rw [hq] at hf
 obtain ⟨f1, f2, k, f3, f4, f5, f6⟩ := hf
 have hmb := hmN_bit d.1.2.2.2.1 0 k
 simp only [Nat.zero_testBit, Bool.false_or] at hmb
 refine ⟨⟨k, f4, by omega⟩, ⟨f1, f2⟩, fun hd => ?_, fun hd x hx hxk => ?_⟩
 ·rw [f4]
  refine (any_key h.eng.rng k).1 ?_
  rw [<- hmb]
  rw [hd] at f5
  revert f5
  cases (hmN 0 d.1.2.2.2.1).testBit k <;> simp
 ·have : (d.1.2.2.2.1.any fun h => h.1.toNat == k) = true := (any_key h.eng.rng k).2 ⟨x, hx, by omega⟩
  rw [<- hmb] at this
  rw [this, hd] at f5
  cases f5
theorem chGo_vals (fl key en now : Int) : ∀ (l : List Ev) (dn : Int), (chGo fl key en now dn l).1 = 0 \/ (chGo fl key en now dn l).1 = 1 \/ (chGo fl key en now dn l).1 = 2 := by
 intro l
 induction l with
 | nil =>
  intro dn
  simp only [chGo]
  cases decide (en <= now) with
  | true => exact Or.inr (Or.inr rfl)
  | false => exact Or.inl rfl
 | cons e r ih =>
  intro dn
  simp only [chGo]
  cases evB e with
  | false => exact Or.inl rfl
  | true =>
   rw [notT, condF]
   cases decide (en <= e.1) with
   | true => exact Or.inr (Or.inr rfl)
   | false =>
    rw [condF]
    cases e.2.1 == key with
    | true =>
     rw [condT]
     cases e.2.2 with
     | true => exact ih dn
     | false => exact Or.inr (Or.inl rfl)
    | false =>
     rw [condF]
     cases e.2.2 with
     | true =>
      rw [condT]
      cases fl == 1 with
      | true => exact Or.inr (Or.inr rfl)
      | false => exact ih _
     | false =>
      rw [condF]
      cases fl == 2 && bitB dn e.2.1 with
      | true => exact Or.inr (Or.inr rfl)
      | false => exact ih _
theorem chc_vals (t : Tmg) (key time : Int) (l : List Ev) (now : Int) : (chc t key time l now).1 = 0 \/ (chc t key time l now).1 = 1 \/ (chc t key time l now).1 = 2 := by
 unfold chc
 cases isT t && decide (0 <= time /\ time <= 1000000) with
 | true => exact chGo_vals _ _ _ _ _ _
 | false => exact Or.inl rfl
def perfV (d : Dcd) : List Rpt × Bool × Dcd := match stepD d with
 | some (o, d') => (o, true, d')
 | none => ([], false, d)
theorem perform_v (N : Nat) (hN : 1048576 < N) (d : Dcd) (h : OkD d) (h0 : 0 < d.2.2.1.length) : zv.F N d = some (perfV d) := by
 obtain ⟨e, tm, q, now, ck, tp, ta⟩ := d
 cases q with
 | nil => simp at h0
 | cons f r =>
  obtain ⟨⟨k, f1, f2⟩, ⟨t0, t1⟩, hrel, hprs⟩ := h.front rfl
  obtain ⟨h1, h2, h3, h4, h5, h6, h7, h8⟩ := h
  obtain ⟨t, key, dn⟩ := f
  dsimp only at f1 f2 t0 t1 hrel hprs h1 h2 h3 h4 h5 h7 h8
  subst f1
  have hk := h1.map.keys
  have hh := h1.len
  have i0 : zu 0 ((t, (k : Int), dn) :: r).length = true := by
   unfold zu; rw [List.length_cons, dT (by omega), dT (by omega)]; rfl
  have i1 : (decide ((0 : Int) <= 1) && decide ((1 : Int) <= (((t, (k : Int), dn) :: r).length : Int))) = true := by
   rw [List.length_cons, dT (by omega), dT (by omega)]; rfl
  have n0 : nth ((0 : Int), ((0 : Int), false)) ((t, (k : Int), dn) :: r) 0 = (t, (k : Int), dn) := rfl
  have d1 : List.drop 1 ((t, (k : Int), dn) :: r) = r := rfl
  have wk : IntKind.wrap .i64 ((k : Int) + 1) = (k : Int) + 1 := zAl (by omega) (by omega)
  have wt : IntKind.wrap .i64 (t - ta) = t - ta := zAl (by omega) (by omega)
  have hr : r.length <= 63 := by rw [List.length_cons] at h5; omega
  have hm : decide (r.length <= maxN) = true := dT (by unfold maxN; omega)
  rw [zv.F_eq]
  dsimp only
  rw [i0, condT, i1, condT]
  simp only [n0, d1, wk, wt, hm, condT]
  unfold perfV
  simp only [stepD]
  cases dn with
  | false =>
   rw [release_impl N hN e h1 (k : Int) (hrel rfl)]
   simp only [notF, condT, condF, bindV]
   cases tp == (k : Int) + 1 <;> rfl
  | true =>
   simp only [notT, condF, condT]
   rw [ly_impl N hN _ _ (by omega), bindV, act_impl N hN h1.map f2, bindV, isTH_impl, bindV]
   have p1 := press_impl N hN e h1 k f2 true
   have p2 := press_impl N hN e h1 k f2 false
   rw [p1, p2, chc_impl N hN tm (k : Int) t r (by omega) now]
   simp only [bindV, chD]
   cases isTH (actN e.1.2 (lyOn e.2.2.1 e.2.2.2.1) (k : Int)) with
   | false => rfl
   | true =>
    simp only [condT, bneB]
    have eq : decide (t - ta >= tm.2.1) = !decide (t - ta < tm.2.1) := by
     rw [Bool.eq_iff_iff]; simp only [decide_eq_true_eq, Bool.not_eq_true', decide_eq_false_iff_not]; omega
    rw [eq]
    have hv := chc_vals tm (k : Int) t r now
    generalize chc tm (k : Int) t r now = c at *
    obtain ⟨c1, c2⟩ := c
    dsimp only at hv
    cases tp == (k : Int) + 1 <;> cases decide (t - ta < tm.2.1) <;> rcases hv with hv | hv | hv <;> subst hv <;> rfl
theorem send_v (N : Nat) (hN : 1048576 < N) (t : Int) (l : List Rpt) (hl : l.length <= 1000) (o : List Snt) (ho : o.length <= 1000000) : yi.F N (o, t, l) = some (o ++ sentB t l) := by
 have gl : ∀ (n i : Nat) (o : List Snt), i <= l.length -> l.length < n + i -> o.length + (l.length - i) <= 1001000 -> yi.L1 N n t l (l.length : Int) (i : Int) o = some (o ++ sentB t (l.drop i)) := by
  intro n
  induction n with
  | zero => intro i o h1 h2; omega
  | succ n ih =>
   intro i o h1 h2 h3
   rw [yi.L1_eq]
   by_cases hi : i < l.length
   ·have ws : IntKind.wrap .i64 ((i : Int) + 1) = ((i + 1 : Nat) : Int) := y0 (by omega)
    have e1 := len1 o (t, l.getD i dR) (by omega)
    rw [zAL dR l i hi]
    simp only [oJ, hi, decide_true, condT, inRange_nat, nth_nat, ws, e1]
    rw [ih (i + 1) _ (by omega) (by omega) (by rw [lA, List.length_singleton]; omega), List.append_assoc]
    rfl
   ·simp only [oJ, hi, decide_false, condF]
    rw [List.drop_of_length_le (by omega)]
    simp only [sentB, List.map_nil, List.append_nil]
 rw [yi.F_eq]
 have g := gl N 0 o (by omega) (by omega) (by omega)
 rw [List.drop_zero] at g
 exact g
theorem prs_len (e : Eng) (key : Int) (hold : Bool) : (prs e key hold).2.length <= 17 := by
 rw [prs_eq]
 dsimp only
 refine Nat.le_trans (chg_len _ _) ?_
 rw [lA, List.length_singleton]
 have h := (mcRep_small (e.2.2.2.1 ++ [(key, (stlE e (prA e key hold)).1)]) (e.2.1.getD (stlE e (prA e key hold)).1.2.2.2.toNat [])).1
 cases (stlE e (prA e key hold)).1.1 == 9 && decide ((stlE e (prA e key hold)).1.2.2.2 < e.2.1.length) with
 | true => rw [condT]; omega
 | false => rw [condF, List.length_nil]; omega
theorem rls_len (e : Eng) (key : Int) : (rls e key).2.length <= 17 := by
 refine Nat.le_trans (chg_len _ _) ?_
 rw [List.length_singleton]; omega
theorem step_len {d : Dcd} (h : OkD d) {l : List Rpt} {d' : Dcd} (hs : stepD d = some (l, d')) : l.length <= 17 := by
 obtain ⟨_, _, _, _, _, _, ⟨f, _, hx⟩⟩ := stepD_ok h hs
 rcases hx with ⟨_, _, hold, _, e⟩ | ⟨_, _, _, e⟩
 ·rw [e]; exact prs_len _ _ _
 ·rw [e]; exact rls_len _ _
theorem sentB_len (t : Int) (l : List Rpt) : (sentB t l).length = l.length := by unfold sentB; exact List.length_map _
theorem play_L1 (N : Nat) (hN : 1048576 < N) : ∀ (k n : Nat) (d : Dcd) (o : List Snt), d.2.2.1.length <= k -> k < n -> OkD d -> o.length + 17 * d.2.2.1.length <= 2000 ->
  zQ.L1 N n d.1.1.1 d.1.1.2 d.1.2.1 d.1.2.2.1 d.1.2.2.2.1 d.1.2.2.2.2.1 d.1.2.2.2.2.2 d.2.1.1 d.2.1.2.1 d.2.1.2.2 d.2.2.1 d.2.2.2.1 d.2.2.2.2.1 d.2.2.2.2.2.1 d.2.2.2.2.2.2 o = some ((runQ d).1, (o ++ (runQ d).2, true)) := by
 intro k
 induction k with
 | zero =>
  intro n d o h1 h2 h3 h4
  obtain ⟨n, rfl⟩ : ∃ m, n = m + 1 := ⟨n - 1, by omega⟩
  have hs := stepD_nil (d := d) (List.length_eq_zero_iff.1 (by omega))
  rw [zQ.L1_eq, dF (by omega), condF, runQ_none hs, List.append_nil]
 | succ k ih =>
  intro n d o h1 h2 h3 h4
  obtain ⟨n, rfl⟩ : ∃ m, n = m + 1 := ⟨n - 1, by omega⟩
  rw [zQ.L1_eq]
  by_cases h0 : 0 < d.2.2.1.length
  ·have hp := perform_v N hN d h3 h0
   rw [dT (by omega), condT]
   simp only [pEta]
   rw [hp, bindV]
   unfold perfV
   cases hs : stepD d with
   | none => rw [runQ_none hs, List.append_nil]; rfl
   | some p =>
    obtain ⟨l, d'⟩ := p
    obtain ⟨g1, g2, g3, g4, g5, ⟨f, hf⟩, _⟩ := stepD_ok h3 hs
    have hl := step_len h3 hs
    have hlen : d.2.2.1.length = d'.2.2.1.length + 1 := by rw [hf]; rfl
    dsimp only
    rw [notT, condF, send_v N hN _ l (by omega) o (by omega), bindV, ih n d' _ (by omega) (by omega) g1 (by rw [lA, sentB_len]; omega), runQ_some hs, List.append_assoc]
  ·have hs := stepD_nil (d := d) (List.length_eq_zero_iff.1 (by omega))
   rw [dF (by omega), condF, runQ_none hs, List.append_nil]
theorem play_impl (N : Nat) (hN : 2200000 < N) (d : Dcd) (hd : smallD d) (l : List Ev) (hl : l.length <= 1048576) (en : Int) : zQ.F N (d, l, en) = some (ply d l en) := by
 rw [zQ.F_eq, isD_impl N hN d hd, bindV]
 by_cases hD : isD d = true
 ·have hO := (isD_iff d).1 hD
  have hq := hO.len
  have hcp : yE.F N d = some d := by
   rw [yE.F_eq, copyE_impl N (by omega) d.1 hd.1, bindV, dT (show d.2.2.1.length <= maxN by unfold maxN; omega), condT]
  have em : decide (d.2.2.1.length + l.length <= maxN) = true := dT (by unfold maxN; omega)
  rw [hD, notT, condF]
  by_cases c1 : en < d.2.2.2.1
  ·have hp : plyB d l en = false := by
    rw [Bool.eq_false_iff]; intro hp; have := ((plyB_iff d l en).1 hp).en_; omega
   rw [dT c1, condT]; unfold ply; rw [hp]; rfl
  by_cases c2 : en > 1000000
  ·have hp : plyB d l en = false := by
    rw [Bool.eq_false_iff]; intro hp; have := ((plyB_iff d l en).1 hp).en_; omega
   rw [dF c1, condF, dT c2, condT]; unfold ply; rw [hp]; rfl
  rw [dF c1, condF, dF c2, condF]
  have hb := behind_impl N l (by omega) en (by have := hO.now; omega)
  have hrest : (bindO (yH.F N (l, en)) fun r2 =>
    bif !r2 then some (zeroD, (([] : List Snt), false)) else
     bindO (yE.F N d) fun r3 =>
     bif decide (List.length r3.2.2.1 + List.length l <= maxN) then
     bindO (zX.F N d.1.2.2.2.1) fun r4 =>
     bindO (zS.F N (r3.2.2.1 ++ l, (r4, d.1.1.1))) fun r5 =>
     bif !r5 then some (zeroD, (([] : List Snt), false)) else
      zQ.L1 N N r3.1.1.1 r3.1.1.2 r3.1.2.1 r3.1.2.2.1 r3.1.2.2.2.1 r3.1.2.2.2.2.1 r3.1.2.2.2.2.2 r3.2.1.1 r3.2.1.2.1 r3.2.1.2.2 (r3.2.2.1 ++ l) en r3.2.2.2.2.1 r3.2.2.2.2.2.1 r3.2.2.2.2.2.2 ([] : List Snt)
     else none) = some (bif headB d.2.2.2.1 l then ply d l en else (bif decide (lT 0 l <= en) && fits (d.2.2.1 ++ l) (hmGo 0 d.1.2.2.2.1) d.1.1.1 then ((runQ (ext l en d)).1, (runQ (ext l en d)).2, true) else (zeroD, [], false))) \/ headB d.2.2.2.1 l = false := by
   by_cases hh : headB d.2.2.2.1 l = true
   ·left
    rw [hh, condT, hb, bindV]
    unfold ply plyB
    rw [hD, hh, Bool.true_and, Bool.true_and, dT (show d.2.2.2.1 <= en /\ en <= 1000000 by omega), Bool.true_and]
    cases hlt : decide (lT 0 l <= en) with
    | false => rfl
    | true =>
     rw [notT, condF, hcp, bindV, em, condT, hm_impl N (by omega) hO.eng, bindV, fits_impl N hN _ (by rw [lA]; omega), bindV, Bool.true_and]
     cases hf : fits (d.2.2.1 ++ l) (hmGo 0 d.1.2.2.2.1) d.1.1.1 with
     | false => rfl
     | true =>
      have hP : OkP d l en := (plyB_iff d l en).1 (by
       unfold plyB
       rw [hD, hh, hlt, hf, dT (show d.2.2.2.1 <= en /\ en <= 1000000 by omega)]; rfl)
      have hx := hP.ext
      have g := play_L1 N (by omega) 64 N (ext l en d) [] hx.len (by omega) hx (by have := hx.len; rw [List.length_nil]; omega)
      rw [notT, condF, condT]
      have e1 : (d.1, d.2.1, d.2.2.1 ++ l, en, d.2.2.2.2) = ext l en d := rfl
      rw [e1, runQ_eq (d := ext l en d) hx.len]
      exact g
   ·right
    rw [Bool.not_eq_true] at hh; exact hh
  cases l with
  | nil =>
   rcases hrest with g | g
   ·rw [dF (by rw [List.length_nil]; omega), condF]
    exact g
   ·cases g
  | cons x s =>
   have i0 : zu 0 (x :: s).length = true := by
    unfold zu; rw [List.length_cons, dT (by omega), dT (by omega)]; rfl
   have n0 : nth ((0 : Int), ((0 : Int), false)) (x :: s) 0 = x := rfl
   rw [dT (by rw [List.length_cons]; omega), condT, i0, condT, n0]
   by_cases hx : x.1 < d.2.2.2.1
   ·have hp : plyB d (x :: s) en = false := by
     rw [Bool.eq_false_iff]; intro hp
     have := ((plyB_iff d (x :: s) en).1 hp).hd
     simp only [headB, decide_eq_true_eq] at this
     omega
    rw [dT hx, condT]; unfold ply; rw [hp]; rfl
   ·rw [dF hx, condF]
    have hh : headB d.2.2.2.1 (x :: s) = true := dT (by omega)
    rcases hrest with g | g
    ·rw [hh, condT] at g
     exact g
    ·rw [hh] at g; cases g
 ·rw [Bool.not_eq_true] at hD
  have hp : plyB d l en = false := by
   unfold plyB; rw [hD]; rfl
  rw [hD, notF, condT]; unfold ply; rw [hp]; rfl
end Go.Kb
namespace Go.Kb
end Go.Kb
