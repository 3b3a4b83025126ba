/- What is played: the program's walk and the reference's. -/
import Derived.Test.YticidpdbkjgebaaGreatDecidedP102
namespace Go.Kb
theorem OkD.front {d : Dcd} (h : OkD d) {f : Ev} {r : List Ev} (hq : d.2.2.1 = f :: r) :
  (∃ k : Nat, f.2.1 = (k : Int) /\ (k : Int) < d.1.1.1) /\ (0 <= f.1 /\ f.1 <= 1000000) /\ (f.2.2 = false -> ∃ x ∈ d.1.2.2.2.1, x.1 = f.2.1) /\ (f.2.2 = true -> ∀ x ∈ d.1.2.2.2.1, x.1 ≠ f.2.1) := by
 have hk := h.eng.map.keys
 have hf := h.f
 rw [hq] at hf
 obtain ⟨f1, f2, k, f3, f4, f5, f6⟩ := hf
 have hmb := hmN_bit d.1.2.2.2.1 0 k
 simp only [Nat.zero_testBit, Bool.false_or] at hmb
 refine ⟨⟨k, f4, by omega⟩, ⟨f1, f2⟩, fun hd => ?_, fun hd x hx hxk => ?_⟩
 ·rw [f4]
  refine (any_key h.eng.rng k).1 ?_
  rw [<- hmb]
  rw [hd] at f5
  revert f5
  cases (hmN 0 d.1.2.2.2.1).testBit k <;> simp
 ·have : (d.1.2.2.2.1.any fun h => h.1.toNat == k) = true := (any_key h.eng.rng k).2 ⟨x, hx, by omega⟩
  rw [<- hmb] at this
  rw [this, hd] at f5
  cases f5
theorem chGo_vals (fl key en now : Int) : ∀ (l : List Ev) (dn : Int), (chGo fl key en now dn l).1 = 0 \/ (chGo fl key en now dn l).1 = 1 \/ (chGo fl key en now dn l).1 = 2 := by
 intro l
 induction l with
 | nil =>
  intro dn
  simp only [chGo]
  cases decide (en <= now) with
  | true => exact Or.inr (Or.inr rfl)
  | false => exact Or.inl rfl
 | cons e r ih =>
  intro dn
  simp only [chGo]
  cases evB e with
  | false => exact Or.inl rfl
  | true =>
   rw [notT, condF]
   cases decide (en <= e.1) with
   | true => exact Or.inr (Or.inr rfl)
   | false =>
    rw [condF]
    cases e.2.1 == key with
    | true =>
     rw [condT]
     cases e.2.2 with
     | true => exact ih dn
     | false => exact Or.inr (Or.inl rfl)
    | false =>
     rw [condF]
     cases e.2.2 with
     | true =>
      rw [condT]
      cases fl == 1 with
      | true => exact Or.inr (Or.inr rfl)
      | false => exact ih _
     | false =>
      rw [condF]
      cases fl == 2 && bitB dn e.2.1 with
      | true => exact Or.inr (Or.inr rfl)
      | false => exact ih _
theorem chc_vals (t : Tmg) (key time : Int) (l : List Ev) (now : Int) : (chc t key time l now).1 = 0 \/ (chc t key time l now).1 = 1 \/ (chc t key time l now).1 = 2 := by
 unfold chc
 cases isT t && decide (0 <= time /\ time <= 1000000) with
 | true => exact chGo_vals _ _ _ _ _ _
 | false => exact Or.inl rfl
def perfV (d : Dcd) : List Rpt × Bool × Dcd := match stepD d with
 | some (o, d') => (o, true, d')
 | none => ([], false, d)
theorem perform_v (N : Nat) (hN : 1048576 < N) (d : Dcd) (h : OkD d) (h0 : 0 < d.2.2.1.length) : z4.F N d = some (perfV d) := by
 obtain ⟨e, tm, q, now, ck, tp, ta⟩ := d
 cases q with
 | nil => simp at h0
 | cons f r =>
  obtain ⟨⟨k, f1, f2⟩, ⟨t0, t1⟩, hrel, hprs⟩ := h.front rfl
  obtain ⟨h1, h2, h3, h4, h5, h6, h7, h8⟩ := h
  obtain ⟨t, key, dn⟩ := f
  dsimp only at f1 f2 t0 t1 hrel hprs h1 h2 h3 h4 h5 h7 h8
  subst f1
  have hk := h1.map.keys
  have hh := h1.len
  have i0 : zP 0 ((t, (k : Int), dn) :: r).length = true := by
   unfold zP; rw [List.length_cons, dT (by omega), dT (by omega)]; rfl
  have i1 : (decide ((0 : Int) <= 1) && decide ((1 : Int) <= (((t, (k : Int), dn) :: r).length : Int))) = true := by
   rw [List.length_cons, dT (by omega), dT (by omega)]; rfl
  have n0 : nth ((0 : Int), ((0 : Int), false)) ((t, (k : Int), dn) :: r) 0 = (t, (k : Int), dn) := rfl
  have d1 : List.drop 1 ((t, (k : Int), dn) :: r) = r := rfl
  have wk : IntKind.wrap .i64 ((k : Int) + 1) = (k : Int) + 1 := zAF (by omega) (by omega)
  have wt : IntKind.wrap .i64 (t - ta) = t - ta := zAF (by omega) (by omega)
  have hr : r.length <= 63 := by rw [List.length_cons] at h5; omega
  have hm : decide (r.length <= maxN) = true := dT (by unfold maxN; omega)
  rw [z4.F_eq]
  dsimp only
  rw [i0, condT, i1, condT]
  simp only [n0, d1, wk, wt, hm, condT]
  unfold perfV
  simp only [stepD]
  cases dn with
  | false =>
   rw [release_impl N hN e h1 (k : Int) (hrel rfl)]
   simp only [notF, condT, condF, bindV]
   cases tp == (k : Int) + 1 <;> rfl
  | true =>
   simp only [notT, condF, condT]
   rw [ly_impl N hN _ _ (by omega), bindV, act_impl N hN h1.map f2, bindV, isTH_impl, bindV]
   have p1 := press_impl N hN e h1 k f2 true
   have p2 := press_impl N hN e h1 k f2 false
   rw [p1, p2, chc_impl N hN tm (k : Int) t r (by omega) now]
   simp only [bindV, chD]
   cases isTH (actN e.1.2 (lyOn e.2.2.1 e.2.2.2.1) (k : Int)) with
   | false => rfl
   | true =>
    simp only [condT, bneB]
    have eq : decide (t - ta >= tm.2.1) = !decide (t - ta < tm.2.1) := by
     rw [Bool.eq_iff_iff]; simp only [decide_eq_true_eq, Bool.not_eq_true', decide_eq_false_iff_not]; omega
    rw [eq]
    have hv := chc_vals tm (k : Int) t r now
    generalize chc tm (k : Int) t r now = c at *
    obtain ⟨c1, c2⟩ := c
    dsimp only at hv
    cases tp == (k : Int) + 1 <;> cases decide (t - ta < tm.2.1) <;> rcases hv with hv | hv | hv <;> subst hv <;> rfl
theorem send_v (N : Nat) (hN : 1048576 < N) (t : Int) (l : List Rpt) (hl : l.length <= 1000) (o : List Snt) (ho : o.length <= 1000000) : yt.F N (o, t, l) = some (o ++ sentB t l) := by
 have gl : ∀ (n i : Nat) (o : List Snt), i <= l.length -> l.length < n + i -> o.length + (l.length - i) <= 1001000 -> yt.L1 N n t l (l.length : Int) (i : Int) o = some (o ++ sentB t (l.drop i)) := by
  intro n
  induction n with
  | zero => intro i o h1 h2; omega
  | succ n ih =>
   intro i o h1 h2 h3
   rw [yt.L1_eq]
   by_cases hi : i < l.length
   ·have ws : IntKind.wrap .i64 ((i : Int) + 1) = ((i + 1 : Nat) : Int) := yA (by omega)
    have e1 := len1 o (t, l.getD i dR) (by omega)
    rw [yq dR l i hi]
    simp only [oJ, hi, decide_true, condT, inRange_nat, nth_nat, ws, e1]
    rw [ih (i + 1) _ (by omega) (by omega) (by rw [lA, List.length_singleton]; omega), List.append_assoc]
    rfl
   ·simp only [oJ, hi, decide_false, condF]
    rw [List.drop_of_length_le (by omega)]
    simp only [sentB, List.map_nil, List.append_nil]
 rw [yt.F_eq]
 have g := gl N 0 o (by omega) (by omega) (by omega)
 rw [List.drop_zero] at g
 exact g
theorem prs_len (e : Eng) (key : Int) (hold : Bool) : (prs e key hold).2.length <= 17 := by
 rw [prs_eq]
 dsimp only
 refine Nat.le_trans (chg_len _ _) ?_
 rw [lA, List.length_singleton]
 have h := (mcRep_small (e.2.2.2.1 ++ [(key, (stlE e (prA e key hold)).1)]) (e.2.1.getD (stlE e (prA e key hold)).1.2.2.2.toNat [])).1
 cases (stlE e (prA e key hold)).1.1 == 9 && decide ((stlE e (prA e key hold)).1.2.2.2 < e.2.1.length) with
 | true => rw [condT]; omega
 | false => rw [condF, List.length_nil]; omega
theorem rls_len (e : Eng) (key : Int) : (rls e key).2.length <= 17 := by
 refine Nat.le_trans (chg_len _ _) ?_
 rw [List.length_singleton]; omega
theorem step_len {d : Dcd} (h : OkD d) {l : List Rpt} {d' : Dcd} (hs : stepD d = some (l, d')) : l.length <= 17 := by
 obtain ⟨_, _, _, _, _, _, ⟨f, _, hx⟩⟩ := stepD_ok h hs
 rcases hx with ⟨_, _, hold, _, e⟩ | ⟨_, _, _, e⟩
 ·rw [e]; exact prs_len _ _ _
 ·rw [e]; exact rls_len _ _
theorem sentB_len (t : Int) (l : List Rpt) : (sentB t l).length = l.length := by unfold sentB; exact List.length_map _
theorem play_L1 (N : Nat) (hN : 1048576 < N) : ∀ (k n : Nat) (d : Dcd) (o : List Snt), d.2.2.1.length <= k -> k < n -> OkD d -> o.length + 17 * d.2.2.1.length <= 2000 ->
  zM.L1 N n d.1.1.1 d.1.1.2 d.1.2.1 d.1.2.2.1 d.1.2.2.2.1 d.1.2.2.2.2.1 d.1.2.2.2.2.2 d.2.1.1 d.2.1.2.1 d.2.1.2.2 d.2.2.1 d.2.2.2.1 d.2.2.2.2.1 d.2.2.2.2.2.1 d.2.2.2.2.2.2 o = some ((runQ d).1, (o ++ (runQ d).2, true)) := by
 intro k
 induction k with
 | zero =>
  intro n d o h1 h2 h3 h4
  obtain ⟨n, rfl⟩ : ∃ m, n = m + 1 := ⟨n - 1, by omega⟩
  have hs := zBG (d := d) (List.length_eq_zero_iff.1 (by omega))
  rw [zM.L1_eq, dF (by omega), condF, zAm hs, List.append_nil]
 | succ k ih =>
  intro n d o h1 h2 h3 h4
  obtain ⟨n, rfl⟩ : ∃ m, n = m + 1 := ⟨n - 1, by omega⟩
  rw [zM.L1_eq]
  by_cases h0 : 0 < d.2.2.1.length
  ·have hp := perform_v N hN d h3 h0
   rw [dT (by omega), condT]
   simp only [pEta]
   rw [hp, bindV]
   unfold perfV
   cases hs : stepD d with
   | none => rw [zAm hs, List.append_nil]; rfl
   | some p =>
    obtain ⟨l, d'⟩ := p
    obtain ⟨g1, g2, g3, g4, g5, ⟨f, hf⟩, _⟩ := stepD_ok h3 hs
    have hl := step_len h3 hs
    have hlen : d.2.2.1.length = d'.2.2.1.length + 1 := by rw [hf]; rfl
    dsimp only
    rw [notT, condF, send_v N hN _ l (by omega) o (by omega), bindV, ih n d' _ (by omega) (by omega) g1 (by rw [lA, sentB_len]; omega), zBh hs, List.append_assoc]
  ·have hs := zBG (d := d) (List.length_eq_zero_iff.1 (by omega))
   rw [dF (by omega), condF, zAm hs, List.append_nil]
theorem play_impl (N : Nat) (hN : 2200000 < N) (d : Dcd) (hd : smallD d) (l : List Ev) (hl : l.length <= 1048576) (en : Int) : zM.F N (d, l, en) = some (ply d l en) := by
 rw [zM.F_eq, isD_impl N hN d hd, bindV]
 by_cases hD : isD d = true
 ·have hO := (isD_iff d).1 hD
  have hq := hO.len
  have hcp : yP.F N d = some d := by
   rw [yP.F_eq, copyE_impl N (by omega) d.1 hd.1, bindV, dT (show d.2.2.1.length <= maxN by unfold maxN; omega), condT]
  have em : decide (d.2.2.1.length + l.length <= maxN) = true := dT (by unfold maxN; omega)
  rw [hD, notT, condF]
  by_cases c1 : en < d.2.2.2.1
  ·have hp : plyB d l en = false := by
    rw [Bool.eq_false_iff]; intro hp; have := ((plyB_iff d l en).1 hp).en_; omega
   rw [dT c1, condT]; unfold ply; rw [hp]; rfl
  by_cases c2 : en > 1000000
  ·have hp : plyB d l en = false := by
    rw [Bool.eq_false_iff]; intro hp; have := ((plyB_iff d l en).1 hp).en_; omega
   rw [dF c1, condF, dT c2, condT]; unfold ply; rw [hp]; rfl
  rw [dF c1, condF, dF c2, condF]
  have hb := behind_impl N l (by omega) en (by have := hO.now; omega)
  have hrest : (bindO (yS.F N (l, en)) fun r2 =>
    bif !r2 then some (zeroD, (([] : List Snt), false)) else
     bindO (yP.F N d) fun r3 =>
     bif decide (List.length r3.2.2.1 + List.length l <= maxN) then
     bindO (zi.F N d.1.2.2.2.1) fun r4 =>
     bindO (za.F N (r3.2.2.1 ++ l, (r4, d.1.1.1))) fun r5 =>
     bif !r5 then some (zeroD, (([] : List Snt), false)) else
      zM.L1 N N r3.1.1.1 r3.1.1.2 r3.1.2.1 r3.1.2.2.1 r3.1.2.2.2.1 r3.1.2.2.2.2.1 r3.1.2.2.2.2.2 r3.2.1.1 r3.2.1.2.1 r3.2.1.2.2 (r3.2.2.1 ++ l) en r3.2.2.2.2.1 r3.2.2.2.2.2.1 r3.2.2.2.2.2.2 ([] : List Snt)
     else none) = some (bif headB d.2.2.2.1 l then ply d l en else (bif decide (lT 0 l <= en) && fits (d.2.2.1 ++ l) (hmGo 0 d.1.2.2.2.1) d.1.1.1 then ((runQ (ext l en d)).1, (runQ (ext l en d)).2, true) else (zeroD, [], false))) \/ headB d.2.2.2.1 l = false := by
   by_cases hh : headB d.2.2.2.1 l = true
   ·left
    rw [hh, condT, hb, bindV]
    unfold ply plyB
    rw [hD, hh, Bool.true_and, Bool.true_and, dT (show d.2.2.2.1 <= en /\ en <= 1000000 by omega), Bool.true_and]
    cases hlt : decide (lT 0 l <= en) with
    | false => rfl
    | true =>
     rw [notT, condF, hcp, bindV, em, condT, hm_impl N (by omega) hO.eng, bindV, fits_impl N hN _ (by rw [lA]; omega), bindV, Bool.true_and]
     cases hf : fits (d.2.2.1 ++ l) (hmGo 0 d.1.2.2.2.1) d.1.1.1 with
     | false => rfl
     | true =>
      have hP : OkP d l en := (plyB_iff d l en).1 (by
       unfold plyB
       rw [hD, hh, hlt, hf, dT (show d.2.2.2.1 <= en /\ en <= 1000000 by omega)]; rfl)
      have hx := hP.ext
      have g := play_L1 N (by omega) 64 N (ext l en d) [] hx.len (by omega) hx (by have := hx.len; rw [List.length_nil]; omega)
      rw [notT, condF, condT]
      have e1 : (d.1, d.2.1, d.2.2.1 ++ l, en, d.2.2.2.2) = ext l en d := rfl
      rw [e1, runQ_eq (d := ext l en d) hx.len]
      exact g
   ·right
    rw [Bool.not_eq_true] at hh; exact hh
  cases l with
  | nil =>
   rcases hrest with g | g
   ·rw [dF (by rw [List.length_nil]; omega), condF]
    exact g
   ·cases g
  | cons x s =>
   have i0 : zP 0 (x :: s).length = true := by
    unfold zP; rw [List.length_cons, dT (by omega), dT (by omega)]; rfl
   have n0 : nth ((0 : Int), ((0 : Int), false)) (x :: s) 0 = x := rfl
   rw [dT (by rw [List.length_cons]; omega), condT, i0, condT, n0]
   by_cases hx : x.1 < d.2.2.2.1
   ·have hp : plyB d (x :: s) en = false := by
     rw [Bool.eq_false_iff]; intro hp
     have := ((plyB_iff d (x :: s) en).1 hp).hd
     simp only [headB, decide_eq_true_eq] at this
     omega
    rw [dT hx, condT]; unfold ply; rw [hp]; rfl
   ·rw [dF hx, condF]
    have hh : headB d.2.2.2.1 (x :: s) = true := dT (by omega)
    rcases hrest with g | g
    ·rw [hh, condT] at g
     exact g
    ·rw [hh] at g; cases g
 ·rw [Bool.not_eq_true] at hD
  have hp : plyB d l en = false := by
   unfold plyB; rw [hD]; rfl
  rw [hD, notF, condT]; unfold ply; rw [hp]; rfl
end Go.Kb
namespace Go.Kb
def downV (d : Dcd) (w : Int) : List Rpt × Int × Bool × Dcd := match stepD d with
 | some (o, d') => (o, d'.2.2.2.2.1, true, (d'.1, d.2.1, d.2.2.1, d.2.2.2.1, d.2.2.2.2.1, d'.2.2.2.2.2))
 | none => ([], w, false, d)
theorem down_v (N : Nat) (hN : 1048576 < N) (d : Dcd) (h : OkD d) {f : Ev} {r : List Ev} (hq : d.2.2.1 = f :: r) (hd : f.2.2 = true) : zAC.F N (d, f, maxI d.2.2.2.2.1 f.1) = some (downV d (maxI d.2.2.2.2.1 f.1)) := by
 obtain ⟨e, tm, q, now, ck, tp, ta⟩ := d
 dsimp only at hq
 subst hq
 obtain ⟨⟨k, f1, f2⟩, ⟨t0, t1⟩, hrel, hprs⟩ := h.front rfl
 obtain ⟨h1, h2, h3, h4, h5, h6, h7, h8⟩ := h
 obtain ⟨t, key, dn⟩ := f
 dsimp only at f1 f2 t0 t1 hrel hprs h1 h2 h3 h4 h5 h7 h8 hd
 subst f1
 subst hd
 have hk := h1.map.keys
 have hh := h1.len
 have i1 : (decide ((0 : Int) <= 1) && decide ((1 : Int) <= (((t, (k : Int), true) :: r).length : Int))) = true := by
  rw [List.length_cons, dT (by omega), dT (by omega)]; rfl
 have d1 : List.drop 1 ((t, (k : Int), true) :: r) = r := rfl
 have wk : IntKind.wrap .i64 ((k : Int) + 1) = (k : Int) + 1 := zAF (by omega) (by omega)
 have wt : IntKind.wrap .i64 (t - ta) = t - ta := zAF (by omega) (by omega)
 have hr : r.length <= 63 := by rw [List.length_cons] at h5; omega
 have p1 := press_spec N hN e h1 k f2 (hprs rfl) true
 have p2 := press_spec N hN e h1 k f2 (hprs rfl) false
 rw [zAC.F_eq]
 dsimp only
 rw [i1]
 simp only [condT, d1, wk, wt]
 rw [ly_spec N hN _ _ (by omega), bindV, act_spec N hN h1.map f2, bindV, isTH_spec, bindV, chc_spec N hN tm (k : Int) t r (by omega) now]
 unfold downV
 simp only [stepD, condT, chD]
 cases isTH (actN e.1.2 (lyOn e.2.2.1 e.2.2.2.1) (k : Int)) with
 | false =>
  rw [p2]
  simp only [condF, bindV]
 | true =>
  simp only [condT, bindV]
  have hv := chc_vals tm (k : Int) t r now
  generalize chc tm (k : Int) t r now = c at *
  obtain ⟨c1, c2⟩ := c
  dsimp only at hv
  cases tp == (k : Int) + 1 <;> cases decide (t - ta < tm.2.1) <;> rcases hv with hv | hv | hv <;> subst hv <;> simp only [condT, condF, Bool.and_true, Bool.and_false, Int.reduceBEq, Bool.not_true, Bool.not_false, p1, p2, bindV]
theorem run_L2 (N n1 : Nat) (w : Int) (l : List Rpt) (hl : l.length <= 1000) (d : Dcd) (hq : 1 <= d.2.2.1.length /\ d.2.2.1.length <= 1000000) : ∀ (n i : Nat) (o : List Snt), i <= l.length -> l.length < n + i -> o.length + (l.length - i) <= 1000000 ->
  zR.L2 N n1 n w l (i : Int) d.1.1.1 d.1.1.2 d.1.2.1 d.1.2.2.1 d.1.2.2.2.1 d.1.2.2.2.2.1 d.1.2.2.2.2.2 d.2.1.1 d.2.1.2.1 d.2.1.2.2 d.2.2.1 d.2.2.2.1 d.2.2.2.2.1 d.2.2.2.2.2.1 d.2.2.2.2.2.2 o =
  zR.L1 N n1 d.1.1.1 d.1.1.2 d.1.2.1 d.1.2.2.1 d.1.2.2.2.1 d.1.2.2.2.2.1 d.1.2.2.2.2.2 d.2.1.1 d.2.1.2.1 d.2.1.2.2 (d.2.2.1.drop 1) d.2.2.2.1 w d.2.2.2.2.2.1 d.2.2.2.2.2.2 (o ++ sentB w (l.drop i)) := by
 intro n
 induction n with
 | zero => intro i o h1 h2; omega
 | succ n ih =>
  intro i o h1 h2 h3
  rw [zR.L2_eq]
  by_cases hi : i < l.length
  ·have ws : IntKind.wrap .i64 ((i : Int) + 1) = ((i + 1 : Nat) : Int) := yA (by omega)
   have e1 := len1 o (w, l.getD i dR) (by omega)
   rw [yq dR l i hi]
   simp only [oJ, hi, decide_true, condT, inRange_nat, nth_nat, ws, e1]
   rw [ih (i + 1) _ (by omega) (by omega) (by rw [lA, List.length_singleton]; omega), List.append_assoc]
   rfl
  ·have e2 : decide (([] : List Ev).length + (d.2.2.1.drop 1).length <= maxN) = true := dT (by rw [List.length_nil, List.length_drop]; unfold maxN; omega)
   simp only [oJ, hi, decide_false, condF]
   rw [dT (show (0 : Int) <= 1 by omega), dT (show (1 : Int) <= (d.2.2.1.length : Int) by omega), e2, List.drop_of_length_le (show l.length <= i by omega)]
   simp only [Bool.and_self, condT, List.nil_append, sentB, List.map_nil, List.append_nil]
theorem run_L1 (N : Nat) (hN : 1048576 < N) : ∀ (k n : Nat) (d : Dcd) (o : List Snt), d.2.2.1.length <= k -> k < n -> OkD d -> o.length + 17 * d.2.2.1.length <= 2000 ->
  zR.L1 N n d.1.1.1 d.1.1.2 d.1.2.1 d.1.2.2.1 d.1.2.2.2.1 d.1.2.2.2.2.1 d.1.2.2.2.2.2 d.2.1.1 d.2.1.2.1 d.2.1.2.2 d.2.2.1 d.2.2.2.1 d.2.2.2.2.1 d.2.2.2.2.2.1 d.2.2.2.2.2.2 o = some (o ++ (runQ d).2, (runQ d).1) := by
 intro k
 induction k with
 | zero =>
  intro n d o h1 h2 h3 h4
  obtain ⟨n, rfl⟩ : ∃ m, n = m + 1 := ⟨n - 1, by omega⟩
  have hs := zBG (d := d) (List.length_eq_zero_iff.1 (by omega))
  rw [zR.L1_eq, dF (by omega), condF, zAm hs, List.append_nil]
 | succ k ih =>
  intro n d o h1 h2 h3 h4
  obtain ⟨n, rfl⟩ : ∃ m, n = m + 1 := ⟨n - 1, by omega⟩
  rw [zR.L1_eq]
  cases hq : d.2.2.1 with
  | nil =>
   have hs := zBG (d := d) hq
   rw [dF (by rw [List.length_nil]; omega), condF, zAm hs, List.append_nil, <- hq]
  | cons f r =>
   have i0 : zP 0 (f :: r).length = true := by
    unfold zP; rw [List.length_cons, dT (by omega), dT (by omega)]; rfl
   have n0 : nth ((0 : Int), ((0 : Int), false)) (f :: r) 0 = f := rfl
   obtain ⟨⟨kk, f1, f2⟩, ⟨t0, t1⟩, hrel, hprs⟩ := h3.front hq
   have hk := h3.eng.map.keys
   rw [dT (by rw [List.length_cons]; omega), condT, i0, condT]
   simp only [n0]
   rw [<- hq]
   simp only [pEta]
   have hlq : d.2.2.1.length = r.length + 1 := by rw [hq]; rfl
   have d1 : d.2.2.1.drop 1 = r := by rw [hq]; rfl
   have h64 := h3.len
   cases hd : f.2.2 with
   | true =>
    rw [condT]
    have hdn := down_v N hN d h3 hq hd
    rw [hdn, bindV]
    unfold downV
    cases hs : stepD d with
    | none => rw [zAm hs, List.append_nil]; rfl
    | some p =>
     obtain ⟨l, d'⟩ := p
     obtain ⟨g1, g2, g3, g4, g5, ⟨f', hf⟩, _⟩ := stepD_ok h3 hs
     have hl := step_len h3 hs
     have er : d'.2.2.1 = r := by rw [hq] at hf; injection hf with _ hf; exact hf.symm
     dsimp only
     rw [notT, condF]
     have g := run_L2 N n d'.2.2.2.2.1 l (by omega) (d'.1, d.2.1, d.2.2.1, d.2.2.2.1, d.2.2.2.2.1, d'.2.2.2.2.2) ⟨by dsimp only; omega, by dsimp only; omega⟩ N 0 o (by omega) (by omega) (by omega)
     have i1 := ih n d' (o ++ sentB d'.2.2.2.2.1 l) (by rw [er]; omega) (by omega) g1 (by rw [lA, sentB_len, er]; omega)
     dsimp only at g
     rw [List.drop_zero, d1] at g
     rw [er, g2, g3] at i1
     refine g.trans ?_
     rw [i1, zBh hs, List.append_assoc]
   | false =>
    rw [condF]
    have hrl := release_spec N hN d.1 h3.eng f.2.1 (hrel hd)
    rw [hrl, bindV]
    have wk : IntKind.wrap .i64 (f.2.1 + 1) = f.2.1 + 1 := zAF (by omega) (by omega)
    have hs : stepD d = some ((rls d.1 f.2.1).2, ((rls d.1 f.2.1).1, d.2.1, r, d.2.2.2.1, maxI d.2.2.2.2.1 f.1, d.2.2.2.2.2.1, (bif d.2.2.2.2.2.1 == f.2.1 + 1 then f.1 else d.2.2.2.2.2.2))) := by
     unfold stepD
     rw [hq]
     dsimp only
     rw [hd, condF]
    obtain ⟨g1, g2, g3, g4, g5, _, _⟩ := stepD_ok h3 hs
    have hl := step_len h3 hs
    dsimp only
    rw [wk]
    have key : ∀ ta, (ta = bif d.2.2.2.2.2.1 == f.2.1 + 1 then f.1 else d.2.2.2.2.2.2) -> zR.L2 N n N (maxI d.2.2.2.2.1 f.1) (rls d.1 f.2.1).2 0 (rls d.1 f.2.1).1.1.1 (rls d.1 f.2.1).1.1.2 (rls d.1 f.2.1).1.2.1 (rls d.1 f.2.1).1.2.2.1 (rls d.1 f.2.1).1.2.2.2.1 (rls d.1 f.2.1).1.2.2.2.2.1 (rls d.1 f.2.1).1.2.2.2.2.2 d.2.1.1 d.2.1.2.1 d.2.1.2.2 d.2.2.1 d.2.2.2.1 d.2.2.2.2.1 d.2.2.2.2.2.1 ta o = some (o ++ (runQ d).2, (runQ d).1) := by
     intro ta hta
     have g := run_L2 N n (maxI d.2.2.2.2.1 f.1) (rls d.1 f.2.1).2 (by omega) ((rls d.1 f.2.1).1, d.2.1, d.2.2.1, d.2.2.2.1, d.2.2.2.2.1, d.2.2.2.2.2.1, ta) ⟨by dsimp only; omega, by dsimp only; omega⟩ N 0 o (by omega) (by omega) (by omega)
     have i1 := ih n ((rls d.1 f.2.1).1, d.2.1, r, d.2.2.2.1, maxI d.2.2.2.2.1 f.1, d.2.2.2.2.2.1, (bif d.2.2.2.2.2.1 == f.2.1 + 1 then f.1 else d.2.2.2.2.2.2)) (o ++ sentB (maxI d.2.2.2.2.1 f.1) (rls d.1 f.2.1).2) (by dsimp only; omega) (by omega) g1 (by rw [lA, sentB_len]; dsimp only; omega)
     rw [<- hta] at i1
     dsimp only at g i1
     rw [List.drop_zero, d1] at g
     refine g.trans ?_
     rw [i1, zBh hs, <- hta, List.append_assoc]
    cases hb : d.2.2.2.2.2.1 == f.2.1 + 1 with
    | true => rw [condT]; exact key _ (by rw [hb]; rfl)
    | false => rw [condF]; exact key _ (by rw [hb]; rfl)
theorem play_spec (N : Nat) (hN : 2200000 < N) (d : Dcd) (hd : smallD d) (l : List Ev) (hl : l.length <= 1048576) (en : Int) : yf.F N (d, l, en) = some (ply d l en) := by
 have hq := hd.2
 have e1 : decide (([] : List Ev).length + d.2.2.1.length <= maxN) = true := dT (by rw [List.length_nil]; unfold maxN; omega)
 have e2 : decide (([] ++ d.2.2.1 : List Ev).length + l.length <= maxN) = true := dT (by rw [List.nil_append]; unfold maxN; omega)
 rw [yf.F_eq, e1, condT, e2, condT, isD_spec N hN d hd, bindV]
 unfold ply plyB
 cases hD : isD d with
 | false => rfl
 | true =>
  have hO := (isD_iff d).1 hD
  rw [notT, condF, Bool.true_and, zBU, bindV]
  cases hc : decide (d.2.2.2.1 <= en /\ en <= 1000000) with
  | false => rfl
  | true =>
   have hce := of_decide_eq_true hc
   rw [notT, condF, Bool.true_and, hm_spec N (by omega) hO.eng, bindV, List.nil_append, fits_spec N hN _ (by rw [lA]; omega), bindV]
   cases hf : fits (d.2.2.1 ++ l) (hmGo 0 d.1.2.2.2.1) d.1.1.1 with
   | false => rw [Bool.and_false, Bool.and_false]; rfl
   | true =>
    rw [notT, condF, Bool.and_true]
    have hdo : ∀ (hh : headB d.2.2.2.1 l = true) (ht : lT 0 l <= en), (bindO (zn.F N d.1) fun r5 =>
      bindO (zR.F N (r5, (d.2.1, (d.2.2.1 ++ l, (en, d.2.2.2.2))))) fun r6 =>
      some (r6.2, (r6.1, true))) = some ((runD 64 (d.1, d.2.1, d.2.2.1 ++ l, en, d.2.2.2.2)).1, (runD 64 (d.1, d.2.1, d.2.2.1 ++ l, en, d.2.2.2.2)).2, true) := by
     intro hh ht
     have hP : OkP d l en := (plyB_iff d l en).1 (by
      unfold plyB
      rw [hD, hh, dT ht, hf, hc]; rfl)
     have hx := hP.ext
     have g := run_L1 N (by omega) 64 N (ext l en d) [] hx.len (by omega) hx (by have := hx.len; rw [List.length_nil]; omega)
     have er : (d.1, d.2.1, d.2.2.1 ++ l, en, d.2.2.2.2) = ext l en d := rfl
     rw [copyE_spec N (by omega) d.1 hd.1, bindV, er, runQ_eq (d := ext l en d) hx.len, zR.F_eq, g, bindV, List.nil_append]
    cases l with
    | nil =>
     have hn := hO.now
     rw [dF (by rw [List.length_nil]; omega), condF]
     rw [show headB d.2.2.2.1 [] = true from rfl, dT (show lT 0 [] <= en by show (0 : Int) <= en; omega), Bool.true_and, condT]
     exact hdo rfl (by show (0 : Int) <= en; omega)
    | cons x s =>
     have i0 : zP 0 (x :: s).length = true := by
      unfold zP; rw [List.length_cons, dT (by omega), dT (by omega)]; rfl
     have n0 : nth ((0 : Int), ((0 : Int), false)) (x :: s) 0 = x := rfl
     have wp : IntKind.wrap .i64 (((x :: s).length : Int) - 1) = (((x :: s).length - 1 : Nat) : Int) := by rw [List.length_cons] at *; rw [zAF (by omega) (by omega)]; omega
     rw [dT (by rw [List.length_cons]; omega), condT, i0, condT, n0]
     by_cases hx : x.1 < d.2.2.2.1
     ·rw [dT hx, condT, show headB d.2.2.2.1 (x :: s) = false from dF (by omega)]; rfl
     ·have hh : headB d.2.2.2.1 (x :: s) = true := dT (by omega)
      rw [dF hx, condF, wp, inRange_nat, dT (show (x :: s).length - 1 < (x :: s).length by rw [List.length_cons]; omega), condT, nth_nat, lT_last (x :: s) 0 (by rw [List.length_cons]; omega), hh, Bool.true_and]
      by_cases ht : lT 0 (x :: s) <= en
      ·rw [dF (show ¬ lT 0 (x :: s) > en by omega), condF, dT ht, condT]
       exact hdo hh ht
      ·rw [dT (show lT 0 (x :: s) > en by omega), condT, dF ht, condF]; rfl
end Go.Kb
