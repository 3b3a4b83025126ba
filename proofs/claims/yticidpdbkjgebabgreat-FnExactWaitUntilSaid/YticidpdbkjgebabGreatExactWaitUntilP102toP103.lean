/- Queues, deciders, choices, what is played: the program's walk and the reference's checks. -/
import Derived.Test.YticidpdbkjgebabGreatExactWaitUntilP101
namespace Go.Kb
theorem isT_impl (N : Nat) (t : Tmg) : zAM.F N t = some (isT t) := by
 rw [zAM.F_eq]
 unfold isT
 simp only [cSome]
 congr 1
 rw [Bool.eq_iff_iff]
 simp only [bA, decide_eq_true_eq, Bool.and_false, Bool.or_false]
theorem isT_spec (N : Nat) (t : Tmg) : zAI.F N t = some (isT t) := by
 rw [zAI.F_eq]
 unfold isT
 simp only [zCA, bindV, cSome]
 congr 1
 rw [Bool.eq_iff_iff]
 simp only [bA, decide_eq_true_eq, Bool.and_false, Bool.or_false]
 omega
theorem hm_L1i (N : Nat) (l : List Hd) (hl : l.length <= 1048576) (hr : ∀ h ∈ l, 0 <= h.1 /\ h.1 <= 31) : ∀ (n i : Nat) (s : Int), i <= l.length -> l.length < n + i ->
  zv.L1 N n s l (l.length : Int) (i : Int) = some (hmGo s (l.drop i)) := by
 intro n
 induction n with
 | zero => intro i s h1 h2; omega
 | succ n ih =>
  intro i s h1 h2
  rw [zv.L1_eq]
  by_cases hi : i < l.length
  ·have ws : IntKind.wrap .i64 ((i : Int) + 1) = ((i + 1 : Nat) : Int) := yP (by omega)
   have hk := (hr _ (zBT dH l i hi)).1
   rw [zAG dH l i hi]
   simp only [oJ, hi, decide_true, condT, inRange_nat, nth_nat, ws]
   rw [dT hk, condT, ih (i + 1) _ (by omega) (by omega)]
   rfl
  ·simp only [oJ, hi, decide_false, condF]
   rw [List.drop_of_length_le (by omega)]; rfl
theorem hm_impl (N : Nat) (hN : 1048576 < N) {e : Eng} (he : OkE e) : zv.F N e.2.2.2.1 = some (hmGo 0 e.2.2.2.1) := by
 have hl := he.len
 rw [zv.F_eq]
 have h := hm_L1i N e.2.2.2.1 (by omega) he.rng N 0 0 (by omega) (by omega)
 rw [List.drop_zero] at h
 exact h
theorem l10Bit_eq (N : Nat) {k : Int} (h : 0 <= k /\ k <= 31) : zA3.F N k = some (bit1 k) := by
 rw [zA3.F_eq, zCA, bindV, dT h, notT, condF, dT h.1, condT]; rfl
theorem hm_spec (N : Nat) (hN : 1048576 < N) {e : Eng} (he : OkE e) : yJ.F N e = some (hmGo 0 e.2.2.2.1) := by
 have hl := he.len
 have gl : ∀ (n i : Nat) (s : Int), i <= e.2.2.2.1.length -> e.2.2.2.1.length < n + i -> yJ.L1 N n s (i : Int) e.1.1 e.1.2 e.2.1 e.2.2.1 e.2.2.2.1 e.2.2.2.2.1 e.2.2.2.2.2 = some (hmGo s (e.2.2.2.1.drop i)) := by
  intro n
  induction n with
  | zero => intro i s h1 h2; omega
  | succ n ih =>
   intro i s h1 h2
   rw [yJ.L1_eq]
   by_cases hi : i < e.2.2.2.1.length
   ·have ws : IntKind.wrap .i64 ((i : Int) + 1) = ((i + 1 : Nat) : Int) := yP (by omega)
    have hk := he.rng _ (zBT dH e.2.2.2.1 i hi)
    rw [zAG dH e.2.2.2.1 i hi]
    simp only [oJ, hi, decide_true, condT, inRange_nat, nth_nat, ws]
    rw [l10Bit_eq N hk, bindV, ih (i + 1) _ (by omega) (by omega)]
    rfl
   ·simp only [oJ, hi, decide_false, condF]
    rw [List.drop_of_length_le (by omega)]; rfl
 rw [yJ.F_eq]
 have h := gl N 0 0 (by omega) (by omega)
 rw [List.drop_zero] at h
 exact h
abbrev dE : Ev := (0, 0, false)
def flw : Int -> Int -> List Ev -> Bool
 | _, _, [] => true
 | d, t, e :: r => evB e && (decide (t <= e.1) && (!(e.2.2 == bitB d e.2.1) && flw (zBw .i64 d (bit1 e.2.1)) e.1 r))
theorem flw_keys (keys : Int) : ∀ (l : List Ev) (d t : Int), ((l.all fun e => decide (e.2.1 < keys)) && flw d t l) = flB keys d t l := by
 intro l
 induction l with
 | nil => intro d t; rfl
 | cons e r ih =>
  intro d t
  simp only [List.all_cons, flw, flB]
  rw [<- ih]
  have e1 : decide (e.2.1 < keys /\ t <= e.1) = (decide (e.2.1 < keys) && decide (t <= e.1)) := by
   rw [Bool.eq_iff_iff]; simp only [bA, decide_eq_true_eq]
  rw [e1]
  cases decide (e.2.1 < keys) <;> cases (r.all fun e => decide (e.2.1 < keys)) <;> cases evB e <;> cases decide (t <= e.1) <;> cases !(e.2.2 == bitB d e.2.1) <;> rfl
theorem follow_v (N : Nat) (l : List Ev) (hl : l.length <= 1048576) : ∀ (n i : Nat) (d t : Int), i <= l.length -> l.length < n + i -> (i = 0 -> t = 0) -> (0 < i -> t = (l.getD (i - 1) dE).1) ->
  ∃ x, yX.L1 N n l d l (l.length : Int) (i : Int) = some (x, flw d t (l.drop i)) := by
 intro n
 induction n with
 | zero => intro i d t h1 h2; omega
 | succ n ih =>
  intro i d t h1 h2 h3 h4
  rw [yX.L1_eq]
  by_cases hi : i < l.length
  ·have ws : IntKind.wrap .i64 ((i : Int) + 1) = ((i + 1 : Nat) : Int) := yP (by omega)
   rw [zAG dE l i hi]
   obtain ⟨x, hx⟩ := ih (i + 1) (zBw .i64 d (bit1 (l.getD i dE).2.1)) (l.getD i dE).1 (by omega) (by omega) (by omega) (by intro _; rw [Nat.add_sub_cancel])
   simp only [oJ, hi, decide_true, condT, inRange_nat, nth_nat, ws, pEta, flw]
   obtain ⟨e, he⟩ : ∃ e, l.getD i dE = e := ⟨_, rfl⟩
   simp only [he] at hx ⊢
   rw [show zAR.F N e = some (isEv e.1 e.2.1) from IsEv_impl N e.1 e.2, bindV]
   unfold evB
   cases hev : isEv e.1 e.2.1 with
   | false => rw [notF, condT]; exact ⟨_, rfl⟩
   | true =>
    have hev' := hev
    unfold isEv at hev'
    simp only [bA, decide_eq_true_eq] at hev'
    rw [notT, condF, Bool.true_and]
    have inner : ∃ y, (bindO (zAx.F N (d, e.2.1)) fun r2 => bif e.2.2 == (r2 == (1 : Int)) then some ((0 : Int), false) else bif decide (0 <= e.2.1) then yX.L1 N n l (zBw .i64 d (zBS .i64 (1 : Int) e.2.1)) l (l.length : Int) ((i + 1 : Nat) : Int) else none) = some (y, !(e.2.2 == bitB d e.2.1) && flw (zBw .i64 d (bit1 e.2.1)) e.1 (l.drop (i + 1))) := by
     rw [zAx.F_eq, dT hev'.2.1, condT, bindV, condT]
     have hx : yX.L1 N n l (zBw .i64 d (zBS .i64 1 e.2.1)) l (l.length : Int) ((i + 1 : Nat) : Int) = some (x, flw (zBw .i64 d (bit1 e.2.1)) e.1 (l.drop (i + 1))) := hx
     rw [hx]
     have eb : (zBo .i64 (zBy .i64 d e.2.1) 1 == 1) = bitB d e.2.1 := rfl
     rw [eb]
     cases e.2.2 == bitB d e.2.1 with
     | true => exact ⟨_, rfl⟩
     | false => exact ⟨_, rfl⟩
    obtain ⟨y, hy⟩ := inner
    by_cases h0 : i = 0
    ·subst h0
     have ht := h3 rfl
     rw [dF (show ¬ (((0 : Nat) : Int) > 0) by omega), condF, dT (show t <= e.1 by omega), Bool.true_and]
     exact ⟨y, hy⟩
    ·have ht := h4 (by omega)
     have wp : IntKind.wrap .i64 ((i : Int) - 1) = ((i - 1 : Nat) : Int) := by rw [zBE (by omega) (by omega)]; omega
     rw [dT (show ((i : Nat) : Int) > 0 by omega), condT, wp, inRange_nat, dT (show i - 1 < l.length by omega), condT, nth_nat, <- ht]
     by_cases hg : t <= e.1
     ·rw [dF (show ¬ t > e.1 by omega), condF, dT hg, Bool.true_and]
      exact ⟨y, hy⟩
     ·rw [dT (show t > e.1 by omega), condT, dF hg]
      exact ⟨_, rfl⟩
  ·simp only [oJ, hi, decide_false, condF]
   rw [List.drop_of_length_le (by omega)]
   exact ⟨_, rfl⟩
theorem follow_full (N : Nat) (hN : 1048576 < N) (l : List Ev) (d : Int) : ∃ x, yX.F N (l, d) = some (x, decide (l.length <= 64) && flw d 0 l) := by
 rw [yX.F_eq]
 by_cases h : l.length <= 64
 ·obtain ⟨x, hx⟩ := follow_v N l (by omega) N 0 d 0 (by omega) (by omega) (fun _ => rfl) (by omega)
  rw [List.drop_zero] at hx
  rw [dF (show ¬ (l.length : Int) > 64 by omega), condF, dT h, Bool.true_and]
  exact ⟨x, hx⟩
 ·rw [dT (show (l.length : Int) > 64 by omega), condT, dF h]
  exact ⟨_, rfl⟩
theorem fits_impl (N : Nat) (hN : 2200000 < N) (l : List Ev) (hl : l.length <= 2100000) (d keys : Int) : zh.F N (l, d, keys) = some (fits l d keys) := by
 obtain ⟨x, hx⟩ := follow_full N (by omega) l d
 have gl : ∀ (n i : Nat), i <= l.length -> l.length < n + i -> zh.L1 N n l d keys l (l.length : Int) (i : Int) = some (((l.drop i).all fun e => decide (e.2.1 < keys)) && (decide (l.length <= 64) && flw d 0 l)) := by
  intro n
  induction n with
  | zero => intro i h1 h2; omega
  | succ n ih =>
   intro i h1 h2
   rw [zh.L1_eq]
   by_cases hi : i < l.length
   ·have ws : IntKind.wrap .i64 ((i : Int) + 1) = ((i + 1 : Nat) : Int) := yP (by omega)
    have ex : decide ((l.getD i dE).2.1 >= keys) = !decide ((l.getD i dE).2.1 < keys) := by
     rw [Bool.eq_iff_iff]; simp only [decide_eq_true_eq, Bool.not_eq_true', decide_eq_false_iff_not]; omega
    rw [zAG dE l i hi, List.all_cons]
    simp only [oJ, hi, decide_true, condT, inRange_nat, nth_nat, ws, ih (i + 1) (by omega) (by omega), ex]
    cases decide ((l.getD i dE).2.1 < keys) <;> rfl
   ·simp only [oJ, hi, decide_false, condF]
    rw [hx, bindV, List.drop_of_length_le (by omega)]; rfl
 rw [zh.F_eq]
 have g := gl N 0 (by omega) (by omega)
 rw [List.drop_zero] at g
 unfold fits
 rw [<- flw_keys]
 refine g.trans ?_
 cases decide (l.length <= 64) <;> cases (l.all fun e => decide (e.2.1 < keys)) <;> rfl
theorem fits_spec (N : Nat) (hN : 2200000 < N) (l : List Ev) (hl : l.length <= 2100000) (d keys : Int) : zU.F N (l, d, keys, 0) = some (fits l d keys) := by
 have gl : ∀ (n i : Nat) (d t : Int), i <= l.length -> l.length < n + i -> zU.L1 N n l d keys t (i : Int) = some (flB keys d t (l.drop i) && decide (l.length <= 64)) := by
  intro n
  induction n with
  | zero => intro i d t h1 h2; omega
  | succ n ih =>
   intro i d t h1 h2
   rw [zU.L1_eq]
   by_cases hi : i < l.length
   ·have ws : IntKind.wrap .i64 ((i : Int) + 1) = ((i + 1 : Nat) : Int) := yP (by omega)
    rw [zAG dE l i hi]
    simp only [oJ, hi, decide_true, condT, inRange_nat, nth_nat, ws, pEta, flB]
    generalize l.getD i dE = e
    rw [show zAQ.F N e = some (isEv e.1 e.2.1) from IsEv_spec N e.1 e.2, bindV, ih (i + 1) _ _ (by omega) (by omega)]
    unfold evB
    cases hev : isEv e.1 e.2.1 with
    | false => rfl
    | true =>
     have hev' := hev
     unfold isEv at hev'
     simp only [bA, decide_eq_true_eq] at hev'
     rw [dT hev'.2.1, condT, condT, notT, condF, Bool.true_and]
     have eb : (zBo .i64 (zBy .i64 d e.2.1) 1 == 1) = bitB d e.2.1 := rfl
     have ec : zBw .i64 d (zBS .i64 1 e.2.1) = zBw .i64 d (bit1 e.2.1) := rfl
     rw [eb, ec]
     by_cases h1 : e.2.1 < keys
     ·by_cases h2 : t <= e.1
      ·rw [dF (show ¬ e.2.1 >= keys by omega), dF (show ¬ e.1 < t by omega), dT (show e.2.1 < keys /\ t <= e.1 from ⟨h1, h2⟩)]
       cases e.2.2 == bitB d e.2.1 <;> rfl
      ·rw [dF (show ¬ e.2.1 >= keys by omega), dT (show e.1 < t by omega), dF (show ¬ (e.2.1 < keys /\ t <= e.1) from fun h => h2 h.2)]
       rfl
     ·rw [dT (show e.2.1 >= keys by omega), dF (show ¬ (e.2.1 < keys /\ t <= e.1) from fun h => h1 h.1)]
      rfl
   ·simp only [oJ, hi, decide_false, condF]
    rw [List.drop_of_length_le (by omega)]
    simp only [flB, Bool.true_and]
    congr 1
    rw [Bool.eq_iff_iff, decide_eq_true_iff, decide_eq_true_iff]
    omega
 rw [zU.F_eq]
 have g := gl N 0 d 0 (by omega) (by omega)
 rw [List.drop_zero] at g
 unfold fits
 rw [Bool.and_comm]
 exact g
theorem lT_last : ∀ (l : List Ev) (t : Int), 0 < l.length -> (l.getD (l.length - 1) dE).1 = lT t l := by
 intro l
 induction l with
 | nil => intro t h; simp at h
 | cons e r ih =>
  intro t _
  have e1 : lT t (e :: r) = lT e.1 r := by simp only [lT, List.foldl_cons]
  rw [e1]
  cases r with
  | nil => rfl
  | cons x s =>
   have := ih e.1 (by simp)
   simpa using this
theorem behind_impl (N : Nat) (l : List Ev) (hl : l.length <= 2100000) (t : Int) (ht : 0 <= t) : yt.F N (l, t) = some (decide (lT 0 l <= t)) := by
 rw [yt.F_eq]
 by_cases h : l.length = 0
 ·rw [bI (show (l.length : Int) = 0 by omega), condT, List.length_eq_zero_iff.1 h]
  exact congrArg some (dT (show lT 0 [] <= t from ht)).symm
 ·have wp : IntKind.wrap .i64 ((l.length : Int) - 1) = ((l.length - 1 : Nat) : Int) := by rw [zBE (by omega) (by omega)]; omega
  rw [bN (show (l.length : Int) ≠ 0 by omega), condF, wp, inRange_nat, dT (show l.length - 1 < l.length by omega), condT, nth_nat, lT_last l 0 (by omega)]
def smallD (d : Dcd) : Prop := smallE d.1 /\ d.2.2.1.length <= 1048576
theorem isD_impl (N : Nat) (hN : 2200000 < N) (d : Dcd) (h : smallD d) : zAX.F N d = some (isD d) := by
 have hq := h.2
 rw [zAX.F_eq, isE_impl N (by omega) d.1 h.1, bindV, isT_impl, bindV]
 unfold isD
 cases he : isE d.1 with
 | false => rfl
 | true =>
  have hE := (isE_iff _).1 he
  rw [notT, condF, Bool.true_and]
  cases isT d.2.1 with
  | false => rfl
  | true =>
   rw [notT, condF, Bool.true_and]
   by_cases c1 : d.2.2.2.1 < 0
   ·rw [dT c1, condT, dF (show ¬ (0 <= d.2.2.2.1 /\ d.2.2.2.1 <= 1000000 /\ 0 <= d.2.2.2.2.1 /\ d.2.2.2.2.1 <= d.2.2.2.1) by omega)]; rfl
   by_cases c2 : d.2.2.2.1 > 1000000
   ·rw [dF c1, condF, dT c2, condT, dF (show ¬ (0 <= d.2.2.2.1 /\ d.2.2.2.1 <= 1000000 /\ 0 <= d.2.2.2.2.1 /\ d.2.2.2.2.1 <= d.2.2.2.1) by omega)]; rfl
   by_cases c3 : d.2.2.2.2.1 < 0
   ·rw [dF c1, condF, dF c2, condF, dT c3, condT, dF (show ¬ (0 <= d.2.2.2.1 /\ d.2.2.2.1 <= 1000000 /\ 0 <= d.2.2.2.2.1 /\ d.2.2.2.2.1 <= d.2.2.2.1) by omega)]; rfl
   by_cases c4 : d.2.2.2.2.1 > d.2.2.2.1
   ·rw [dF c1, condF, dF c2, condF, dF c3, condF, dT c4, condT, dF (show ¬ (0 <= d.2.2.2.1 /\ d.2.2.2.1 <= 1000000 /\ 0 <= d.2.2.2.2.1 /\ d.2.2.2.2.1 <= d.2.2.2.1) by omega)]; rfl
   rw [dF c1, condF, dF c2, condF, dF c3, condF, dF c4, condF, dT (show 0 <= d.2.2.2.1 /\ d.2.2.2.1 <= 1000000 /\ 0 <= d.2.2.2.2.1 /\ d.2.2.2.2.1 <= d.2.2.2.1 by omega), Bool.true_and]
   rw [hm_impl N (by omega) hE, bindV, fits_impl N hN _ (by omega), bindV, behind_impl N _ (by omega) _ (by omega), bindV]
   cases fits d.2.2.1 (hmGo 0 d.1.2.2.2.1) d.1.1.1 with
   | false => rfl
   | true =>
    rw [notT, condF, Bool.true_and]
    cases decide (lT 0 d.2.2.1 <= d.2.2.2.1) with
    | false => rfl
    | true =>
     rw [notT, condF, Bool.true_and]
     simp only [cSome]
     congr 1
     rw [Bool.eq_iff_iff]
     simp only [bA, decide_eq_true_eq, Bool.and_false, Bool.or_false]
theorem isD_spec (N : Nat) (hN : 2200000 < N) (d : Dcd) (h : smallD d) : zAT.F N d = some (isD d) := by
 have hq := h.2
 rw [zAT.F_eq, isE_spec N (by omega) d.1 h.1, bindV, isT_spec, bindV]
 unfold isD
 cases he : isE d.1 with
 | false => rfl
 | true =>
  have hE := (isE_iff _).1 he
  rw [notT, condF, Bool.true_and]
  cases isT d.2.1 with
  | false => rfl
  | true =>
   rw [notT, condF, Bool.true_and]
   simp only [zCA, bindV]
   by_cases c1 : 0 <= d.2.2.2.1 /\ d.2.2.2.1 <= 1000000
   ·by_cases c2 : 0 <= d.2.2.2.2.1 /\ d.2.2.2.2.1 <= d.2.2.2.1
    ·rw [dT c1, notT, condF, dT c2, notT, condF, dT (show 0 <= d.2.2.2.1 /\ d.2.2.2.1 <= 1000000 /\ 0 <= d.2.2.2.2.1 /\ d.2.2.2.2.1 <= d.2.2.2.1 by omega), Bool.true_and]
     rw [hm_spec N (by omega) hE, bindV, fits_spec N hN _ (by omega), bindV]
     have et : decide (0 <= d.2.2.2.2.2.1 /\ d.2.2.2.2.2.1 <= d.1.1.1 /\ 0 <= d.2.2.2.2.2.2 /\ d.2.2.2.2.2.2 <= d.2.2.2.1) = (decide (0 <= d.2.2.2.2.2.1 /\ d.2.2.2.2.2.1 <= d.1.1.1) && decide (0 <= d.2.2.2.2.2.2 /\ d.2.2.2.2.2.2 <= d.2.2.2.1)) := by
      rw [Bool.eq_iff_iff]; simp only [bA, decide_eq_true_eq]; omega
     rw [et]
     cases fits d.2.2.1 (hmGo 0 d.1.2.2.2.1) d.1.1.1 with
     | false => rfl
     | true =>
      rw [notT, condF, Bool.true_and]
      by_cases hz : d.2.2.1.length = 0
      ·have e0 : lT 0 d.2.2.1 = 0 := by rw [List.length_eq_zero_iff.1 hz]; rfl
       rw [dF (show ¬ (d.2.2.1.length : Int) > 0 by omega), condF, e0, dT c1.1, Bool.true_and]
       cases decide (0 <= d.2.2.2.2.2.1 /\ d.2.2.2.2.2.1 <= d.1.1.1) <;> rfl
      ·have wp : IntKind.wrap .i64 ((d.2.2.1.length : Int) - 1) = ((d.2.2.1.length - 1 : Nat) : Int) := by rw [zBE (by omega) (by omega)]; omega
       rw [dT (show (d.2.2.1.length : Int) > 0 by omega), condT, wp, inRange_nat, dT (show d.2.2.1.length - 1 < d.2.2.1.length by omega), condT, nth_nat, lT_last _ 0 (by omega)]
       by_cases hl : lT 0 d.2.2.1 <= d.2.2.2.1
       ·rw [dF (show ¬ lT 0 d.2.2.1 > d.2.2.2.1 by omega), condF, dT hl, Bool.true_and]
        cases decide (0 <= d.2.2.2.2.2.1 /\ d.2.2.2.2.2.1 <= d.1.1.1) <;> rfl
       ·rw [dT (show lT 0 d.2.2.1 > d.2.2.2.1 by omega), condT, dF hl]; rfl
    ·rw [dT c1, notT, condF, dF c2, notF, condT, dF (show ¬ (0 <= d.2.2.2.1 /\ d.2.2.2.1 <= 1000000 /\ 0 <= d.2.2.2.2.1 /\ d.2.2.2.2.1 <= d.2.2.2.1) by omega)]; rfl
   ·rw [dF c1, notF, condT, dF (show ¬ (0 <= d.2.2.2.1 /\ d.2.2.2.1 <= 1000000 /\ 0 <= d.2.2.2.2.1 /\ d.2.2.2.2.1 <= d.2.2.2.1) by omega)]; rfl
theorem chGo_i (N : Nat) (fl key time now term quick : Int) (l : List Ev) (hl : l.length <= 1048576) (he : IntKind.wrap .i64 (time + term) = time + term) : ∀ (n i : Nat) (dn : Int), i <= l.length -> l.length < n + i ->
  zp.L1 N n key time now dn l (l.length : Int) (i : Int) term quick fl = some (chGo fl key (time + term) now dn (l.drop i)) := by
 intro n
 induction n with
 | zero => intro i dn h1 h2; omega
 | succ n ih =>
  intro i dn h1 h2
  rw [zp.L1_eq]
  by_cases hi : i < l.length
  ·have ws : IntKind.wrap .i64 ((i : Int) + 1) = ((i + 1 : Nat) : Int) := yP (by omega)
   rw [zAG dE l i hi]
   simp only [oJ, hi, decide_true, condT, inRange_nat, nth_nat, ws, he, pEta, chGo, zAx.F_eq, ih (i + 1) _ (by omega) (by omega), ge_iff_le]
   generalize l.getD i dE = e
   rw [show zAR.F N e = some (isEv e.1 e.2.1) from IsEv_impl N e.1 e.2, bindV]
   unfold evB
   cases hev : isEv e.1 e.2.1 with
   | false => rfl
   | true =>
    have hev' := hev
    unfold isEv at hev'
    simp only [bA, decide_eq_true_eq] at hev'
    rw [dT hev'.2.1]
    simp only [condT, bindV]
    have eb : (zBo .i64 (zBy .i64 dn e.2.1) 1 == 1) = bitB dn e.2.1 := rfl
    have ec : bitOr .i64 dn (zBS .i64 1 e.2.1) = bitOr .i64 dn (bit1 e.2.1) := rfl
    rw [eb, ec]
    cases decide (time + term <= e.1) <;> cases e.2.1 == key <;> cases e.2.2 <;> cases fl == 1 <;> cases fl == 2 <;> cases bitB dn e.2.1 <;> rfl
  ·simp only [oJ, hi, decide_false, condF, he]
   rw [List.drop_of_length_le (by omega)]
   simp only [chGo, ge_iff_le]
   cases decide (time + term <= now) <;> rfl
theorem chc_impl (N : Nat) (hN : 1048576 < N) (t : Tmg) (key time : Int) (l : List Ev) (hl : l.length <= 1048576) (now : Int) : zp.F N (t, key, time, l, now) = some (chc t key time l now) := by
 rw [zp.F_eq, isT_impl, bindV]
 unfold chc
 cases ht : isT t with
 | false => rfl
 | true =>
  have hT := (isT_iff t).1 ht
  rw [notT, condF, Bool.true_and]
  by_cases c1 : time < 0
  ·rw [dT c1, condT, dF (show ¬ (0 <= time /\ time <= 1000000) by omega), condF]
  by_cases c2 : time > 1000000
  ·rw [dF c1, condF, dT c2, condT, dF (show ¬ (0 <= time /\ time <= 1000000) by omega), condF]
  rw [dF c1, condF, dF c2, condF, dT (show 0 <= time /\ time <= 1000000 by omega), condT]
  have g := chGo_i N t.2.2 key time now t.1 t.2.1 l hl (zBE (by omega) (by omega)) N 0 0 (by omega) (by omega)
  rw [List.drop_zero] at g
  exact g
theorem chGo_s (N : Nat) (fl key en now term quick : Int) (l : List Ev) (hl : l.length <= 1048576) : ∀ (n i : Nat) (dn : Int), i <= l.length -> l.length < n + i ->
  za.L1 N n key l now en dn (i : Int) term quick fl = some (chGo fl key en now dn (l.drop i)) := by
 intro n
 induction n with
 | zero => intro i dn h1 h2; omega
 | succ n ih =>
  intro i dn h1 h2
  rw [za.L1_eq]
  by_cases hi : i < l.length
  ·have ws : IntKind.wrap .i64 ((i : Int) + 1) = ((i + 1 : Nat) : Int) := yP (by omega)
   rw [zAG dE l i hi]
   simp only [oJ, hi, decide_true, condT, inRange_nat, nth_nat, ws, pEta, chGo, ih (i + 1) _ (by omega) (by omega), ge_iff_le]
   generalize l.getD i dE = e
   rw [show zAQ.F N e = some (isEv e.1 e.2.1) from IsEv_spec N e.1 e.2, bindV]
   unfold evB
   cases hev : isEv e.1 e.2.1 with
   | false => rfl
   | true =>
    have hev' := hev
    unfold isEv at hev'
    simp only [bA, decide_eq_true_eq] at hev'
    rw [dT hev'.2.1]
    simp only [condT]
    have eb : (zBo .i64 (zBy .i64 dn e.2.1) 1 == 1) = bitB dn e.2.1 := rfl
    have ec : bitOr .i64 dn (zBS .i64 1 e.2.1) = bitOr .i64 dn (bit1 e.2.1) := rfl
    rw [eb, ec]
    cases decide (en <= e.1) <;> cases e.2.1 == key <;> cases e.2.2 <;> cases fl == 1 <;> cases fl == 2 <;> cases bitB dn e.2.1 <;> rfl
  ·simp only [oJ, hi, decide_false, condF]
   rw [List.drop_of_length_le (by omega)]
   simp only [chGo, ge_iff_le]
   cases decide (en <= now) <;> rfl
theorem chc_spec (N : Nat) (hN : 1048576 < N) (t : Tmg) (key time : Int) (l : List Ev) (hl : l.length <= 1048576) (now : Int) : za.F N (t, key, time, l, now) = some (chc t key time l now) := by
 rw [za.F_eq, isT_spec, bindV]
 unfold chc
 cases ht : isT t with
 | false => rfl
 | true =>
  have hT := (isT_iff t).1 ht
  rw [notT, condF, Bool.true_and, zCA, bindV]
  by_cases c1 : 0 <= time /\ time <= 1000000
  ·have ew : IntKind.wrap .i64 (time + t.1) = time + t.1 := zBE (by omega) (by omega)
   rw [dT c1, notT, condF, condT, ew]
   have g := chGo_s N t.2.2 key (time + t.1) now t.1 t.2.1 l hl N 0 0 (by omega) (by omega)
   rw [List.drop_zero] at g
   exact g
  ·rw [dF c1, notF, condT, condF]
end Go.Kb
namespace Go.Kb
theorem OkD.front {d : Dcd} (h : OkD d) {f : Ev} {r : List Ev} (hq : d.2.2.1 = f :: r) :
  (∃ k : Nat, f.2.1 = (k : Int) /\ (k : Int) < d.1.1.1) /\ (0 <= f.1 /\ f.1 <= 1000000) /\ (f.2.2 = false -> ∃ x ∈ d.1.2.2.2.1, x.1 = f.2.1) /\ (f.2.2 = true -> ∀ x ∈ d.1.2.2.2.1, x.1 ≠ f.2.1) := by
 have hk := h.eng.map.keys
 have hf := h.f
 rw [hq] at hf
 obtain ⟨f1, f2, k, f3, f4, f5, f6⟩ := hf
 have hmb := hmN_bit d.1.2.2.2.1 0 k
 simp only [Nat.zero_testBit, Bool.false_or] at hmb
 refine ⟨⟨k, f4, by omega⟩, ⟨f1, f2⟩, fun hd => ?_, fun hd x hx hxk => ?_⟩
 ·rw [f4]
  refine (any_key h.eng.rng k).1 ?_
  rw [<- hmb]
  rw [hd] at f5
  revert f5
  cases (hmN 0 d.1.2.2.2.1).testBit k <;> simp
 ·have : (d.1.2.2.2.1.any fun h => h.1.toNat == k) = true := (any_key h.eng.rng k).2 ⟨x, hx, by omega⟩
  rw [<- hmb] at this
  rw [this, hd] at f5
  cases f5
theorem chGo_vals (fl key en now : Int) : ∀ (l : List Ev) (dn : Int), (chGo fl key en now dn l).1 = 0 \/ (chGo fl key en now dn l).1 = 1 \/ (chGo fl key en now dn l).1 = 2 := by
 intro l
 induction l with
 | nil =>
  intro dn
  simp only [chGo]
  cases decide (en <= now) with
  | true => exact Or.inr (Or.inr rfl)
  | false => exact Or.inl rfl
 | cons e r ih =>
  intro dn
  simp only [chGo]
  cases evB e with
  | false => exact Or.inl rfl
  | true =>
   rw [notT, condF]
   cases decide (en <= e.1) with
   | true => exact Or.inr (Or.inr rfl)
   | false =>
    rw [condF]
    cases e.2.1 == key with
    | true =>
     rw [condT]
     cases e.2.2 with
     | true => exact ih dn
     | false => exact Or.inr (Or.inl rfl)
    | false =>
     rw [condF]
     cases e.2.2 with
     | true =>
      rw [condT]
      cases fl == 1 with
      | true => exact Or.inr (Or.inr rfl)
      | false => exact ih _
     | false =>
      rw [condF]
      cases fl == 2 && bitB dn e.2.1 with
      | true => exact Or.inr (Or.inr rfl)
      | false => exact ih _
theorem chc_vals (t : Tmg) (key time : Int) (l : List Ev) (now : Int) : (chc t key time l now).1 = 0 \/ (chc t key time l now).1 = 1 \/ (chc t key time l now).1 = 2 := by
 unfold chc
 cases isT t && decide (0 <= time /\ time <= 1000000) with
 | true => exact chGo_vals _ _ _ _ _ _
 | false => exact Or.inl rfl
theorem prs_len (e : Eng) (key : Int) (hold : Bool) : (prs e key hold).2.length <= 17 := by
 rw [prs_eq]
 dsimp only
 refine Nat.le_trans (chg_len _ _) ?_
 rw [lA, List.length_singleton]
 have h := (mcRep_small (e.2.2.2.1 ++ [(key, (stlE e (prA e key hold)).1)]) (e.2.1.getD (stlE e (prA e key hold)).1.2.2.2.toNat [])).1
 cases (stlE e (prA e key hold)).1.1 == 9 && decide ((stlE e (prA e key hold)).1.2.2.2 < e.2.1.length) with
 | true => rw [condT]; omega
 | false => rw [condF, List.length_nil]; omega
theorem rls_len (e : Eng) (key : Int) : (rls e key).2.length <= 17 := by
 refine Nat.le_trans (chg_len _ _) ?_
 rw [List.length_singleton]; omega
theorem step_len {d : Dcd} (h : OkD d) {l : List Rpt} {d' : Dcd} (hs : stepD d = some (l, d')) : l.length <= 17 := by
 obtain ⟨_, _, _, _, _, _, ⟨f, _, hx⟩⟩ := stepD_ok h hs
 rcases hx with ⟨_, _, hold, _, e⟩ | ⟨_, _, _, e⟩
 ·rw [e]; exact prs_len _ _ _
 ·rw [e]; exact rls_len _ _
theorem sentB_len (t : Int) (l : List Rpt) : (sentB t l).length = l.length := by unfold sentB; exact List.length_map _
end Go.Kb
