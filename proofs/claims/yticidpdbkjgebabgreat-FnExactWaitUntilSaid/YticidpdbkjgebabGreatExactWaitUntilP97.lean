/- Held keys, layers that are on, reports: the program's and the reference's are the values. -/
import Derived.Test.YticidpdbkjgebabGreatExactWaitUntilP96
namespace Go.Kb
theorem len1 {α : Type} (o : List α) (x : α) (h : o.length <= 4000000) : decide (o.length + [x].length <= maxN) = true := by
 rw [List.length_singleton]
 exact dT (by unfold maxN; omega)
theorem kindB_eq (k : Int) : kindB k = !((k == 1) || ((k == 6) || (k == 7))) := by
 unfold kindB
 rw [Bool.eq_iff_iff]
 simp only [Bool.not_eq_true', decide_eq_false_iff_not, Bool.or_eq_false_iff, beq_eq_false_iff_ne]
 omega
abbrev dH : Hd := (0, 0, 0, 0, 0)
theorem isH_L1i (N : Nat) (l : List Hd) (hl : l.length <= 1048576) : ∀ (n i : Nat) (s : Int), i <= l.length -> l.length < n + i ->
  z5.L1 N n s l (l.length : Int) (i : Int) = some (hdGo s (l.drop i)) := by
 intro n
 induction n with
 | zero => intro i s h1 h2; omega
 | succ n ih =>
  intro i s h1 h2
  rw [z5.L1_eq]
  by_cases hi : i < l.length
  ·have ws : IntKind.wrap .i64 ((i : Int) + 1) = ((i + 1 : Nat) : Int) := yP (by omega)
   rw [zAG dH l i hi]
   simp only [oJ, hi, decide_true, condT, inRange_nat, nth_nat, ws, pEta, isA_impl, bindV, zAx.F_eq]
   generalize l.getD i dH = h
   obtain ⟨key, k, c, m, q⟩ := h
   dsimp only
   by_cases g1 : key < 0
   ·rw [dT g1, condT]
    simp only [hdGo]
    rw [dF (by omega)]; rfl
   by_cases g2 : key > 31
   ·rw [dF g1, condF, dT g2, condT]
    simp only [hdGo]
    rw [dF (by omega)]; rfl
   have g0 : 0 <= key := by omega
   rw [dF g1, condF, dF g2, condF, dT g0, condT, bindV, condT]
   simp only [hdGo, bitB, bit1, kindB_eq, ih (i + 1) _ (by omega) (by omega)]
   rw [dT (show 0 <= key /\ key <= 31 by omega)]
   cases zBo .i64 (zBy .i64 s key) 1 == 1 <;> cases isA (k, c, m, q) <;> cases k == 1 <;> cases k == 6 <;> cases k == 7 <;> rfl
  ·simp only [oJ, hi, decide_false, condF]
   rw [List.drop_of_length_le (by omega)]; rfl
theorem isH_impl (N : Nat) (hN : 1048576 < N) (l : List Hd) (hl : l.length <= 1048576) : z5.F N l = some (isH l) := by
 rw [z5.F_eq]
 have h := isH_L1i N l hl N 0 0 (by omega) (by omega)
 rw [List.drop_zero] at h
 exact h
theorem isH_L1s (N : Nat) (l : List Hd) (hl : l.length <= 1048576) : ∀ (n i : Nat) (s : Int), i <= l.length -> l.length < n + i ->
  z9.L1 N n l s (i : Int) = some (hdGo s (l.drop i)) := by
 intro n
 induction n with
 | zero => intro i s h1 h2; omega
 | succ n ih =>
  intro i s h1 h2
  rw [z9.L1_eq]
  by_cases hi : i < l.length
  ·have ws : IntKind.wrap .i64 ((i : Int) + 1) = ((i + 1 : Nat) : Int) := yP (by omega)
   rw [zAG dH l i hi]
   simp only [oJ, hi, decide_true, condT, inRange_nat, nth_nat, ws, pEta, isA_spec, isTH_spec, zCA, bindV]
   generalize l.getD i dH = h
   obtain ⟨key, k, c, m, q⟩ := h
   dsimp only
   by_cases g : 0 <= key /\ key <= 31
   ·rw [dT g, notT, condF, dT g.1, condT, condT]
    simp only [hdGo, bitB, bit1, kindB_eq, ih (i + 1) _ (by omega) (by omega), isTH]
    rw [dT g]
    have e67 : decide (k = 6 \/ k = 7) = ((k == 6) || (k == 7)) := by
     rw [Bool.eq_iff_iff]; simp only [decide_eq_true_eq, Bool.or_eq_true, beq_iff_eq]
    rw [e67]
    cases zBo .i64 (zBy .i64 s key) 1 == 1 <;> cases isA (k, c, m, q) <;> cases k == 1 <;> cases k == 6 <;> cases k == 7 <;> rfl
   ·rw [dF g, notF, condT]
    simp only [hdGo]
    rw [dF g]; rfl
  ·simp only [oJ, hi, decide_false, condF]
   rw [List.drop_of_length_le (by omega)]; rfl
theorem isH_spec (N : Nat) (hN : 1048576 < N) (l : List Hd) (hl : l.length <= 1048576) : z9.F N l = some (isH l) := by
 rw [z9.F_eq]
 have h := isH_L1s N l hl N 0 0 (by omega) (by omega)
 rw [List.drop_zero] at h
 exact h
theorem okA_n {a : Act} (h : okA a) : 0 <= a.2.2.2 /\ a.2.2.2 <= 3 := by simp only [okA] at h; omega
theorem ly_L1i (N : Nat) (l : List Hd) (hl : l.length <= 1048576) (ha : ∀ h ∈ l, okA h.2) : ∀ (n i : Nat) (o : Int), i <= l.length -> l.length < n + i ->
  zo.L1 N n o l (l.length : Int) (i : Int) = some (lyGo o (l.drop i)) := by
 intro n
 induction n with
 | zero => intro i s h1 h2; omega
 | succ n ih =>
  intro i o h1 h2
  rw [zo.L1_eq]
  by_cases hi : i < l.length
  ·have ws : IntKind.wrap .i64 ((i : Int) + 1) = ((i + 1 : Nat) : Int) := yP (by omega)
   have hn := (okA_n (ha _ (zBT dH l i hi))).1
   rw [zAG dH l i hi]
   simp only [oJ, hi, decide_true, condT, inRange_nat, nth_nat, ws]
   rw [dT hn, condT, ih (i + 1) _ (by omega) (by omega), ih (i + 1) _ (by omega) (by omega)]
   simp only [lyGo, bit1]
   cases (l.getD i dH).2.1 == 3 <;> rfl
  ·simp only [oJ, hi, decide_false, condF]
   rw [List.drop_of_length_le (by omega)]; rfl
theorem isH_okA {l : List Hd} (h : isH l = true) : ∀ x ∈ l, okA x.2 := fun x hx => (((isH_iff l).1 h).1 x hx).2.2.1
theorem ly_impl (N : Nat) (hN : 1048576 < N) (fx : Int) (l : List Hd) (hl : l.length <= 1048576) : zo.F N (fx, l) = some (lyOn fx l) := by
 rw [zo.F_eq, isH_impl N hN l hl]
 simp only [bindV]
 unfold lyOn
 cases hh : isH l with
 | false =>
  simp only [notF, condT, condF]
  by_cases c1 : fx >= 0
  ·by_cases c2 : fx <= 15
   ·rw [dT c1, dT c2, dT ⟨c1, c2⟩]; rfl
   ·rw [dT c1, dF c2, dF (by omega)]; rfl
  ·rw [dF c1, dF (show ¬ (0 <= fx /\ fx <= 15) by omega)]; rfl
 | true =>
  simp only [notT, condT, condF]
  have g := fun o => ly_L1i N l hl (isH_okA hh) N 0 o (by omega) (by omega)
  rw [List.drop_zero] at g
  have g : ∀ o, zo.L1 N N o l (l.length : Int) 0 = some (lyGo o l) := g
  rw [g, g]
  by_cases c1 : fx >= 0
  ·by_cases c2 : fx <= 15
   ·rw [dT c1, dT c2, dT ⟨c1, c2⟩]; rfl
   ·rw [dT c1, dF c2, dF (by omega)]; rfl
  ·rw [dF c1, dF (show ¬ (0 <= fx /\ fx <= 15) by omega)]; rfl
theorem ly_L1s (N : Nat) (hN : 1048576 < N) (l : List Hd) (hl : l.length <= 1048576) (hh : isH l = true) : ∀ (n i : Nat) (o : Int), i <= l.length -> l.length < n + i ->
  zj.L1 N n l o (i : Int) = some (lyGo o (l.drop i)) := by
 intro n
 induction n with
 | zero => intro i s h1 h2; omega
 | succ n ih =>
  intro i o h1 h2
  rw [zj.L1_eq]
  by_cases hi : i < l.length
  ·have ws : IntKind.wrap .i64 ((i : Int) + 1) = ((i + 1 : Nat) : Int) := yP (by omega)
   have hn := (okA_n (isH_okA hh _ (zBT dH l i hi))).1
   rw [zAG dH l i hi]
   simp only [oJ, hi, decide_true, condT, inRange_nat, nth_nat, ws, isH_spec N hN l hl, hh, bindV]
   rw [dT hn, condT, ih (i + 1) _ (by omega) (by omega), ih (i + 1) _ (by omega) (by omega)]
   simp only [lyGo, bit1]
   cases (l.getD i dH).2.1 == 3 <;> rfl
  ·simp only [oJ, hi, decide_false, condF]
   rw [List.drop_of_length_le (by omega)]; rfl
theorem ly_spec (N : Nat) (hN : 1048576 < N) (fx : Int) (l : List Hd) (hl : l.length <= 1048576) : zj.F N (fx, l) = some (lyOn fx l) := by
 rw [zj.F_eq, zCA, bindV]
 unfold lyOn
 cases hh : isH l with
 | false =>
  obtain ⟨M, rfl⟩ : ∃ M, N = M + 1 := ⟨N - 1, by omega⟩
  have g : ∀ o, zj.L1 (M + 1) (M + 1) l o 0 = some o := by
   intro o
   rw [zj.L1_eq, isH_spec _ hN l hl, hh, bindV, condF]
   cases decide ((0 : Int) < (l.length : Int)) <;> rfl
  rw [g, g]
  cases decide (0 <= fx /\ fx <= 15) <;> rfl
 | true =>
  have g := fun o => ly_L1s N hN l hl hh N 0 o (by omega) (by omega)
  rw [List.drop_zero] at g
  have g : ∀ o, zj.L1 N N l o 0 = some (lyGo o l) := g
  rw [g, g]
  cases decide (0 <= fx /\ fx <= 15) <;> rfl
theorem codesOf_L1 (N : Nat) (hN : 1048576 < N) (a : List Int) (ha : a.length <= 1000000) : ∀ (n i : Nat) (o : List Int), i <= a.length -> a.length < n + i -> o.length + (a.length - i) <= 1000000 ->
  z6.L1 N n (a.length : Int) (i : Int) a o = some (dd o (a.drop i)) := by
 intro n
 induction n with
 | zero => intro i o h1 h2; omega
 | succ n ih =>
  intro i o h1 h2 h3
  rw [z6.L1_eq]
  by_cases hi : i < a.length
  ·have ws : IntKind.wrap .i64 ((i : Int) + 1) = ((i + 1 : Nat) : Int) := yP (by omega)
   have e1 := len1 o (a.getD i 0) (by omega)
   have i1 := ih (i + 1) o (by omega) (by omega) (by omega)
   have i2 := ih (i + 1) (o ++ [a.getD i 0]) (by omega) (by omega) (by rw [lA, List.length_singleton]; omega)
   rw [zAG 0 a i hi]
   simp only [oJ, hi, decide_true, condT, inRange_nat, Int.toNat_natCast, ws, hasInt_eq N hN o _ (by omega), bindV, e1, i1, i2, dd, bneB]
   cases a.getD i 0 == 0 <;> cases o.contains (a.getD i 0) <;> rfl
  ·simp only [oJ, hi, decide_false, condF]
   rw [List.drop_of_length_le (by omega)]; rfl
theorem codesOf_eq (N : Nat) (hN : 1048576 < N) (l : List Int) (hl : l.length <= 1000000) (h : ∀ x ∈ l, 0 <= x /\ x <= 56) : z6.F N l = some (codes l) := by
 have e1 : decide (l.length <= maxN) = true := dT (by unfold maxN; omega)
 have e2 : ext_sort_Ints.F N l = some (sortI l) := by
  unfold ext_sort_Ints.F
  have : Nat.blt l.length 4611686018427387904 = true := by rw [Nat.blt_eq]; omega
  rw [this, condT]
 have e3 := sortI_len l
 have g := codesOf_L1 N hN (sortI l) (by omega) N 0 [] (by omega) (by omega) (by rw [List.length_nil]; omega)
 have g : z6.L1 N N ((sortI l).length : Int) 0 (sortI l) [] = _ := g
 rw [z6.F_eq, zAL.F_eq, e1, condT, bindV, e2, bindV, g, List.drop_zero, dd_codes l h]
theorem repO_L1i (N : Nat) (hN : 1048576 < N) (l : List Hd) (hl : l.length <= 500000) (ha : ∀ h ∈ l, okA h.2) : ∀ (n i : Nat) (m : Int) (o : List Int), i <= l.length -> l.length < n + i -> o.length = i -> (∀ x ∈ o, 0 <= x /\ x <= 56) ->
  zJ.L1 N n l (l.length : Int) (i : Int) m o = some (mdGo m (l.drop i), codes (o ++ (l.drop i).map fun h => h.2.2.1)) := by
 intro n
 induction n with
 | zero => intro i m o h1 h2; omega
 | succ n ih =>
  intro i m o h1 h2 h3 h4
  rw [zJ.L1_eq]
  by_cases hi : i < l.length
  ·have ws : IntKind.wrap .i64 ((i : Int) + 1) = ((i + 1 : Nat) : Int) := yP (by omega)
   have hc := okA_code (ha _ (zBT dH l i hi))
   have e1 := len1 o (l.getD i dH).2.2.1 (by omega)
   have h5 : ∀ x ∈ o ++ [(l.getD i dH).2.2.1], 0 <= x /\ x <= 56 := by
    intro x hx
    rcases List.mem_append.1 hx with hx | hx
    ·exact h4 x hx
    ·rw [List.mem_singleton] at hx; subst hx; exact hc
   have i1 := fun m => ih (i + 1) m (o ++ [(l.getD i dH).2.2.1]) (by omega) (by omega) (by rw [lA, List.length_singleton]; omega) h5
   have e28 : decide ((l.getD i dH).2.1 = 2 \/ (l.getD i dH).2.1 = 8) = (((l.getD i dH).2.1 == 2) || ((l.getD i dH).2.1 == 8)) := by
    rw [Bool.eq_iff_iff]; simp only [decide_eq_true_eq, Bool.or_eq_true, beq_iff_eq]
   rw [zAG dH l i hi, List.map_cons]
   simp only [oJ, hi, decide_true, condT, inRange_nat, nth_nat, ws, e1, i1, mdGo, e28, List.append_assoc, List.singleton_append]
   cases (l.getD i dH).2.1 == 2 <;> cases (l.getD i dH).2.1 == 8 <;> rfl
  ·simp only [oJ, hi, decide_false, condF]
   rw [List.drop_of_length_le (by omega), List.map_nil, List.append_nil, codesOf_eq N hN o (by omega) h4, bindV]; rfl
theorem repO_impl (N : Nat) (hN : 1048576 < N) (l : List Hd) (hl : l.length <= 500000) : zJ.F N l = some (repO l) := by
 rw [zJ.F_eq, isH_impl N hN l (by omega), bindV]
 unfold repO
 cases hh : isH l with
 | false => rfl
 | true =>
  have g := repO_L1i N hN l hl (isH_okA hh) N 0 0 [] (by omega) (by omega) rfl (by simp)
  rw [List.drop_zero, List.nil_append] at g
  rw [notT, condF, condT]
  exact g
def cdF (c : Nat) (p : Int -> Bool) : List Int := (r56.drop c).filter p
theorem r56_get (c : Nat) (hc : c < 56) : r56.drop c = ((c : Int) + 1) :: r56.drop (c + 1) := by
 have hl : r56.length = 56 := by simp [r56]
 rw [zAG 0 r56 c (by omega)]
 congr 1
 unfold r56
 rw [List.getD_eq_getElem?_getD, List.getElem?_map, List.getElem?_range hc]
 rfl
theorem cdF_step (c : Nat) (hc : c < 56) (p : Int -> Bool) : cdF c p = (bif p ((c : Int) + 1) then [(c : Int) + 1] else []) ++ cdF (c + 1) p := by
 unfold cdF
 rw [r56_get c hc, List.filter_cons]
 cases p ((c : Int) + 1) <;> rfl
theorem cdF_end (p : Int -> Bool) : cdF 56 p = [] := by
 unfold cdF
 rw [List.drop_of_length_le (by simp [r56])]; rfl
theorem repO_L3s (N n2 : Nat) (l : List Hd) (hl : l.length <= 1048576) (code : Int) (o : List Int) (ho : o.length <= 100) (m : Int) : ∀ (n i : Nat), i <= l.length -> l.length < n + i ->
  zB.L3 N n2 n l code (i : Int) o m = zB.L2 N n2 l (IntKind.wrap .i64 (code + 1)) (o ++ bif ((l.drop i).map fun h => h.2.2.1).contains code then [code] else []) m := by
 intro n
 induction n with
 | zero => intro i h1 h2; omega
 | succ n ih =>
  intro i h1 h2
  rw [zB.L3_eq]
  by_cases hi : i < l.length
  ·have ws : IntKind.wrap .i64 ((i : Int) + 1) = ((i + 1 : Nat) : Int) := yP (by omega)
   have e1 := len1 o code (by omega)
   rw [zAG dH l i hi, List.map_cons, List.contains_cons]
   simp only [oJ, hi, decide_true, condT, inRange_nat, nth_nat, ws, e1, ih (i + 1) (by omega) (by omega)]
   rw [show (code == (l.getD i dH).2.2.1) = ((l.getD i dH).2.2.1 == code) from by rw [beqI, beqI, Bool.eq_iff_iff]; simp only [decide_eq_true_eq]; omega]
   cases (l.getD i dH).2.2.1 == code <;> rfl
  ·simp only [oJ, hi, decide_false, condF]
   rw [List.drop_of_length_le (by omega), List.map_nil]
   show _ = zB.L2 N n2 l _ (o ++ []) m
   rw [List.append_nil]
theorem repO_L2s (N : Nat) (hN : 1048576 < N) (l : List Hd) (hl : l.length <= 1048576) (m : Int) : ∀ (n c : Nat) (o : List Int), c <= 56 -> 56 < n + c -> o.length <= c ->
  zB.L2 N n l ((c : Int) + 1) o m = some (m, o ++ cdF c fun x => (l.map fun h => h.2.2.1).contains x) := by
 intro n
 induction n with
 | zero => intro c o h1 h2; omega
 | succ n ih =>
  intro c o h1 h2 h3
  rw [zB.L2_eq]
  by_cases hc : c < 56
  ·have h3' := repO_L3s N n l hl ((c : Int) + 1) o (by omega) m N 0 (by omega) (by omega)
   have h3' : zB.L3 N n N l ((c : Int) + 1) 0 o m = _ := h3'
   have ws : IntKind.wrap .i64 ((c : Int) + 1 + 1) = ((c + 1 : Nat) : Int) + 1 := by rw [zBE (by omega) (by omega)]; omega
   rw [dT (by omega), condT, h3', ws, List.drop_zero, ih (c + 1) _ (by omega) (by omega) ?_, cdF_step c hc, List.append_assoc]
   cases (l.map fun h => h.2.2.1).contains ((c : Int) + 1) <;> simp <;> omega
  ·have : c = 56 := by omega
   subst this
   rw [dF (by omega), condF, cdF_end, List.append_nil]
theorem repO_L1s (N : Nat) (hN : 1048576 < N) (l : List Hd) (hl : l.length <= 1048576) : ∀ (n i : Nat) (m : Int), i <= l.length -> l.length < n + i ->
  zB.L1 N n l (i : Int) [] m = some (mdGo m (l.drop i), codes (l.map fun h => h.2.2.1)) := by
 intro n
 induction n with
 | zero => intro i m h1 h2; omega
 | succ n ih =>
  intro i m h1 h2
  rw [zB.L1_eq]
  by_cases hi : i < l.length
  ·have ws : IntKind.wrap .i64 ((i : Int) + 1) = ((i + 1 : Nat) : Int) := yP (by omega)
   have e28 : decide ((l.getD i dH).2.1 = 2 \/ (l.getD i dH).2.1 = 8) = (((l.getD i dH).2.1 == 2) || ((l.getD i dH).2.1 == 8)) := by
    rw [Bool.eq_iff_iff]; simp only [decide_eq_true_eq, Bool.or_eq_true, beq_iff_eq]
   rw [zAG dH l i hi]
   simp only [oJ, hi, decide_true, condT, inRange_nat, nth_nat, ws, ih (i + 1) _ (by omega) (by omega), mdGo, e28]
   cases (l.getD i dH).2.1 == 2 <;> cases (l.getD i dH).2.1 == 8 <;> rfl
  ·simp only [oJ, hi, decide_false, condF]
   have g := repO_L2s N hN l hl m N 0 [] (by omega) (by omega) (nR _)
   have g : zB.L2 N N l 1 [] m = _ := g
   rw [List.drop_of_length_le (by omega), g]; rfl
theorem repO_spec (N : Nat) (hN : 1048576 < N) (l : List Hd) (hl : l.length <= 1048576) : zB.F N l = some (repO l) := by
 rw [zB.F_eq, isH_spec N hN l hl, bindV]
 unfold repO
 cases hh : isH l with
 | false => rfl
 | true =>
  have g := repO_L1s N hN l hl N 0 0 (by omega) (by omega)
  rw [List.drop_zero] at g
  rw [notT, condF, condT]
  exact g
end Go.Kb
