/- What an action changes, copies, engines, held places: the walks. -/
import Derived.Test.YticidpdbkjgebabGreatExactWaitUntilP99
namespace Go.Kb
theorem word_impl (N : Nat) (c : Int) : zAF.F N c = some (wordB c) := by
 rw [zAF.F_eq]
 unfold wordB
 simp only [cSome]
 congr 1
 rw [Bool.eq_iff_iff]
 simp only [bA, Bool.or_eq_true, decide_eq_true_eq, beq_iff_eq, Bool.not_eq_true', decide_eq_false_iff_not, beq_eq_false_iff_ne, Bool.and_true]
 omega
theorem word_spec (N : Nat) (c : Int) : zAC.F N c = some (wordB c) := by
 rw [zAC.F_eq, zCA, bindV]
 unfold wordB
 simp only [cSome]
 congr 1
 rw [Bool.eq_iff_iff]
 simp only [bA, Bool.or_eq_true, decide_eq_true_eq, beq_iff_eq, Bool.not_eq_true', decide_eq_false_iff_not, beq_eq_false_iff_ne, Bool.and_true]
 omega
def stlE (e : Eng) (a : Act) : Act × Eng :=
 let s := stl e.2.2.1 e.2.2.2.2.1 e.2.2.2.2.2 a
 (s.2.2.2, (e.1, e.2.1, s.1, e.2.2.2.1, s.2.1, s.2.2.1))
theorem settle_spec (N : Nat) (e : Eng) (a : Act) (ha : okA a) : zAa.F N (e, a) = some (stlE e a) := by
 obtain ⟨m, macs, fx, held, on, cp⟩ := e
 obtain ⟨k, c, md, n⟩ := a
 have hn := (okA_n ha).1
 have hc := (okA_code ha).1
 dsimp only at hn hc
 rw [zAa.F_eq, zBG.F_eq]
 simp only [stlE, stl, word_spec, bindV, bit1]
 rw [dT hn]
 have e0 : decide (c > 0) = !(c == 0) := by
  rw [Bool.eq_iff_iff]; simp only [decide_eq_true_eq, Bool.not_eq_true', beq_eq_false_iff_ne]; omega
 rw [e0]
 simp only [condT]
 cases k == 2 with
 | true =>
  simp only [condT]
  cases c == 0 with
  | true => rfl
  | false =>
   cases wordB c with
   | false => cases cp <;> rfl
   | true =>
    cases cp with
    | false => rfl
    | true => cases decide (c <= 26) <;> cases zBM .i64 (bitOr .i64 md on) 2 == 0 <;> rfl
 | false =>
  simp only [condF]
  cases k == 4 with
  | true => rfl
  | false =>
   cases k == 5 with
   | true => rfl
   | false =>
    cases k == 8 with
    | true => cases zBo .i64 on md == md <;> rfl
    | false => cases k == 10 <;> rfl
def smallL {α : Type} (l : List (List α)) : Prop := l.length <= 1048576 /\ ∀ x ∈ l, x.length <= 1048576
theorem copyM_spec (N : Nat) (hN : 1048576 < N) (m : Mp) (h : smallM m) : ya.F N m = some m := by
 obtain ⟨k, ls⟩ := m
 have h0 : ls.length <= 1048576 := h.1
 rw [ya.F_eq]
 have gl : ∀ (n i : Nat) (o : List (List Act)), i <= ls.length -> ls.length < n + i -> o.length <= i -> ya.L1 N n (i : Int) k ls k o = some (k, o ++ ls.drop i) := by
  intro n
  induction n with
  | zero => intro i o h1 h2; omega
  | succ n ih =>
   intro i o h1 h2 h3
   rw [ya.L1_eq]
   by_cases hi : i < ls.length
   ·have ws : IntKind.wrap .i64 ((i : Int) + 1) = ((i + 1 : Nat) : Int) := yP (by omega)
    have hx := h.2 _ (zBT [] ls i hi)
    have e1 := len1 o (ls.getD i []) (by omega)
    have e2 : decide (([] : List Act).length + (ls.getD i []).length <= maxN) = true := dT (by rw [List.length_nil]; unfold maxN; omega)
    rw [zAG [] ls i hi]
    simp only [oJ, hi, decide_true, condT, inRange_nat, nth_nat, ws, e2, List.nil_append, e1]
    rw [ih (i + 1) _ (by omega) (by omega) (by rw [lA, List.length_singleton]; omega), List.append_assoc, List.singleton_append]
   ·simp only [oJ, hi, decide_false, condF]
    rw [List.drop_of_length_le (by omega), List.append_nil]
 have g := gl N 0 [] (by omega) (by omega) (nR _)
 exact g
def smallE (e : Eng) : Prop := smallM e.1 /\ smallL e.2.1 /\ e.2.2.2.1.length <= 1048576
theorem copyE_spec (N : Nat) (hN : 1048576 < N) (e : Eng) (h : smallE e) : yI.F N e = some e := by
 obtain ⟨⟨k, ls⟩, macs, fx, held, on, cp⟩ := e
 obtain ⟨h1, h2, h3⟩ := h
 dsimp only at h1 h2 h3
 have h0 := h2.1
 rw [yI.F_eq, copyM_spec N hN (k, ls) h1, bindV]
 have e3 : decide (([] : List Hd).length + held.length <= maxN) = true := dT (by rw [List.length_nil]; unfold maxN; omega)
 have gl : ∀ (n i : Nat) (o : List (List MSt)), i <= macs.length -> macs.length < n + i -> o.length <= i -> yI.L1 N n (i : Int) k ls macs fx held on cp k ls fx held on cp o = some ((k, ls), (o ++ macs.drop i, (fx, (held, (on, cp))))) := by
  intro n
  induction n with
  | zero => intro i o h1 h2; omega
  | succ n ih =>
   intro i o g1 g2 g3
   rw [yI.L1_eq]
   by_cases hi : i < macs.length
   ·have ws : IntKind.wrap .i64 ((i : Int) + 1) = ((i + 1 : Nat) : Int) := yP (by omega)
    have hx := h2.2 _ (zBT [] macs i hi)
    have e1 := len1 o (macs.getD i []) (by omega)
    have e2 : decide (([] : List MSt).length + (macs.getD i []).length <= maxN) = true := dT (by rw [List.length_nil]; unfold maxN; omega)
    rw [zAG [] macs i hi]
    simp only [oJ, hi, decide_true, condT, inRange_nat, nth_nat, ws, e2, List.nil_append, e1]
    rw [ih (i + 1) _ (by omega) (by omega) (by rw [lA, List.length_singleton]; omega), List.append_assoc, List.singleton_append]
   ·simp only [oJ, hi, decide_false, condF]
    rw [List.drop_of_length_le (by omega), List.append_nil, e3, condT, List.nil_append]
 have g := gl N 0 [] (by omega) (by omega) (nR _)
 exact g
theorem tmod2 {x : Int} (h : 0 <= x) : Int.tmod x 2 = x % 2 := Int.tmod_eq_emod_of_nonneg h
theorem shl1 {n : Nat} (h : n <= 4) : zBS .i64 1 (n : Int) = 2 ^ n := by
 have h1 : bit1 (n : Int) = ((2 ^ n : Nat) : Int) := bit1_nat (by omega)
 unfold bit1 at h1
 rw [h1]; simp
theorem all_drop_cons {α : Type} (p : α -> Bool) (d : α) (l : List α) (i : Nat) (h : i < l.length) : (l.drop i).all p = (p (l.getD i d) && (l.drop (i + 1)).all p) := by
 rw [zAG d l i h, List.all_cons]
theorem isE_L2i (N : Nat) (e : Eng) (hm : e.1.2.length <= 4) (hl : e.2.2.2.1.length <= 1048576) : ∀ (n i : Nat), i <= e.2.2.2.1.length -> e.2.2.2.1.length < n + i ->
  zL.L2 N n (e.1.2.length : Int) e.2.2.2.1 (e.2.2.2.1.length : Int) (i : Int) e.1.1 e.1.2 e.2.1 e.2.2.1 e.2.2.2.1 e.2.2.2.2.1 e.2.2.2.2.2 =
   some ((e.2.2.2.1.drop i).all (heldB e.1.1 e.1.2.length) && decide (0 <= e.2.2.1 /\ e.2.2.1 % 2 = 0 /\ e.2.2.1 < 2 ^ e.1.2.length)) := by
 intro n
 induction n with
 | zero => intro i h1 h2; omega
 | succ n ih =>
  intro i h1 h2
  rw [zL.L2_eq]
  by_cases hi : i < e.2.2.2.1.length
  ·have ws : IntKind.wrap .i64 ((i : Int) + 1) = ((i + 1 : Nat) : Int) := yP (by omega)
   rw [all_drop_cons _ dH _ i hi]
   simp only [oJ, hi, decide_true, condT, inRange_nat, nth_nat, ws, ih (i + 1) (by omega) (by omega), heldB, bneB, ge_iff_le]
   have ex : decide (e.1.1 <= (e.2.2.2.1.getD i dH).1) = !decide ((e.2.2.2.1.getD i dH).1 < e.1.1) := by
    rw [Bool.eq_iff_iff]; simp only [decide_eq_true_eq, Bool.not_eq_true', decide_eq_false_iff_not]; omega
   rw [ex]
   cases decide ((e.2.2.2.1.getD i dH).1 < e.1.1) <;> cases (e.2.2.2.1.getD i dH).2.1 == 9 <;> cases decide ((e.1.2.length : Int) <= (e.2.2.2.1.getD i dH).2.2.2.2) <;> rfl
  ·simp only [oJ, hi, decide_false, condF]
   rw [List.drop_of_length_le (by omega), List.all_nil, Bool.true_and, shl1 hm, dT (show (0 : Int) <= (e.1.2.length : Int) by omega), condT]
   by_cases h0 : 0 <= e.2.2.1
   ·rw [dT (show e.2.2.1 >= 0 from h0), condT, tmod2 h0, beqI]
    by_cases h1 : e.2.2.1 % 2 = 0
    ·rw [dT h1, condT]
     congr 1
     rw [Bool.eq_iff_iff, decide_eq_true_iff, decide_eq_true_iff]
     exact ⟨fun h => ⟨h0, h1, h⟩, fun h => h.2.2⟩
    ·rw [dF h1, condF, dF (fun h => h1 h.2.1)]
   ·rw [dF (show ¬ e.2.2.1 >= 0 from h0), condF, dF (fun h => h0 h.1)]
theorem isE_L1i (N : Nat) (hN : 1048576 < N) (e : Eng) (hm : e.1.2.length <= 4) (hl : e.2.2.2.1.length <= 1048576) (hM : e.2.1.length <= 4) : ∀ (n i : Nat), i <= e.2.1.length -> e.2.1.length < n + i ->
  zL.L1 N n e.2.1 (e.2.1.length : Int) (i : Int) e.1.1 e.1.2 e.2.1 e.2.2.1 e.2.2.2.1 e.2.2.2.2.1 e.2.2.2.2.2 =
   some ((e.2.1.drop i).all isMc && (e.2.2.2.1.all (heldB e.1.1 e.1.2.length) && decide (0 <= e.2.2.1 /\ e.2.2.1 % 2 = 0 /\ e.2.2.1 < 2 ^ e.1.2.length))) := by
 intro n
 induction n with
 | zero => intro i h1 h2; omega
 | succ n ih =>
  intro i h1 h2
  rw [zL.L1_eq]
  by_cases hi : i < e.2.1.length
  ·have ws : IntKind.wrap .i64 ((i : Int) + 1) = ((i + 1 : Nat) : Int) := yP (by omega)
   rw [all_drop_cons _ [] _ i hi]
   simp only [oJ, hi, decide_true, condT, inRange_nat, nth_nat, ws, isMc_impl N hN, bindV, ih (i + 1) (by omega) (by omega)]
   cases isMc (e.2.1.getD i []) <;> rfl
  ·simp only [oJ, hi, decide_false, condF]
   have g := isE_L2i N e hm hl N 0 (by omega) (by omega)
   rw [List.drop_zero] at g
   rw [List.drop_of_length_le (by omega), List.all_nil, Bool.true_and]
   exact g
theorem isE_impl (N : Nat) (hN : 1048576 < N) (e : Eng) (h : smallE e) : zL.F N e = some (isE e) := by
 rw [zL.F_eq, isM_impl N hN e.1 h.1, bindV]
 unfold isE
 cases hm : isM e.1 with
 | false => rfl
 | true =>
  have hM := (isM_iff _).1 hm
  rw [notT, condF, Bool.true_and]
  by_cases h4 : e.2.1.length <= 4
  ·rw [dF (show ¬ (e.2.1.length : Int) > 4 by omega), condF, dT h4, Bool.true_and, isH_impl N hN _ h.2.2, bindV]
   cases isH e.2.2.2.1 with
   | false => rfl
   | true =>
    rw [notT, condF, Bool.true_and]
    have g := isE_L1i N hN e hM.len.2 h.2.2 h4 N 0 (by omega) (by omega)
    have g : zL.L1 N N e.2.1 (e.2.1.length : Int) 0 e.1.1 e.1.2 e.2.1 e.2.2.1 e.2.2.2.1 e.2.2.2.2.1 e.2.2.2.2.2 = _ := g
    by_cases c1 : e.2.2.2.2.1 < 0
    ·rw [dT c1, condT, dF (show ¬ (0 <= e.2.2.2.2.1 /\ e.2.2.2.2.1 <= 15) by omega)]; rfl
    by_cases c2 : e.2.2.2.2.1 > 15
    ·rw [dF c1, condF, dT c2, condT, dF (show ¬ (0 <= e.2.2.2.2.1 /\ e.2.2.2.2.1 <= 15) by omega)]; rfl
    rw [dF c1, condF, dF c2, condF, dT (show 0 <= e.2.2.2.2.1 /\ e.2.2.2.2.1 <= 15 by omega), Bool.true_and, g, List.drop_zero]
  ·rw [dT (show (e.2.1.length : Int) > 4 by omega), condT, dF h4]; rfl
theorem isE_L2s (N : Nat) (e : Eng) (hm : e.1.2.length <= 4) (hl : e.2.2.2.1.length <= 1048576) : ∀ (n i : Nat), i <= e.2.2.2.1.length -> e.2.2.2.1.length < n + i ->
  zH.L2 N n (i : Int) e.1.1 e.1.2 e.2.1 e.2.2.1 e.2.2.2.1 e.2.2.2.2.1 e.2.2.2.2.2 =
   some ((e.2.2.2.1.drop i).all (heldB e.1.1 e.1.2.length) && (decide (0 <= e.2.2.1 /\ e.2.2.1 % 2 = 0 /\ e.2.2.1 < 2 ^ e.1.2.length) && decide (0 <= e.2.2.2.2.1 /\ e.2.2.2.2.1 <= 15))) := by
 intro n
 induction n with
 | zero => intro i h1 h2; omega
 | succ n ih =>
  intro i h1 h2
  rw [zH.L2_eq]
  by_cases hi : i < e.2.2.2.1.length
  ·have ws : IntKind.wrap .i64 ((i : Int) + 1) = ((i + 1 : Nat) : Int) := yP (by omega)
   rw [all_drop_cons _ dH _ i hi]
   simp only [oJ, hi, decide_true, condT, inRange_nat, nth_nat, ws, ih (i + 1) (by omega) (by omega), heldB, bneB, ge_iff_le]
   have ex : decide (e.1.1 <= (e.2.2.2.1.getD i dH).1) = !decide ((e.2.2.2.1.getD i dH).1 < e.1.1) := by
    rw [Bool.eq_iff_iff]; simp only [decide_eq_true_eq, Bool.not_eq_true', decide_eq_false_iff_not]; omega
   rw [ex]
   cases decide ((e.2.2.2.1.getD i dH).1 < e.1.1) <;> cases (e.2.2.2.1.getD i dH).2.1 == 9 <;> cases decide ((e.1.2.length : Int) <= (e.2.2.2.1.getD i dH).2.2.2.2) <;> rfl
  ·simp only [oJ, hi, decide_false, condF]
   have wp : IntKind.wrap .i64 ((2 : Int) ^ e.1.2.length - 1) = 2 ^ e.1.2.length - 1 := by
    have hp : (2 : Nat) ^ e.1.2.length <= 16 := by have := Nat.pow_le_pow_right (n := 2) (by omega) hm; omega
    have ep : ((2 : Int) ^ e.1.2.length) = ((2 ^ e.1.2.length : Nat) : Int) := by simp
    have p0 : (0 : Int) <= 2 ^ e.1.2.length := by rw [ep]; exact Int.natCast_nonneg _
    have p1 : (2 : Int) ^ e.1.2.length <= 16 := by rw [ep]; exact Int.ofNat_le.2 hp
    rw [zBE (by omega) (by omega)]
   rw [List.drop_of_length_le (by omega), List.all_nil, Bool.true_and, shl1 hm, dT (show (0 : Int) <= (e.1.2.length : Int) by omega), condT, wp, zCA, bindV]
   by_cases h0 : 0 <= e.2.2.1 /\ e.2.2.1 <= 2 ^ e.1.2.length - 1
   ·rw [dT h0, condT, tmod2 h0.1, beqI]
    by_cases h1 : e.2.2.1 % 2 = 0
    ·rw [dT h1, condT, zCA, bindV, dT (show 0 <= e.2.2.1 /\ e.2.2.1 % 2 = 0 /\ e.2.2.1 < 2 ^ e.1.2.length from ⟨h0.1, h1, by omega⟩), Bool.true_and]
    ·rw [dF h1, condF, dF (show ¬ (0 <= e.2.2.1 /\ e.2.2.1 % 2 = 0 /\ e.2.2.1 < 2 ^ e.1.2.length) from fun h => h1 h.2.1), Bool.false_and]
   ·rw [dF h0, condF, dF (show ¬ (0 <= e.2.2.1 /\ e.2.2.1 % 2 = 0 /\ e.2.2.1 < 2 ^ e.1.2.length) from fun h => h0 ⟨h.1, by omega⟩), Bool.false_and]
theorem isE_L1s (N : Nat) (hN : 1048576 < N) (e : Eng) (hm : e.1.2.length <= 4) (hl : e.2.2.2.1.length <= 1048576) (hM : e.2.1.length <= 4) (hs : ∀ x ∈ e.2.1, x.length <= 1048576) : ∀ (n i : Nat), i <= e.2.1.length -> e.2.1.length < n + i ->
  zH.L1 N n (i : Int) e.1.1 e.1.2 e.2.1 e.2.2.1 e.2.2.2.1 e.2.2.2.2.1 e.2.2.2.2.2 =
   some ((e.2.1.drop i).all isMc && (e.2.2.2.1.all (heldB e.1.1 e.1.2.length) && (decide (0 <= e.2.2.1 /\ e.2.2.1 % 2 = 0 /\ e.2.2.1 < 2 ^ e.1.2.length) && decide (0 <= e.2.2.2.2.1 /\ e.2.2.2.2.1 <= 15)))) := by
 intro n
 induction n with
 | zero => intro i h1 h2; omega
 | succ n ih =>
  intro i h1 h2
  rw [zH.L1_eq]
  by_cases hi : i < e.2.1.length
  ·have ws : IntKind.wrap .i64 ((i : Int) + 1) = ((i + 1 : Nat) : Int) := yP (by omega)
   rw [all_drop_cons _ [] _ i hi]
   simp only [oJ, hi, decide_true, condT, inRange_nat, nth_nat, ws, isMc_spec N hN _ (hs _ (zBT [] _ i hi)), bindV, ih (i + 1) (by omega) (by omega)]
   cases isMc (e.2.1.getD i []) <;> rfl
  ·simp only [oJ, hi, decide_false, condF]
   have g := isE_L2s N e hm hl N 0 (by omega) (by omega)
   rw [List.drop_zero] at g
   rw [List.drop_of_length_le (by omega), List.all_nil, Bool.true_and]
   exact g
theorem isE_spec (N : Nat) (hN : 1048576 < N) (e : Eng) (h : smallE e) : zH.F N e = some (isE e) := by
 rw [zH.F_eq, isM_spec N hN e.1 h.1, bindV]
 unfold isE
 cases hm : isM e.1 with
 | false => rfl
 | true =>
  have hM := (isM_iff _).1 hm
  rw [notT, condF, Bool.true_and]
  by_cases h4 : e.2.1.length <= 4
  ·rw [dF (show ¬ (e.2.1.length : Int) > 4 by omega), condF, dT h4, Bool.true_and, isH_spec N hN _ h.2.2, bindV]
   cases isH e.2.2.2.1 with
   | false => rfl
   | true =>
    rw [notT, condF, Bool.true_and]
    have g := isE_L1s N hN e hM.len.2 h.2.2 h4 h.2.1.2 N 0 (by omega) (by omega)
    have g : zH.L1 N N 0 e.1.1 e.1.2 e.2.1 e.2.2.1 e.2.2.2.1 e.2.2.2.2.1 e.2.2.2.2.2 = _ := g
    rw [g, List.drop_zero]
    generalize decide (0 <= e.2.2.1 /\ e.2.2.1 % 2 = 0 /\ e.2.2.1 < 2 ^ e.1.2.length) = x1
    generalize decide (0 <= e.2.2.2.2.1 /\ e.2.2.2.2.1 <= 15) = x2
    generalize e.2.2.2.1.all (heldB e.1.1 ↑e.1.2.length) = x3
    generalize e.2.1.all isMc = x4
    cases x1 <;> cases x2 <;> cases x3 <;> cases x4 <;> rfl
  ·rw [dT (show (e.2.1.length : Int) > 4 by omega), condT, dF h4]; rfl
def hAtI (l : List Hd) (key : Int) : Int := bif l.any fun h => h.1 == key then (hIx l key : Int) else -1
theorem hAt_L1 {L : Nat -> Int -> Option Int} (l : List Hd) (hl : l.length <= 1048576) (key : Int)
  (Leq : ∀ n i, L (n + 1) i = bif decide (i < (l.length : Int)) then (bif zG i l.length then (bif (nth dH l i).1 == key then some i else L n (IntKind.wrap .i64 (i + 1))) else none) else some (-1)) :
  ∀ (n i : Nat), i <= l.length -> l.length < n + i -> L n (i : Int) = some (bif (l.drop i).any (fun h => h.1 == key) then ((i + hIx (l.drop i) key : Nat) : Int) else -1) := by
 intro n
 induction n with
 | zero => intro i h1 h2; omega
 | succ n ih =>
  intro i h1 h2
  rw [Leq]
  by_cases hi : i < l.length
  ·have ws : IntKind.wrap .i64 ((i : Int) + 1) = ((i + 1 : Nat) : Int) := yP (by omega)
   rw [zAG dH l i hi, List.any_cons]
   unfold hIx
   rw [List.findIdx_cons]
   simp only [oJ, hi, decide_true, condT, inRange_nat, nth_nat, ws, ih (i + 1) (by omega) (by omega)]
   cases (l.getD i dH).1 == key with
   | true => simp
   | false =>
    simp only [condF, Bool.false_or, hIx]
    rw [show i + 1 + List.findIdx (fun h => h.1 == key) (l.drop (i + 1)) = i + (List.findIdx (fun h => h.1 == key) (l.drop (i + 1)) + 1) by omega]
  ·simp only [oJ, hi, decide_false, condF]
   rw [List.drop_of_length_le (by omega)]; rfl
theorem hAt_impl (N : Nat) (hN : 1048576 < N) (e : Eng) (hl : e.2.2.2.1.length <= 1048576) (key : Int) : yd.F N (e, key) = some (hAtI e.2.2.2.1 key) := by
 rw [yd.F_eq]
 have g := hAt_L1 (L := fun n i => yd.L1 N n key e.2.2.2.1 (e.2.2.2.1.length : Int) i) e.2.2.2.1 hl key (fun n i => by rw [yd.L1_eq]) N 0 (by omega) (by omega)
 rw [List.drop_zero, Nat.zero_add] at g
 exact g
theorem hAt_spec (N : Nat) (hN : 1048576 < N) (e : Eng) (hl : e.2.2.2.1.length <= 1048576) (key : Int) : yV.F N (e, key) = some (hAtI e.2.2.2.1 key) := by
 rw [yV.F_eq]
 have g := hAt_L1 (L := fun n i => yV.L1 N n key i e.1.1 e.1.2 e.2.1 e.2.2.1 e.2.2.2.1 e.2.2.2.2.1 e.2.2.2.2.2) e.2.2.2.1 hl key (fun n i => by rw [yV.L1_eq]) N 0 (by omega) (by omega)
 rw [List.drop_zero, Nat.zero_add] at g
 exact g
end Go.Kb
