/- Actions and keymaps: the program's checks and the reference's are the values. -/
import Derived.Test.YticidpdbkjgebaaPlainP94toF8
import Derived.Test.YticidpdbkjgebaaPlainF30
namespace Go.Kb
theorem cSome (b x y : Bool) : (bif b then some x else some y) = some (b && x || !b && y) := by cases b <;> cases x <;> cases y <;> rfl
theorem isMods_eq (N : Nat) (x : Int) : yG.F N x = some (decide (1 <= x /\ x <= 15)) := by
 rw [yG.F_eq, cSome]
 congr 1
 rw [Bool.eq_iff_iff]
 simp only [bA, decide_eq_true_eq, Bool.and_false, Bool.or_false]
theorem isUpper_eq (N : Nat) (x : Int) : yK.F N x = some (decide (1 <= x /\ x <= 3)) := by
 rw [yK.F_eq, cSome]
 congr 1
 rw [Bool.eq_iff_iff]
 simp only [bA, decide_eq_true_eq, Bool.and_false, Bool.or_false]
theorem isA_impl (N : Nat) (a : Act) : z8.F N a = some (isA a) := by
 obtain ⟨k, c, m, n⟩ := a
 rw [z8.F_eq]
 unfold isA okA
 dsimp only
 simp only [isCode_eq, isMods_eq, isUpper_eq, bindV]
 by_cases h0 : k = 0
 ·subst h0
  simp only [Int.reduceBEq, cond_true, cond_false, cSome]
  congr 1
  rw [Bool.eq_iff_iff]
  simp <;> omega
 by_cases h1 : k = 1
 ·subst h1
  simp only [Int.reduceBEq, cond_true, cond_false, cSome]
  congr 1
  rw [Bool.eq_iff_iff]
  simp <;> omega
 by_cases h2 : k = 2
 ·subst h2
  simp only [Int.reduceBEq, cond_true, cond_false, cSome]
  congr 1
  rw [Bool.eq_iff_iff]
  simp <;> omega
 by_cases h3 : k = 3
 ·subst h3
  simp only [Int.reduceBEq, cond_true, cond_false, cSome]
  congr 1
  rw [Bool.eq_iff_iff]
  simp <;> omega
 by_cases h4 : k = 4
 ·subst h4
  simp only [Int.reduceBEq, cond_true, cond_false, cSome]
  congr 1
  rw [Bool.eq_iff_iff]
  simp <;> omega
 by_cases h5 : k = 5
 ·subst h5
  simp only [Int.reduceBEq, cond_true, cond_false, cSome]
  congr 1
  rw [Bool.eq_iff_iff]
  simp <;> omega
 by_cases h6 : k = 6
 ·subst h6
  simp only [Int.reduceBEq, cond_true, cond_false, cSome]
  congr 1
  rw [Bool.eq_iff_iff]
  simp <;> omega
 by_cases h7 : k = 7
 ·subst h7
  simp only [Int.reduceBEq, cond_true, cond_false, cSome]
  congr 1
  rw [Bool.eq_iff_iff]
  simp <;> omega
 by_cases h8 : k = 8
 ·subst h8
  simp only [Int.reduceBEq, cond_true, cond_false, cSome]
  congr 1
  rw [Bool.eq_iff_iff]
  simp <;> omega
 by_cases h9 : k = 9
 ·subst h9
  simp only [Int.reduceBEq, cond_true, cond_false, cSome]
  congr 1
  rw [Bool.eq_iff_iff]
  simp <;> omega
 by_cases h10 : k = 10
 ·subst h10
  simp only [Int.reduceBEq, cond_true, cond_false, cSome]
  congr 1
  rw [Bool.eq_iff_iff]
  simp <;> omega
 simp only [bN h0, bN h1, bN h2, bN h3, bN h4, bN h5, bN h6, bN h7, bN h8, bN h9, bN h10, condF]
 exact congrArg some (dF (p := okA (k, c, m, n)) (by unfold okA; dsimp only; omega)).symm
theorem pEta {α β : Type} (x : α × β) : (x.1, x.2) = x := rfl
theorem isTH_two (a : Act) : (bif isA a then (bif a.1 == 6 then some true else some (a.1 == 7)) else some false) = some (isTH a) := by
 unfold isTH
 cases isA a with
 | false => rfl
 | true =>
  rw [condT, Bool.true_and]
  by_cases h6 : a.1 = 6
  ·rw [bI h6, condT, dT (Or.inl h6)]
  ·rw [bN h6, condF, beqI]
   congr 1
   rw [Bool.eq_iff_iff, decide_eq_true_iff, decide_eq_true_iff]
   omega
theorem isTH_impl (N : Nat) (a : Act) : yA.F N a = some (isTH a) := by rw [yA.F_eq, isA_impl, bindV, isTH_two]
theorem tap_impl (N : Nat) (a : Act) : zAF.F N a = some (tapO a) := by
 rw [zAF.F_eq, isTH_impl, bindV]; unfold tapO; cases isTH a <;> rfl
theorem hold_impl (N : Nat) (a : Act) : zAI.F N a = some (holdO a) := by
 rw [zAI.F_eq, isTH_impl, bindV]; unfold holdO; cases isTH a <;> cases a.1 == 6 <;> rfl
def smallM (m : Mp) : Prop := m.2.length <= 1048576 /\ ∀ l ∈ m.2, l.length <= 1048576
abbrev dA : Act := (0, 0, 0, 0)
theorem cell_test {α : Type} (b f p q o : Bool) (x y : α) :
  (bif !b then x else bif f then (bif p then x else bif !q then (bif o then x else y) else y) else (bif !q then (bif o then x else y) else y)) = bif (b && (!(f && p) && !(!q && o))) then y else x := by
 cases b <;> cases f <;> cases p <;> cases q <;> cases o <;> rfl
theorem bneB (x y : Int) : (x != y) = !(x == y) := id rfl
theorem isM_L2i (N n1 : Nat) (i : Int) (ls : List (List Act)) (t29 t30 : Int) (keys : Int) (l : List Act) (hl : l.length <= 1048576) : ∀ (n k : Nat), k <= l.length -> l.length < n + k ->
  zE.L2 N n1 n i ls t29 t30 l (l.length : Int) (k : Int) keys ls = bif (l.drop k).all (cellB ls.length (i == 0)) then zE.L1 N n1 ls t29 (IntKind.wrap .i64 (t30 + 1)) keys ls else some false := by
 intro n
 induction n with
 | zero => intro k h1 h2; omega
 | succ n ih =>
  intro k h1 h2
  rw [zE.L2_eq]
  by_cases hk : k < l.length
  ·have ws : IntKind.wrap .i64 ((k : Int) + 1) = ((k + 1 : Nat) : Int) := y0 (by omega)
   simp only [oJ, hk, decide_true, condT, inRange_nat, nth_nat, ws, pEta, isA_impl, bindV, ih (k + 1) (by omega) (by omega), bneB, ge_iff_le]
   rw [cell_test, zAL dA l k hk, List.all_cons]
   show (bif cellB _ _ _ then _ else _) = _
   cases cellB (↑ls.length) (i == 0) (l.getD k dA) with
   | true => rfl
   | false => rfl
  ·simp only [oJ, hk, decide_false, condF]
   rw [List.drop_of_length_le (by omega), List.all_nil, condT]
theorem isM_L1i (N : Nat) (hN : 1048576 < N) (keys : Int) (ls : List (List Act)) (hs : ls.length <= 1048576 /\ ∀ l ∈ ls, l.length <= 1048576) : ∀ (n i : Nat), i <= ls.length -> ls.length < n + i ->
  zE.L1 N n ls (ls.length : Int) (i : Int) keys ls = some (laysB keys ls.length (i == 0) (ls.drop i)) := by
 intro n
 induction n with
 | zero => intro k h1 h2; omega
 | succ n ih =>
  intro i h1 h2
  rw [zE.L1_eq]
  have hs1 := hs.1
  by_cases hk : i < ls.length
  ·have ws : IntKind.wrap .i64 ((i : Int) + 1) = ((i + 1 : Nat) : Int) := y0 (by omega)
   have hl := hs.2 _ (nth_mem [] ls i hk)
   have g2 := isM_L2i N n (i : Int) ls (ls.length : Int) (i : Int) keys (ls.getD i []) hl N 0 (by omega) (by omega)
   rw [ws, ih (i + 1) (by omega) (by omega)] at g2
   have e0 : ((i : Int) == 0) = (i == 0) := by rw [beqI, Bool.eq_iff_iff]; simp only [decide_eq_true_eq, beq_iff_eq]; omega
   have e1 : (i + 1 == 0) = false := rfl
   simp only [oJ, hk, decide_true, condT, inRange_nat, nth_nat]
   have g3 : zE.L2 N n N (i : Int) ls (ls.length : Int) (i : Int) (ls.getD i []) ((ls.getD i []).length : Int) 0 keys ls = _ := g2
   rw [g3, zAL [] ls i hk, e0, e1, List.drop_zero, bneI]
   simp only [laysB, layB]
   cases decide (((ls.getD i []).length : Int) = keys) <;> cases (ls.getD i []).all (cellB (↑ls.length) (i == 0)) <;> rfl
  ·simp only [oJ, hk, decide_false, condF]
   rw [List.drop_of_length_le (by omega)]; rfl
theorem isM_impl (N : Nat) (hN : 1048576 < N) (m : Mp) (hs : smallM m) : zE.F N m = some (isM m) := by
 obtain ⟨keys, ls⟩ := m
 have hs1 : ls.length <= 1048576 := hs.1
 have h := isM_L1i N hN keys ls hs N 0 (by omega) (by omega)
 rw [zE.F_eq]
 have h : zE.L1 N N ls (ls.length : Int) 0 keys ls = _ := h
 dsimp only
 rw [h, List.drop_zero]
 unfold isM
 dsimp only
 have e : ((0 : Nat) == 0) = true := rfl
 rw [e]
 generalize laysB keys ls.length true ls = b
 by_cases c1 : keys < 1
 ·rw [dT c1, condT, dF (by omega)]; rfl
 rw [dF c1, condF]
 by_cases c2 : keys > 32
 ·rw [dT c2, condT, dF (by omega)]; rfl
 rw [dF c2, condF]
 by_cases c3 : (ls.length : Int) < 1
 ·rw [dT c3, condT, dF (by omega)]; rfl
 rw [dF c3, condF]
 by_cases c4 : (ls.length : Int) > 4
 ·rw [dT c4, condT, dF (by omega)]; rfl
 rw [dF c4, condF, dT (by omega)]; rfl
theorem layN_i (N : Nat) (keys on : Int) (key : Nat) (ls : List (List Act)) (hr : ∀ i, i < ls.length -> key < (ls.getD i []).length) (hlen : ls.length <= 4) : ∀ (n i : Nat), i < n -> i < ls.length ->
  zd.L1 N n on (key : Int) (i : Int) keys ls = some ((layN ls on (key : Int) i : Nat) : Int) := by
 intro n
 induction n with
 | zero => intro i h1 h2; omega
 | succ n ih =>
  intro i h1 h2
  rw [zd.L1_eq]
  cases i with
  | zero => rfl
  | succ i =>
   have g : ((i + 1 : Nat) : Int) > 0 := by omega
   have g0 : (0 : Int) <= ((i + 1 : Nat) : Int) := by omega
   have ws : IntKind.wrap .i64 (((i + 1 : Nat) : Int) - 1) = (i : Int) := by rw [zAl (by omega) (by omega)]; omega
   have hi := ih i (by omega) (by omega)
   simp only [g, g0, decide_true, condT, zAD.F_eq, bindV, inRange_nat, nth_nat, h2, hr _ h2, ws, hi, layN, bitB, cellAt, Int.toNat_natCast, bneB]
   cases zBg .i64 (zCA .i64 on ((i + 1 : Nat) : Int)) 1 == 1 <;> cases ((ls.getD (i + 1) []).getD key (0, 0, 0, 0)).1 == 1 <;> rfl
theorem OkM.small {m : Mp} (h : OkM m) : smallM m := by
 refine ⟨by have := h.len; omega, fun l hl => ?_⟩
 obtain ⟨i, hi, rfl⟩ := List.getElem_of_mem hl
 have := h.row hi
 rw [List.getD_eq_getElem?_getD, List.getElem?_eq_getElem hi] at this
 have := h.keys
 simp only [Option.getD_some] at *
 omega
theorem OkM.rows {m : Mp} (h : OkM m) {key : Nat} (hk : (key : Int) < m.1) : ∀ i, i < m.2.length -> key < (m.2.getD i []).length := by
 intro i hi
 have := h.row hi
 omega
theorem lay_impl (N : Nat) (hN : 10 < N) {m : Mp} (h : OkM m) {key : Nat} (hk : (key : Int) < m.1) (on : Int) : zd.F N (m, on, (key : Int)) = some ((layN m.2 on (key : Int) (m.2.length - 1) : Nat) : Int) := by
 obtain ⟨keys, ls⟩ := m
 have hl := h.len
 dsimp only at hl hk
 rw [zd.F_eq]
 dsimp only
 have ws : IntKind.wrap .i64 ((ls.length : Int) - 1) = ((ls.length - 1 : Nat) : Int) := by rw [zAl (by omega) (by omega)]; omega
 rw [ws]
 exact layN_i N keys on key ls (h.rows hk) hl.2 N _ (by omega) (by omega)
theorem act_impl (N : Nat) (hN : 1048576 < N) {m : Mp} (h : OkM m) {key : Nat} (hk : (key : Int) < m.1) (on : Int) : yz.F N (m, on, (key : Int)) = some (actN m.2 on (key : Int)) := by
 have hl := h.len
 have k0 : ¬ (key : Int) < 0 := by omega
 have k1 : ¬ (key : Int) >= m.1 := by omega
 have hle := layN_le m.2 on (key : Int) (m.2.length - 1)
 rw [yz.F_eq, zAE.F_eq, isM_impl N hN m h.small, bindV, (isM_iff m).2 h, notT, condF, dF k0, condF, dF k1, condF, lay_impl N (by omega) h hk on, bindV, bindV]
 unfold actN cellAt
 generalize layN m.2 on (key : Int) (m.2.length - 1) = i at *
 have hr := h.rows hk i (by omega)
 rw [dF (by omega), condF, inRange_nat, dT (show i < m.2.length by omega), condT, nth_nat, inRange_nat, dT hr, condT, nth_nat]
 rfl
end Go.Kb
namespace Go.Kb
theorem len1 {α : Type} (o : List α) (x : α) (h : o.length <= 4000000) : decide (o.length + [x].length <= maxN) = true := by
 rw [List.length_singleton]
 exact dT (by unfold maxN; omega)
theorem kindB_eq (k : Int) : kindB k = !((k == 1) || ((k == 6) || (k == 7))) := by
 unfold kindB
 rw [Bool.eq_iff_iff]
 simp only [Bool.not_eq_true', decide_eq_false_iff_not, Bool.or_eq_false_iff, beq_eq_false_iff_ne]
 omega
abbrev dH : Hd := (0, 0, 0, 0, 0)
theorem isH_L1i (N : Nat) (l : List Hd) (hl : l.length <= 1048576) : ∀ (n i : Nat) (s : Int), i <= l.length -> l.length < n + i ->
  zZ.L1 N n s l (l.length : Int) (i : Int) = some (hdGo s (l.drop i)) := by
 intro n
 induction n with
 | zero => intro i s h1 h2; omega
 | succ n ih =>
  intro i s h1 h2
  rw [zZ.L1_eq]
  by_cases hi : i < l.length
  ·have ws : IntKind.wrap .i64 ((i : Int) + 1) = ((i + 1 : Nat) : Int) := y0 (by omega)
   rw [zAL dH l i hi]
   simp only [oJ, hi, decide_true, condT, inRange_nat, nth_nat, ws, pEta, isA_impl, bindV, zAD.F_eq]
   generalize l.getD i dH = h
   obtain ⟨key, k, c, m, q⟩ := h
   dsimp only
   by_cases g1 : key < 0
   ·rw [dT g1, condT]
    simp only [hdGo]
    rw [dF (by omega)]; rfl
   by_cases g2 : key > 31
   ·rw [dF g1, condF, dT g2, condT]
    simp only [hdGo]
    rw [dF (by omega)]; rfl
   have g0 : 0 <= key := by omega
   rw [dF g1, condF, dF g2, condF, dT g0, condT, bindV, condT]
   simp only [hdGo, bitB, bit1, kindB_eq, ih (i + 1) _ (by omega) (by omega)]
   rw [dT (show 0 <= key /\ key <= 31 by omega)]
   cases zBg .i64 (zCA .i64 s key) 1 == 1 <;> cases isA (k, c, m, q) <;> cases k == 1 <;> cases k == 6 <;> cases k == 7 <;> rfl
  ·simp only [oJ, hi, decide_false, condF]
   rw [List.drop_of_length_le (by omega)]; rfl
theorem isH_impl (N : Nat) (hN : 1048576 < N) (l : List Hd) (hl : l.length <= 1048576) : zZ.F N l = some (isH l) := by
 rw [zZ.F_eq]
 have h := isH_L1i N l hl N 0 0 (by omega) (by omega)
 rw [List.drop_zero] at h
 exact h
theorem okA_n {a : Act} (h : okA a) : 0 <= a.2.2.2 /\ a.2.2.2 <= 3 := by simp only [okA] at h; omega
theorem ly_L1i (N : Nat) (l : List Hd) (hl : l.length <= 1048576) (ha : ∀ h ∈ l, okA h.2) : ∀ (n i : Nat) (o : Int), i <= l.length -> l.length < n + i ->
  zU.L1 N n o l (l.length : Int) (i : Int) = some (lyGo o (l.drop i)) := by
 intro n
 induction n with
 | zero => intro i s h1 h2; omega
 | succ n ih =>
  intro i o h1 h2
  rw [zU.L1_eq]
  by_cases hi : i < l.length
  ·have ws : IntKind.wrap .i64 ((i : Int) + 1) = ((i + 1 : Nat) : Int) := y0 (by omega)
   have hn := (okA_n (ha _ (nth_mem dH l i hi))).1
   rw [zAL dH l i hi]
   simp only [oJ, hi, decide_true, condT, inRange_nat, nth_nat, ws]
   rw [dT hn, condT, ih (i + 1) _ (by omega) (by omega), ih (i + 1) _ (by omega) (by omega)]
   simp only [lyGo, bit1]
   cases (l.getD i dH).2.1 == 3 <;> rfl
  ·simp only [oJ, hi, decide_false, condF]
   rw [List.drop_of_length_le (by omega)]; rfl
theorem isH_okA {l : List Hd} (h : isH l = true) : ∀ x ∈ l, okA x.2 := fun x hx => (((isH_iff l).1 h).1 x hx).2.2.1
theorem ly_impl (N : Nat) (hN : 1048576 < N) (fx : Int) (l : List Hd) (hl : l.length <= 1048576) : zU.F N (fx, l) = some (lyOn fx l) := by
 rw [zU.F_eq, isH_impl N hN l hl]
 simp only [bindV]
 unfold lyOn
 cases hh : isH l with
 | false =>
  simp only [notF, condT, condF]
  by_cases c1 : fx >= 0
  ·by_cases c2 : fx <= 15
   ·rw [dT c1, dT c2, dT ⟨c1, c2⟩]; rfl
   ·rw [dT c1, dF c2, dF (by omega)]; rfl
  ·rw [dF c1, dF (show ¬ (0 <= fx /\ fx <= 15) by omega)]; rfl
 | true =>
  simp only [notT, condT, condF]
  have g := fun o => ly_L1i N l hl (isH_okA hh) N 0 o (by omega) (by omega)
  rw [List.drop_zero] at g
  have g : ∀ o, zU.L1 N N o l (l.length : Int) 0 = some (lyGo o l) := g
  rw [g, g]
  by_cases c1 : fx >= 0
  ·by_cases c2 : fx <= 15
   ·rw [dT c1, dT c2, dT ⟨c1, c2⟩]; rfl
   ·rw [dT c1, dF c2, dF (by omega)]; rfl
  ·rw [dF c1, dF (show ¬ (0 <= fx /\ fx <= 15) by omega)]; rfl
theorem codesOf_L1 (N : Nat) (hN : 1048576 < N) (a : List Int) (ha : a.length <= 1000000) : ∀ (n i : Nat) (o : List Int), i <= a.length -> a.length < n + i -> o.length + (a.length - i) <= 1000000 ->
  za.L1 N n (a.length : Int) (i : Int) a o = some (dd o (a.drop i)) := by
 intro n
 induction n with
 | zero => intro i o h1 h2; omega
 | succ n ih =>
  intro i o h1 h2 h3
  rw [za.L1_eq]
  by_cases hi : i < a.length
  ·have ws : IntKind.wrap .i64 ((i : Int) + 1) = ((i + 1 : Nat) : Int) := y0 (by omega)
   have e1 := len1 o (a.getD i 0) (by omega)
   have i1 := ih (i + 1) o (by omega) (by omega) (by omega)
   have i2 := ih (i + 1) (o ++ [a.getD i 0]) (by omega) (by omega) (by rw [lA, List.length_singleton]; omega)
   rw [zAL 0 a i hi]
   simp only [oJ, hi, decide_true, condT, inRange_nat, Int.toNat_natCast, ws, hasInt_eq N hN o _ (by omega), bindV, e1, i1, i2, dd, bneB]
   cases a.getD i 0 == 0 <;> cases o.contains (a.getD i 0) <;> rfl
  ·simp only [oJ, hi, decide_false, condF]
   rw [List.drop_of_length_le (by omega)]; rfl
theorem codesOf_eq (N : Nat) (hN : 1048576 < N) (l : List Int) (hl : l.length <= 1000000) (h : ∀ x ∈ l, 0 <= x /\ x <= 56) : za.F N l = some (codes l) := by
 have e1 : decide (l.length <= maxN) = true := dT (by unfold maxN; omega)
 have e2 : ext_sort_Ints.F N l = some (sortI l) := by
  unfold ext_sort_Ints.F
  have : Nat.blt l.length 4611686018427387904 = true := by rw [Nat.blt_eq]; omega
  rw [this, condT]
 have e3 := sortI_len l
 have g := codesOf_L1 N hN (sortI l) (by omega) N 0 [] (by omega) (by omega) (by rw [List.length_nil]; omega)
 have g : za.L1 N N ((sortI l).length : Int) 0 (sortI l) [] = _ := g
 rw [za.F_eq, ye.F_eq, e1, condT, bindV, e2, bindV, g, List.drop_zero, dd_codes l h]
theorem repO_L1i (N : Nat) (hN : 1048576 < N) (l : List Hd) (hl : l.length <= 500000) (ha : ∀ h ∈ l, okA h.2) : ∀ (n i : Nat) (m : Int) (o : List Int), i <= l.length -> l.length < n + i -> o.length = i -> (∀ x ∈ o, 0 <= x /\ x <= 56) ->
  zI.L1 N n l (l.length : Int) (i : Int) m o = some (mdGo m (l.drop i), codes (o ++ (l.drop i).map fun h => h.2.2.1)) := by
 intro n
 induction n with
 | zero => intro i m o h1 h2; omega
 | succ n ih =>
  intro i m o h1 h2 h3 h4
  rw [zI.L1_eq]
  by_cases hi : i < l.length
  ·have ws : IntKind.wrap .i64 ((i : Int) + 1) = ((i + 1 : Nat) : Int) := y0 (by omega)
   have hc := okA_code (ha _ (nth_mem dH l i hi))
   have e1 := len1 o (l.getD i dH).2.2.1 (by omega)
   have h5 : ∀ x ∈ o ++ [(l.getD i dH).2.2.1], 0 <= x /\ x <= 56 := by
    intro x hx
    rcases List.mem_append.1 hx with hx | hx
    ·exact h4 x hx
    ·rw [List.mem_singleton] at hx; subst hx; exact hc
   have i1 := fun m => ih (i + 1) m (o ++ [(l.getD i dH).2.2.1]) (by omega) (by omega) (by rw [lA, List.length_singleton]; omega) h5
   have e28 : decide ((l.getD i dH).2.1 = 2 \/ (l.getD i dH).2.1 = 8) = (((l.getD i dH).2.1 == 2) || ((l.getD i dH).2.1 == 8)) := by
    rw [Bool.eq_iff_iff]; simp only [decide_eq_true_eq, Bool.or_eq_true, beq_iff_eq]
   rw [zAL dH l i hi, List.map_cons]
   simp only [oJ, hi, decide_true, condT, inRange_nat, nth_nat, ws, e1, i1, mdGo, e28, List.append_assoc, List.singleton_append]
   cases (l.getD i dH).2.1 == 2 <;> cases (l.getD i dH).2.1 == 8 <;> rfl
  ·simp only [oJ, hi, decide_false, condF]
   rw [List.drop_of_length_le (by omega), List.map_nil, List.append_nil, codesOf_eq N hN o (by omega) h4, bindV]; rfl
theorem repO_impl (N : Nat) (hN : 1048576 < N) (l : List Hd) (hl : l.length <= 500000) : zI.F N l = some (repO l) := by
 rw [zI.F_eq, isH_impl N hN l (by omega), bindV]
 unfold repO
 cases hh : isH l with
 | false => rfl
 | true =>
  have g := repO_L1i N hN l hl (isH_okA hh) N 0 0 [] (by omega) (by omega) rfl (by simp)
  rw [List.drop_zero, List.nil_append] at g
  rw [notT, condF, condT]
  exact g
end Go.Kb
namespace Go.Kb
abbrev dP : Pr := (0, 0)
abbrev dS : MSt := (0, 0, 0)
def ixP (d : List Pr) (p : Pr) : Int := bif d.contains p then ((d.findIdx fun x => x == p : Nat) : Int) else -1
theorem erase_ix : ∀ (d : List Pr) (p : Pr), d.contains p = true -> d.findIdx (fun x => x == p) < d.length /\ d.take (d.findIdx fun x => x == p) ++ d.drop ((d.findIdx fun x => x == p) + 1) = d.erase p := by
 intro d p
 induction d with
 | nil => intro h; cases h
 | cons x r ih =>
  intro h
  rw [List.findIdx_cons, List.erase_cons]
  by_cases e : x = p
  ·subst e
   simp
  ·have e1 : (x == p) = false := by simpa using e
   have h' : r.contains p = true := by
    rw [List.contains_cons] at h
    have e2 : (p == x) = false := by simpa using fun g => e g.symm
    rw [e2, Bool.false_or] at h
    exact h
   obtain ⟨i1, i2⟩ := ih h'
   rw [e1]
   refine ⟨by simpa using i1, ?_⟩
   simp only [cond_false, List.take_succ_cons, List.drop_succ_cons, List.cons_append, i2]
   rfl
theorem ixP_lt (d : List Pr) (p : Pr) : decide (ixP d p >= 0) = d.contains p := by
 unfold ixP
 cases d.contains p with
 | true => rw [condT]; exact dT (by omega)
 | false => rw [condF]; exact dF (by omega)
theorem pairEq (x p : Pr) : ((x.1 == p.1) && (x.2 == p.2)) = (x == p) := by
 rw [Bool.eq_iff_iff]
 simp only [bA, beq_iff_eq, Prod.ext_iff]
theorem find_L1 {L : Nat -> Int -> Option Int} (d : List Pr) (hd : d.length <= 1048576) (p : Pr)
  (Leq : ∀ n i, L (n + 1) i = bif decide (i < (d.length : Int)) then (bif zu i d.length then (bif nth dP d i == p then some i else L n (IntKind.wrap .i64 (i + 1))) else none) else some (-1)) :
  ∀ (n i : Nat), i <= d.length -> d.length < n + i -> L n (i : Int) = some (bif (d.drop i).contains p then ((i + (d.drop i).findIdx (fun x => x == p) : Nat) : Int) else -1) := by
 intro n
 induction n with
 | zero => intro i h1 h2; omega
 | succ n ih =>
  intro i h1 h2
  rw [Leq]
  by_cases hi : i < d.length
  ·have ws : IntKind.wrap .i64 ((i : Int) + 1) = ((i + 1 : Nat) : Int) := y0 (by omega)
   rw [zAL dP d i hi, List.contains_cons, List.findIdx_cons]
   simp only [oJ, hi, decide_true, condT, inRange_nat, nth_nat, ws, ih (i + 1) (by omega) (by omega)]
   rw [show (p == d.getD i dP) = (d.getD i dP == p) from by rw [Bool.eq_iff_iff]; simp only [beq_iff_eq]; exact eq_comm]
   cases d.getD i dP == p with
   | true => simp
   | false =>
    simp only [condF, Bool.false_or]
    rw [show i + 1 + List.findIdx (fun x => x == p) (d.drop (i + 1)) = i + (List.findIdx (fun x => x == p) (d.drop (i + 1)) + 1) by omega]
  ·simp only [oJ, hi, decide_false, condF]
   rw [List.drop_of_length_le (by omega)]; rfl
theorem pairAt_eq (N : Nat) (hN : 1048576 < N) (d : List Pr) (hd : d.length <= 1048576) (p : Pr) : zx.F N (d, p) = some (ixP d p) := by
 rw [zx.F_eq]
 have g := find_L1 (L := fun n i => zx.L1 N n d (d.length : Int) i p.1 p.2) d hd p (fun n i => by rw [zx.L1_eq, pairEq]) N 0 (by omega) (by omega)
 rw [List.drop_zero, Nat.zero_add] at g
 exact g
theorem isMc_L1i (N : Nat) (hN : 1048576 < N) (l : List MSt) (hl : l.length <= 1000) : ∀ (n i : Nat) (d : List Pr), i <= l.length -> l.length < n + i -> d.length + (l.length - i) <= 1000 ->
  zY.L1 N n l (l.length : Int) (i : Int) d = some (mcGo d (l.drop i)) := by
 intro n
 induction n with
 | zero => intro i d h1 h2; omega
 | succ n ih =>
  intro i d h1 h2 h3
  rw [zY.L1_eq]
  by_cases hi : i < l.length
  ·have ws : IntKind.wrap .i64 ((i : Int) + 1) = ((i + 1 : Nat) : Int) := y0 (by omega)
   rw [zAL dS l i hi]
   simp only [oJ, hi, decide_true, condT, inRange_nat, nth_nat, ws, pEta]
   obtain ⟨s, hs⟩ : ∃ s, l.getD i dS = s := ⟨_, rfl⟩
   simp only [hs]
   rw [pairAt_eq N hN d (by omega), bindV, isA_impl, bindV]
   have e1 := len1 d s.2 (by omega)
   have i1 := ih (i + 1) d (by omega) (by omega) (by omega)
   have i2 := ih (i + 1) (d ++ [s.2]) (by omega) (by omega) (by rw [lA, List.length_singleton]; omega)
   have a1 : isA ((2 : Int), s.2.1, s.2.2, (0 : Int)) = isA (stepA s) := rfl
   have lt : decide (ixP d s.2 < 0) = !d.contains s.2 := by
    rw [<- ixP_lt, Bool.eq_iff_iff]; simp only [decide_eq_true_eq, Bool.not_eq_true', decide_eq_false_iff_not]; omega
   simp only [mcGo, a1, ixP_lt, lt, e1, i1, i2, condT]
   cases isA (stepA s) with
   | false => rfl
   | true =>
    by_cases k0 : s.1 = 0
    ·rw [bI k0, bN (show s.1 ≠ 1 by omega)]
     cases d.contains s.2 <;> rfl
    ·rw [bN k0]
     by_cases k1 : s.1 = 1
     ·rw [bI k1]
      cases d.contains s.2 <;> rfl
     ·rw [bN k1]
      by_cases k2 : s.1 = 2
      ·rw [bI k2]
       cases hc : d.contains s.2 with
       | false => rfl
       | true =>
        obtain ⟨j1, j2⟩ := erase_ix d s.2 hc
        have ej : ixP d s.2 = ((d.findIdx fun x => x == s.2 : Nat) : Int) := by unfold ixP; rw [hc, condT]
        rw [ej]
        generalize d.findIdx (fun x => x == s.2) = j at *
        have wj : IntKind.wrap .i64 ((j : Int) + 1) = ((j + 1 : Nat) : Int) := y0 (by omega)
        have hm : d.length <= maxN := by unfold maxN; omega
        have i3 := ih (i + 1) (d.erase s.2) (by omega) (by omega) (by have := List.length_erase_le (a := s.2) (l := d); omega)
        rw [wj]
        rw [dT (show (j : Int) <= (d.length : Int) by omega), dT (show (0 : Int) <= ((j + 1 : Nat) : Int) by omega), dT (show ((j + 1 : Nat) : Int) <= (d.length : Int) by omega), dT (show Int.toNat (j : Int) <= Int.toNat ((j + 1 : Nat) : Int) by omega), dT hm, Int.toNat_natCast, Int.toNat_natCast, j2, i3]
        rfl
      ·rw [bN k2]; rfl
  ·simp only [oJ, hi, decide_false, condF]
   rw [List.drop_of_length_le (by omega)]
   cases d <;> rfl
theorem isMc_impl (N : Nat) (hN : 1048576 < N) (l : List MSt) : zY.F N l = some (isMc l) := by
 rw [zY.F_eq]
 unfold isMc
 by_cases h : l.length <= 8
 ·have g := isMc_L1i N hN l (by omega) N 0 [] (by omega) (by omega) (by rw [List.length_nil]; omega)
  have g : zY.L1 N N l (l.length : Int) 0 [] = _ := g
  rw [dF (by omega), condF, dT h, g, List.drop_zero]; rfl
 ·rw [dT (by omega), condT, dF h]; rfl
theorem withP_L1i (N : Nat) (hN : 1048576 < N) (d : List Pr) (hd : d.length <= 1000) (hc : ∀ p ∈ d, 0 <= p.1 /\ p.1 <= 56) : ∀ (n i : Nat) (m : Int) (o : List Int), i <= d.length -> d.length < n + i -> o.length + (d.length - i) <= 2000 -> (∀ x ∈ o, 0 <= x /\ x <= 56) ->
  zR.L1 N n d (d.length : Int) (i : Int) m o = some (prGo m (d.drop i), codes (o ++ (d.drop i).map fun p => p.1)) := by
 intro n
 induction n with
 | zero => intro i m o h1 h2; omega
 | succ n ih =>
  intro i m o h1 h2 h3 h4
  rw [zR.L1_eq]
  by_cases hi : i < d.length
  ·have ws : IntKind.wrap .i64 ((i : Int) + 1) = ((i + 1 : Nat) : Int) := y0 (by omega)
   have e1 := len1 o (d.getD i dP).1 (by omega)
   have h5 : ∀ x ∈ o ++ [(d.getD i dP).1], 0 <= x /\ x <= 56 := by
    intro x hx
    rcases List.mem_append.1 hx with hx | hx
    ·exact h4 x hx
    ·rw [List.mem_singleton] at hx; subst hx; exact hc _ (nth_mem dP d i hi)
   rw [zAL dP d i hi, List.map_cons]
   simp only [oJ, hi, decide_true, condT, inRange_nat, nth_nat, ws, e1]
   rw [ih (i + 1) _ (o ++ [(d.getD i dP).1]) (by omega) (by omega) (by rw [lA, List.length_singleton]; omega) h5, List.append_assoc]
   rfl
  ·simp only [oJ, hi, decide_false, condF]
   rw [List.drop_of_length_le (by omega), List.map_nil, List.append_nil, codesOf_eq N hN o (by omega) h4, bindV]; rfl
theorem withP_impl (N : Nat) (hN : 1048576 < N) (b : Rpt) (hb : b.2.length <= 60) (hb2 : ∀ x ∈ b.2, 0 <= x /\ x <= 56) (d : List Pr) (hd : d.length <= 1000) (hc : ∀ p ∈ d, 0 <= p.1 /\ p.1 <= 56) : zR.F N (b, d) = some (withP b d) := by
 have e1 : decide (b.2.length <= maxN) = true := dT (by unfold maxN; omega)
 have g := withP_L1i N hN d hd hc N 0 b.1 b.2 (by omega) (by omega) (by omega) hb2
 rw [List.drop_zero] at g
 rw [zR.F_eq, ye.F_eq, e1, condT, bindV]
 exact g
end Go.Kb
