/- Actions and keymaps: the program's checks and the reference's are the values. -/
import Derived.Test.YticidpdbkjgebabGreatExactWaitUntilP93toF8
import Derived.Test.YticidpdbkjgebabGreatExactWaitUntilF30
namespace Go.Kb
theorem cSome (b x y : Bool) : (bif b then some x else some y) = some (b && x || !b && y) := by cases b <;> cases x <;> cases y <;> rfl
theorem isMods_eq (N : Nat) (x : Int) : yn.F N x = some (decide (1 <= x /\ x <= 15)) := by
 rw [yn.F_eq, cSome]
 congr 1
 rw [Bool.eq_iff_iff]
 simp only [bA, decide_eq_true_eq, Bool.and_false, Bool.or_false]
theorem isUpper_eq (N : Nat) (x : Int) : yu.F N x = some (decide (1 <= x /\ x <= 3)) := by
 rw [yu.F_eq, cSome]
 congr 1
 rw [Bool.eq_iff_iff]
 simp only [bA, decide_eq_true_eq, Bool.and_false, Bool.or_false]
theorem isA_impl (N : Nat) (a : Act) : yg.F N a = some (isA a) := by
 obtain ⟨k, c, m, n⟩ := a
 rw [yg.F_eq]
 unfold isA okA
 dsimp only
 simp only [isCode_eq, isMods_eq, isUpper_eq, bindV]
 by_cases h0 : k = 0
 ·subst h0
  simp only [Int.reduceBEq, cond_true, cond_false, cSome]
  congr 1
  rw [Bool.eq_iff_iff]
  simp <;> omega
 by_cases h1 : k = 1
 ·subst h1
  simp only [Int.reduceBEq, cond_true, cond_false, cSome]
  congr 1
  rw [Bool.eq_iff_iff]
  simp <;> omega
 by_cases h2 : k = 2
 ·subst h2
  simp only [Int.reduceBEq, cond_true, cond_false, cSome]
  congr 1
  rw [Bool.eq_iff_iff]
  simp <;> omega
 by_cases h3 : k = 3
 ·subst h3
  simp only [Int.reduceBEq, cond_true, cond_false, cSome]
  congr 1
  rw [Bool.eq_iff_iff]
  simp <;> omega
 by_cases h4 : k = 4
 ·subst h4
  simp only [Int.reduceBEq, cond_true, cond_false, cSome]
  congr 1
  rw [Bool.eq_iff_iff]
  simp <;> omega
 by_cases h5 : k = 5
 ·subst h5
  simp only [Int.reduceBEq, cond_true, cond_false, cSome]
  congr 1
  rw [Bool.eq_iff_iff]
  simp <;> omega
 by_cases h6 : k = 6
 ·subst h6
  simp only [Int.reduceBEq, cond_true, cond_false, cSome]
  congr 1
  rw [Bool.eq_iff_iff]
  simp <;> omega
 by_cases h7 : k = 7
 ·subst h7
  simp only [Int.reduceBEq, cond_true, cond_false, cSome]
  congr 1
  rw [Bool.eq_iff_iff]
  simp <;> omega
 by_cases h8 : k = 8
 ·subst h8
  simp only [Int.reduceBEq, cond_true, cond_false, cSome]
  congr 1
  rw [Bool.eq_iff_iff]
  simp <;> omega
 by_cases h9 : k = 9
 ·subst h9
  simp only [Int.reduceBEq, cond_true, cond_false, cSome]
  congr 1
  rw [Bool.eq_iff_iff]
  simp <;> omega
 by_cases h10 : k = 10
 ·subst h10
  simp only [Int.reduceBEq, cond_true, cond_false, cSome]
  congr 1
  rw [Bool.eq_iff_iff]
  simp <;> omega
 simp only [bN h0, bN h1, bN h2, bN h3, bN h4, bN h5, bN h6, bN h7, bN h8, bN h9, bN h10, condF]
 exact congrArg some (dF (p := okA (k, c, m, n)) (by unfold okA; dsimp only; omega)).symm
theorem isA_spec (N : Nat) (a : Act) : yf.F N a = some (isA a) := by
 obtain ⟨k, c, m, n⟩ := a
 rw [yf.F_eq]
 unfold isA okA
 dsimp only
 simp only [zCA, bindV]
 by_cases h0 : k = 0
 ·subst h0
  simp only [Int.reduceBEq, cond_true, cond_false, cSome]
  congr 1
  rw [Bool.eq_iff_iff]
  simp <;> omega
 by_cases h1 : k = 1
 ·subst h1
  simp only [Int.reduceBEq, cond_true, cond_false, cSome]
  congr 1
  rw [Bool.eq_iff_iff]
  simp <;> omega
 by_cases h2 : k = 2
 ·subst h2
  simp only [Int.reduceBEq, cond_true, cond_false, cSome]
  congr 1
  rw [Bool.eq_iff_iff]
  simp <;> omega
 by_cases h3 : k = 3
 ·subst h3
  simp only [Int.reduceBEq, cond_true, cond_false, cSome]
  congr 1
  rw [Bool.eq_iff_iff]
  simp <;> omega
 by_cases h4 : k = 4
 ·subst h4
  simp only [Int.reduceBEq, cond_true, cond_false, cSome]
  congr 1
  rw [Bool.eq_iff_iff]
  simp <;> omega
 by_cases h5 : k = 5
 ·subst h5
  simp only [Int.reduceBEq, cond_true, cond_false, cSome]
  congr 1
  rw [Bool.eq_iff_iff]
  simp <;> omega
 by_cases h6 : k = 6
 ·subst h6
  simp only [Int.reduceBEq, cond_true, cond_false, cSome]
  congr 1
  rw [Bool.eq_iff_iff]
  simp <;> omega
 by_cases h7 : k = 7
 ·subst h7
  simp only [Int.reduceBEq, cond_true, cond_false, cSome]
  congr 1
  rw [Bool.eq_iff_iff]
  simp <;> omega
 by_cases h8 : k = 8
 ·subst h8
  simp only [Int.reduceBEq, cond_true, cond_false, cSome]
  congr 1
  rw [Bool.eq_iff_iff]
  simp <;> omega
 by_cases h9 : k = 9
 ·subst h9
  simp only [Int.reduceBEq, cond_true, cond_false, cSome]
  congr 1
  rw [Bool.eq_iff_iff]
  simp <;> omega
 by_cases h10 : k = 10
 ·subst h10
  simp only [Int.reduceBEq, cond_true, cond_false, cSome]
  congr 1
  rw [Bool.eq_iff_iff]
  simp <;> omega
 simp only [bN h0, bN h1, bN h2, bN h3, bN h4, bN h5, bN h6, bN h7, bN h8, bN h9, bN h10, condF]
 exact congrArg some (dF (p := okA (k, c, m, n)) (by unfold okA; dsimp only; omega)).symm
theorem pEta {α β : Type} (x : α × β) : (x.1, x.2) = x := rfl
theorem isTH_two (a : Act) : (bif isA a then (bif a.1 == 6 then some true else some (a.1 == 7)) else some false) = some (isTH a) := by
 unfold isTH
 cases isA a with
 | false => rfl
 | true =>
  rw [condT, Bool.true_and]
  by_cases h6 : a.1 = 6
  ·rw [bI h6, condT, dT (Or.inl h6)]
  ·rw [bN h6, condF, beqI]
   congr 1
   rw [Bool.eq_iff_iff, decide_eq_true_iff, decide_eq_true_iff]
   omega
theorem isTH_impl (N : Nat) (a : Act) : yh.F N a = some (isTH a) := by rw [yh.F_eq, isA_impl, bindV, isTH_two]
theorem isTH_spec (N : Nat) (a : Act) : yU.F N a = some (isTH a) := by rw [yU.F_eq, isA_spec, bindV, isTH_two]
theorem tap_impl (N : Nat) (a : Act) : zBD.F N a = some (tapO a) := by
 rw [zBD.F_eq, isTH_impl, bindV]; unfold tapO; cases isTH a <;> rfl
theorem tap_spec (N : Nat) (a : Act) : zBC.F N a = some (tapO a) := by
 rw [zBC.F_eq, isTH_spec, bindV]; unfold tapO; cases isTH a <;> rfl
theorem hold_impl (N : Nat) (a : Act) : zA9.F N a = some (holdO a) := by
 rw [zA9.F_eq, isTH_impl, bindV]; unfold holdO; cases isTH a <;> cases a.1 == 6 <;> rfl
theorem hold_spec (N : Nat) (a : Act) : zA4.F N a = some (holdO a) := by
 rw [zA4.F_eq, isTH_spec, bindV]; unfold holdO; cases isTH a <;> cases a.1 == 6 <;> rfl
def smallM (m : Mp) : Prop := m.2.length <= 1048576 /\ ∀ l ∈ m.2, l.length <= 1048576
abbrev dA : Act := (0, 0, 0, 0)
theorem cell_test {α : Type} (b f p q o : Bool) (x y : α) :
  (bif !b then x else bif f then (bif p then x else bif !q then (bif o then x else y) else y) else (bif !q then (bif o then x else y) else y)) = bif (b && (!(f && p) && !(!q && o))) then y else x := by
 cases b <;> cases f <;> cases p <;> cases q <;> cases o <;> rfl
theorem cell_test2 {α : Type} (b f p q o : Bool) (x y : α) :
  (bif !b then x else bif p then (bif f then x else bif !q then (bif o then x else y) else y) else (bif !q then (bif o then x else y) else y)) = bif (b && (!(f && p) && !(!q && o))) then y else x := by
 cases b <;> cases f <;> cases p <;> cases q <;> cases o <;> rfl
theorem bneB (x y : Int) : (x != y) = !(x == y) := id rfl
theorem isM_L2i (N n1 : Nat) (i : Int) (ls : List (List Act)) (t29 t30 : Int) (keys : Int) (l : List Act) (hl : l.length <= 1048576) : ∀ (n k : Nat), k <= l.length -> l.length < n + k ->
  zF.L2 N n1 n i ls t29 t30 l (l.length : Int) (k : Int) keys ls = bif (l.drop k).all (cellB ls.length (i == 0)) then zF.L1 N n1 ls t29 (IntKind.wrap .i64 (t30 + 1)) keys ls else some false := by
 intro n
 induction n with
 | zero => intro k h1 h2; omega
 | succ n ih =>
  intro k h1 h2
  rw [zF.L2_eq]
  by_cases hk : k < l.length
  ·have ws : IntKind.wrap .i64 ((k : Int) + 1) = ((k + 1 : Nat) : Int) := yP (by omega)
   simp only [oJ, hk, decide_true, condT, inRange_nat, nth_nat, ws, pEta, isA_impl, bindV, ih (k + 1) (by omega) (by omega), bneB, ge_iff_le]
   rw [cell_test, zAG dA l k hk, List.all_cons]
   show (bif cellB _ _ _ then _ else _) = _
   cases cellB (↑ls.length) (i == 0) (l.getD k dA) with
   | true => rfl
   | false => rfl
  ·simp only [oJ, hk, decide_false, condF]
   rw [List.drop_of_length_le (by omega), List.all_nil, condT]
theorem isM_L1i (N : Nat) (hN : 1048576 < N) (keys : Int) (ls : List (List Act)) (hs : ls.length <= 1048576 /\ ∀ l ∈ ls, l.length <= 1048576) : ∀ (n i : Nat), i <= ls.length -> ls.length < n + i ->
  zF.L1 N n ls (ls.length : Int) (i : Int) keys ls = some (laysB keys ls.length (i == 0) (ls.drop i)) := by
 intro n
 induction n with
 | zero => intro k h1 h2; omega
 | succ n ih =>
  intro i h1 h2
  rw [zF.L1_eq]
  have hs1 := hs.1
  by_cases hk : i < ls.length
  ·have ws : IntKind.wrap .i64 ((i : Int) + 1) = ((i + 1 : Nat) : Int) := yP (by omega)
   have hl := hs.2 _ (zBT [] ls i hk)
   have g2 := isM_L2i N n (i : Int) ls (ls.length : Int) (i : Int) keys (ls.getD i []) hl N 0 (by omega) (by omega)
   rw [ws, ih (i + 1) (by omega) (by omega)] at g2
   have e0 : ((i : Int) == 0) = (i == 0) := by rw [beqI, Bool.eq_iff_iff]; simp only [decide_eq_true_eq, beq_iff_eq]; omega
   have e1 : (i + 1 == 0) = false := rfl
   simp only [oJ, hk, decide_true, condT, inRange_nat, nth_nat]
   have g3 : zF.L2 N n N (i : Int) ls (ls.length : Int) (i : Int) (ls.getD i []) ((ls.getD i []).length : Int) 0 keys ls = _ := g2
   rw [g3, zAG [] ls i hk, e0, e1, List.drop_zero, bneI]
   simp only [laysB, layB]
   cases decide (((ls.getD i []).length : Int) = keys) <;> cases (ls.getD i []).all (cellB (↑ls.length) (i == 0)) <;> rfl
  ·simp only [oJ, hk, decide_false, condF]
   rw [List.drop_of_length_le (by omega)]; rfl
theorem isM_impl (N : Nat) (hN : 1048576 < N) (m : Mp) (hs : smallM m) : zF.F N m = some (isM m) := by
 obtain ⟨keys, ls⟩ := m
 have hs1 : ls.length <= 1048576 := hs.1
 have h := isM_L1i N hN keys ls hs N 0 (by omega) (by omega)
 rw [zF.F_eq]
 have h : zF.L1 N N ls (ls.length : Int) 0 keys ls = _ := h
 dsimp only
 rw [h, List.drop_zero]
 unfold isM
 dsimp only
 have e : ((0 : Nat) == 0) = true := rfl
 rw [e]
 generalize laysB keys ls.length true ls = b
 by_cases c1 : keys < 1
 ·rw [dT c1, condT, dF (by omega)]; rfl
 rw [dF c1, condF]
 by_cases c2 : keys > 32
 ·rw [dT c2, condT, dF (by omega)]; rfl
 rw [dF c2, condF]
 by_cases c3 : (ls.length : Int) < 1
 ·rw [dT c3, condT, dF (by omega)]; rfl
 rw [dF c3, condF]
 by_cases c4 : (ls.length : Int) > 4
 ·rw [dT c4, condT, dF (by omega)]; rfl
 rw [dF c4, condF, dT (by omega)]; rfl
theorem isM_L2s (N n1 : Nat) (i : Nat) (ls : List (List Act)) (hi : i < ls.length) (keys : Int) (hl : (ls.getD i []).length <= 1048576) : ∀ (n k : Nat), k <= (ls.getD i []).length -> (ls.getD i []).length < n + k ->
  zE.L2 N n1 n (i : Int) (k : Int) keys ls = bif ((ls.getD i []).drop k).all (cellB ls.length ((i : Int) == 0)) then zE.L1 N n1 (IntKind.wrap .i64 ((i : Int) + 1)) keys ls else some false := by
 intro n
 induction n with
 | zero => intro k h1 h2; omega
 | succ n ih =>
  intro k h1 h2
  rw [zE.L2_eq]
  by_cases hk : k < (ls.getD i []).length
  ·have ws : IntKind.wrap .i64 ((k : Int) + 1) = ((k + 1 : Nat) : Int) := yP (by omega)
   simp only [inRange_nat, hi, nth_nat, oJ, hk, decide_true, condT, ws, pEta, isA_spec, bindV, ih (k + 1) (by omega) (by omega), bneB, ge_iff_le]
   rw [cell_test2, zAG dA _ k hk, List.all_cons]
   show (bif cellB _ _ _ then _ else _) = _
   cases cellB (↑ls.length) ((i : Int) == 0) ((ls.getD i []).getD k dA) with
   | true => rfl
   | false => rfl
  ·simp only [inRange_nat, hi, nth_nat, oJ, hk, decide_true, decide_false, condT, condF]
   rw [List.drop_of_length_le (by omega), List.all_nil, condT]
theorem isM_L1s (N : Nat) (hN : 1048576 < N) (keys : Int) (ls : List (List Act)) (hs : ls.length <= 1048576 /\ ∀ l ∈ ls, l.length <= 1048576) : ∀ (n i : Nat), i <= ls.length -> ls.length < n + i ->
  zE.L1 N n (i : Int) keys ls = some (laysB keys ls.length (i == 0) (ls.drop i) && (decide (1 <= keys /\ keys <= 32) && decide (1 <= (ls.length : Int) /\ (ls.length : Int) <= 4))) := by
 intro n
 induction n with
 | zero => intro k h1 h2; omega
 | succ n ih =>
  intro i h1 h2
  rw [zE.L1_eq]
  have hs1 := hs.1
  by_cases hk : i < ls.length
  ·have ws : IntKind.wrap .i64 ((i : Int) + 1) = ((i + 1 : Nat) : Int) := yP (by omega)
   have hl := hs.2 _ (zBT [] ls i hk)
   have g2 := isM_L2s N n i ls hk keys hl N 0 (by omega) (by omega)
   rw [ws, ih (i + 1) (by omega) (by omega)] at g2
   have e0 : ((i : Int) == 0) = (i == 0) := by rw [beqI, Bool.eq_iff_iff]; simp only [decide_eq_true_eq, beq_iff_eq]; omega
   have e1 : (i + 1 == 0) = false := rfl
   simp only [oJ, hk, decide_true, condT, inRange_nat, nth_nat]
   have g3 : zE.L2 N n N (i : Int) 0 keys ls = _ := g2
   rw [g3, zAG [] ls i hk, e0, e1, List.drop_zero, bneI]
   simp only [laysB, layB]
   cases decide (((ls.getD i []).length : Int) = keys) <;> cases (ls.getD i []).all (cellB (↑ls.length) (i == 0)) <;> rfl
  ·simp only [oJ, hk, decide_false, condF, zCA, bindV]
   rw [List.drop_of_length_le (by omega)]
   simp only [laysB, Bool.true_and]
   cases decide (1 <= keys /\ keys <= 32) <;> rfl
theorem isM_spec (N : Nat) (hN : 1048576 < N) (m : Mp) (hs : smallM m) : zE.F N m = some (isM m) := by
 obtain ⟨keys, ls⟩ := m
 have hs1 : ls.length <= 1048576 := hs.1
 have h := isM_L1s N hN keys ls hs N 0 (by omega) (by omega)
 rw [zE.F_eq]
 have h : zE.L1 N N 0 keys ls = _ := h
 dsimp only
 rw [h, List.drop_zero]
 unfold isM
 dsimp only
 have e : ((0 : Nat) == 0) = true := rfl
 rw [e, Bool.and_comm]
 congr 2
 rw [Bool.eq_iff_iff]
 simp only [bA, decide_eq_true_eq]
 omega
theorem layN_i (N : Nat) (keys on : Int) (key : Nat) (ls : List (List Act)) (hr : ∀ i, i < ls.length -> key < (ls.getD i []).length) (hlen : ls.length <= 4) : ∀ (n i : Nat), i < n -> i < ls.length ->
  yB.L1 N n on (key : Int) (i : Int) keys ls = some ((layN ls on (key : Int) i : Nat) : Int) := by
 intro n
 induction n with
 | zero => intro i h1 h2; omega
 | succ n ih =>
  intro i h1 h2
  rw [yB.L1_eq]
  cases i with
  | zero => rfl
  | succ i =>
   have g : ((i + 1 : Nat) : Int) > 0 := by omega
   have g0 : (0 : Int) <= ((i + 1 : Nat) : Int) := by omega
   have ws : IntKind.wrap .i64 (((i + 1 : Nat) : Int) - 1) = (i : Int) := by rw [zBE (by omega) (by omega)]; omega
   have hi := ih i (by omega) (by omega)
   simp only [g, g0, decide_true, condT, zAx.F_eq, bindV, inRange_nat, nth_nat, h2, hr _ h2, ws, hi, layN, bitB, cellAt, Int.toNat_natCast, bneB]
   cases zBo .i64 (zBy .i64 on ((i + 1 : Nat) : Int)) 1 == 1 <;> cases ((ls.getD (i + 1) []).getD key (0, 0, 0, 0)).1 == 1 <;> rfl
theorem layN_s (N : Nat) (keys on : Int) (key : Nat) (ls : List (List Act)) (hr : ∀ i, i < ls.length -> key < (ls.getD i []).length) (hlen : ls.length <= 4) : ∀ (n i : Nat), i < n -> i < ls.length ->
  yR.L1 N n on (key : Int) (i : Int) keys ls = some ((layN ls on (key : Int) i : Nat) : Int) := by
 intro n
 induction n with
 | zero => intro i h1 h2; omega
 | succ n ih =>
  intro i h1 h2
  rw [yR.L1_eq]
  cases i with
  | zero => rfl
  | succ i =>
   have g : ((i + 1 : Nat) : Int) > 0 := by omega
   have g0 : (0 : Int) <= ((i + 1 : Nat) : Int) := by omega
   have ws : IntKind.wrap .i64 (((i + 1 : Nat) : Int) - 1) = (i : Int) := by rw [zBE (by omega) (by omega)]; omega
   have hi := ih i (by omega) (by omega)
   simp only [g, g0, decide_true, condT, inRange_nat, nth_nat, h2, hr _ h2, ws, hi, layN, bitB, cellAt, Int.toNat_natCast, bneB]
   cases zBo .i64 (zBy .i64 on ((i + 1 : Nat) : Int)) 1 == 1 <;> cases ((ls.getD (i + 1) []).getD key (0, 0, 0, 0)).1 == 1 <;> rfl
theorem OkM.small {m : Mp} (h : OkM m) : smallM m := by
 refine ⟨by have := h.len; omega, fun l hl => ?_⟩
 obtain ⟨i, hi, rfl⟩ := List.getElem_of_mem hl
 have := h.row hi
 rw [List.getD_eq_getElem?_getD, List.getElem?_eq_getElem hi] at this
 have := h.keys
 simp only [Option.getD_some] at *
 omega
theorem OkM.rows {m : Mp} (h : OkM m) {key : Nat} (hk : (key : Int) < m.1) : ∀ i, i < m.2.length -> key < (m.2.getD i []).length := by
 intro i hi
 have := h.row hi
 omega
theorem lay_impl (N : Nat) (hN : 10 < N) {m : Mp} (h : OkM m) {key : Nat} (hk : (key : Int) < m.1) (on : Int) : yB.F N (m, on, (key : Int)) = some ((layN m.2 on (key : Int) (m.2.length - 1) : Nat) : Int) := by
 obtain ⟨keys, ls⟩ := m
 have hl := h.len
 dsimp only at hl hk
 rw [yB.F_eq]
 dsimp only
 have ws : IntKind.wrap .i64 ((ls.length : Int) - 1) = ((ls.length - 1 : Nat) : Int) := by rw [zBE (by omega) (by omega)]; omega
 rw [ws]
 exact layN_i N keys on key ls (h.rows hk) hl.2 N _ (by omega) (by omega)
theorem act_impl (N : Nat) (hN : 1048576 < N) {m : Mp} (h : OkM m) {key : Nat} (hk : (key : Int) < m.1) (on : Int) : zAg.F N (m, on, (key : Int)) = some (actN m.2 on (key : Int)) := by
 have hl := h.len
 have k0 : ¬ (key : Int) < 0 := by omega
 have k1 : ¬ (key : Int) >= m.1 := by omega
 have hle := layN_le m.2 on (key : Int) (m.2.length - 1)
 rw [zAg.F_eq, zAy.F_eq, isM_impl N hN m h.small, bindV, (isM_iff m).2 h, notT, condF, dF k0, condF, dF k1, condF, lay_impl N (by omega) h hk on, bindV, bindV]
 unfold actN cellAt
 generalize layN m.2 on (key : Int) (m.2.length - 1) = i at *
 have hr := h.rows hk i (by omega)
 rw [dF (by omega), condF, inRange_nat, dT (show i < m.2.length by omega), condT, nth_nat, inRange_nat, dT hr, condT, nth_nat]
 rfl
theorem act_spec (N : Nat) (hN : 1048576 < N) {m : Mp} (h : OkM m) {key : Nat} (hk : (key : Int) < m.1) (on : Int) : zAJ.F N (m, on, (key : Int)) = some (actN m.2 on (key : Int)) := by
 have hl := h.len
 have hk32 := h.keys
 have hle := layN_le m.2 on (key : Int) (m.2.length - 1)
 have ws : IntKind.wrap .i64 ((m.2.length : Int) - 1) = ((m.2.length - 1 : Nat) : Int) := by rw [zBE (by omega) (by omega)]; omega
 have wk : IntKind.wrap .i64 (m.1 - 1) = m.1 - 1 := zBE (by omega) (by omega)
 have hs := layN_s N m.1 on key m.2 (h.rows hk) hl.2 N (m.2.length - 1) (by omega) (by omega)
 rw [zAJ.F_eq, yR.F_eq, isM_spec N hN m h.small, bindV, (isM_iff m).2 h, notT, condF, zCA, bindV, wk, dT (by omega), notT, condF, ws, hs, bindV]
 unfold actN cellAt
 generalize layN m.2 on (key : Int) (m.2.length - 1) = i at *
 have hr := h.rows hk i (by omega)
 rw [dF (by omega), condF, inRange_nat, dT (show i < m.2.length by omega), condT, nth_nat, inRange_nat, dT hr, condT, nth_nat]
 rfl
end Go.Kb
