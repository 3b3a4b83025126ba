/- Deciders: sizes, copies, comparisons and marks, as the exact laws use them. -/
import Derived.Test.YticidpdbkjgebabGreatExactWaitUntilP122toP30
namespace Go.Kb
set_option maxRecDepth 100000
theorem szAct (N : Nat) (a : List Act) (left : Int) (h : a.length <= maxLen) (h0 : 0 <= left) (h1 : left <= 1048576) : ∃ r, zAN.F N (a, left) = some r /\ -1 <= r /\ r <= left /\ (0 <= r -> a.length <= 1048576) := by
 rw [zAN.F_eq]
 unfold maxLen at h
 rw [zBE (by omega) (by omega)]
 by_cases hh : left - (a.length : Int) < 0
 ·rw [dT hh, condT]; exact ⟨_, rfl, by omega, by omega, fun h => by omega⟩
 ·rw [dF hh, condF]; exact ⟨_, rfl, by omega, by omega, fun h => by omega⟩
theorem szStep (N : Nat) (a : List MSt) (left : Int) (h : a.length <= maxLen) (h0 : 0 <= left) (h1 : left <= 1048576) : ∃ r, zAo.F N (a, left) = some r /\ -1 <= r /\ r <= left /\ (0 <= r -> a.length <= 1048576) := by
 rw [zAo.F_eq]
 unfold maxLen at h
 rw [zBE (by omega) (by omega)]
 by_cases hh : left - (a.length : Int) < 0
 ·rw [dT hh, condT]; exact ⟨_, rfl, by omega, by omega, fun h => by omega⟩
 ·rw [dF hh, condF]; exact ⟨_, rfl, by omega, by omega, fun h => by omega⟩
theorem szHeld (N : Nat) (a : List Hd) (left : Int) (h : a.length <= maxLen) (h0 : 0 <= left) (h1 : left <= 1048576) : ∃ r, zAu.F N (a, left) = some r /\ -1 <= r /\ r <= left /\ (0 <= r -> a.length <= 1048576) := by
 rw [zAu.F_eq]
 unfold maxLen at h
 rw [zBE (by omega) (by omega)]
 by_cases hh : left - (a.length : Int) < 0
 ·rw [dT hh, condT]; exact ⟨_, rfl, by omega, by omega, fun h => by omega⟩
 ·rw [dF hh, condF]; exact ⟨_, rfl, by omega, by omega, fun h => by omega⟩
def wellL {α : Type} (a : List (List α)) : Prop := a.length <= maxLen /\ ∀ x ∈ a, x.length <= maxLen
theorem szActSS (N : Nat) (hN : 1048576 < N) (a : List (List Act)) (left : Int) (h : wellL a) (h0 : 0 <= left) (h1 : left <= 1048576) : ∃ r, zl.F N (a, left) = some r /\ -1 <= r /\ r <= left /\ (0 <= r -> smallL a) := by
 rw [zl.F_eq]
 obtain ⟨ha, hx⟩ := h
 unfold maxLen at ha
 rw [zBE (by omega) (by omega)]
 by_cases hh : left - (a.length : Int) < 0
 ·rw [dT hh, condT]; exact ⟨_, rfl, by omega, by omega, fun h => by omega⟩
 ·rw [dF hh, condF]
  obtain ⟨r, e, r0, r1, r2⟩ := szLoop [] (fun n a l i => zl.L1 N n a l i) (fun x => zAN.F N x) (fun x => x.length <= 1048576) a (fun n l i => zl.L1_eq N n a l i)
   (fun x hm l g0 g1 => szAct N x l (hx x hm) g0 g1) N 0 (left - (a.length : Int)) (by unfold maxN; omega) (by omega) (by omega) (by omega) (by omega)
  exact ⟨r, e, r0, by omega, fun h => ⟨by omega, r2 h⟩⟩
theorem szStepSS (N : Nat) (hN : 1048576 < N) (a : List (List MSt)) (left : Int) (h : wellL a) (h0 : 0 <= left) (h1 : left <= 1048576) : ∃ r, yD.F N (a, left) = some r /\ -1 <= r /\ r <= left /\ (0 <= r -> smallL a) := by
 rw [yD.F_eq]
 obtain ⟨ha, hx⟩ := h
 unfold maxLen at ha
 rw [zBE (by omega) (by omega)]
 by_cases hh : left - (a.length : Int) < 0
 ·rw [dT hh, condT]; exact ⟨_, rfl, by omega, by omega, fun h => by omega⟩
 ·rw [dF hh, condF]
  obtain ⟨r, e, r0, r1, r2⟩ := szLoop [] (fun n a l i => yD.L1 N n a l i) (fun x => zAo.F N x) (fun x => x.length <= 1048576) a (fun n l i => yD.L1_eq N n a l i)
   (fun x hm l g0 g1 => szStep N x l (hx x hm) g0 g1) N 0 (left - (a.length : Int)) (by unfold maxN; omega) (by omega) (by omega) (by omega) (by omega)
  exact ⟨r, e, r0, by omega, fun h => ⟨by omega, r2 h⟩⟩
def wellD (d : Dcd) : Prop := wellL d.1.1.2 /\ wellL d.1.2.1 /\ d.1.2.2.2.1.length <= maxLen /\ d.2.2.1.length <= maxLen
theorem szD (N : Nat) (hN : 1048576 < N) (d : Dcd) (h : wellD d) : ∃ r, zAW.F N (d, 1048576) = some r /\ -1 <= r /\ r <= 1048576 /\ (0 <= r -> smallE d.1 /\ d.2.2.1.length <= 1048576) := by
 obtain ⟨h1, h2, h3, h4⟩ := h
 obtain ⟨r1, e1, a1, a2, a3⟩ := szActSS N hN d.1.1.2 1048576 h1 (by omega) (by omega)
 rw [zAW.F_eq, zAk.F_eq, zAj.F_eq, e1, bindV]
 by_cases c1 : r1 < 0
 ·rw [dT c1, condT, bindV, dT (by omega), condT, bindV, dT (by omega), condT]; exact ⟨_, rfl, by omega, by omega, fun h => by omega⟩
 obtain ⟨r2, e2, b1, b2, b3⟩ := szStepSS N hN d.1.2.1 r1 h2 (by omega) (by omega)
 rw [dF c1, condF, bindV, dF c1, condF, e2, bindV]
 by_cases c2 : r2 < 0
 ·rw [dT c2, condT, bindV, dT (by omega), condT]; exact ⟨_, rfl, by omega, by omega, fun h => by omega⟩
 obtain ⟨r3, e3, d1, d2, d3⟩ := szHeld N d.1.2.2.2.1 r2 h3 (by omega) (by omega)
 rw [dF c2, condF, e3, bindV]
 by_cases c3 : r3 < 0
 ·rw [dT c3, condT, bindV, dT (by omega), condT]; exact ⟨_, rfl, by omega, by omega, fun h => by omega⟩
 obtain ⟨r4, e4, f1, f2, f3⟩ := szEventS_eq N d.2.2.1 r3 h4 (by omega) (by omega)
 rw [dF c3, condF, bindV, dF c3, condF, e4, bindV]
 by_cases c4 : r4 < 0
 ·rw [dT c4, condT]; exact ⟨_, rfl, by omega, by omega, fun h => by omega⟩
 ·rw [dF c4, condF]; exact ⟨_, rfl, by omega, by omega, fun _ => ⟨⟨a3 (by omega), b3 (by omega), d3 (by omega)⟩, f3 (by omega)⟩⟩
theorem toAct (N : Nat) (a : List Act) (h : a.length < N) (hm : a.length <= maxN) : zg.F N a = some a := by
 rw [zg.F_eq, lenOk hm, condT]
 exact toLoop (0, 0, 0, 0) (fun n a i o => zg.L1 N n a i o) (fun x => y9.F N x) a (fun n i o => zg.L1_eq N n a i o) (fun x _ => y9.F_eq N x) N 0 _ hm (by simp) (by omega) (by omega) (by simp)
theorem toStp (N : Nat) (a : List MSt) (h : a.length < N) (hm : a.length <= maxN) : yA.F N a = some a := by
 rw [yA.F_eq, lenOk hm, condT]
 exact toLoop (0, 0, 0) (fun n a i o => yA.L1 N n a i o) (fun x => zA5.F N x) a (fun n i o => yA.L1_eq N n a i o) (fun x _ => zA5.F_eq N x) N 0 _ hm (by simp) (by omega) (by omega) (by simp)
theorem toHld (N : Nat) (a : List Hd) (h : a.length < N) (hm : a.length <= maxN) : yK.F N a = some a := by
 rw [yK.F_eq, lenOk hm, condT]
 exact toLoop (0, 0, 0, 0, 0) (fun n a i o => yK.L1 N n a i o) (fun x => zA6.F N x) a (fun n i o => yK.L1_eq N n a i o) (fun x _ => by rw [zA6.F_eq, y9.F_eq, bindV]) N 0 _ hm (by simp) (by omega) (by omega) (by simp)
theorem toActSS (N : Nat) (hN : 1048576 < N) (a : List (List Act)) (h : smallL a) : zk.F N a = some a := by
 obtain ⟨h1, h2⟩ := h
 have hm : a.length <= maxN := by unfold maxN; omega
 rw [zk.F_eq, lenOk hm, condT]
 exact toLoop [] (fun n a i o => zk.L1 N n a i o) (fun x => zg.F N x) a (fun n i o => zk.L1_eq N n a i o) (fun x hx => toAct N x (by have := h2 x hx; omega) (by have := h2 x hx; unfold maxN; omega)) N 0 _ hm (by simp) (by omega) (by omega) (by simp)
theorem toStpSS (N : Nat) (hN : 1048576 < N) (a : List (List MSt)) (h : smallL a) : yC.F N a = some a := by
 obtain ⟨h1, h2⟩ := h
 have hm : a.length <= maxN := by unfold maxN; omega
 rw [yC.F_eq, lenOk hm, condT]
 exact toLoop [] (fun n a i o => yC.L1 N n a i o) (fun x => yA.F N x) a (fun n i o => yC.L1_eq N n a i o) (fun x hx => toStp N x (by have := h2 x hx; omega) (by have := h2 x hx; unfold maxN; omega)) N 0 _ hm (by simp) (by omega) (by omega) (by simp)
theorem toD (N : Nat) (hN : 1048576 < N) (d : Dcd) (h : smallE d.1) (hq : d.2.2.1.length <= 1048576) : zAH.F N d = some d := by
 obtain ⟨h1, h2, h3⟩ := h
 rw [zAH.F_eq, zAi.F_eq, zAh.F_eq, toActSS N hN _ h1, bindV, bindV, toStpSS N hN _ h2, bindV, toHld N _ (by omega) (by unfold maxN; omega), bindV, bindV, zAK.F_eq, bindV, toEventS_eq N _ (by omega) (by unfold maxN; omega), bindV]
theorem toActh_L1 (N : Nat) (hN : 1048576 < N) (a : List (List Act)) (ha : smallL a) (lo : Nat) : ∀ (n i : Nat) (o : List Hnd) (D : List HRow), i <= a.length -> a.length < n + i -> o.length = a.length ->
  lo <= D.length -> Own (u := tA) 8 D lo D.length (o.take i) (a.take i) ->
  ∃ A D', zV.L1 N n a (i : Int) o D = some (A, D') /\ D <+: D' /\ Own (u := tA) 8 D' lo D'.length A a := by
 intro n
 induction n with
 | zero => intro i o D h1 h2; omega
 | succ n ih =>
  intro i o D h1 h2 h3 h4 h5
  have hal := ha.1
  rw [zV.L1_eq]
  by_cases hi : i < a.length
  ·have hx := ha.2 _ (zBT [] a i hi)
   rw [dT (Int.ofNat_lt.mpr hi), condT, inRange_nat, dT hi, condT, nth_nat, toAct N _ (by omega) (by unfold maxN; omega), bindV, inRange_nat, h3, dT hi, condT, Int.toNat_natCast, yP (by omega)]
   have hp := h5.push h4 (a.getD i [])
   rw [<- takeOne [] a i hi] at hp
   have ht : (o.set i (some (D.length, 0, (a.getD i []).length))).take (i + 1) = o.take i ++ [some (D.length, 0, (a.getD i []).length)] := by
    rw [takeOne none _ i (by rw [List.length_set]; omega), List.take_set_of_le (by omega), getSet _ _ _ _ (by omega)]
   rw [<- ht] at hp
   obtain ⟨A, D', e, p, q⟩ := ih (i + 1) (o.set i (some (D.length, 0, (a.getD i []).length))) (D ++ [HRow.row 8 tA (a.getD i [])]) (by omega) (by omega) (by rw [List.length_set]; exact h3) (by rw [lA]; omega) (by rw [lA]; exact hp)
   exact ⟨A, D', e, (List.prefix_append _ _).trans p, q⟩
  ·rw [dF (by omega), condF]
   refine ⟨o, D, rfl, List.prefix_refl _, ?_⟩
   rw [List.take_of_length_le (by omega), List.take_of_length_le (by omega)] at h5
   exact h5
theorem toActh (N : Nat) (hN : 1048576 < N) (a : List (List Act)) (ha : smallL a) (D : List HRow) : ∃ hs D', zV.H N a D = some (hs, D') /\ D <+: D' /\ Own (u := tA) 8 D' D.length D'.length hs a := by
 have h0 := ha.1
 rw [zV.H_eq, lenOk (by unfold maxN; omega), condT]
 exact toActh_L1 N hN a ha D.length N 0 _ D (by omega) (by omega) (by simp) (nR _) (by rw [List.take_zero, List.take_zero]; exact own_nil)
theorem toStph_L1 (N : Nat) (hN : 1048576 < N) (a : List (List MSt)) (ha : smallL a) (lo : Nat) : ∀ (n i : Nat) (o : List Hnd) (D : List HRow), i <= a.length -> a.length < n + i -> o.length = a.length ->
  lo <= D.length -> Own (u := tS) 10 D lo D.length (o.take i) (a.take i) ->
  ∃ A D', zy.L1 N n a (i : Int) o D = some (A, D') /\ D <+: D' /\ Own (u := tS) 10 D' lo D'.length A a := by
 intro n
 induction n with
 | zero => intro i o D h1 h2; omega
 | succ n ih =>
  intro i o D h1 h2 h3 h4 h5
  have hal := ha.1
  rw [zy.L1_eq]
  by_cases hi : i < a.length
  ·have hx := ha.2 _ (zBT [] a i hi)
   rw [dT (Int.ofNat_lt.mpr hi), condT, inRange_nat, dT hi, condT, nth_nat, toStp N _ (by omega) (by unfold maxN; omega), bindV, inRange_nat, h3, dT hi, condT, Int.toNat_natCast, yP (by omega)]
   have hp := h5.push h4 (a.getD i [])
   rw [<- takeOne [] a i hi] at hp
   have ht : (o.set i (some (D.length, 0, (a.getD i []).length))).take (i + 1) = o.take i ++ [some (D.length, 0, (a.getD i []).length)] := by
    rw [takeOne none _ i (by rw [List.length_set]; omega), List.take_set_of_le (by omega), getSet _ _ _ _ (by omega)]
   rw [<- ht] at hp
   obtain ⟨A, D', e, p, q⟩ := ih (i + 1) (o.set i (some (D.length, 0, (a.getD i []).length))) (D ++ [HRow.row 10 tS (a.getD i [])]) (by omega) (by omega) (by rw [List.length_set]; exact h3) (by rw [lA]; omega) (by rw [lA]; exact hp)
   exact ⟨A, D', e, (List.prefix_append _ _).trans p, q⟩
  ·rw [dF (by omega), condF]
   refine ⟨o, D, rfl, List.prefix_refl _, ?_⟩
   rw [List.take_of_length_le (by omega), List.take_of_length_le (by omega)] at h5
   exact h5
theorem toStph (N : Nat) (hN : 1048576 < N) (a : List (List MSt)) (ha : smallL a) (D : List HRow) : ∃ hs D', zy.H N a D = some (hs, D') /\ D <+: D' /\ Own (u := tS) 10 D' D.length D'.length hs a := by
 have h0 := ha.1
 rw [zy.H_eq, lenOk (by unfold maxN; omega), condT]
 exact toStph_L1 N hN a ha D.length N 0 _ D (by omega) (by omega) (by simp) (nR _) (by rw [List.take_zero, List.take_zero]; exact own_nil)
theorem toDh (N : Nat) (hN : 1048576 < N) (d : Dcd) (h : smallE d.1) (hq : d.2.2.1.length <= 1048576) (D : List HRow) : ∃ hs gs D', zAD.H N d D = some ((((d.1.1.1, hs), (gs, d.1.2.2)), d.2), D') /\ EOut D D' hs gs d.1.1.2 d.1.2.1 := by
 obtain ⟨h1, h2, h3⟩ := h
 have eng : ∀ D, ∃ hs gs D', zAV.H N d.1 D = some (((d.1.1.1, hs), (gs, d.1.2.2)), D') /\ EOut D D' hs gs d.1.1.2 d.1.2.1 := by
  intro D
  have km : ∀ D, ∃ hs D', zAU.H N d.1.1 D = some ((d.1.1.1, hs), D') /\ D <+: D' /\ Own (u := tA) 8 D' D.length D'.length hs d.1.1.2 := by
   intro D
   obtain ⟨hs, E, e1, p1, o1⟩ := toActh N hN d.1.1.2 h1 (hhide D)
   rw [hide_len] at o1
   obtain ⟨q1, q2⟩ := o1.call p1
   rw [zAU.H_eq, e1, bindV]
   exact ⟨hs, _, rfl, q1, q2⟩
  obtain ⟨hs, E, e1, p1, o1⟩ := km (hhide D)
  rw [hide_len] at o1
  obtain ⟨q1, q2⟩ := o1.call p1
  rw [zAV.H_eq, e1, bindV]
  dsimp only
  generalize yw D E = D1 at q1 q2
  obtain ⟨gs, E2, e2, p2, o2⟩ := toStph N hN d.1.2.1 h2 (hhide D1)
  rw [hide_len] at o2
  obtain ⟨s1, s2⟩ := o2.call p2
  rw [e2, bindV, toHld N _ (by omega) (by unfold maxN; omega), bindV]
  exact ⟨hs, gs, _, rfl, q1.trans s1, D1.length, q1.length_le, s1.length_le, q2.more s1, s2⟩
 obtain ⟨hs, gs, E, e1, o1⟩ := eng (hhide D)
 rw [zAD.H_eq, e1, bindV, zAK.F_eq, bindV, toEventS_eq N _ (by omega) (by unfold maxN; omega), bindV]
 exact ⟨hs, gs, _, rfl, o1.call⟩
theorem selfLoop {α : Type} (d : α) (L : Nat -> List α -> List α -> Int -> Option Bool) (g : α × α -> Option Bool) (a : List α)
  (Leq : ∀ n i, L (n + 1) a a i = bif decide (i < (List.length a : Int)) then (bif zG i (List.length a) then (bif zG i (List.length a) then bindO (g (nth d a i, nth d a i)) fun r1 => bif !r1 then some false else L n a a (IntKind.wrap .i64 (i + (1 : Int))) else none) else none) else some true)
  (hg : ∀ x ∈ a, g (x, x) = some true) : ∀ (n k : Nat), a.length <= maxN -> k <= a.length -> a.length < n + k -> L n a a (k : Int) = some true := by
 intro n
 induction n with
 | zero => intro k h1 h0 h3; omega
 | succ n ih =>
  intro k h1 h0 h3
  rw [Leq]
  unfold maxN at h1
  by_cases hk : k < a.length
  ·rw [dT (Int.ofNat_lt.mpr hk), condT, inRange_nat, dT hk, condT, condT, nth_nat, hg _ (zBT d a k hk), bindV, notT, condF, yP (by omega)]
   exact ih (k + 1) (by unfold maxN; omega) (by omega) (by omega)
  ·rw [dF (by omega), condF]
theorem bneSelf (a : Int) : (a != a) = false := by simp
theorem eqAct (N : Nat) (a : Act) : zAA.F N (a, a) = some true := by
 rw [zAA.F_eq]
 simp only [bneSelf, condF]
theorem eqStp (N : Nat) (a : MSt) : zA1.F N (a, a) = some true := by
 rw [zA1.F_eq]
 simp only [bneSelf, condF]
theorem eqD (N : Nat) (hN : 1048576 < N) (d : Dcd) (h : smallE d.1) (hq : d.2.2.1.length <= 1048576) : y6.F N (d, d) = some true := by
 obtain ⟨⟨h1, h1'⟩, ⟨h2, h2'⟩, h3⟩ := h
 have aS : ∀ a : List Act, a.length <= 1048576 -> zu.F N (a, a) = some true := by
  intro a ha
  rw [zu.F_eq, bneSelf, condF]
  exact selfLoop (0, 0, 0, 0) (fun n a b i => zu.L1 N n a b i) (fun x => zAA.F N x) a (fun n i => zu.L1_eq N n a a i) (fun x _ => eqAct N x) N 0 (by unfold maxN; omega) (by omega) (by omega)
 have sS : ∀ a : List MSt, a.length <= 1048576 -> yN.F N (a, a) = some true := by
  intro a ha
  rw [yN.F_eq, bneSelf, condF]
  exact selfLoop (0, 0, 0) (fun n a b i => yN.L1 N n a b i) (fun x => zA1.F N x) a (fun n i => yN.L1_eq N n a a i) (fun x _ => eqStp N x) N 0 (by unfold maxN; omega) (by omega) (by omega)
 have k1 : zn.F N (d.1.1.2, d.1.1.2) = some true := by
  rw [zn.F_eq, bneSelf, condF]
  exact selfLoop [] (fun n a b i => zn.L1 N n a b i) (fun x => zu.F N x) d.1.1.2 (fun n i => zn.L1_eq N n _ _ i) (fun x hx => aS x (h1' x hx)) N 0 (by unfold maxN; omega) (by omega) (by omega)
 have k2 : yF.F N (d.1.2.1, d.1.2.1) = some true := by
  rw [yF.F_eq, bneSelf, condF]
  exact selfLoop [] (fun n a b i => yF.L1 N n a b i) (fun x => yN.F N x) d.1.2.1 (fun n i => yF.L1_eq N n _ _ i) (fun x hx => sS x (h2' x hx)) N 0 (by unfold maxN; omega) (by omega) (by omega)
 have k3 : yS.F N (d.1.2.2.2.1, d.1.2.2.2.1) = some true := by
  rw [yS.F_eq, bneSelf, condF]
  exact selfLoop (0, 0, 0, 0, 0) (fun n a b i => yS.L1 N n a b i) (fun x => zA8.F N x) d.1.2.2.2.1 (fun n i => yS.L1_eq N n _ _ i) (fun x _ => by rw [zA8.F_eq, bneSelf, condF, eqAct, bindV, notT, condF]) N 0 (by unfold maxN; omega) (by omega) (by omega)
 have k4 := eqEventS_eq N d.2.2.1 d.2.2.1 (by omega) (by unfold maxN; omega)
 rw [dT rfl] at k4
 have bb : (d.1.2.2.2.2.2 != d.1.2.2.2.2.2) = false := by cases d.1.2.2.2.2.2 <;> rfl
 rw [y6.F_eq, zAn.F_eq, zAm.F_eq, zAl.F_eq, k1, k2, k3, k4]
 simp only [bneSelf, condF, bindV, notT, bb]
theorem eqSents (N : Nat) (hN : 1048576 < N) (a : List Snt) (ha : a.length <= 1048576) (hs : ∀ s ∈ a, s.2.2.length <= 1048576) : yM.F N (a, a) = some true := by
 rw [yM.F_eq, bneSelf, condF]
 exact selfLoop (0, 0, []) (fun n a b i => yM.L1 N n a b i) (fun x => zA7.F N x) a (fun n i => yM.L1_eq N n _ _ i) (fun x hx => by
  have e := eqReport_eq N hN x.2 x.2 (hs x hx)
  rw [dT rfl] at e
  rw [zA7.F_eq, bneSelf, condF, e, bindV, notT, condF]) N 0 (by unfold maxN; omega) (by omega) (by omega)
end Go.Kb
