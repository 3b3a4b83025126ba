/- Macros and their reports; reports that change. -/
import Derived.Test.YticidpdbkjgebabGreatExactWaitUntilP97
namespace Go.Kb
abbrev dP : Pr := (0, 0)
abbrev dS : MSt := (0, 0, 0)
def ixP (d : List Pr) (p : Pr) : Int := bif d.contains p then ((d.findIdx fun x => x == p : Nat) : Int) else -1
theorem erase_ix : ∀ (d : List Pr) (p : Pr), d.contains p = true -> d.findIdx (fun x => x == p) < d.length /\ d.take (d.findIdx fun x => x == p) ++ d.drop ((d.findIdx fun x => x == p) + 1) = d.erase p := by
 intro d p
 induction d with
 | nil => intro h; cases h
 | cons x r ih =>
  intro h
  rw [List.findIdx_cons, List.erase_cons]
  by_cases e : x = p
  ·subst e
   simp
  ·have e1 : (x == p) = false := by simpa using e
   have h' : r.contains p = true := by
    rw [List.contains_cons] at h
    have e2 : (p == x) = false := by simpa using fun g => e g.symm
    rw [e2, Bool.false_or] at h
    exact h
   obtain ⟨i1, i2⟩ := ih h'
   rw [e1]
   refine ⟨by simpa using i1, ?_⟩
   simp only [cond_false, List.take_succ_cons, List.drop_succ_cons, List.cons_append, i2]
   rfl
theorem ixP_lt (d : List Pr) (p : Pr) : decide (ixP d p >= 0) = d.contains p := by
 unfold ixP
 cases d.contains p with
 | true => rw [condT]; exact dT (by omega)
 | false => rw [condF]; exact dF (by omega)
theorem pairEq (x p : Pr) : ((x.1 == p.1) && (x.2 == p.2)) = (x == p) := by
 rw [Bool.eq_iff_iff]
 simp only [bA, beq_iff_eq, Prod.ext_iff]
theorem find_L1 {L : Nat -> Int -> Option Int} (d : List Pr) (hd : d.length <= 1048576) (p : Pr)
  (Leq : ∀ n i, L (n + 1) i = bif decide (i < (d.length : Int)) then (bif zG i d.length then (bif nth dP d i == p then some i else L n (IntKind.wrap .i64 (i + 1))) else none) else some (-1)) :
  ∀ (n i : Nat), i <= d.length -> d.length < n + i -> L n (i : Int) = some (bif (d.drop i).contains p then ((i + (d.drop i).findIdx (fun x => x == p) : Nat) : Int) else -1) := by
 intro n
 induction n with
 | zero => intro i h1 h2; omega
 | succ n ih =>
  intro i h1 h2
  rw [Leq]
  by_cases hi : i < d.length
  ·have ws : IntKind.wrap .i64 ((i : Int) + 1) = ((i + 1 : Nat) : Int) := yP (by omega)
   rw [zAG dP d i hi, List.contains_cons, List.findIdx_cons]
   simp only [oJ, hi, decide_true, condT, inRange_nat, nth_nat, ws, ih (i + 1) (by omega) (by omega)]
   rw [show (p == d.getD i dP) = (d.getD i dP == p) from by rw [Bool.eq_iff_iff]; simp only [beq_iff_eq]; exact eq_comm]
   cases d.getD i dP == p with
   | true => simp
   | false =>
    simp only [condF, Bool.false_or]
    rw [show i + 1 + List.findIdx (fun x => x == p) (d.drop (i + 1)) = i + (List.findIdx (fun x => x == p) (d.drop (i + 1)) + 1) by omega]
  ·simp only [oJ, hi, decide_false, condF]
   rw [List.drop_of_length_le (by omega)]; rfl
theorem pairAt_eq (N : Nat) (hN : 1048576 < N) (d : List Pr) (hd : d.length <= 1048576) (p : Pr) : yW.F N (d, p) = some (ixP d p) := by
 rw [yW.F_eq]
 have g := find_L1 (L := fun n i => yW.L1 N n d (d.length : Int) i p.1 p.2) d hd p (fun n i => by rw [yW.L1_eq, pairEq]) N 0 (by omega) (by omega)
 rw [List.drop_zero, Nat.zero_add] at g
 exact g
def toPr (h : Hd) : Pr := (h.2.2.1, h.2.2.2.1)
theorem nth_map_toPr (l : List Hd) (i : Int) (h : zG i l.length = true) : nth dP (l.map toPr) i = toPr (nth dH l i) := by
 unfold nth zG at *
 rw [bA, decide_eq_true_iff, decide_eq_true_iff] at h
 have : i.toNat < l.length := by omega
 rw [List.getD_eq_getElem?_getD, List.getD_eq_getElem?_getD, List.getElem?_map, List.getElem?_eq_getElem this]
 rfl
theorem find_eq (N : Nat) (hN : 1048576 < N) (l : List Hd) (hl : l.length <= 1048576) (x : MSt) : yQ.F N (l, x) = some (ixP (l.map toPr) x.2) := by
 rw [yQ.F_eq]
 have g := find_L1 (L := fun n i => yQ.L1 N n l i x.1 x.2.1 x.2.2) (l.map toPr) (by rw [List.length_map]; exact hl) x.2 (fun n i => by
  rw [yQ.L1_eq, List.length_map]
  cases hr : zG i l.length with
  | false => simp only [condF]
  | true =>
   rw [nth_map_toPr l i hr, <- pairEq]
   simp only [condT, toPr]
   cases (nth dH l i).2.2.1 == x.2.1 <;> cases (nth dH l i).2.2.2.1 == x.2.2 <;> rfl) N 0 (by omega) (by rw [List.length_map]; omega)
 rw [List.drop_zero, Nat.zero_add] at g
 exact g
theorem without_eq (N : Nat) (l : List Hd) (hl : l.length <= 1048576) (p : Pr) (hp : (l.map toPr).contains p = true) : ∃ q, yY.F N (l, ixP (l.map toPr) p) = some q /\ q.map toPr = (l.map toPr).erase p /\ q.length + 1 = l.length := by
 obtain ⟨i1, i2⟩ := erase_ix (l.map toPr) p hp
 unfold ixP
 rw [hp, condT, yY.F_eq]
 generalize (l.map toPr).findIdx (fun x => x == p) = i at *
 rw [List.length_map] at i1
 have ws : IntKind.wrap .i64 ((i : Int) + 1) = ((i + 1 : Nat) : Int) := yP (by omega)
 rw [ws, dT (show (0 : Int) <= (i : Int) by omega), dT (show (i : Int) <= (l.length : Int) by omega), dT (show (0 : Int) <= ((i + 1 : Nat) : Int) by omega), dT (show ((i + 1 : Nat) : Int) <= (l.length : Int) by omega)]
 have e1 : decide (([] : List Hd).length + (l.take (Int.toNat (i : Int))).length <= maxN) = true := dT (by rw [List.length_take, List.length_nil]; unfold maxN; omega)
 have e2 : decide ((([] : List Hd) ++ l.take (Int.toNat (i : Int))).length + (l.drop (Int.toNat ((i + 1 : Nat) : Int))).length <= maxN) = true := dT (by rw [List.nil_append, List.length_take, List.length_drop]; unfold maxN; omega)
 rw [e1, e2]
 simp only [Bool.and_self, condT]
 refine ⟨_, rfl, ?_, ?_⟩
 ·rw [<- i2, List.nil_append, List.map_append, List.map_take, List.map_drop]; rfl
 ·rw [List.nil_append, lA, List.length_take, List.length_drop, Int.toNat_natCast, Int.toNat_natCast]; omega
theorem isMc_L1i (N : Nat) (hN : 1048576 < N) (l : List MSt) (hl : l.length <= 1000) : ∀ (n i : Nat) (d : List Pr), i <= l.length -> l.length < n + i -> d.length + (l.length - i) <= 1000 ->
  zx.L1 N n l (l.length : Int) (i : Int) d = some (mcGo d (l.drop i)) := by
 intro n
 induction n with
 | zero => intro i d h1 h2; omega
 | succ n ih =>
  intro i d h1 h2 h3
  rw [zx.L1_eq]
  by_cases hi : i < l.length
  ·have ws : IntKind.wrap .i64 ((i : Int) + 1) = ((i + 1 : Nat) : Int) := yP (by omega)
   rw [zAG dS l i hi]
   simp only [oJ, hi, decide_true, condT, inRange_nat, nth_nat, ws, pEta]
   obtain ⟨s, hs⟩ : ∃ s, l.getD i dS = s := ⟨_, rfl⟩
   simp only [hs]
   rw [pairAt_eq N hN d (by omega), bindV, isA_impl, bindV]
   have e1 := len1 d s.2 (by omega)
   have i1 := ih (i + 1) d (by omega) (by omega) (by omega)
   have i2 := ih (i + 1) (d ++ [s.2]) (by omega) (by omega) (by rw [lA, List.length_singleton]; omega)
   have a1 : isA ((2 : Int), s.2.1, s.2.2, (0 : Int)) = isA (stepA s) := rfl
   have lt : decide (ixP d s.2 < 0) = !d.contains s.2 := by
    rw [<- ixP_lt, Bool.eq_iff_iff]; simp only [decide_eq_true_eq, Bool.not_eq_true', decide_eq_false_iff_not]; omega
   simp only [mcGo, a1, ixP_lt, lt, e1, i1, i2, condT]
   cases isA (stepA s) with
   | false => rfl
   | true =>
    by_cases k0 : s.1 = 0
    ·rw [bI k0, bN (show s.1 ≠ 1 by omega)]
     cases d.contains s.2 <;> rfl
    ·rw [bN k0]
     by_cases k1 : s.1 = 1
     ·rw [bI k1]
      cases d.contains s.2 <;> rfl
     ·rw [bN k1]
      by_cases k2 : s.1 = 2
      ·rw [bI k2]
       cases hc : d.contains s.2 with
       | false => rfl
       | true =>
        obtain ⟨j1, j2⟩ := erase_ix d s.2 hc
        have ej : ixP d s.2 = ((d.findIdx fun x => x == s.2 : Nat) : Int) := by unfold ixP; rw [hc, condT]
        rw [ej]
        generalize d.findIdx (fun x => x == s.2) = j at *
        have wj : IntKind.wrap .i64 ((j : Int) + 1) = ((j + 1 : Nat) : Int) := yP (by omega)
        have hm : d.length <= maxN := by unfold maxN; omega
        have i3 := ih (i + 1) (d.erase s.2) (by omega) (by omega) (by have := List.length_erase_le (a := s.2) (l := d); omega)
        rw [wj]
        rw [dT (show (j : Int) <= (d.length : Int) by omega), dT (show (0 : Int) <= ((j + 1 : Nat) : Int) by omega), dT (show ((j + 1 : Nat) : Int) <= (d.length : Int) by omega), dT (show Int.toNat (j : Int) <= Int.toNat ((j + 1 : Nat) : Int) by omega), dT hm, Int.toNat_natCast, Int.toNat_natCast, j2, i3]
        rfl
      ·rw [bN k2]; rfl
  ·simp only [oJ, hi, decide_false, condF]
   rw [List.drop_of_length_le (by omega)]
   cases d <;> rfl
theorem isMc_impl (N : Nat) (hN : 1048576 < N) (l : List MSt) : zx.F N l = some (isMc l) := by
 rw [zx.F_eq]
 unfold isMc
 by_cases h : l.length <= 8
 ·have g := isMc_L1i N hN l (by omega) N 0 [] (by omega) (by omega) (by rw [List.length_nil]; omega)
  have g : zx.L1 N N l (l.length : Int) 0 [] = _ := g
  rw [dF (by omega), condF, dT h, g, List.drop_zero]; rfl
 ·rw [dT (by omega), condT, dF h]; rfl
theorem isMc_L1s (N : Nat) (hN : 1048576 < N) (l : List MSt) (hl : l.length <= 1048576) : ∀ (n i : Nat) (d : List Hd), i <= l.length -> l.length < n + i -> d.length + (l.length - i) <= 1048576 ->
  z7.L1 N n l (i : Int) d = some (mcGo (d.map toPr) (l.drop i) && decide (l.length <= 8)) := by
 intro n
 induction n with
 | zero => intro i d h1 h2; omega
 | succ n ih =>
  intro i d h1 h2 h3
  rw [z7.L1_eq]
  by_cases hi : i < l.length
  ·have ws : IntKind.wrap .i64 ((i : Int) + 1) = ((i + 1 : Nat) : Int) := yP (by omega)
   rw [zAG dS l i hi]
   simp only [oJ, hi, decide_true, condT, inRange_nat, nth_nat, ws, pEta]
   obtain ⟨s, hs⟩ : ∃ s, l.getD i dS = s := ⟨_, rfl⟩
   simp only [hs]
   rw [find_eq N hN d (by omega), bindV, zCA, bindV, y8.F_eq, bindV, isA_spec, bindV, bindV]
   have e1 := len1 d ((0 : Int), (2 : Int), s.2.1, s.2.2, (0 : Int)) (by omega)
   have i1 := ih (i + 1) d (by omega) (by omega) (by omega)
   have i2 := ih (i + 1) (d ++ [((0 : Int), (2 : Int), s.2.1, s.2.2, (0 : Int))]) (by omega) (by omega) (by rw [lA, List.length_singleton]; omega)
   have a1 : isA ((2 : Int), s.2.1, s.2.2, (0 : Int)) = isA (stepA s) := rfl
   have m1 : (d ++ [((0 : Int), (2 : Int), s.2.1, s.2.2, (0 : Int))]).map toPr = d.map toPr ++ [s.2] := by rw [List.map_append]; rfl
   rw [m1] at i2
   simp only [mcGo, a1, ixP_lt, e1, i1, i2, condT]
   cases isA (stepA s) with
   | false => cases decide (0 <= s.1 /\ s.1 <= 2) <;> rfl
   | true =>
    by_cases k0 : s.1 = 0
    ·rw [bI k0, bN (show s.1 ≠ 1 by omega), bN (show s.1 ≠ 2 by omega), dT (show 0 <= s.1 /\ s.1 <= 2 by omega)]
     cases (d.map toPr).contains s.2 <;> rfl
    ·rw [bN k0]
     by_cases k1 : s.1 = 1
     ·rw [bI k1, bN (show s.1 ≠ 2 by omega), dT (show 0 <= s.1 /\ s.1 <= 2 by omega)]
      cases (d.map toPr).contains s.2 <;> rfl
     ·rw [bN k1]
      by_cases k2 : s.1 = 2
      ·rw [bI k2, dT (show 0 <= s.1 /\ s.1 <= 2 by omega)]
       cases hc : (d.map toPr).contains s.2 with
       | false => rfl
       | true =>
        obtain ⟨q, q1, q2, q3⟩ := without_eq N d (by omega) s.2 hc
        have i3 := ih (i + 1) q (by omega) (by omega) (by omega)
        rw [q1, bindV, i3, q2]
        rfl
      ·rw [bN k2, dF (show ¬ (0 <= s.1 /\ s.1 <= 2) by omega)]; rfl
  ·simp only [oJ, hi, decide_false, condF]
   rw [List.drop_of_length_le (by omega)]
   by_cases h8 : l.length <= 8
   ·rw [dT (show (l.length : Int) <= 8 by omega), dT h8]
    cases d <;> rfl
   ·rw [dF (show ¬ (l.length : Int) <= 8 by omega), dF h8, Bool.and_false]; rfl
theorem isMc_spec (N : Nat) (hN : 1048576 < N) (l : List MSt) (hl : l.length <= 1048576) : z7.F N l = some (isMc l) := by
 rw [z7.F_eq]
 have g := isMc_L1s N hN l hl N 0 [] (by omega) (by omega) (by rw [List.length_nil]; omega)
 rw [List.drop_zero, List.map_nil, Bool.and_comm] at g
 exact g
theorem withP_L1i (N : Nat) (hN : 1048576 < N) (d : List Pr) (hd : d.length <= 1000) (hc : ∀ p ∈ d, 0 <= p.1 /\ p.1 <= 56) : ∀ (n i : Nat) (m : Int) (o : List Int), i <= d.length -> d.length < n + i -> o.length + (d.length - i) <= 2000 -> (∀ x ∈ o, 0 <= x /\ x <= 56) ->
  zb.L1 N n d (d.length : Int) (i : Int) m o = some (prGo m (d.drop i), codes (o ++ (d.drop i).map fun p => p.1)) := by
 intro n
 induction n with
 | zero => intro i m o h1 h2; omega
 | succ n ih =>
  intro i m o h1 h2 h3 h4
  rw [zb.L1_eq]
  by_cases hi : i < d.length
  ·have ws : IntKind.wrap .i64 ((i : Int) + 1) = ((i + 1 : Nat) : Int) := yP (by omega)
   have e1 := len1 o (d.getD i dP).1 (by omega)
   have h5 : ∀ x ∈ o ++ [(d.getD i dP).1], 0 <= x /\ x <= 56 := by
    intro x hx
    rcases List.mem_append.1 hx with hx | hx
    ·exact h4 x hx
    ·rw [List.mem_singleton] at hx; subst hx; exact hc _ (zBT dP d i hi)
   rw [zAG dP d i hi, List.map_cons]
   simp only [oJ, hi, decide_true, condT, inRange_nat, nth_nat, ws, e1]
   rw [ih (i + 1) _ (o ++ [(d.getD i dP).1]) (by omega) (by omega) (by rw [lA, List.length_singleton]; omega) h5, List.append_assoc]
   rfl
  ·simp only [oJ, hi, decide_false, condF]
   rw [List.drop_of_length_le (by omega), List.map_nil, List.append_nil, codesOf_eq N hN o (by omega) h4, bindV]; rfl
theorem withP_impl (N : Nat) (hN : 1048576 < N) (b : Rpt) (hb : b.2.length <= 60) (hb2 : ∀ x ∈ b.2, 0 <= x /\ x <= 56) (d : List Pr) (hd : d.length <= 1000) (hc : ∀ p ∈ d, 0 <= p.1 /\ p.1 <= 56) : zb.F N (b, d) = some (withP b d) := by
 have e1 : decide (b.2.length <= maxN) = true := dT (by unfold maxN; omega)
 have g := withP_L1i N hN d hd hc N 0 b.1 b.2 (by omega) (by omega) (by omega) hb2
 rw [List.drop_zero] at g
 rw [zb.F_eq, zAL.F_eq, e1, condT, bindV]
 exact g
theorem l8R_L3 (N n2 : Nat) (down : List Hd) (code m : Int) (b o2 : List Int) (hb : b.length <= 1048576) : ∀ (n i : Nat) (on : Bool), i <= b.length -> b.length < n + i ->
  zA.L3 N n2 n down code on (i : Int) m b o2 = zA.L4 N n2 N down code (on || (b.drop i).contains code) 0 m b o2 := by
 intro n
 induction n with
 | zero => intro i on h1 h2; omega
 | succ n ih =>
  intro i on h1 h2
  rw [zA.L3_eq]
  by_cases hi : i < b.length
  ·have ws : IntKind.wrap .i64 ((i : Int) + 1) = ((i + 1 : Nat) : Int) := yP (by omega)
   rw [zAG 0 b i hi, List.contains_cons]
   simp only [oJ, hi, decide_true, condT, inRange_nat, nth_nat, ws, ih (i + 1) _ (by omega) (by omega)]
   rw [show (code == b.getD i 0) = (b.getD i 0 == code) from by rw [beqI, beqI, Bool.eq_iff_iff]; simp only [decide_eq_true_eq]; omega]
   cases on <;> cases b.getD i 0 == code <;> rfl
  ·simp only [oJ, hi, decide_false, condF]
   rw [List.drop_of_length_le (by omega)]
   cases on <;> rfl
theorem l8R_L4 (N n2 : Nat) (down : List Hd) (hd : down.length <= 1048576) (code m : Int) (b o2 : List Int) (ho : o2.length <= 100) : ∀ (n i : Nat) (on : Bool), i <= down.length -> down.length < n + i ->
  zA.L4 N n2 n down code on (i : Int) m b o2 = zA.L2 N n2 down (IntKind.wrap .i64 (code + 1)) m b (o2 ++ bif on || ((down.drop i).map fun h => h.2.2.1).contains code then [code] else []) := by
 intro n
 induction n with
 | zero => intro i on h1 h2; omega
 | succ n ih =>
  intro i on h1 h2
  rw [zA.L4_eq]
  by_cases hi : i < down.length
  ·have ws : IntKind.wrap .i64 ((i : Int) + 1) = ((i + 1 : Nat) : Int) := yP (by omega)
   rw [zAG dH down i hi, List.map_cons, List.contains_cons]
   simp only [oJ, hi, decide_true, condT, inRange_nat, nth_nat, ws, ih (i + 1) _ (by omega) (by omega)]
   rw [show (code == (down.getD i dH).2.2.1) = ((down.getD i dH).2.2.1 == code) from by rw [beqI, beqI, Bool.eq_iff_iff]; simp only [decide_eq_true_eq]; omega]
   cases on <;> cases (down.getD i dH).2.2.1 == code <;> rfl
  ·have e1 := len1 o2 code (by omega)
   simp only [oJ, hi, decide_false, condF, e1, condT]
   rw [List.drop_of_length_le (by omega)]
   cases on
   ·show zA.L2 N n2 down _ m b o2 = zA.L2 N n2 down _ m b (o2 ++ [])
    rw [List.append_nil]
   ·rfl
theorem l8R_L2 (N : Nat) (hN : 1048576 < N) (down : List Hd) (hd : down.length <= 1048576) (m : Int) (b : List Int) (hb : b.length <= 1048576) : ∀ (n c : Nat) (o : List Int), c <= 56 -> 56 < n + c -> o.length <= c ->
  zA.L2 N n down ((c : Int) + 1) m b o = some (m, o ++ cdF c fun x => (b ++ down.map fun h => h.2.2.1).contains x) := by
 intro n
 induction n with
 | zero => intro c o h1 h2; omega
 | succ n ih =>
  intro c o h1 h2 h3
  rw [zA.L2_eq]
  by_cases hc : c < 56
  ·have g1 := l8R_L3 N n down ((c : Int) + 1) m b o hb N 0 false (by omega) (by omega)
   have g2 := fun on => l8R_L4 N n down hd ((c : Int) + 1) m b o (by omega) N 0 on (by omega) (by omega)
   have g1 : zA.L3 N n N down ((c : Int) + 1) false 0 m b o = _ := g1
   have g2 : ∀ on, zA.L4 N n N down ((c : Int) + 1) on 0 m b o = _ := g2
   have ws : IntKind.wrap .i64 ((c : Int) + 1 + 1) = ((c + 1 : Nat) : Int) + 1 := by rw [zBE (by omega) (by omega)]; omega
   rw [dT (by omega), condT, g1, g2, ws, List.drop_zero, List.drop_zero, Bool.false_or]
   have e : (b.contains ((c : Int) + 1) || (down.map fun h => h.2.2.1).contains ((c : Int) + 1)) = (b ++ down.map fun h => h.2.2.1).contains ((c : Int) + 1) := by
    rw [Bool.eq_iff_iff]; simp only [Bool.or_eq_true, List.contains_iff_mem, List.mem_append]
   rw [e, ih (c + 1) _ (by omega) (by omega) ?_, cdF_step c hc, List.append_assoc]
   cases (b ++ down.map fun h => h.2.2.1).contains ((c : Int) + 1) <;> simp <;> omega
  ·have : c = 56 := by omega
   subst this
   rw [dF (by omega), condF, cdF_end, List.append_nil]
theorem l8R_L1 (N : Nat) (hN : 1048576 < N) (down : List Hd) (hd : down.length <= 1048576) (b : List Int) (hb : b.length <= 1048576) : ∀ (n i : Nat) (m : Int), i <= down.length -> down.length < n + i ->
  zA.L1 N n down (i : Int) m b = some (prGo m ((down.drop i).map toPr), codes (b ++ down.map fun h => h.2.2.1)) := by
 intro n
 induction n with
 | zero => intro i m h1 h2; omega
 | succ n ih =>
  intro i m h1 h2
  rw [zA.L1_eq]
  by_cases hi : i < down.length
  ·have ws : IntKind.wrap .i64 ((i : Int) + 1) = ((i + 1 : Nat) : Int) := yP (by omega)
   rw [zAG dH down i hi, List.map_cons]
   simp only [oJ, hi, decide_true, condT, inRange_nat, nth_nat, ws, ih (i + 1) _ (by omega) (by omega)]
   rfl
  ·simp only [oJ, hi, decide_false, condF]
   have g := l8R_L2 N hN down hd m b hb N 0 [] (by omega) (by omega) (nR _)
   have g : zA.L2 N N down 1 m b [] = _ := g
   rw [List.drop_of_length_le (by omega), g]; rfl
theorem l8R_spec (N : Nat) (hN : 1048576 < N) (l : List Hd) (hl : l.length <= 1048576) (down : List Hd) (hd : down.length <= 1048576) : zA.F N (l, down) = some (withP (repO l) (down.map toPr)) := by
 have hb : (repO l).2.length <= 1048576 := by
  unfold repO
  cases isH l with
  | true => exact Nat.le_trans (codes_len _) (by omega)
  | false => exact Nat.zero_le _
 have g := l8R_L1 N hN down hd (repO l).2 hb N 0 (repO l).1 (by omega) (by omega)
 rw [List.drop_zero] at g
 rw [zA.F_eq, repO_spec N hN l hl, bindV]
 have e : (down.map toPr).map (fun p => p.1) = down.map fun h => h.2.2.1 := by rw [List.map_map]; rfl
 unfold withP
 rw [e]
 exact g
end Go.Kb
