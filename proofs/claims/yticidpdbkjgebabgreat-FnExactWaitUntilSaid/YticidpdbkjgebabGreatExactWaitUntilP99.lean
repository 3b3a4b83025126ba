/- Reports of macros, reports that change, what an action changes, engines: the walks. -/
import Derived.Test.YticidpdbkjgebabGreatExactWaitUntilP98
namespace Go.Kb
theorem isA_stepA {s : MSt} (h : isA (stepA s) = true) : 0 <= s.2.1 /\ s.2.1 <= 56 /\ 0 <= s.2.2 /\ s.2.2 <= 15 := by
 have h := (isA_iff _).1 h
 have h1 := okA_mods h
 have h2 := okA_code h
 simp only [stepA] at h1 h2
 omega
theorem zB1 (l : List Hd) : (repO l).2.length <= 56 /\ ∀ x ∈ (repO l).2, 0 <= x /\ x <= 56 := by
 unfold repO
 cases isH l with
 | false => simp
 | true =>
  rw [condT]
  exact ⟨codes_len _, fun x hx => by have := (mem_codes _ x).1 hx; omega⟩
theorem mrGo_len (b : Rpt) : ∀ (ss : List MSt) (d : List Pr), (mrGo b d ss).length <= 2 * ss.length := by
 intro ss
 induction ss with
 | nil => intro d; exact nR _
 | cons s t ih =>
  intro d
  have h1 := ih d
  have h2 := ih (d ++ [s.2])
  have h3 := ih (d.erase s.2)
  simp only [mrGo]
  cases s.1 == 0 with
  | true => simp only [condT, List.length_cons]; omega
  | false =>
   cases s.1 == 1 with
   | true => simp only [condT, condF, List.length_cons]; omega
   | false => simp only [condF, List.length_cons]; omega
theorem take_drop_erase {d : List Pr} {p : Pr} (h : d.contains p = true) (_ : d.length <= 1000) : ∃ j : Nat, ixP d p = (j : Int) /\ j < d.length /\ d.take j ++ d.drop (j + 1) = d.erase p := by
 obtain ⟨j1, j2⟩ := erase_ix d p h
 exact ⟨_, by unfold ixP; rw [h, condT], j1, j2⟩
theorem isMc_len {ss : List MSt} (h : isMc ss = true) : ss.length <= 8 /\ mcGo [] ss = true := by
 unfold isMc at h
 rw [bA, decide_eq_true_iff] at h
 exact h
theorem erase_last {d : List Pr} {p : Pr} (h : d.contains p = false) : (d ++ [p]).contains p = true /\ (d ++ [p]).erase p = d := by
 have hn : p ∉ d := by
  intro hp
  rw [List.contains_iff_mem.2 hp] at h
  cases h
 refine ⟨List.contains_iff_mem.2 (by simp), ?_⟩
 rw [List.erase_append_right _ hn]
 simp
theorem mr_L1s (N : Nat) (hN : 1048576 < N) (l : List Hd) (hl : l.length <= 1048576) (ss : List MSt) (hs8 : ss.length <= 8) : ∀ (n i : Nat) (o : List Rpt) (d : List Hd), i <= ss.length -> ss.length < n + i -> o.length <= 2 * i -> d.length <= i -> mcGo (d.map toPr) (ss.drop i) = true ->
  zK.L1 N n l ss (i : Int) o d = some (o ++ mrGo (repO l) (d.map toPr) (ss.drop i)) := by
 intro n
 induction n with
 | zero => intro i o d h1 h2; omega
 | succ n ih =>
  intro i o d h1 h2 h3 h4 h6
  rw [zK.L1_eq]
  by_cases hi : i < ss.length
  ·have ws : IntKind.wrap .i64 ((i : Int) + 1) = ((i + 1 : Nat) : Int) := yP (by omega)
   rw [zAG dS ss i hi] at h6 ⊢
   obtain ⟨s, hs⟩ : ∃ s, ss.getD i dS = s := ⟨_, rfl⟩
   simp only [mcGo, bA, hs] at h6
   obtain ⟨a1, a2⟩ := h6
   have hdl : (d ++ [((0 : Int), (2 : Int), s.2.1, s.2.2, (0 : Int))]).length <= i + 1 := by rw [lA, List.length_singleton]; omega
   have m1 : (d ++ [((0 : Int), (2 : Int), s.2.1, s.2.2, (0 : Int))]).map toPr = d.map toPr ++ [s.2] := by rw [List.map_append]; rfl
   have e1 := len1 d ((0 : Int), (2 : Int), s.2.1, s.2.2, (0 : Int)) (by omega)
   have w1 := l8R_spec N hN l hl (d ++ [((0 : Int), (2 : Int), s.2.1, s.2.2, (0 : Int))]) (by omega)
   rw [m1] at w1
   have e2 := len1 o (withP (repO l) (d.map toPr ++ [s.2])) (by omega)
   simp only [oJ, hi, decide_true, condT, inRange_nat, nth_nat, ws, hs, pEta, y8.F_eq, bindV, e1, w1, e2, mrGo, bneB]
   cases k0 : s.1 == 0 with
   | true =>
    rw [k0, condT, bA, Bool.not_eq_true'] at a2
    have k0' : s.1 = 0 := by simpa using k0
    obtain ⟨l1, l2⟩ := erase_last a2.1
    rw [<- m1] at l1 l2
    obtain ⟨q, q1, q2, q3⟩ := without_eq N (d ++ [((0 : Int), (2 : Int), s.2.1, s.2.2, (0 : Int))]) (by omega) s.2 l1
    rw [l2] at q2
    have w2 := l8R_spec N hN l hl q (by rw [lA, List.length_singleton] at q3; omega)
    rw [q2] at w2
    have e3 := len1 (o ++ [withP (repO l) (d.map toPr ++ [s.2])]) (withP (repO l) (d.map toPr)) (by rw [lA, List.length_singleton]; omega)
    rw [bN (show s.1 ≠ 2 by omega), bN (show s.1 ≠ 1 by omega), notF, condT, condT, find_eq N hN _ (by omega), bindV, q1, bindV, w2, bindV, e3, condT, condT]
    rw [ih (i + 1) _ q (by omega) (by omega) (by simp only [lA, List.length_singleton]; omega) (by rw [lA, List.length_singleton] at q3; omega) (by rw [q2]; exact a2.2), q2]
    simp only [List.append_assoc, List.singleton_append]
    rfl
   | false =>
    rw [k0, condF] at a2
    rw [condF]
    cases k1 : s.1 == 1 with
    | true =>
     rw [k1, condT, bA] at a2
     have k1' : s.1 = 1 := by simpa using k1
     rw [bN (show s.1 ≠ 2 by omega), notF, notT, condT, condF, condT]
     rw [ih (i + 1) _ _ (by omega) (by omega) (by simp only [lA, List.length_singleton]; omega) hdl (by rw [m1]; exact a2.2), m1]
     simp only [List.append_assoc, List.singleton_append]
    | false =>
     rw [k1, condF] at a2
     rw [condF]
     cases k2 : s.1 == 2 with
     | false => rw [k2, condF] at a2; cases a2
     | true =>
      rw [k2, condT, bA] at a2
      obtain ⟨q, q1, q2, q3⟩ := without_eq N d (by omega) s.2 a2.1
      have w2 := l8R_spec N hN l hl q (by omega)
      rw [q2] at w2
      have e4 := len1 o (withP (repO l) ((d.map toPr).erase s.2)) (by omega)
      rw [notT, notF, condF, condT, find_eq N hN _ (by omega), bindV, q1, bindV, w2, bindV, e4, condT]
      rw [ih (i + 1) _ q (by omega) (by omega) (by simp only [lA, List.length_singleton]; omega) (by omega) (by rw [q2]; exact a2.2), q2]
      simp only [List.append_assoc, List.singleton_append]
  ·simp only [oJ, hi, decide_false, condF]
   rw [List.drop_of_length_le (by omega)]
   simp only [mrGo, List.append_nil]
theorem mr_spec (N : Nat) (hN : 1048576 < N) (l : List Hd) (hl : l.length <= 1048576) (ss : List MSt) (hs : ss.length <= 1048576) : zK.F N (l, ss) = some (mcRep l ss) := by
 rw [zK.F_eq, isH_spec N hN l hl, bindV]
 unfold mcRep
 cases isH l with
 | false => rfl
 | true =>
  rw [notT, condF, isMc_spec N hN ss hs, bindV, Bool.true_and]
  cases hm : isMc ss with
  | false => rfl
  | true =>
   obtain ⟨m1, m2⟩ := isMc_len hm
   rw [notT, condF, condT]
   exact mr_L1s N hN l hl ss m1 N 0 [] [] (by omega) (by omega) (nR _) (nR _) (by rw [List.drop_zero]; exact m2)
theorem eqInts {L : Nat -> Int -> Option Bool} (a b : List Int) (ha : a.length <= 1048576) (hab : a.length = b.length)
  (Leq : ∀ n i, L (n + 1) i = bif decide (i < (a.length : Int)) then (bif zG i a.length then (bif zG i b.length then (bif (nth 0 a i) != (nth 0 b i) then some false else L n (IntKind.wrap .i64 (i + 1))) else none) else none) else some true) :
  ∀ (n i : Nat), i <= a.length -> a.length < n + i -> L n (i : Int) = some (decide (a.drop i = b.drop i)) := by
 intro n
 induction n with
 | zero => intro i h1 h2; omega
 | succ n ih =>
  intro i h1 h2
  rw [Leq]
  by_cases hi : i < a.length
  ·have ws : IntKind.wrap .i64 ((i : Int) + 1) = ((i + 1 : Nat) : Int) := yP (by omega)
   have hb : i < b.length := by omega
   rw [zAG 0 a i hi, zAG 0 b i hb]
   simp only [oJ, hi, hb, decide_true, condT, inRange_nat, nth_nat, ws, ih (i + 1) (by omega) (by omega), bneI, List.cons.injEq]
   by_cases e : a.getD i 0 = b.getD i 0
   ·simp only [e, decide_true, notT, condF, true_and]
   ·simp only [e, decide_false, notF, condT, false_and]
  ·simp only [oJ, hi, decide_false, condF]
   rw [List.drop_of_length_le (by omega), List.drop_of_length_le (by omega)]; simp
theorem same_impl (N : Nat) (hN : 1048576 < N) (a b : Rpt) (ha : a.2.length <= 1048576) : zAE.F N (a, b) = some (decide (a = b)) := by
 obtain ⟨m, k⟩ := a
 obtain ⟨m', k'⟩ := b
 rw [zAE.F_eq, yH.F_eq, bneI]
 dsimp only at ha ⊢
 by_cases e : m = m'
 ·subst e
  rw [bI rfl, condT]
  by_cases hl : k.length = k'.length
  ·have g := eqInts (L := fun n i => yH.L1 N n k k' (k.length : Int) i) k k' ha hl (fun n i => by rw [yH.L1_eq]) N 0 (by omega) (by omega)
   have g : yH.L1 N N k k' (k.length : Int) 0 = _ := g
   rw [dT (show (k.length : Int) = (k'.length : Int) by omega), notT, condF, g, bindV, List.drop_zero, List.drop_zero]
   simp
  ·have : k ≠ k' := fun h => hl (by rw [h])
   rw [dF (by omega), notF, condT, bindV]
   simp [this]
 ·rw [bN e, condF]
  simp [e]
theorem same_spec (N : Nat) (hN : 1048576 < N) (a b : Rpt) (ha : a.2.length <= 1048576) : zc.F N (a, b) = some (decide (a = b)) := by
 obtain ⟨m, k⟩ := a
 obtain ⟨m', k'⟩ := b
 rw [zc.F_eq, bneI, bneI]
 dsimp only at ha ⊢
 by_cases e : m = m'
 ·subst e
  rw [dT rfl, notT, condF]
  by_cases hl : k.length = k'.length
  ·have g := eqInts (L := fun n i => zc.L1 N n i m k m k') k k' ha hl (fun n i => by rw [zc.L1_eq]) N 0 (by omega) (by omega)
   have g : zc.L1 N N 0 m k m k' = _ := g
   rw [dT (show (k.length : Int) = (k'.length : Int) by omega), notT, condF, g, List.drop_zero, List.drop_zero]
   simp
  ·have : k ≠ k' := fun h => hl (by rw [h])
   rw [dF (by omega), notF, condT]
   simp [this]
 ·rw [dF e, notF, condT]
  simp [e]
abbrev dR : Rpt := (0, [])
theorem chg_len : ∀ (l : List Rpt) (b : Rpt), (chg b l).length <= l.length := by
 intro l
 induction l with
 | nil => intro b; exact nR _
 | cons x t ih =>
  intro b
  have h1 := ih x
  have h2 := ih x
  simp only [chg]
  cases decide (b = x) with
  | true => simp only [condT, List.length_cons]; have := ih x; omega
  | false => simp only [condF, List.length_cons]; omega
theorem l7_eq (N : Nat) (r : Rpt) (h : r.2.length <= 1048576) : zA2.F N r = some r := by
 rw [zA2.F_eq, dT (show ([] : List Int).length + r.2.length <= maxN by unfold maxN; rw [List.length_nil]; omega), condT, List.nil_append]
theorem chg_L1s (N : Nat) (hN : 1048576 < N) (l : List Rpt) (hl : l.length <= 1048576) (hs : ∀ r ∈ l, r.2.length <= 1048576) : ∀ (n i : Nat) (b : Rpt) (o : List Rpt), i <= l.length -> l.length < n + i -> o.length <= i -> b.2.length <= 1048576 ->
  zP.L1 N n l (i : Int) b.1 b.2 o = some (o ++ chg b (l.drop i)) := by
 intro n
 induction n with
 | zero => intro i b o h1 h2; omega
 | succ n ih =>
  intro i b o h1 h2 h3 h4
  rw [zP.L1_eq]
  by_cases hi : i < l.length
  ·have ws : IntKind.wrap .i64 ((i : Int) + 1) = ((i + 1 : Nat) : Int) := yP (by omega)
   have hb := hs _ (zBT dR l i hi)
   have e1 := len1 o (l.getD i dR) (by omega)
   rw [zAG dR l i hi]
   simp only [oJ, hi, decide_true, condT, inRange_nat, nth_nat, ws, pEta, same_spec N hN b _ h4, l7_eq N _ hb, bindV, e1, chg]
   rw [ih (i + 1) _ _ (by omega) (by omega) (by rw [lA, List.length_singleton]; omega) hb, ih (i + 1) _ o (by omega) (by omega) (by omega) hb]
   by_cases e : b = l.getD i dR
   ·simp only [<- e, decide_true, notT, condF, condT]
   ·rw [dF e, notF, condT, condF, List.append_assoc, List.singleton_append]
  ·simp only [oJ, hi, decide_false, condF]
   rw [List.drop_of_length_le (by omega)]
   simp only [chg, List.append_nil]
theorem chg_spec (N : Nat) (hN : 1048576 < N) (b : Rpt) (hb : b.2.length <= 1048576) (l : List Rpt) (hl : l.length <= 1048576) (hs : ∀ r ∈ l, r.2.length <= 1048576) : zP.F N (b, l) = some (chg b l) := by
 rw [zP.F_eq]
 have g := chg_L1s N hN l hl hs N 0 b [] (by omega) (by omega) (nR _) hb
 exact g
end Go.Kb
