/- Reports of macros, reports that change, what an action changes, engines: the walks. -/
import Derived.Test.YticidpdbkjgebaaPlainP96toP98
namespace Go.Kb
theorem isA_stepA {s : MSt} (h : isA (stepA s) = true) : 0 <= s.2.1 /\ s.2.1 <= 56 /\ 0 <= s.2.2 /\ s.2.2 <= 15 := by
 have h := (isA_iff _).1 h
 have h1 := okA_mods h
 have h2 := okA_code h
 simp only [stepA] at h1 h2
 omega
theorem repO_codes (l : List Hd) : (repO l).2.length <= 56 /\ ∀ x ∈ (repO l).2, 0 <= x /\ x <= 56 := by
 unfold repO
 cases isH l with
 | false => simp
 | true =>
  rw [condT]
  exact ⟨codes_len _, fun x hx => by have := (mem_codes _ x).1 hx; omega⟩
theorem mrGo_len (b : Rpt) : ∀ (ss : List MSt) (d : List Pr), (mrGo b d ss).length <= 2 * ss.length := by
 intro ss
 induction ss with
 | nil => intro d; exact nR _
 | cons s t ih =>
  intro d
  have h1 := ih d
  have h2 := ih (d ++ [s.2])
  have h3 := ih (d.erase s.2)
  simp only [mrGo]
  cases s.1 == 0 with
  | true => simp only [condT, List.length_cons]; omega
  | false =>
   cases s.1 == 1 with
   | true => simp only [condT, condF, List.length_cons]; omega
   | false => simp only [condF, List.length_cons]; omega
theorem take_drop_erase {d : List Pr} {p : Pr} (h : d.contains p = true) (_ : d.length <= 1000) : ∃ j : Nat, ixP d p = (j : Int) /\ j < d.length /\ d.take j ++ d.drop (j + 1) = d.erase p := by
 obtain ⟨j1, j2⟩ := erase_ix d p h
 exact ⟨_, by unfold ixP; rw [h, condT], j1, j2⟩
theorem mr_L1i (N : Nat) (hN : 1048576 < N) (l : List Hd) (ss : List MSt) (hl : ss.length <= 8) : ∀ (n i : Nat) (o : List Rpt) (d : List Pr), i <= ss.length -> ss.length < n + i -> o.length <= 2 * i -> d.length <= i -> (∀ p ∈ d, 0 <= p.1 /\ p.1 <= 56) -> mcGo d (ss.drop i) = true ->
  zJ.L1 N n ss (ss.length : Int) (i : Int) (repO l).1 (repO l).2 o d = some (o ++ mrGo (repO l) d (ss.drop i)) := by
 intro n
 induction n with
 | zero => intro i o d h1 h2; omega
 | succ n ih =>
  intro i o d h1 h2 h3 h4 h5 h6
  rw [zJ.L1_eq]
  obtain ⟨b1, b2⟩ := repO_codes l
  by_cases hi : i < ss.length
  ·have ws : IntKind.wrap .i64 ((i : Int) + 1) = ((i + 1 : Nat) : Int) := y0 (by omega)
   rw [zAL dS ss i hi] at h6 ⊢
   obtain ⟨s, hs⟩ : ∃ s, ss.getD i dS = s := ⟨_, rfl⟩
   simp only [mcGo, bA, hs] at h6
   obtain ⟨a1, a2⟩ := h6
   have hst := isA_stepA a1
   have hds : ∀ p ∈ d ++ [s.2], 0 <= p.1 /\ p.1 <= 56 := by
    intro p hp
    rcases List.mem_append.1 hp with hp | hp
    ·exact h5 p hp
    ·rw [List.mem_singleton] at hp; subst hp; omega
   have hdl : (d ++ [s.2]).length <= i + 1 := by rw [lA, List.length_singleton]; omega
   have w1 := withP_impl N hN (repO l) (by omega) b2 (d ++ [s.2]) (by omega) hds
   have w2 := withP_impl N hN (repO l) (by omega) b2 d (by omega) h5
   have w1 : zR.F N (((repO l).1, (repO l).2), d ++ [s.2]) = _ := w1
   have w2 : zR.F N (((repO l).1, (repO l).2), d) = _ := w2
   have m1 : decide (d.length <= maxN) = true := dT (by unfold maxN; omega)
   have e1 := len1 d s.2 (by omega)
   have e2 := len1 o (withP (repO l) (d ++ [s.2])) (by omega)
   have e3 := len1 (o ++ [withP (repO l) (d ++ [s.2])]) (withP (repO l) d) (by rw [lA, List.length_singleton]; omega)
   simp only [oJ, hi, decide_true, condT, inRange_nat, nth_nat, ws, hs, e1, m1, w1, w2, bindV, e2, e3, mrGo]
   cases k0 : s.1 == 0 with
   | true =>
    rw [k0, condT, bA] at a2
    rw [condT, condT]
    rw [ih (i + 1) _ d (by omega) (by omega) (by simp only [lA, List.length_singleton]; omega) (by omega) h5 a2.2]
    simp only [List.append_assoc, List.singleton_append]
    rfl
   | false =>
    rw [k0, condF] at a2
    rw [condF, condF]
    cases k1 : s.1 == 1 with
    | true =>
     rw [k1, condT, bA] at a2
     rw [condT, condT]
     rw [ih (i + 1) _ (d ++ [s.2]) (by omega) (by omega) (by simp only [lA, List.length_singleton]; omega) hdl hds a2.2]
     simp only [List.append_assoc, List.singleton_append]
    | false =>
     rw [k1, condF] at a2
     rw [condF, condF]
     cases k2 : s.1 == 2 with
     | false => rw [k2, condF] at a2; cases a2
     | true =>
      rw [k2, condT, bA] at a2
      rw [condT]
      obtain ⟨j, ej, j1, j2⟩ := take_drop_erase a2.1 (by omega)
      have wj : IntKind.wrap .i64 ((j : Int) + 1) = ((j + 1 : Nat) : Int) := y0 (by omega)
      have hel := List.length_erase_le (a := s.2) (l := d)
      have hde : ∀ p ∈ d.erase s.2, 0 <= p.1 /\ p.1 <= 56 := fun p hp => h5 p (List.mem_of_mem_erase hp)
      have w3 := withP_impl N hN (repO l) (by omega) b2 (d.erase s.2) (by omega) hde
      have w3 : zR.F N (((repO l).1, (repO l).2), d.erase s.2) = _ := w3
      have e4 := len1 o (withP (repO l) (d.erase s.2)) (by omega)
      rw [pairAt_eq N hN d (by omega), bindV, ej, wj]
      rw [dT (show (0 : Int) <= (j : Int) by omega), dT (show (j : Int) <= (d.length : Int) by omega), dT (show (0 : Int) <= ((j + 1 : Nat) : Int) by omega), dT (show ((j + 1 : Nat) : Int) <= (d.length : Int) by omega), dT (show Int.toNat (j : Int) <= Int.toNat ((j + 1 : Nat) : Int) by omega), Int.toNat_natCast, Int.toNat_natCast, j2, w3]
      simp only [Bool.and_self, condT, bindV, e4]
      rw [ih (i + 1) _ (d.erase s.2) (by omega) (by omega) (by simp only [lA, List.length_singleton]; omega) (by omega) hde a2.2]
      simp only [List.append_assoc, List.singleton_append]
  ·simp only [oJ, hi, decide_false, condF]
   rw [List.drop_of_length_le (by omega)]
   simp only [mrGo, List.append_nil]
theorem isMc_len {ss : List MSt} (h : isMc ss = true) : ss.length <= 8 /\ mcGo [] ss = true := by
 unfold isMc at h
 rw [bA, decide_eq_true_iff] at h
 exact h
theorem mr_impl (N : Nat) (hN : 1048576 < N) (l : List Hd) (hl : l.length <= 500000) (ss : List MSt) : zJ.F N (l, ss) = some (mcRep l ss) := by
 rw [zJ.F_eq, isH_impl N hN l (by omega), bindV]
 unfold mcRep
 cases isH l with
 | false => rfl
 | true =>
  rw [notT, condF, isMc_impl N hN ss, bindV, Bool.true_and]
  cases hm : isMc ss with
  | false => rfl
  | true =>
   obtain ⟨m1, m2⟩ := isMc_len hm
   rw [notT, condF, repO_impl N hN l hl, bindV, condT]
   exact mr_L1i N hN l ss m1 N 0 [] [] (by omega) (by omega) (nR _) (nR _) (by simp) (by rw [List.drop_zero]; exact m2)
theorem eqInts {L : Nat -> Int -> Option Bool} (a b : List Int) (ha : a.length <= 1048576) (hab : a.length = b.length)
  (Leq : ∀ n i, L (n + 1) i = bif decide (i < (a.length : Int)) then (bif zu i a.length then (bif zu i b.length then (bif (nth 0 a i) != (nth 0 b i) then some false else L n (IntKind.wrap .i64 (i + 1))) else none) else none) else some true) :
  ∀ (n i : Nat), i <= a.length -> a.length < n + i -> L n (i : Int) = some (decide (a.drop i = b.drop i)) := by
 intro n
 induction n with
 | zero => intro i h1 h2; omega
 | succ n ih =>
  intro i h1 h2
  rw [Leq]
  by_cases hi : i < a.length
  ·have ws : IntKind.wrap .i64 ((i : Int) + 1) = ((i + 1 : Nat) : Int) := y0 (by omega)
   have hb : i < b.length := by omega
   rw [zAL 0 a i hi, zAL 0 b i hb]
   simp only [oJ, hi, hb, decide_true, condT, inRange_nat, nth_nat, ws, ih (i + 1) (by omega) (by omega), bneI, List.cons.injEq]
   by_cases e : a.getD i 0 = b.getD i 0
   ·simp only [e, decide_true, notT, condF, true_and]
   ·simp only [e, decide_false, notF, condT, false_and]
  ·simp only [oJ, hi, decide_false, condF]
   rw [List.drop_of_length_le (by omega), List.drop_of_length_le (by omega)]; simp
theorem same_impl (N : Nat) (hN : 1048576 < N) (a b : Rpt) (ha : a.2.length <= 1048576) : yF.F N (a, b) = some (decide (a = b)) := by
 obtain ⟨m, k⟩ := a
 obtain ⟨m', k'⟩ := b
 rw [yF.F_eq, zg.F_eq, bneI]
 dsimp only at ha ⊢
 by_cases e : m = m'
 ·subst e
  rw [bI rfl, condT]
  by_cases hl : k.length = k'.length
  ·have g := eqInts (L := fun n i => zg.L1 N n k k' (k.length : Int) i) k k' ha hl (fun n i => by rw [zg.L1_eq]) N 0 (by omega) (by omega)
   have g : zg.L1 N N k k' (k.length : Int) 0 = _ := g
   rw [dT (show (k.length : Int) = (k'.length : Int) by omega), notT, condF, g, bindV, List.drop_zero, List.drop_zero]
   simp
  ·have : k ≠ k' := fun h => hl (by rw [h])
   rw [dF (by omega), notF, condT, bindV]
   simp [this]
 ·rw [bN e, condF]
  simp [e]
abbrev dR : Rpt := (0, [])
theorem chg_len : ∀ (l : List Rpt) (b : Rpt), (chg b l).length <= l.length := by
 intro l
 induction l with
 | nil => intro b; exact nR _
 | cons x t ih =>
  intro b
  have h1 := ih x
  have h2 := ih x
  simp only [chg]
  cases decide (b = x) with
  | true => simp only [condT, List.length_cons]; have := ih x; omega
  | false => simp only [condF, List.length_cons]; omega
theorem chg_L1i (N : Nat) (hN : 1048576 < N) (l : List Rpt) (hl : l.length <= 1048576) (hs : ∀ r ∈ l, r.2.length <= 1048576) : ∀ (n i : Nat) (b : Rpt) (o : List Rpt), i <= l.length -> l.length < n + i -> o.length <= i -> b.2.length <= 1048576 ->
  zC.L1 N n l (l.length : Int) (i : Int) b.1 b.2 o = some (o ++ chg b (l.drop i)) := by
 intro n
 induction n with
 | zero => intro i b o h1 h2; omega
 | succ n ih =>
  intro i b o h1 h2 h3 h4
  rw [zC.L1_eq]
  by_cases hi : i < l.length
  ·have ws : IntKind.wrap .i64 ((i : Int) + 1) = ((i + 1 : Nat) : Int) := y0 (by omega)
   have hb := hs _ (nth_mem dR l i hi)
   have e1 := len1 o (l.getD i dR) (by omega)
   rw [zAL dR l i hi]
   simp only [oJ, hi, decide_true, condT, inRange_nat, nth_nat, ws, pEta, same_impl N hN b _ h4, bindV, e1, chg]
   rw [ih (i + 1) _ _ (by omega) (by omega) (by rw [lA, List.length_singleton]; omega) hb, ih (i + 1) _ o (by omega) (by omega) (by omega) hb]
   by_cases e : b = l.getD i dR
   ·simp only [<- e, decide_true, notT, condF, condT]
   ·rw [dF e, notF, condT, condF, List.append_assoc, List.singleton_append]
  ·simp only [oJ, hi, decide_false, condF]
   rw [List.drop_of_length_le (by omega)]
   simp only [chg, List.append_nil]
theorem chg_impl (N : Nat) (hN : 1048576 < N) (b : Rpt) (hb : b.2.length <= 1048576) (l : List Rpt) (hl : l.length <= 1048576) (hs : ∀ r ∈ l, r.2.length <= 1048576) : zC.F N (b, l) = some (chg b l) := by
 rw [zC.F_eq]
 have g := chg_L1i N hN l hl hs N 0 b [] (by omega) (by omega) (nR _) hb
 exact g
end Go.Kb
namespace Go.Kb
theorem word_impl (N : Nat) (c : Int) : yd.F N c = some (wordB c) := by
 rw [yd.F_eq]
 unfold wordB
 simp only [cSome]
 congr 1
 rw [Bool.eq_iff_iff]
 simp only [bA, Bool.or_eq_true, decide_eq_true_eq, beq_iff_eq, Bool.not_eq_true', decide_eq_false_iff_not, beq_eq_false_iff_ne, Bool.and_true]
 omega
def stlE (e : Eng) (a : Act) : Act × Eng :=
 let s := stl e.2.2.1 e.2.2.2.2.1 e.2.2.2.2.2 a
 (s.2.2.2, (e.1, e.2.1, s.1, e.2.2.2.1, s.2.1, s.2.2.1))
theorem settle_impl (N : Nat) (e : Eng) (a : Act) (ha : okA a) : zAH.F N (e, a) = some (stlE e a) := by
 obtain ⟨m, macs, fx, held, on, cp⟩ := e
 obtain ⟨k, c, md, n⟩ := a
 have hn := (okA_n ha).1
 dsimp only at hn
 rw [zAH.F_eq]
 simp only [stlE, stl, word_impl, bindV, bit1]
 rw [dT hn]
 simp only [condT]
 cases k == 2 with
 | true =>
  simp only [condT]
  cases c == 0 with
  | true => rfl
  | false =>
   cases cp with
   | false => rfl
   | true =>
    cases wordB c with
    | false => rfl
    | true => cases decide (c <= 26) <;> cases zA8 .i64 (bitOr .i64 md on) 2 == 0 <;> rfl
 | false =>
  simp only [condF]
  cases k == 4 with
  | true => rfl
  | false =>
   cases k == 5 with
   | true => rfl
   | false =>
    cases k == 8 with
    | true => cases zBg .i64 on md == md <;> rfl
    | false => cases k == 10 <;> rfl
def smallL {α : Type} (l : List (List α)) : Prop := l.length <= 1048576 /\ ∀ x ∈ l, x.length <= 1048576
theorem copyLoop {α : Type} {L : Nat -> Int -> List (List α) -> Option (List (List α))} (a : List (List α)) (ha : smallL a)
  (Leq : ∀ n i o, L (n + 1) i o = bif decide (i < (a.length : Int)) then (bif zu i a.length then (bif decide ((nth [] a i).length <= maxN) then (bif decide (o.length + [nth [] a i].length <= maxN) then L n (IntKind.wrap .i64 (i + 1)) (o ++ [nth [] a i]) else none) else none) else none) else some o) :
  ∀ (n i : Nat) (o : List (List α)), i <= a.length -> a.length < n + i -> o.length <= i -> L n (i : Int) o = some (o ++ a.drop i) := by
 intro n
 induction n with
 | zero => intro i o h1 h2; omega
 | succ n ih =>
  intro i o h1 h2 h3
  have h0 := ha.1
  rw [Leq]
  by_cases hi : i < a.length
  ·have ws : IntKind.wrap .i64 ((i : Int) + 1) = ((i + 1 : Nat) : Int) := y0 (by omega)
   have hx := ha.2 _ (nth_mem [] a i hi)
   have e1 := len1 o (a.getD i []) (by omega)
   have e2 : decide ((a.getD i []).length <= maxN) = true := dT (by unfold maxN; omega)
   rw [zAL [] a i hi]
   simp only [oJ, hi, decide_true, condT, inRange_nat, nth_nat, ws, e1, e2]
   rw [ih (i + 1) _ (by omega) (by omega) (by rw [lA, List.length_singleton]; omega), List.append_assoc, List.singleton_append]
  ·simp only [oJ, hi, decide_false, condF]
   rw [List.drop_of_length_le (by omega), List.append_nil]
theorem copyM_impl (N : Nat) (hN : 1048576 < N) (m : Mp) (h : smallM m) : zP.F N m = some m := by
 obtain ⟨k, ls⟩ := m
 have h0 : ls.length <= 1048576 := h.1
 rw [zP.F_eq]
 have gl : ∀ (n i : Nat) (o : List (List Act)), i <= ls.length -> ls.length < n + i -> o.length <= i -> zP.L1 N n ls (ls.length : Int) (i : Int) k o = some (k, o ++ ls.drop i) := by
  intro n
  induction n with
  | zero => intro i o h1 h2; omega
  | succ n ih =>
   intro i o h1 h2 h3
   rw [zP.L1_eq]
   by_cases hi : i < ls.length
   ·have ws : IntKind.wrap .i64 ((i : Int) + 1) = ((i + 1 : Nat) : Int) := y0 (by omega)
    have hx := h.2 _ (nth_mem [] ls i hi)
    have e1 := len1 o (ls.getD i []) (by omega)
    have e2 : decide ((ls.getD i []).length <= maxN) = true := dT (by unfold maxN; omega)
    rw [zAL [] ls i hi]
    simp only [oJ, hi, decide_true, condT, inRange_nat, nth_nat, ws, e1, e2]
    rw [ih (i + 1) _ (by omega) (by omega) (by rw [lA, List.length_singleton]; omega), List.append_assoc, List.singleton_append]
   ·simp only [oJ, hi, decide_false, condF]
    rw [List.drop_of_length_le (by omega), List.append_nil]
 have g := gl N 0 [] (by omega) (by omega) (nR _)
 exact g
theorem copyS_impl (N : Nat) (hN : 1048576 < N) (l : List (List MSt)) (h : smallL l) : zN.F N l = some l := by
 have h0 := h.1
 rw [zN.F_eq]
 have g := copyLoop (L := fun n i o => zN.L1 N n l (l.length : Int) i o) l h (fun n i o => by rw [zN.L1_eq]) N 0 [] (by omega) (by omega) (nR _)
 exact g
def smallE (e : Eng) : Prop := smallM e.1 /\ smallL e.2.1 /\ e.2.2.2.1.length <= 1048576
theorem copyE_impl (N : Nat) (hN : 1048576 < N) (e : Eng) (h : smallE e) : zk.F N e = some e := by
 have h3 := h.2.2
 rw [zk.F_eq, copyM_impl N hN e.1 h.1, bindV, copyS_impl N hN e.2.1 h.2.1, bindV, dT (show e.2.2.2.1.length <= maxN by unfold maxN; omega), condT]
theorem tmod2 {x : Int} (h : 0 <= x) : Int.tmod x 2 = x % 2 := Int.tmod_eq_emod_of_nonneg h
theorem shl1 {n : Nat} (h : n <= 4) : zBS .i64 1 (n : Int) = 2 ^ n := by
 have h1 : bit1 (n : Int) = ((2 ^ n : Nat) : Int) := bit1_nat (by omega)
 unfold bit1 at h1
 rw [h1]; simp
theorem all_drop_cons {α : Type} (p : α -> Bool) (d : α) (l : List α) (i : Nat) (h : i < l.length) : (l.drop i).all p = (p (l.getD i d) && (l.drop (i + 1)).all p) := by
 rw [zAL d l i h, List.all_cons]
theorem isE_L2i (N : Nat) (e : Eng) (hm : e.1.2.length <= 4) (hl : e.2.2.2.1.length <= 1048576) : ∀ (n i : Nat), i <= e.2.2.2.1.length -> e.2.2.2.1.length < n + i ->
  zF.L2 N n (e.1.2.length : Int) e.2.2.2.1 (e.2.2.2.1.length : Int) (i : Int) e.1.1 e.1.2 e.2.1 e.2.2.1 e.2.2.2.1 e.2.2.2.2.1 e.2.2.2.2.2 =
   some ((e.2.2.2.1.drop i).all (heldB e.1.1 e.1.2.length) && decide (0 <= e.2.2.1 /\ e.2.2.1 % 2 = 0 /\ e.2.2.1 < 2 ^ e.1.2.length)) := by
 intro n
 induction n with
 | zero => intro i h1 h2; omega
 | succ n ih =>
  intro i h1 h2
  rw [zF.L2_eq]
  by_cases hi : i < e.2.2.2.1.length
  ·have ws : IntKind.wrap .i64 ((i : Int) + 1) = ((i + 1 : Nat) : Int) := y0 (by omega)
   rw [all_drop_cons _ dH _ i hi]
   simp only [oJ, hi, decide_true, condT, inRange_nat, nth_nat, ws, ih (i + 1) (by omega) (by omega), heldB, bneB, ge_iff_le]
   have ex : decide (e.1.1 <= (e.2.2.2.1.getD i dH).1) = !decide ((e.2.2.2.1.getD i dH).1 < e.1.1) := by
    rw [Bool.eq_iff_iff]; simp only [decide_eq_true_eq, Bool.not_eq_true', decide_eq_false_iff_not]; omega
   rw [ex]
   cases decide ((e.2.2.2.1.getD i dH).1 < e.1.1) <;> cases (e.2.2.2.1.getD i dH).2.1 == 9 <;> cases decide ((e.1.2.length : Int) <= (e.2.2.2.1.getD i dH).2.2.2.2) <;> rfl
  ·simp only [oJ, hi, decide_false, condF]
   rw [List.drop_of_length_le (by omega), List.all_nil, Bool.true_and, shl1 hm, dT (show (0 : Int) <= (e.1.2.length : Int) by omega), condT]
   by_cases h0 : 0 <= e.2.2.1
   ·rw [dT (show e.2.2.1 >= 0 from h0), condT, tmod2 h0, beqI]
    by_cases h1 : e.2.2.1 % 2 = 0
    ·rw [dT h1, condT]
     congr 1
     rw [Bool.eq_iff_iff, decide_eq_true_iff, decide_eq_true_iff]
     exact ⟨fun h => ⟨h0, h1, h⟩, fun h => h.2.2⟩
    ·rw [dF h1, condF, dF (fun h => h1 h.2.1)]
   ·rw [dF (show ¬ e.2.2.1 >= 0 from h0), condF, dF (fun h => h0 h.1)]
theorem isE_L1i (N : Nat) (hN : 1048576 < N) (e : Eng) (hm : e.1.2.length <= 4) (hl : e.2.2.2.1.length <= 1048576) (hM : e.2.1.length <= 4) : ∀ (n i : Nat), i <= e.2.1.length -> e.2.1.length < n + i ->
  zF.L1 N n e.2.1 (e.2.1.length : Int) (i : Int) e.1.1 e.1.2 e.2.1 e.2.2.1 e.2.2.2.1 e.2.2.2.2.1 e.2.2.2.2.2 =
   some ((e.2.1.drop i).all isMc && (e.2.2.2.1.all (heldB e.1.1 e.1.2.length) && decide (0 <= e.2.2.1 /\ e.2.2.1 % 2 = 0 /\ e.2.2.1 < 2 ^ e.1.2.length))) := by
 intro n
 induction n with
 | zero => intro i h1 h2; omega
 | succ n ih =>
  intro i h1 h2
  rw [zF.L1_eq]
  by_cases hi : i < e.2.1.length
  ·have ws : IntKind.wrap .i64 ((i : Int) + 1) = ((i + 1 : Nat) : Int) := y0 (by omega)
   rw [all_drop_cons _ [] _ i hi]
   simp only [oJ, hi, decide_true, condT, inRange_nat, nth_nat, ws, isMc_impl N hN, bindV, ih (i + 1) (by omega) (by omega)]
   cases isMc (e.2.1.getD i []) <;> rfl
  ·simp only [oJ, hi, decide_false, condF]
   have g := isE_L2i N e hm hl N 0 (by omega) (by omega)
   rw [List.drop_zero] at g
   rw [List.drop_of_length_le (by omega), List.all_nil, Bool.true_and]
   exact g
theorem isE_impl (N : Nat) (hN : 1048576 < N) (e : Eng) (h : smallE e) : zF.F N e = some (isE e) := by
 rw [zF.F_eq, isM_impl N hN e.1 h.1, bindV]
 unfold isE
 cases hm : isM e.1 with
 | false => rfl
 | true =>
  have hM := (isM_iff _).1 hm
  rw [notT, condF, Bool.true_and]
  by_cases h4 : e.2.1.length <= 4
  ·rw [dF (show ¬ (e.2.1.length : Int) > 4 by omega), condF, dT h4, Bool.true_and, isH_impl N hN _ h.2.2, bindV]
   cases isH e.2.2.2.1 with
   | false => rfl
   | true =>
    rw [notT, condF, Bool.true_and]
    have g := isE_L1i N hN e hM.len.2 h.2.2 h4 N 0 (by omega) (by omega)
    have g : zF.L1 N N e.2.1 (e.2.1.length : Int) 0 e.1.1 e.1.2 e.2.1 e.2.2.1 e.2.2.2.1 e.2.2.2.2.1 e.2.2.2.2.2 = _ := g
    by_cases c1 : e.2.2.2.2.1 < 0
    ·rw [dT c1, condT, dF (show ¬ (0 <= e.2.2.2.2.1 /\ e.2.2.2.2.1 <= 15) by omega)]; rfl
    by_cases c2 : e.2.2.2.2.1 > 15
    ·rw [dF c1, condF, dT c2, condT, dF (show ¬ (0 <= e.2.2.2.2.1 /\ e.2.2.2.2.1 <= 15) by omega)]; rfl
    rw [dF c1, condF, dF c2, condF, dT (show 0 <= e.2.2.2.2.1 /\ e.2.2.2.2.1 <= 15 by omega), Bool.true_and, g, List.drop_zero]
  ·rw [dT (show (e.2.1.length : Int) > 4 by omega), condT, dF h4]; rfl
def hAtI (l : List Hd) (key : Int) : Int := bif l.any fun h => h.1 == key then (hIx l key : Int) else -1
theorem hAt_L1 {L : Nat -> Int -> Option Int} (l : List Hd) (hl : l.length <= 1048576) (key : Int)
  (Leq : ∀ n i, L (n + 1) i = bif decide (i < (l.length : Int)) then (bif zu i l.length then (bif (nth dH l i).1 == key then some i else L n (IntKind.wrap .i64 (i + 1))) else none) else some (-1)) :
  ∀ (n i : Nat), i <= l.length -> l.length < n + i -> L n (i : Int) = some (bif (l.drop i).any (fun h => h.1 == key) then ((i + hIx (l.drop i) key : Nat) : Int) else -1) := by
 intro n
 induction n with
 | zero => intro i h1 h2; omega
 | succ n ih =>
  intro i h1 h2
  rw [Leq]
  by_cases hi : i < l.length
  ·have ws : IntKind.wrap .i64 ((i : Int) + 1) = ((i + 1 : Nat) : Int) := y0 (by omega)
   rw [zAL dH l i hi, List.any_cons]
   unfold hIx
   rw [List.findIdx_cons]
   simp only [oJ, hi, decide_true, condT, inRange_nat, nth_nat, ws, ih (i + 1) (by omega) (by omega)]
   cases (l.getD i dH).1 == key with
   | true => simp
   | false =>
    simp only [condF, Bool.false_or, hIx]
    rw [show i + 1 + List.findIdx (fun h => h.1 == key) (l.drop (i + 1)) = i + (List.findIdx (fun h => h.1 == key) (l.drop (i + 1)) + 1) by omega]
  ·simp only [oJ, hi, decide_false, condF]
   rw [List.drop_of_length_le (by omega)]; rfl
theorem hAt_impl (N : Nat) (hN : 1048576 < N) (e : Eng) (hl : e.2.2.2.1.length <= 1048576) (key : Int) : zm.F N (e, key) = some (hAtI e.2.2.2.1 key) := by
 rw [zm.F_eq]
 have g := hAt_L1 (L := fun n i => zm.L1 N n key e.2.2.2.1 (e.2.2.2.1.length : Int) i) e.2.2.2.1 hl key (fun n i => by rw [zm.L1_eq]) N 0 (by omega) (by omega)
 rw [List.drop_zero, Nat.zero_add] at g
 exact g
end Go.Kb
