/- Engines copied by the program into rows of their own. -/
import Derived.Test.YticidpdbkjgebabGreatExactWaitUntilP69toP119
import Derived.Test.YticidpdbkjgebabGreatExactWaitUntilF33
namespace Go.Kb
set_option maxRecDepth 100000
theorem cKh_L1 (N : Nat) (a : List (List Act)) (ha : smallL a) (k : Int) (lo : Nat) : ∀ (n i : Nat) (o : List Hnd) (D : List HRow), i <= a.length -> a.length < n + i -> o.length = i -> lo <= D.length -> Own (u := tA) 8 D lo D.length o (a.take i) ->
  ∃ hs D', zZ.L1 N n a (a.length : Int) (i : Int) k o D = some ((k, hs), D') /\ D <+: D' /\ Own (u := tA) 8 D' lo D'.length hs a := by
 intro n
 induction n with
 | zero => intro i o D h1 h2; omega
 | succ n ih =>
  intro i o D h1 h2 h3 h4 h5
  have hal := ha.1
  rw [zZ.L1_eq]
  by_cases hi : i < a.length
  ·have hx := ha.2 _ (zBT [] a i hi)
   rw [dT (Int.ofNat_lt.mpr hi), condT, inRange_nat, dT hi, condT, nth_nat, dT (by unfold maxN; omega), condT, len1 o _ (by omega), condT, yP (by omega)]
   have hp := h5.push h4 (a.getD i [])
   rw [<- takeOne [] a i hi] at hp
   obtain ⟨hs, D', e, p, q⟩ := ih (i + 1) (o ++ [some (D.length, 0, (a.getD i []).length)]) (D ++ [HRow.row 8 tA (a.getD i [])]) (by omega) (by omega) (by rw [lA, List.length_singleton]; omega) (by rw [lA]; omega) (by rw [lA]; exact hp)
   exact ⟨hs, D', e, (List.prefix_append _ _).trans p, q⟩
  ·rw [dF (by omega), condF]
   refine ⟨o, D, rfl, List.prefix_refl _, ?_⟩
   rw [List.take_of_length_le (by omega)] at h5
   exact h5
theorem cKh_eq (N : Nat) (hN : 1048576 < N) (m : Mp) (hm : smallM m) (D : List HRow) : ∃ hs D', zZ.H N m D = some ((m.1, hs), D') /\ D <+: D' /\ Own (u := tA) 8 D' D.length D'.length hs m.2 := by
 have h0 := hm.1
 rw [zZ.H_eq]
 exact cKh_L1 N m.2 hm m.1 D.length N 0 [] D (by omega) (by omega) rfl (nR _) (by rw [List.take_zero]; exact own_nil)
theorem cMh_L1 (N : Nat) (a : List (List MSt)) (ha : smallL a) (lo : Nat) : ∀ (n i : Nat) (o : List Hnd) (D : List HRow), i <= a.length -> a.length < n + i -> o.length = i -> lo <= D.length -> Own (u := tS) 10 D lo D.length o (a.take i) ->
  ∃ hs D', zY.L1 N n a (a.length : Int) (i : Int) o D = some (hs, D') /\ D <+: D' /\ Own (u := tS) 10 D' lo D'.length hs a := by
 intro n
 induction n with
 | zero => intro i o D h1 h2; omega
 | succ n ih =>
  intro i o D h1 h2 h3 h4 h5
  have hal := ha.1
  rw [zY.L1_eq]
  by_cases hi : i < a.length
  ·have hx := ha.2 _ (zBT [] a i hi)
   rw [dT (Int.ofNat_lt.mpr hi), condT, inRange_nat, dT hi, condT, nth_nat, dT (by unfold maxN; omega), condT, len1 o _ (by omega), condT, yP (by omega)]
   have hp := h5.push h4 (a.getD i [])
   rw [<- takeOne [] a i hi] at hp
   obtain ⟨hs, D', e, p, q⟩ := ih (i + 1) (o ++ [some (D.length, 0, (a.getD i []).length)]) (D ++ [HRow.row 10 tS (a.getD i [])]) (by omega) (by omega) (by rw [lA, List.length_singleton]; omega) (by rw [lA]; omega) (by rw [lA]; exact hp)
   exact ⟨hs, D', e, (List.prefix_append _ _).trans p, q⟩
  ·rw [dF (by omega), condF]
   refine ⟨o, D, rfl, List.prefix_refl _, ?_⟩
   rw [List.take_of_length_le (by omega)] at h5
   exact h5
theorem cMh_eq (N : Nat) (hN : 1048576 < N) (a : List (List MSt)) (ha : smallL a) (D : List HRow) : ∃ hs D', zY.H N a D = some (hs, D') /\ D <+: D' /\ Own (u := tS) 10 D' D.length D'.length hs a := by
 have h0 := ha.1
 rw [zY.H_eq]
 exact cMh_L1 N a ha D.length N 0 [] D (by omega) (by omega) rfl (nR _) (by rw [List.take_zero]; exact own_nil)
theorem cEh_eq (N : Nat) (hN : 1048576 < N) (e : Eng) (he : smallE e) (D : List HRow) : ∃ hs gs D', yO.H N e D = some (((e.1.1, hs), (gs, e.2.2)), D') /\ EOut D D' hs gs e.1.2 e.2.1 := by
 obtain ⟨g1, g2, g3⟩ := he
 obtain ⟨hs, E, e1, p1, o1⟩ := cKh_eq N hN e.1 g1 (hhide D)
 rw [hide_len] at o1
 obtain ⟨q1, q2⟩ := o1.call p1
 rw [yO.H_eq, e1, bindV]
 dsimp only
 generalize yw D E = D1 at q1 q2
 obtain ⟨gs, E2, e2, p2, o2⟩ := cMh_eq N hN e.2.1 g2 (hhide D1)
 rw [hide_len] at o2
 obtain ⟨s1, s2⟩ := o2.call p2
 rw [e2, bindV, dT (by unfold maxN; omega), condT]
 exact ⟨hs, gs, _, rfl, q1.trans s1, D1.length, q1.length_le, s1.length_le, q2.more s1, s2⟩
theorem cDh_eq (N : Nat) (hN : 1048576 < N) (d : Dcd) (he : smallE d.1) (hq : d.2.2.1.length <= 1048576) (D : List HRow) : ∃ hs gs D', yj.H N d D = some ((((d.1.1.1, hs), (gs, d.1.2.2)), d.2), D') /\ EOut D D' hs gs d.1.1.2 d.1.2.1 := by
 obtain ⟨hs, gs, E, e1, o1⟩ := cEh_eq N hN d.1 he (hhide D)
 rw [yj.H_eq, e1, bindV, dT (by unfold maxN; omega), condT]
 exact ⟨hs, gs, _, rfl, o1.call⟩
theorem nthO {D : List HRow} {lo hi : Nat} {A : List RH} {V : List Rpt} (h : OwnR D lo hi A V) (i : Nat) (hi' : i < V.length) : hok D (.int .i64) (A.getD i (0, none)).2 = true /\ ((A.getD i (0, none)).1, hcut D (.int .i64) (A.getD i (0, none)).2) = V.getD i (0, []) :=
 ⟨h.ok hi', Prod.ext (h.fst i) (h.cut hi')⟩
theorem chgh_L1 (N : Nat) (hN : 1048576 < N) (D : List HRow) (lo hi : Nat) (A : List RH) (l : List Rpt) (hA : OwnR D lo hi A l) (hl : l.length <= 1000) (hs : ∀ r ∈ l, r.2.length <= 1048576) : ∀ (n i : Nat) (b : Rpt) (h : RH) (o : List RH) (v : List Rpt) (j : Nat), i <= l.length -> l.length < n + i -> o.length <= i -> b.2.length <= 1048576 -> hok D (.int .i64) h.2 = true -> (h.1, hcut D (.int .i64) h.2) = b ->
  (∃ φ : Nat -> Nat, o.length = v.length /\ (∀ q, q < v.length -> φ q < i /\ o.getD q (0, none) = A.getD (φ q) (0, none) /\ v.getD q (0, []) = l.getD (φ q) (0, [])) /\ ∀ q r, q < v.length -> r < v.length -> φ q = φ r -> q = r) -> j = 0 ->
  ∃ B, zC.L1 N n A (A.length : Int) (i : Int) h.1 h.2 o D = some (B, D) /\ OwnR D lo hi B (v ++ chg b (l.drop i)) := by
 have hAl := hA.len
 intro n
 induction n with
 | zero => intro i b h o v j x1 x2; omega
 | succ n ih =>
  intro i b h o v j x1 x2 x3 x4 x5 x6 x7 x8
  obtain ⟨φ, y1, y2, y3⟩ := x7
  rw [zC.L1_eq]
  by_cases hi' : i < l.length
  ·obtain ⟨k1, k2⟩ := nthO hA i hi'
   have hr := hs _ (zBT (0, []) l i hi')
   have hsame := same_impl N hN b (l.getD i (0, [])) x4
   rw [<- x6, <- k2] at hsame
   rw [dT (by omega), condT, inRange_nat, dT (show i < A.length by omega), condT, nth_nat, x5, k1, Bool.and_self, condT, hsame, bindV, yP (by omega), x6, k2, zAG (0, []) l i hi']
   simp only [chg]
   by_cases hb : b = l.getD i (0, [])
   ·rw [dT hb, notT, condF, condT]
    have := ih (i + 1) (l.getD i (0, [])) (A.getD i (0, none)) o v j (by omega) (by omega) (by omega) (by rw [<- hb]; exact x4) k1 k2 ⟨φ, y1, fun q hq => by obtain ⟨a1, a2⟩ := y2 q hq; exact ⟨by omega, a2⟩, y3⟩ x8
    exact this
   ·rw [dF hb, notF, condT, condF, len1 o _ (by omega), condT]
    obtain ⟨B, e1, e2⟩ := ih (i + 1) (l.getD i (0, [])) (A.getD i (0, none)) (o ++ [A.getD i (0, none)]) (v ++ [l.getD i (0, [])]) j (by omega) (by omega) (by rw [lA, List.length_singleton]; omega) hr k1 k2 (by
     refine ⟨fun q => if q < v.length then φ q else i, by simp [y1], fun q hq => ?_, fun q r hq hr he => ?_⟩
     ·rw [lA, List.length_singleton] at hq
      by_cases hqv : q < v.length
      ·obtain ⟨a1, a2, a3⟩ := y2 q hqv
       simp only [hqv, if_true]
       refine ⟨by omega, ?_, ?_⟩
       ·rw [List.getD_eq_getElem?_getD, List.getElem?_append_left (by omega), <- List.getD_eq_getElem?_getD]; exact a2
       ·rw [List.getD_eq_getElem?_getD, List.getElem?_append_left hqv, <- List.getD_eq_getElem?_getD]; exact a3
      ·have : q = v.length := by omega
       subst this
       simp only [Nat.lt_irrefl, if_false]
       refine ⟨by omega, ?_, ?_⟩
       ·rw [List.getD_eq_getElem?_getD, List.getElem?_append_right (by omega), y1, Nat.sub_self]; rfl
       ·rw [List.getD_eq_getElem?_getD, List.getElem?_append_right (by omega), Nat.sub_self]; rfl
     ·rw [lA, List.length_singleton] at hq hr
      by_cases h1 : q < v.length <;> by_cases h2 : r < v.length <;> simp only [h1, h2, if_true, if_false] at he
      ·exact y3 q r h1 h2 he
      ·have := (y2 q h1).1; omega
      ·have := (y2 r h2).1; omega
      ·omega) x8
    refine ⟨B, e1, ?_⟩
    rw [List.append_assoc] at e2
    exact e2
  ·rw [dF (by omega), condF, List.drop_of_length_le (by omega)]
   refine ⟨o, rfl, ?_⟩
   simp only [chg, List.append_nil]
   exact hA.sub φ y1 (fun q hq => by obtain ⟨a1, a2⟩ := y2 q hq; exact ⟨by omega, a2⟩) y3
theorem chgh_eq (N : Nat) (hN : 1048576 < N) (D : List HRow) (lo hi : Nat) (A : List RH) (l : List Rpt) (hA : OwnR D lo hi A l) (hl : l.length <= 1000) (hs : ∀ r ∈ l, r.2.length <= 1048576) (b : Rpt) (hb : b.2.length <= 1048576) (h : RH) (h1 : hok D (.int .i64) h.2 = true) (h2 : (h.1, hcut D (.int .i64) h.2) = b) :
  ∃ B, zC.H N (h, A) D = some (B, D) /\ OwnR D lo hi B (chg b l) := by
 have hAl := hA.len
 rw [zC.H_eq]
 exact chgh_L1 N hN D lo hi A l hA hl hs N 0 b h [] [] 0 (by omega) (by omega) (by simp) hb h1 h2 ⟨fun _ => 0, rfl, fun q hq => by simp at hq, fun q r hq => by simp at hq⟩ rfl
end Go.Kb
namespace Go.Kb
set_option maxRecDepth 100000
theorem mrh_L1 (N : Nat) (hN : 1048576 < N) (l : List Hd) (ss : List MSt) (hl : ss.length <= 8) (lo : Nat) : ∀ (n i : Nat) (o : List RH) (V : List Rpt) (d : List Pr) (D : List HRow), i <= ss.length -> ss.length < n + i -> o.length <= 2 * i -> d.length <= i -> (∀ p ∈ d, 0 <= p.1 /\ p.1 <= 56) -> mcGo d (ss.drop i) = true -> lo <= D.length -> OwnR D lo D.length o V ->
  ∃ A D', zI.L1 N n ss (ss.length : Int) (i : Int) (repO l).1 (repO l).2 o d D = some (A, D') /\ D <+: D' /\ OwnR D' lo D'.length A (V ++ mrGo (repO l) d (ss.drop i)) := by
 intro n
 induction n with
 | zero => intro i o V d D h1 h2; omega
 | succ n ih =>
  intro i o V d D h1 h2 h3 h4 h5 h6 h7 h8
  rw [zI.L1_eq]
  obtain ⟨b1, b2⟩ := zB1 l
  by_cases hi : i < ss.length
  ·have ws : IntKind.wrap .i64 ((i : Int) + 1) = ((i + 1 : Nat) : Int) := yP (by omega)
   rw [zAG dS ss i hi] at h6 ⊢
   obtain ⟨s, hs⟩ : ∃ s, ss.getD i dS = s := ⟨_, rfl⟩
   simp only [mcGo, bA, hs] at h6
   obtain ⟨a1, a2⟩ := h6
   have hst := isA_stepA a1
   have hds : ∀ p ∈ d ++ [s.2], 0 <= p.1 /\ p.1 <= 56 := by
    intro p hp
    rcases List.mem_append.1 hp with hp | hp
    ·exact h5 p hp
    ·rw [List.mem_singleton] at hp; subst hp; omega
   have hdl : (d ++ [s.2]).length <= i + 1 := by rw [lA, List.length_singleton]; omega
   have w1 := withP_impl N hN (repO l) (by omega) b2 (d ++ [s.2]) (by omega) hds
   have w2 := withP_impl N hN (repO l) (by omega) b2 d (by omega) h5
   have w1 : zb.F N (((repO l).1, (repO l).2), d ++ [s.2]) = _ := w1
   have w2 : zb.F N (((repO l).1, (repO l).2), d) = _ := w2
   have m1 : decide (d.length <= maxN) = true := dT (by unfold maxN; omega)
   have e1 := len1 d s.2 (by omega)
   have e2 := fun x : RH => len1 o x (by omega)
   have e3 := fun x y : RH => len1 (o ++ [x]) y (by rw [lA, List.length_singleton]; omega)
   -- one more report
   have one : ∀ (o : List RH) (V : List Rpt) (D : List HRow) (r : Rpt), lo <= D.length -> OwnR D lo D.length o V -> OwnR (D ++ [HRow.row 2 (.int .i64) r.2]) lo (D ++ [HRow.row 2 (.int .i64) r.2]).length (o ++ [(r.1, some (D.length, 0, r.2.length))]) (V ++ [r]) := by
    intro o V D r g1 g2
    rw [lA]
    exact g2.push g1 r.1 r.2
   simp only [oJ, hi, decide_true, condT, inRange_nat, nth_nat, ws, hs, e1, m1, w1, w2, bindV, e2, e3, mrGo]
   cases k0 : s.1 == 0 with
   | true =>
    rw [k0, condT, bA] at a2
    rw [condT, condT]
    have g1 := one o V D (withP (repO l) (d ++ [s.2])) h7 h8
    have g2 := one _ _ _ (withP (repO l) d) (by rw [lA]; omega) g1
    obtain ⟨A, D', q1, q2, q3⟩ := ih (i + 1) _ _ d _ (by omega) (by omega) (by simp only [lA, List.length_singleton]; omega) (by omega) h5 a2.2 (by simp only [lA]; omega) g2
    refine ⟨A, D', q1, ((List.prefix_append _ _).trans (List.prefix_append _ _)).trans q2, ?_⟩
    simp only [List.append_assoc, List.singleton_append] at q3
    exact q3
   | false =>
    rw [k0, condF] at a2
    rw [condF, condF]
    cases k1 : s.1 == 1 with
    | true =>
     rw [k1, condT, bA] at a2
     rw [condT, condT]
     have g1 := one o V D (withP (repO l) (d ++ [s.2])) h7 h8
     obtain ⟨A, D', q1, q2, q3⟩ := ih (i + 1) _ _ (d ++ [s.2]) _ (by omega) (by omega) (by simp only [lA, List.length_singleton]; omega) hdl hds a2.2 (by simp only [lA]; omega) g1
     refine ⟨A, D', q1, (List.prefix_append _ _).trans q2, ?_⟩
     simp only [List.append_assoc, List.singleton_append] at q3
     exact q3
    | false =>
     rw [k1, condF] at a2
     rw [condF, condF]
     cases k2 : s.1 == 2 with
     | false => rw [k2, condF] at a2; cases a2
     | true =>
      rw [k2, condT, bA] at a2
      rw [condT]
      obtain ⟨j, ej, j1, j2⟩ := take_drop_erase a2.1 (by omega)
      have wj : IntKind.wrap .i64 ((j : Int) + 1) = ((j + 1 : Nat) : Int) := yP (by omega)
      have hel := List.length_erase_le (a := s.2) (l := d)
      have hde : ∀ p ∈ d.erase s.2, 0 <= p.1 /\ p.1 <= 56 := fun p hp => h5 p (List.mem_of_mem_erase hp)
      have w3 := withP_impl N hN (repO l) (by omega) b2 (d.erase s.2) (by omega) hde
      have w3 : zb.F N (((repO l).1, (repO l).2), d.erase s.2) = _ := w3
      rw [pairAt_eq N hN d (by omega), bindV, ej, wj]
      rw [dT (show (0 : Int) <= (j : Int) by omega), dT (show (j : Int) <= (d.length : Int) by omega), dT (show (0 : Int) <= ((j + 1 : Nat) : Int) by omega), dT (show ((j + 1 : Nat) : Int) <= (d.length : Int) by omega), dT (show Int.toNat (j : Int) <= Int.toNat ((j + 1 : Nat) : Int) by omega), Int.toNat_natCast, Int.toNat_natCast, j2, w3]
      simp only [Bool.and_self, condT, bindV]
      have g1 := one o V D (withP (repO l) (d.erase s.2)) h7 h8
      obtain ⟨A, D', q1, q2, q3⟩ := ih (i + 1) _ _ (d.erase s.2) _ (by omega) (by omega) (by simp only [lA, List.length_singleton]; omega) (by omega) hde a2.2 (by simp only [lA]; omega) g1
      refine ⟨A, D', q1, (List.prefix_append _ _).trans q2, ?_⟩
      simp only [List.append_assoc, List.singleton_append] at q3
      exact q3
  ·simp only [oJ, hi, decide_false, condF]
   rw [List.drop_of_length_le (by omega)]
   simp only [mrGo, List.append_nil]
   exact ⟨o, D, rfl, List.prefix_refl _, h8⟩
theorem mrh_eq (N : Nat) (hN : 1048576 < N) (l : List Hd) (hl : l.length <= 500000) (ss : List MSt) (D : List HRow) : ∃ A D', zI.H N (l, ss) D = some (A, D') /\ D <+: D' /\ OwnR D' D.length D'.length A (mcRep l ss) := by
 rw [zI.H_eq, isH_impl N hN l (by omega), bindV]
 unfold mcRep
 cases isH l with
 | false => exact ⟨[], D, rfl, List.prefix_refl _, ownR_nil⟩
 | true =>
  rw [notT, condF, isMc_impl N hN ss, bindV, Bool.true_and]
  cases hm : isMc ss with
  | false => exact ⟨[], D, rfl, List.prefix_refl _, ownR_nil⟩
  | true =>
   obtain ⟨m1, m2⟩ := isMc_len hm
   rw [notT, condF, repO_impl N hN l hl, bindV, condT]
   obtain ⟨A, D', q1, q2, q3⟩ := mrh_L1 N hN l ss m1 D.length N 0 [] [] [] D (by omega) (by omega) (nR _) (nR _) (by simp) (by rw [List.drop_zero]; exact m2) (nR _) ownR_nil
   exact ⟨A, D', q1, q2, by rw [List.drop_zero, List.nil_append] at q3; exact q3⟩
theorem settleh_eq (N : Nat) (e : Eng) (a : Act) (ha : okA a) (k : Int) (hs gs : List Hnd) (D : List HRow) : zAp.H N (((k, hs), (gs, e.2.2)), a) D = some (((stlE e a).1, ((k, hs), (gs, (stlE e a).2.2.2))), D) := by
 obtain ⟨m, macs, fx, held, on, cp⟩ := e
 obtain ⟨kk, c, md, n⟩ := a
 have hn := (okA_n ha).1
 dsimp only at hn
 rw [zAp.H_eq]
 simp only [stlE, stl, word_impl, bindV, bit1]
 rw [dT hn]
 simp only [condT]
 cases kk == 2 with
 | true =>
  simp only [condT]
  cases c == 0 with
  | true => rfl
  | false =>
   cases cp with
   | false => rfl
   | true =>
    cases wordB c with
    | false => rfl
    | true => cases decide (c <= 26) <;> cases zBM .i64 (bitOr .i64 md on) 2 == 0 <;> rfl
 | false =>
  simp only [condF]
  cases kk == 4 with
  | true => rfl
  | false =>
   cases kk == 5 with
   | true => rfl
   | false =>
    cases kk == 8 with
    | true => cases zBo .i64 on md == md <;> rfl
    | false => cases kk == 10 <;> rfl
structure POut (r : Option ((((Int × List Hnd) × (List Hnd) × Int × List Hd × Int × Bool) × List RH) × List HRow)) (D : List HRow) (V : Eng × List Rpt) : Prop where
 out : ∃ hs gs A D', r = some ((((V.1.1.1, hs), (gs, V.1.2.2)), A), D') /\ D <+: D' /\ ∃ a b, D.length <= a /\ a <= b /\ b <= D'.length /\ Own (u := tA) 8 D' D.length a hs V.1.1.2 /\ Own (u := tS) 10 D' a b gs V.1.2.1 /\ OwnR D' b D'.length A V.2
theorem rowAt (D : List HRow) (r : HRow) : (D ++ [r])[D.length]? = some r := by
 rw [List.getElem?_append_right (nR _), Nat.sub_self]; rfl
theorem tailh (N : Nat) (hN : 1048576 < N) (e : Eng) (he : OkE e) (key : Int) (a : Act) (ha : 0 <= a.2.2.2) (x : (Int × List Hnd) × (List Hnd) × Int × List Hd × Int × Bool) (D : List HRow) :
  ∃ A D', (bif decide (e.2.2.2.1.length + ([(key, a)] : List Hd).length <= maxN) then
   bif a.1 == (9 : Int) then
    bif decide (a.2.2.2 < (e.2.1.length : Int)) then
     bif zG a.2.2.2 e.2.1.length then
     bindO (zI.H N (e.2.2.2.1 ++ ([(key, a)] : List Hd), nth ([] : List MSt) e.2.1 a.2.2.2) (hhide D)) fun r6 =>
     bindO (zJ.F N (e.2.2.2.1 ++ ([(key, a)] : List Hd))) fun r7 =>
     bif decide (r6.1.length + ([(r7.1, (some ((yw D r6.2).length, 0, r7.2.length) : Hnd))] : List RH).length <= maxN) then
     bindO (zJ.F N e.2.2.2.1) fun r8 =>
     bindO (zC.H N ((r8.1, (some (((yw D r6.2) ++ [HRow.row 2 (.int .i64) r7.2]).length, 0, r8.2.length) : Hnd)), r6.1 ++ ([(r7.1, (some ((yw D r6.2).length, 0, r7.2.length) : Hnd))] : List RH)) (((yw D r6.2) ++ [HRow.row 2 (.int .i64) r7.2]) ++ [HRow.row 2 (.int .i64) r8.2])) fun r9 =>
     some ((x, r9.1), r9.2)
     else none
     else none
    else
     bindO (zJ.F N (e.2.2.2.1 ++ ([(key, a)] : List Hd))) fun r10 =>
     bif decide (([(r10.1, (some (D.length, 0, r10.2.length) : Hnd))] : List RH).length <= maxN) then
     bindO (zJ.F N e.2.2.2.1) fun r11 =>
     bindO (zC.H N ((r11.1, (some ((D ++ [HRow.row 2 (.int .i64) r10.2]).length, 0, r11.2.length) : Hnd)), ([(r10.1, (some (D.length, 0, r10.2.length) : Hnd))] : List RH)) ((D ++ [HRow.row 2 (.int .i64) r10.2]) ++ [HRow.row 2 (.int .i64) r11.2])) fun r12 =>
     some ((x, r12.1), r12.2)
     else none
   else
    bindO (zJ.F N (e.2.2.2.1 ++ ([(key, a)] : List Hd))) fun r13 =>
    bif decide (([(r13.1, (some (D.length, 0, r13.2.length) : Hnd))] : List RH).length <= maxN) then
    bindO (zJ.F N e.2.2.2.1) fun r14 =>
    bindO (zC.H N ((r14.1, (some ((D ++ [HRow.row 2 (.int .i64) r13.2]).length, 0, r14.2.length) : Hnd)), ([(r13.1, (some (D.length, 0, r13.2.length) : Hnd))] : List RH)) ((D ++ [HRow.row 2 (.int .i64) r13.2]) ++ [HRow.row 2 (.int .i64) r14.2])) fun r15 =>
    some ((x, r15.1), r15.2)
    else none
   else none) = some ((x, A), D') /\ D <+: D' /\ OwnR D' D.length D'.length A (chg (repO e.2.2.2.1) ((bif a.1 == 9 && decide (a.2.2.2 < e.2.1.length) then mcRep (e.2.2.2.1 ++ [(key, a)]) (e.2.1.getD a.2.2.2.toNat []) else []) ++ [repO (e.2.2.2.1 ++ [(key, a)])])) := by
 have hl := he.len
 have e1 := len1 e.2.2.2.1 (key, a) (by omega)
 have hl2 : (e.2.2.2.1 ++ [(key, a)]).length <= 33 := by rw [lA, List.length_singleton]; omega
 have r1 := repO_impl N hN (e.2.2.2.1 ++ [(key, a)]) (by omega)
 have r2 := repO_impl N hN e.2.2.2.1 (by omega)
 have k1 := (zB1 (e.2.2.2.1 ++ [(key, a)])).1
 have k2 := (zB1 e.2.2.2.1).1
 -- the last two rows, and what is changed
 have fin : ∀ (D2 : List HRow) (A : List RH) (V : List Rpt), D <+: D2 -> OwnR D2 D.length D2.length A V -> V.length <= 900 -> (∀ r ∈ V, r.2.length <= 1048576) ->
   ∃ B D', zC.H N (((repO e.2.2.2.1).1, (some ((D2 ++ [HRow.row 2 (.int .i64) (repO (e.2.2.2.1 ++ [(key, a)])).2]).length, 0, (repO e.2.2.2.1).2.length) : Hnd)), A ++ ([((repO (e.2.2.2.1 ++ [(key, a)])).1, (some (D2.length, 0, (repO (e.2.2.2.1 ++ [(key, a)])).2.length) : Hnd))] : List RH)) ((D2 ++ [HRow.row 2 (.int .i64) (repO (e.2.2.2.1 ++ [(key, a)])).2]) ++ [HRow.row 2 (.int .i64) (repO e.2.2.2.1).2]) = some (B, D') /\ D <+: D' /\ OwnR D' D.length D'.length B (chg (repO e.2.2.2.1) (V ++ [repO (e.2.2.2.1 ++ [(key, a)])])) := by
  intro D2 A V p1 o1 v1 v2
  have o2 := o1.push p1.length_le (repO (e.2.2.2.1 ++ [(key, a)])).1 (repO (e.2.2.2.1 ++ [(key, a)])).2
  have o3 := o2.more (D' := (D2 ++ [HRow.row 2 (.int .i64) (repO (e.2.2.2.1 ++ [(key, a)])).2]) ++ [HRow.row 2 (.int .i64) (repO e.2.2.2.1).2]) (List.prefix_append _ _)
  have hrow := rowAt (D2 ++ [HRow.row 2 (.int .i64) (repO (e.2.2.2.1 ++ [(key, a)])).2]) (HRow.row 2 (.int .i64) (repO e.2.2.2.1).2)
  obtain ⟨B, q1, q2⟩ := chgh_eq N hN _ _ _ _ _ o3 (by rw [lA, List.length_singleton]; omega) (fun r hr => by
   rcases List.mem_append.1 hr with hr | hr
   ·exact v2 r hr
   ·rw [List.mem_singleton] at hr; subst hr; show (repO _).2.length <= _; omega) (repO e.2.2.2.1) (by omega) ((repO e.2.2.2.1).1, some ((D2 ++ [HRow.row 2 (.int .i64) (repO (e.2.2.2.1 ++ [(key, a)])).2]).length, 0, (repO e.2.2.2.1).2.length)) (hok_row hrow) (Prod.ext rfl (hcut_row hrow))
  refine ⟨B, _, q1, (p1.trans (List.prefix_append _ _)).trans (List.prefix_append _ _), q2.mono (nR _) ?_⟩
  simp only [lA, List.length_singleton]; omega
 have one : ∀ r : RH, decide (([r] : List RH).length <= maxN) = true := fun r => dT (by rw [List.length_singleton]; unfold maxN; omega)
 rw [e1, condT, r1, r2]
 simp only [bindV, one, condT]
 have fin0 := fin D [] [] (List.prefix_refl _) ownR_nil (by simp) (by simp)
 cases a.1 == 9 with
 | false =>
  obtain ⟨B, D', q1, q2, q3⟩ := fin0
  rw [List.nil_append] at q1
  rw [condF, q1, bindV]
  exact ⟨B, D', rfl, q2, q3⟩
 | true =>
  simp only [condT, Bool.true_and]
  by_cases hn : a.2.2.2 < (e.2.1.length : Int)
  ·have hr : zG a.2.2.2 e.2.1.length = true := by unfold zG; rw [dT ha, dT hn]; rfl
   obtain ⟨A, E, m1, m2, m3⟩ := mrh_eq N hN (e.2.2.2.1 ++ [(key, a)]) (by omega) (nth [] e.2.1 a.2.2.2) (hhide D)
   have hs := mcRep_small (e.2.2.2.1 ++ [(key, a)]) (nth [] e.2.1 a.2.2.2)
   rw [hide_len] at m3
   have m4 := m3.shown m2 (nR _)
   obtain ⟨q1, q2, _⟩ := hide_more m2
   have hAl := m3.len
   rw [dT hn, condT, hr, condT, m1, bindV]
   dsimp only
   rw [<- q2] at m4
   generalize yw D E = D1 at *
   obtain ⟨B, D', f1, f2, f3⟩ := fin D1 A _ q1 m4 (by omega) (fun r hr => by have := hs.2 r hr; omega)
   rw [len1 A _ (by omega), condT, f1, bindV, condT]
   exact ⟨B, D', rfl, f2, f3⟩
  ·obtain ⟨B, D', q1, q2, q3⟩ := fin0
   rw [List.nil_append] at q1
   rw [dF hn, condF, q1, bindV]
   exact ⟨B, D', rfl, q2, q3⟩
end Go.Kb
