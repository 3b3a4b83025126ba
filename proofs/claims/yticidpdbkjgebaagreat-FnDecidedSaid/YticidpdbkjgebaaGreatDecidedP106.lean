/- A decider that is drawn is valid, and the events for it follow. -/
import Derived.Test.YticidpdbkjgebaaGreatDecidedP105
import Derived.Test.YticidpdbkjgebaaGreatDecidedP61toP69
namespace Go.Kb
set_option maxRecDepth 100000
abbrev tA : Ty := .pair (.int .i64) (.pair (.int .i64) (.pair (.int .i64) (.int .i64)))
abbrev tS : Ty := .pair (.int .i64) (.pair (.int .i64) (.int .i64))
theorem l6h_L1 (N : Nat) (k k' : Int) (a : List (List Act)) (ha : a.length <= 1048576 /\ ∀ x ∈ a, x.length <= 1048576) (lo : Nat) : ∀ (n i : Nat) (o : List Hnd) (D : List HRow), i <= a.length -> a.length < n + i -> o.length = i ->
  lo <= D.length -> Own (u := tA) 8 D lo D.length o (a.take i) ->
  ∃ hs D', z1.L1 N n (i : Int) k' a k o D = some ((k, hs), D') /\ D <+: D' /\ Own (u := tA) 8 D' lo D'.length hs a := by
 intro n
 induction n with
 | zero => intro i o D h1 h2; omega
 | succ n ih =>
  intro i o D h1 h2 h3 h4 h5
  have hal := ha.1
  rw [z1.L1_eq]
  by_cases hi : i < a.length
  ·have hx := ha.2 _ (zAt [] a i hi)
   have e2 : decide (([] : List Act).length + (a.getD i []).length <= maxN) = true := dT (by rw [List.length_nil]; unfold maxN; omega)
   rw [dT (Int.ofNat_lt.mpr hi), condT, inRange_nat, dT hi, condT, nth_nat, e2, condT, List.nil_append, len1 o _ (by omega), condT, yA (by omega)]
   have hp := h5.push h4 (a.getD i [])
   have ht : a.take (i + 1) = a.take i ++ [a.getD i []] := by
    rw [List.take_add_one, List.getElem?_eq_getElem hi, List.getD_eq_getElem?_getD, List.getElem?_eq_getElem hi]; rfl
   rw [<- ht] at hp
   obtain ⟨hs, D', e, p, q⟩ := ih (i + 1) (o ++ [some (D.length, 0, (a.getD i []).length)]) (D ++ [HRow.row 8 tA (a.getD i [])]) (by omega) (by omega) (by rw [lA, List.length_singleton]; omega) (by rw [lA]; omega) (by rw [lA]; exact hp)
   exact ⟨hs, D', e, (List.prefix_append _ _).trans p, q⟩
  ·rw [dF (by omega), condF]
   refine ⟨o, D, rfl, List.prefix_refl _, ?_⟩
   rw [List.take_of_length_le (by omega)] at h5
   exact h5
theorem l6h_eq (N : Nat) (hN : 1048576 < N) (m : Mp) (hm : smallM m) (D : List HRow) : ∃ hs D', z1.H N m D = some ((m.1, hs), D') /\ D <+: D' /\ Own (u := tA) 8 D' D.length D'.length hs m.2 := by
 have h0 := hm.1
 rw [z1.H_eq]
 exact l6h_L1 N m.1 m.1 m.2 hm D.length N 0 [] D (by omega) (by omega) rfl (nR _) (by rw [List.take_zero]; exact own_nil)
theorem Own.call {u : Ty} {e : Nat} {D E : List HRow} {hs : List Hnd} {vs : List (List u.den)} (h : Own e E D.length E.length hs vs) (p : hhide D <+: E) : D <+: zBI D E /\ Own e (zBI D E) D.length (zBI D E).length hs vs := by
 have o' := h.shown p (nR _)
 exact ⟨(hide_more p).1, by rw [(hide_more p).2.1]; exact o'⟩
theorem Own.unA {D : List HRow} {lo hi : Nat} {hs : List Hnd} {vs : List (List Act)} (h : Own (u := tA) 8 D lo hi hs vs) : (List.map (Ty.unden D (.hnd (.pair (.int .i64) (.pair (.int .i64) (.pair (.int .i64) (.int .i64)))))) hs : List (List (Int × Int × Int × Int))) = vs := h.unden
theorem Own.unS {D : List HRow} {lo hi : Nat} {hs : List Hnd} {vs : List (List MSt)} (h : Own (u := tS) 10 D lo hi hs vs) : (List.map (Ty.unden D (.hnd (.pair (.int .i64) (.pair (.int .i64) (.int .i64))))) hs : List (List (Int × Int × Int))) = vs := h.unden
structure EOut (D D' : List HRow) (hs gs : List Hnd) (m : List (List Act)) (s : List (List MSt)) : Prop where
 pre : D <+: D'
 own : ∃ mid, D.length <= mid /\ mid <= D'.length /\ Own (u := tA) 8 D' D.length mid hs m /\ Own (u := tS) 10 D' mid D'.length gs s
theorem EOut.call {D E : List HRow} {hs gs : List Hnd} {m : List (List Act)} {s : List (List MSt)} (h : EOut (hhide D) E hs gs m s) : EOut D (zBI D E) hs gs m s := by
 obtain ⟨p, mid, h1, h2, h3, h4⟩ := h
 rw [hide_len] at h1 h3
 obtain ⟨q1, q2, q3⟩ := hide_more p
 refine ⟨q1, mid, h1, by rw [q2]; exact h2, ?_, ?_⟩
 ·exact h3.shown p (nR _)
 ·rw [q2]; exact h4.shown p h1
theorem l9h_eq (N : Nat) (hN : 1048576 < N) (e : Eng) (he : smallE e) (D : List HRow) : ∃ hs gs D', z0.H N e D = some (((e.1.1, hs), (gs, e.2.2)), D') /\ EOut D D' hs gs e.1.2 e.2.1 := by
 obtain ⟨⟨k, ls⟩, macs, fx, held, on, cp⟩ := e
 obtain ⟨g1, g2, g3⟩ := he
 dsimp only at g1 g2 g3
 have h0 := g2.1
 have e3 : decide (([] : List Hd).length + held.length <= maxN) = true := dT (by rw [List.length_nil]; unfold maxN; omega)
 obtain ⟨hs, E, e1, p1, o1⟩ := l6h_eq N hN (k, ls) g1 (hhide D)
 rw [hide_len] at o1
 obtain ⟨q1, q2⟩ := o1.call p1
 rw [z0.H_eq]
 dsimp only
 rw [e1, bindV]
 dsimp only
 generalize zBI D E = D1 at q1 q2
 have gl : ∀ (n i : Nat) (o : List Hnd) (D2 : List HRow), i <= macs.length -> macs.length < n + i -> o.length = i -> D1 <+: D2 -> Own (u := tS) 10 D2 D1.length D2.length o (macs.take i) ->
   ∃ gs D', z0.L1 N n (i : Int) k ls macs fx held on cp k hs fx held on cp o D2 = some (((k, hs), (gs, (fx, (held, (on, cp))))), D') /\ D2 <+: D' /\ Own (u := tS) 10 D' D1.length D'.length gs macs := by
  intro n
  induction n with
  | zero => intro i o D2 x1 x2; omega
  | succ n ih =>
   intro i o D2 x1 x2 x3 x4 x5
   rw [z0.L1_eq]
   by_cases hi : i < macs.length
   ·have hx := g2.2 _ (zAt [] macs i hi)
    have e2 : decide (([] : List MSt).length + (macs.getD i []).length <= maxN) = true := dT (by rw [List.length_nil]; unfold maxN; omega)
    rw [dT (Int.ofNat_lt.mpr hi), condT, inRange_nat, dT hi, condT, nth_nat, e2, condT, List.nil_append, len1 o _ (by omega), condT, yA (by omega)]
    have hp := x5.push (by have := x4.length_le; omega) (macs.getD i [])
    have ht : macs.take (i + 1) = macs.take i ++ [macs.getD i []] := by
     rw [List.take_add_one, List.getElem?_eq_getElem hi, List.getD_eq_getElem?_getD, List.getElem?_eq_getElem hi]; rfl
    rw [<- ht] at hp
    obtain ⟨gs, D', e, p, q⟩ := ih (i + 1) (o ++ [some (D2.length, 0, (macs.getD i []).length)]) (D2 ++ [HRow.row 10 tS (macs.getD i [])]) (by omega) (by omega) (by rw [lA, List.length_singleton]; omega) (x4.trans (List.prefix_append _ _)) (by rw [lA]; exact hp)
    exact ⟨gs, D', e, (List.prefix_append _ _).trans p, q⟩
   ·rw [dF (by omega), condF, e3, condT, List.nil_append]
    refine ⟨o, D2, rfl, List.prefix_refl _, ?_⟩
    rw [List.take_of_length_le (by omega)] at x5
    exact x5
 obtain ⟨gs, D', e4, p4, o4⟩ := gl N 0 [] D1 (by omega) (by omega) rfl (List.prefix_refl _) (by rw [List.take_zero]; exact own_nil)
 exact ⟨hs, gs, D', e4, q1.trans p4, D1.length, q1.length_le, p4.length_le, q2.more p4, o4⟩
theorem OkE_new {m : Mp} (hm : OkM m) {s : List (List MSt)} (hs : s.length <= 4) (h : s.all isMc = true) : OkE (m, s, 0, [], 0, false) := by
 refine ⟨hm, hs, ⟨by simp, by simp⟩, by dsimp only; omega, h, by simp, ?_⟩
 dsimp only
 have hp : (0 : Int) < 2 ^ m.2.length := by
  have : ((2 : Int) ^ m.2.length) = ((2 ^ m.2.length : Nat) : Int) := by simp
  rw [this]
  exact Int.ofNat_lt.2 (Nat.two_pow_pos _)
 exact ⟨by omega, rfl, hp⟩
theorem NewE_eq (N : Nat) (hN : 1048576 < N) (m : Mp) (hm : OkM m) (s : List (List MSt)) (hs : s.length <= 4) (h : s.all isMc = true) (D : List HRow) :
  ∃ hs gs D', yx.H N (m, s) D = some ((((m.1, hs), (gs, (0, ([], (0, false))))), true), D') /\ EOut D D' hs gs m.2 s := by
 have hE := OkE_new hm hs h
 obtain ⟨hs, gs, E, e1, o1⟩ := l9h_eq N hN (m, s, 0, [], 0, false) hE.small (hhide D)
 rw [yx.H_eq, isE_spec N hN _ hE.small, bindV, (isE_iff _).2 hE, notT, condF, e1, bindV]
 exact ⟨hs, gs, _, rfl, o1.call⟩
theorem l9N_eq (N : Nat) (hN : 1048576 < N) (code : List Int) (hm : code.length <= maxN) (c : List Int × Int × Int) (hc : okC code c) (keys : Nat) (hk : 1 <= keys /\ keys <= 32) (D : List HRow) :
  ∃ ls s hs gs c' D', yT.H N (c, (keys : Int)) D = some (((((keys : Int), hs), (gs, (0, ([], (0, false))))), c'), D') /\ OkM ((keys : Int), ls) /\ s.length <= 4 /\ s.all isMc = true /\ okC code c' /\ EOut D D' hs gs ls s := by
 obtain ⟨v, c1, e1, p1, q1, k1⟩ := zAP N code c 4 hc hm (by omega)
 obtain ⟨v, rfl⟩ := Int.eq_ofNat_of_zero_le p1
 have gl : ∀ (n m : Nat) (c : List Int × Int × Int) (o : List Hnd) (s : List (List MSt)) (D2 : List HRow), m < n -> o.length + m <= 4 -> okC code c -> s.all isMc = true -> D <+: D2 -> Own (u := tS) 10 D2 D.length D2.length o s ->
   ∃ ls s hs gs c' D', yT.L1 N n (keys : Int) (m : Int) c.1 c.2.1 c.2.2 o D2 = some (((((keys : Int), hs), (gs, (0, ([], (0, false))))), c'), D') /\ OkM ((keys : Int), ls) /\ s.length <= 4 /\ s.all isMc = true /\ okC code c' /\ EOut D D' hs gs ls s := by
  intro n
  induction n with
  | zero => intro m c o s D2 x1; omega
  | succ n ih =>
   intro m c o s D2 x1 x2 x3 x4 x5 x6
   rw [yT.L1_eq]
   cases m with
   | zero =>
    obtain ⟨ls, c2, e2, m2, k2⟩ := l6_ok N (by omega) code c keys hk x3 hm
    have e2 : zJ.F N ((c.1, (c.2.1, c.2.2)), (keys : Int)) = _ := e2
    have hsl : s.length <= 4 := by rw [<- x6.len]; omega
    obtain ⟨hs, gs, E, e3, o3⟩ := NewE_eq N hN ((keys : Int), ls) m2 s hsl x4 (hhide D2)
    have o4 := o3.call
    obtain ⟨q0, mid, q1, q2, q3, q4⟩ := o4
    rw [dF (show ¬ (((0 : Nat) : Int) > 0) by omega), condF, e2, bindV, x6.unok, condT, x6.unS, e3, bindV]
    have l5 := x5.length_le
    exact ⟨ls, s, hs, gs, c2, _, rfl, m2, hsl, x4, k2, x5.trans q0, mid, by omega, q2, q3.mono (by omega) (nR _), q4⟩
   | succ m =>
    have wn : IntKind.wrap .i64 (((m + 1 : Nat) : Int) - 1) = (m : Int) := by rw [zAF (by omega) (by omega)]; omega
    obtain ⟨l, c2, e2, a2, k2⟩ := l8_ok N (by omega) code c x3 hm
    have e2 : yD.F N (c.1, (c.2.1, c.2.2)) = _ := e2
    rw [dT (show ((m + 1 : Nat) : Int) > 0 by omega), condT, e2, bindV, wn, len1 o _ (by omega), condT]
    have hp := x6.push x5.length_le l
    exact ih m c2 _ (s ++ [l]) _ (by omega) (by rw [lA, List.length_singleton]; omega) k2 (by rw [List.all_append, x4]; simp only [List.all_cons, List.all_nil, a2, Bool.and_self]) (x5.trans (List.prefix_append _ _)) (by rw [lA]; exact hp)
 rw [yT.H_eq, e1, bindV]
 exact gl N v c1 [] [] D (by omega) (by rw [List.length_nil]; omega) k1 rfl (List.prefix_refl _) own_nil
def newD (e : Eng) (t : Tmg) : Dcd := (e, t, [], 0, 0, 0, 0)
theorem OkD_new {e : Eng} (he : OkE e) {t : Tmg} (ht : isT t = true) : OkD (newD e t) := by
 have hk := he.map.keys
 exact ⟨he, ht, by dsimp only [newD]; omega, by dsimp only [newD]; omega, Nat.zero_le _, trivial, by show (0 : Int) <= 0; omega, by dsimp only [newD]; omega⟩
theorem NewD_eq (N : Nat) (hN : 2200000 < N) {e : Eng} (he : OkE e) {t : Tmg} (ht : isT t = true) : yg.F N (e, t) = some (newD e t, true) := by
 have hD := OkD_new he ht
 have g := isD_spec N hN (newD e t) ⟨he.small, by show 0 <= _; omega⟩
 have g : yU.F N (e, (t, (([] : List Ev), ((0 : Int), ((0 : Int), ((0 : Int), (0 : Int))))))) = _ := g
 rw [yg.F_eq, g, bindV, (isD_iff _).2 hD, notT, condF, copyE_spec N (by omega) e he.small, bindV]
 rfl
theorem OkM.set0 {keys : Int} {ls : List (List Act)} (h : OkM (keys, ls)) {k : Nat} (hk : k < (ls.getD 0 []).length) {a : Act} (ha : okC2 ls.length a) : OkM (keys, ls.set 0 ((ls.getD 0 []).set k a)) := by
 obtain ⟨h1, h2, h3⟩ := h
 dsimp only at h1 h2 h3
 cases ls with
 | nil => simp at h2
 | cons x s =>
  refine ⟨h1, by dsimp only; simpa using h2, ?_⟩
  have e0 : (x :: s).getD 0 [] = x := rfl
  rw [e0] at hk ⊢
  simp only [List.set_cons_zero]
  simp only [laysB, layB, bA] at h3 ⊢
  have el : (List.set x k a :: s).length = (x :: s).length := rfl
  rw [el]
  refine ⟨⟨?_, ?_⟩, h3.2⟩
  ·rw [List.length_set]; exact h3.1.1
  ·rw [List.all_eq_true] at h3 ⊢
   intro y hy
   rcases List.mem_or_eq_of_mem_set hy with hy | hy
   ·exact h3.1.2 y hy
   ·rw [hy]; exact cell_of ha true
theorem l10N_eq (N : Nat) (hN : 2200000 < N) (code : List Int) (hm : code.length <= maxN) (c : List Int × Int × Int) (hc : okC code c) (keys : Nat) (hk : 1 <= keys /\ keys <= 32) (D : List HRow) :
  ∃ ls s t c' D', yF.H N (c, (keys : Int)) D = some ((newD (((keys : Int), ls), s, 0, [], 0, false) t, c'), D') /\ OkE (((keys : Int), ls), s, 0, [], 0, false) /\ isT t = true /\ t.1 <= 9 /\ okC code c' := by
 obtain ⟨ls, s, hs, gs, c1, E, e1, m1, s1, s2, k1, o1⟩ := l9N_eq N (by omega) code hm c hc keys hk (hhide D)
 have o2 := o1.call
 obtain ⟨_, mid, q1, q2, q3, q4⟩ := o2
 rw [yF.H_eq, e1, bindV]
 dsimp only
 generalize zBI D E = D1 at q2 q3 q4
 have gl : ∀ (n k : Nat) (c : List Int × Int × Int) (ls : List (List Act)) (D2 : List HRow), k <= keys -> keys < n + k -> okC code c -> OkM ((keys : Int), ls) -> Own (u := tA) 8 D2 D.length mid hs ls -> Own (u := tS) 10 D2 mid D1.length gs s ->
   ∃ ls t c' D', yF.L1 N n (keys : Int) (k : Int) c.1 c.2.1 c.2.2 (keys : Int) hs gs 0 [] 0 false D2 = some ((newD (((keys : Int), ls), s, 0, [], 0, false) t, c'), D') /\ OkE (((keys : Int), ls), s, 0, [], 0, false) /\ isT t = true /\ t.1 <= 9 /\ okC code c' := by
  intro n
  induction n with
  | zero => intro k c ls D2 x1 x2; omega
  | succ n ih =>
   intro k c ls D2 x1 x2 x3 x4 x5 x6
   rw [yF.L1_eq]
   by_cases hkk : k < keys
   ·obtain ⟨b, c2, e2, k2⟩ := once_ok N code c 2 x3 hm (by omega)
    have e2 : ye.F N ((c.1, (c.2.1, c.2.2)), 2) = _ := e2
    rw [dT (show (k : Int) < (keys : Int) by omega), condT, e2, bindV, yA (by omega)]
    cases b with
    | false =>
     rw [condF]
     exact ih (k + 1) c2 ls D2 (by omega) (by omega) k2 x4 x5 x6
    | true =>
     have hl := x4.len
     dsimp only at hl
     have h0 : 0 < ls.length := by omega
     have hrow := x4.row (i := 0) h0
     dsimp only at hrow
     have hh0 : zP 0 hs.length = true := by
      unfold zP; rw [x5.len, dT (by omega), dT (by omega)]; rfl
     have en : nth (none : Hnd) hs 0 = hs.getD 0 none := rfl
     obtain ⟨a, c3, e3, a1, a2, k3⟩ := zAP N code c2 40 k2 hm (by omega)
     obtain ⟨b, c4, e4, b1, b2, k4⟩ := zAP N code c3 15 k3 hm (by omega)
     have w1 : IntKind.wrap .i64 (1 + a) = 1 + a := zAF (by omega) (by omega)
     have w2 : IntKind.wrap .i64 (1 + b) = 1 + b := zAF (by omega) (by omega)
     have ok : okC2 ls.length (6, 1 + a, 1 + b, 0) := okC2_mt (by omega) ⟨by omega, by omega⟩ ⟨by omega, by omega⟩
     have hkr : k < (ls.getD 0 []).length := by omega
     have hM := x4.set0 hkr ok
     obtain ⟨p1, p2⟩ := x5.put (i := 0) h0 (v := (ls.getD 0 []).set k (6, 1 + a, 1 + b, 0)) (by rw [List.length_set])
     rw [condT, hh0, condT, en, x5.full h0, condT]
     dsimp only
     rw [e3, bindV]
     dsimp only
     rw [e4, bindV, x5.cut h0, inRange_nat, dT hkr, condT, w1, w2, Int.toNat_natCast]
     exact ih (k + 1) c4 _ _ (by omega) (by omega) k4 hM p1 (x6.apart p2 (Or.inr (nR _)))
   ·obtain ⟨t, c2, e2, t1, t2, k2⟩ := l10T_ok N code c x3 hm
    have e2 : yr.F N (c.1, (c.2.1, c.2.2)) = _ := e2
    have hE := OkE_new x4 s1 s2
    have hn := NewD_eq N hN hE t1
    rw [dF (show ¬ (k : Int) < (keys : Int) by omega), condF, e2, bindV, x5.unok, x6.unok, x5.unA, x6.unS, Bool.and_self, condT]
    have hn : yg.F N ((((keys : Int), ls), (s, ((0 : Int), (([] : List Hd), ((0 : Int), false))))), t) = _ := hn
    dsimp only
    rw [hn, bindV]
    exact ⟨ls, t, c2, _, rfl, hE, t1, t2, k2⟩
 obtain ⟨ls', t, c', D', r1, r2⟩ := gl N 0 c1 ls D1 (by omega) (by omega) k1 m1 q3 q4
 exact ⟨ls', s, t, c', D', r1, r2⟩
theorem runQ_len : ∀ (k : Nat) (d : Dcd), d.2.2.1.length <= k -> (runQ d).1.2.2.1.length <= d.2.2.1.length := by
 intro k
 induction k with
 | zero =>
  intro d h
  rw [zAm (zBG (d := d) (List.length_eq_zero_iff.1 (by omega)))]; exact nR _
 | succ k ih =>
  intro d h
  cases hs : stepD d with
  | none => rw [zAm hs]; exact nR _
  | some p =>
   obtain ⟨o, d'⟩ := p
   obtain ⟨f, hf⟩ := stepD_q hs
   have hl : d.2.2.1.length = d'.2.2.1.length + 1 := by rw [hf]; rfl
   rw [zBh hs]
   have := ih d' (by omega)
   dsimp only
   omega
theorem last_eq (N : Nat) (l : List Ev) (hl : l.length <= 1000) (t : Int) : zAA.F N (l, t) = some (lT t l) := by
 rw [zAA.F_eq]
 by_cases h : l.length = 0
 ·rw [bI (show (l.length : Int) = 0 by omega), condT, List.length_eq_zero_iff.1 h]; rfl
 ·have w : IntKind.wrap .i64 ((l.length : Int) - 1) = ((l.length - 1 : Nat) : Int) := by rw [zAF (by omega) (by omega)]; omega
  rw [bN (show (l.length : Int) ≠ 0 by omega), condF, w, inRange_nat, dT (show l.length - 1 < l.length by omega), condT, nth_nat, lT_last l t (by omega)]
structure DrawnD (d : Dcd) : Prop where
 ok : OkD d
 now : d.2.2.2.1 <= 70
 q : d.2.2.1.length <= 6
 term : d.2.1.1 <= 9
 rest : stepD d = none
theorem l10D_eq (N : Nat) (hN : 2200000 < N) (code : List Int) (hm : code.length <= maxN) (c : List Int × Int × Int) (hc : okC code c) (keys : Nat) (hk : 1 <= keys /\ keys <= 32) :
  ∃ d c', zAB.F N (c, (keys : Int)) = some (d, c') /\ DrawnD d /\ d.1.1.1 = (keys : Int) /\ okC code c' := by
 obtain ⟨ls, s, t, c1, D', e1, m1, t1, t2, k1⟩ := l10N_eq N hN code hm c hc keys hk (hhide [])
 have ht := (isT_iff t).1 t1
 obtain ⟨r, c2, e2, k2, f2, l2, n2⟩ := l4_ok N (by omega) code hm keys hk 6 (by omega) t.1 ⟨by omega, by omega⟩ c1 k1
 have e2 : yE.F N (c1, ((keys : Int), ((6 : Int), t.1))) = some (r, c2) := e2
 obtain ⟨v, c3, e3, v0, v1, k3⟩ := zAP N code c2 4 k2 hm (by omega)
 have hD := OkD_new m1 t1
 have hl0 := lT_ge keys r 0 0 f2
 have hP : OkP (newD (((keys : Int), ls), s, 0, [], 0, false) t) r (lT 0 r + v) := by
  refine ⟨hD, ⟨by dsimp only [newD]; omega, by omega⟩, ?_, by omega, by show ([] ++ r).length <= 64; rw [List.nil_append]; omega, f2⟩
  cases r with
  | nil => rfl
  | cons x q => exact dT (by have := (fol_time keys _ 0 0 f2 x (by simp)).1; dsimp only [newD]; omega)
 have hp := play_spec N hN (newD (((keys : Int), ls), s, 0, [], 0, false) t) ⟨m1.small, by show 0 <= _; omega⟩ r (by omega) (lT 0 r + v)
 rw [ply_ok hP] at hp
 have hx := hP.ext
 have hrun := run_sent _ (ext r (lT 0 r + v) (newD (((keys : Int), ls), s, 0, [], 0, false) t)) (nR _) hx
 have hro := run_ok _ (ext r (lT 0 r + v) (newD (((keys : Int), ls), s, 0, [], 0, false) t)) (nR _) (lT 0 r + v) (Int.le_refl _) [] (by simp) (by rw [show ext [] (lT 0 r + v) (ext r (lT 0 r + v) (newD (((keys : Int), ls), s, 0, [], 0, false) t)) = ext r (lT 0 r + v) (newD (((keys : Int), ls), s, 0, [], 0, false) t) from ext_self rfl]; exact hx)
 have hql := runQ_len _ (ext r (lT 0 r + v) (newD (((keys : Int), ls), s, 0, [], 0, false) t)) (nR _)
 have hw : IntKind.wrap .i64 (lT 0 r + v) = lT 0 r + v := zAF (by omega) (by omega)
 refine ⟨_, c3, ?_, ⟨hrun.1, by rw [hrun.2.2.2.2.1]; dsimp only [ext, newD]; omega, ?_, by rw [hrun.2.2.2.2.2.1]; exact t2, hrun.2.2.2.2.2.2⟩, by rw [hro.2.2.2.1]; rfl, k3⟩
 ·rw [zAB.F_eq, e1, bindV]
  have et : (newD (((keys : Int), ls), s, 0, [], 0, false) t).2.1.1 = t.1 := rfl
  dsimp only
  rw [et, e2, bindV]
  dsimp only
  by_cases hr : r.length = 0
  ·have : r = [] := List.length_eq_zero_iff.1 hr
   subst this
   have e0 : lT 0 ([] : List Ev) = 0 := rfl
   rw [e0] at hw hp
   rw [dF (by rw [List.length_nil]; omega), condF, e3, bindV]
   dsimp only
   rw [hw, hp, bindV, e0]
  ·have w : IntKind.wrap .i64 ((r.length : Int) - 1) = ((r.length - 1 : Nat) : Int) := by rw [zAF (by omega) (by omega)]; omega
   rw [dT (show (r.length : Int) > 0 by omega), condT, w, inRange_nat, dT (show r.length - 1 < r.length by omega), condT, e3, bindV, nth_nat, lT_last r 0 (by omega)]
   dsimp only
   rw [hw, hp, bindV]
 ·refine Nat.le_trans hql ?_
  show ([] ++ r).length <= 6
  rw [List.nil_append]; omega
theorem more_L2 (N : Nat) (code : List Int) (hm : code.length <= maxN) (d : Dcd) (hd : DrawnD d) (keys : Nat) (hkk : d.1.1.1 = (keys : Int)) (hk : 1 <= keys /\ keys <= 32) : ∀ (n m : Nat) (held : Nat) (time : Int) (c : List Int × Int × Int) (o : List Ev), m < n -> held < 4294967296 -> 0 <= time -> time + 11 * m <= 10000 -> okC code c -> o.length + m <= 1000 ->
  ∃ (r : List Ev) (c' : List Int × Int × Int), zT.L2 N n (held : Int) time (m : Int) c.1 c.2.1 c.2.2 d.1.1.1 d.1.1.2 d.1.2.1 d.1.2.2.1 d.1.2.2.2.1 d.1.2.2.2.2.1 d.1.2.2.2.2.2 d.2.1.1 d.2.1.2.1 d.2.1.2.2 d.2.2.1 d.2.2.2.1 d.2.2.2.2.1 d.2.2.2.2.2.1 d.2.2.2.2.2.2 o = some (o ++ r, c') /\ okC code c' /\ fol keys held time r /\ r.length <= m /\ lT time r <= time + 11 * m := by
 have ht := (isT_iff _).1 hd.ok.tm
 have ht9 := hd.term
 intro n
 induction n with
 | zero => intro m held time c o h1; omega
 | succ n ih =>
  intro m held time c o h1 h2 h3 h4 hc h5
  rw [zT.L2_eq]
  cases m with
  | zero => exact ⟨[], c, by rw [List.append_nil]; rfl, hc, trivial, nR _, by show time <= _; omega⟩
  | succ j =>
   have x2 := quo_rng (w := d.2.1.1) (d := 2) (by omega) (by omega)
   have x3 : IntKind.wrap .i64 (d.2.1.1 - 1) = d.2.1.1 - 1 := zAF (by omega) (by omega)
   have x4 : IntKind.wrap .i64 (d.2.1.1 + 1) = d.2.1.1 + 1 := zAF (by omega) (by omega)
   obtain ⟨v, c1, e1, g1, k1⟩ := l1PickInt_ok N code c [0, 0, 1, 1, 2, quoI .i64 d.2.1.1 2, IntKind.wrap .i64 (d.2.1.1 - 1), d.2.1.1, IntKind.wrap .i64 (d.2.1.1 + 1)] hc hm (by simp)
   have e1 : zx.F N ((c.1, (c.2.1, c.2.2)), [0, 0, 1, 1, 2, quoI .i64 d.2.1.1 2, IntKind.wrap .i64 (d.2.1.1 - 1), d.2.1.1, IntKind.wrap .i64 (d.2.1.1 + 1)]) = _ := e1
   have hv : 0 <= v /\ v <= 11 := by
    simp only [List.mem_cons, List.not_mem_nil, or_false, x3, x4] at g1
    omega
   obtain ⟨w, c2, e2, w0, w1, k2⟩ := zAP N code c1 d.1.1.1 k1 hm (by omega)
   obtain ⟨k, rfl⟩ := Int.eq_ofNat_of_zero_le w0
   have wt : IntKind.wrap .i64 (time + v) = time + v := zAF (by omega) (by omega)
   have wn : IntKind.wrap .i64 (((j + 1 : Nat) : Int) - 1) = (j : Int) := by rw [zAF (by omega) (by omega)]; omega
   obtain ⟨sx, sb⟩ := ev_bits (held := held) (k := k) h2 (by omega)
   obtain ⟨r, c', f1, f2, f3, f4, f5⟩ := ih j (held ^^^ 2 ^ k) (time + v) c2 (o ++ [(time + v, ((k : Int), !(held.testBit k)))]) (by omega) (xor32 h2 (by omega)) (by omega) (by omega) k2 (by simp only [lA, List.length_cons, List.length_nil]; omega)
   rw [dT (show ((j + 1 : Nat) : Int) > 0 by omega), condT, e1, bindV]
   dsimp only
   rw [e2, bindV]
   dsimp only
   rw [dT (show (0 : Int) <= (k : Int) by omega), condT, condT, wt, wn, sx, sb, len1 o _ (by omega), condT, f1]
   refine ⟨(time + v, ((k : Int), !(held.testBit k))) :: r, c', by rw [List.append_assoc]; rfl, f2, ⟨by dsimp only; omega, by dsimp only; omega, k, by omega, rfl, rfl, f3⟩, by simp only [List.length_cons]; omega, ?_⟩
   have : lT time ((time + v, ((k : Int), !(held.testBit k))) :: r) = lT (time + v) r := rfl
   rw [this]; omega
theorem more_L1 (N : Nat) (d : Dcd) (most : Int) (c : List Int × Int × Int) (K : Nat) (hK : K <= 32) (hq : d.2.2.1.length <= 1000) : ∀ (n i : Nat) (h : Nat), i <= d.2.2.1.length -> d.2.2.1.length < n + i -> h < 4294967296 -> (∃ t, fol K h t (d.2.2.1.drop i)) ->
  zT.L1 N n most (h : Int) (i : Int) c.1 c.2.1 c.2.2 d.1.1.1 d.1.1.2 d.1.2.1 d.1.2.2.1 d.1.2.2.2.1 d.1.2.2.2.2.1 d.1.2.2.2.2.2 d.2.1.1 d.2.1.2.1 d.2.1.2.2 d.2.2.1 d.2.2.2.1 d.2.2.2.2.1 d.2.2.2.2.2.1 d.2.2.2.2.2.2 = bindO (zC.F N ((c.1, (c.2.1, c.2.2)), IntKind.wrap .i64 (most + 1))) fun r3 =>
   zT.L2 N N (hA h (d.2.2.1.drop i) : Int) d.2.2.2.1 r3.1 r3.2.1 r3.2.2.1 r3.2.2.2 d.1.1.1 d.1.1.2 d.1.2.1 d.1.2.2.1 d.1.2.2.2.1 d.1.2.2.2.2.1 d.1.2.2.2.2.2 d.2.1.1 d.2.1.2.1 d.2.1.2.2 d.2.2.1 d.2.2.2.1 d.2.2.2.2.1 d.2.2.2.2.2.1 d.2.2.2.2.2.2 [] := by
 intro n
 induction n with
 | zero => intro i h h1 h2; omega
 | succ n ih =>
  intro i h h1 h2 h3 h4
  rw [zT.L1_eq]
  by_cases hi : i < d.2.2.1.length
  ·have ws : IntKind.wrap .i64 ((i : Int) + 1) = ((i + 1 : Nat) : Int) := yA (by omega)
   obtain ⟨t, h4⟩ := h4
   rw [yq dE d.2.2.1 i hi] at h4 ⊢
   obtain ⟨g1, g2, k, g3, g4, g5, g6⟩ := h4
   have hb := l10Bit_eq N (k := (d.2.2.1.getD i dE).2.1) (by omega)
   have hx : zAn .i64 (h : Int) (bit1 (d.2.2.1.getD i dE).2.1) = ((h ^^^ 2 ^ k : Nat) : Int) := by rw [g4]; exact xorI h3 (by omega)
   have e1 : ∀ r : List Ev, hA h (d.2.2.1.getD i dE :: r) = hA (h ^^^ 2 ^ k) r := by intro r; simp only [hA, List.foldl_cons, g4, Int.toNat_natCast]
   simp only [oJ, hi, decide_true, condT, inRange_nat, nth_nat, ws, hb, bindV, hx]
   rw [ih (i + 1) (h ^^^ 2 ^ k) (by omega) (by omega) (xor32 h3 (by omega)) ⟨_, g6⟩, e1]
  ·simp only [oJ, hi, decide_false, condF]
   rw [List.drop_of_length_le (by omega)]
   rfl
theorem more_ok (N : Nat) (hN : 1048576 < N) (code : List Int) (hm : code.length <= maxN) (d : Dcd) (hd : DrawnD d) (most : Nat) (hmost : most <= 50) (c : List Int × Int × Int) (hc : okC code c) :
  ∃ r c', zT.F N (c, d, (most : Int)) = some (r, c') /\ okC code c' /\ fol d.1.1.1.toNat (hA (hmN 0 d.1.2.2.2.1) d.2.2.1) d.2.2.2.1 r /\ r.length <= most /\ lT d.2.2.2.1 r <= d.2.2.2.1 + 11 * most := by
 have hk := hd.ok.eng.map.keys
 have hq := hd.q
 have hn := hd.now
 have hn0 := hd.ok.now
 obtain ⟨h1, h2⟩ := hmN_eq d.1.2.2.2.1 0 (by omega) hd.ok.eng.rng
 have h1 : hmGo 0 d.1.2.2.2.1 = _ := h1
 have w : IntKind.wrap .i64 ((most : Int) + 1) = (most : Int) + 1 := zAF (by omega) (by omega)
 obtain ⟨v, c1, e1, v0, v1, k1⟩ := zAP N code c ((most : Int) + 1) hc hm (by omega)
 obtain ⟨m, rfl⟩ := Int.eq_ofNat_of_zero_le v0
 have e1 : zC.F N ((c.1, (c.2.1, c.2.2)), (most : Int) + 1) = _ := e1
 have hA2 := hA_lt d.1.1.1.toNat (by omega) d.2.2.1 _ 0 h2 hd.ok.f
 have g1 := more_L1 N d (most : Int) c d.1.1.1.toNat (by omega) (by omega) N 0 (hmN 0 d.1.2.2.2.1) (by omega) (by omega) h2 ⟨0, by rw [List.drop_zero]; exact hd.ok.f⟩
 obtain ⟨r, c', f1, f2, f3, f4, f5⟩ := more_L2 N code hm d hd d.1.1.1.toNat (by omega) (by omega) N m (hA (hmN 0 d.1.2.2.2.1) d.2.2.1) d.2.2.2.1 c1 [] (by omega) hA2 (by omega) (by omega) k1 (by rw [List.length_nil]; omega)
 rw [List.drop_zero, w, e1, bindV] at g1
 rw [zT.F_eq, hm_spec N hN hd.ok.eng, bindV, h1]
 have g1 : zT.L1 N N (most : Int) (hmN 0 d.1.2.2.2.1 : Int) 0 c.1 c.2.1 c.2.2 d.1.1.1 d.1.1.2 d.1.2.1 d.1.2.2.1 d.1.2.2.2.1 d.1.2.2.2.2.1 d.1.2.2.2.2.2 d.2.1.1 d.2.1.2.1 d.2.1.2.2 d.2.2.1 d.2.2.2.1 d.2.2.2.2.1 d.2.2.2.2.2.1 d.2.2.2.2.2.2 = _ := g1
 exact ⟨r, c', g1.trans f1, f2, f3, by omega, by omega⟩
theorem MakeD (N : Nat) (hN : 2200000 < N) (code : List Int) (hm : code.length <= maxN) (hc : code.length < N) :
  ∃ d l en, ya.F N code = some (d, (l, en)) /\ DrawnD d /\ OkP d l en /\ l.length <= 9 /\ en <= 200 := by
 obtain ⟨c, e, k⟩ := l24New_ok N code 8 hm hc
 obtain ⟨v, c1, e1, v0, v1, k1⟩ := zAP N code c 4 k hm (by omega)
 obtain ⟨v, rfl⟩ := Int.eq_ofNat_of_zero_le v0
 have w1 : IntKind.wrap .i64 (1 + (v : Int)) = ((v + 1 : Nat) : Int) := by rw [zAF (by omega) (by omega)]; omega
 obtain ⟨d, c2, e2, d2, hk2, k2⟩ := l10D_eq N hN code hm c1 k1 (v + 1) ⟨by omega, by omega⟩
 obtain ⟨l, c3, e3, k3, f3, l3, t3⟩ := more_ok N (by omega) code hm d d2 9 (by omega) c2 k2
 have e3 : zT.F N (c2, (d, (9 : Int))) = _ := e3
 have e4 := last_eq N l (by omega) d.2.2.2.1
 obtain ⟨u, c5, e5, u0, u1, k5⟩ := zAP N code c3 12 k3 hm (by omega)
 have hn := d2.now
 have hn0 := d2.ok.now
 have hq := d2.q
 have hlt := lT_ge _ l _ _ f3
 have w2 : IntKind.wrap .i64 (lT d.2.2.2.1 l + u) = lT d.2.2.2.1 l + u := zAF (by omega) (by omega)
 refine ⟨d, l, lT d.2.2.2.1 l + u, ?_, d2, ?_, l3, by omega⟩
 ·rw [ya.F_eq, e, bindV, e1, bindV]
  dsimp only
  rw [w1, e2, bindV]
  dsimp only
  rw [e3, bindV]
  dsimp only
  rw [e4, bindV, e5, bindV, w2]
 ·have hft := fol_time _ l _ _ f3
  refine ⟨d2.ok, ⟨by omega, by omega⟩, ?_, ?_, by rw [lA]; omega, ?_⟩
  ·cases l with
   | nil => rfl
   | cons x q => exact dT (hft x (by simp)).1
  ·cases l with
   | nil => show (0 : Int) <= _; omega
   | cons x q =>
    have : lT 0 (x :: q) = lT d.2.2.2.1 (x :: q) := rfl
    omega
  ·rw [fol_append]
   refine ⟨d2.ok.f, ?_⟩
   exact fol_mono (nR _) l _ d.2.2.2.1 _ d2.ok.last f3
end Go.Kb
