/- Deciders are marked. -/
import Derived.Test.YticidpdbkjgebabGreatExactWaitUntilP124
namespace Go.Kb
set_option maxRecDepth 100000
theorem getDs {α : Type} (l : List α) (i : Nat) (x d : α) (h : i < l.length) : (l.set i x).getD i d = x := getSet l i x d h
theorem getDs_ne {α : Type} (l : List α) (i j : Nat) (x d : α) (h : i ≠ j) : (l.set i x).getD j d = l.getD j d := getSet_ne l i j x d h
theorem marksAct_L1 (N : Nat) : ∀ (n k : Nat) (c : Int) (o : List Act), o.length <= maxN -> k <= o.length -> o.length < n + k -> 0 <= c -> c + 4 * (o.length - k) <= 4611686018427387904 ->
  ∃ c' o', zX.L1 N n c (k : Int) o = some (c', o') /\ o'.length = o.length /\ (∀ j, j < k -> o'.getD j (0, 0, 0, 0) = o.getD j (0, 0, 0, 0)) /\ c <= c' /\ c' <= c + 4 * (o.length - k : Nat) /\ zT.L1 N n o' c (k : Int) = some c' := by
 intro n
 induction n with
 | zero => intro k c o h1 h0 h2 h3 h4; omega
 | succ n ih =>
  intro k c o h1 h0 h2 h3 h4
  unfold maxN at h1
  rw [zX.L1_eq]
  by_cases hk : k < o.length
  ·have w1 : IntKind.wrap .i64 (c + 1) = c + 1 := zBE (by omega) (by omega)
   have w2 : IntKind.wrap .i64 (c + 1 + 1) = c + 2 := by rw [zBE (by omega) (by omega)]; omega
   have w3 : IntKind.wrap .i64 (c + 2 + 1) = c + 3 := by rw [zBE (by omega) (by omega)]; omega
   have w4 : IntKind.wrap .i64 (c + 3 + 1) = c + 4 := by rw [zBE (by omega) (by omega)]; omega
   have ws : IntKind.wrap .i64 ((k : Int) + 1) = ((k + 1 : Nat) : Int) := yP (by omega)
   simp only [oJ, hk, decide_true, condT, inRange_nat, Int.toNat_natCast, List.length_set, w1, w2, w3, w4, ws, getDs o k _ _ hk, List.set_set]
   obtain ⟨c', o', e1, e2, e3, e4, e5, e6⟩ := ih (k + 1) (c + 4) (o.set k (c, (c + 1, (c + 2, c + 3)))) (by unfold maxN; rw [List.length_set]; omega) (by rw [List.length_set]; omega) (by rw [List.length_set]; omega) (by omega) (by rw [List.length_set]; omega)
   simp only [List.length_set] at e2 e5
   refine ⟨c', o', e1, e2, fun j hj => ?_, by omega, by omega, ?_⟩
   ·rw [e3 j (by omega), getDs_ne _ _ _ _ _ (by omega)]
   ·rw [zT.L1_eq]
    have hk' : k < o'.length := by omega
    have hg : o'.getD k (0, 0, 0, 0) = (c, (c + 1, (c + 2, c + 3))) := by rw [e3 k (by omega), getDs _ _ _ _ hk]
    simp only [oJ, hk', decide_true, condT, inRange_nat, nth_nat, hg, bne_self_eq_false, condF, w1, w2, w3, w4, ws]
    exact e6
  ·refine ⟨c, o, ?_, rfl, fun j _ => rfl, by omega, by omega, ?_⟩
   ·simp only [oJ, hk, decide_false, condF]
   ·rw [zT.L1_eq]
    simp only [oJ, hk, decide_false, condF]
theorem marksAct (N : Nat) (hN : 1048576 < N) (a : List Act) (c : Int) (h : a.length <= 1048576) (h0 : 0 <= c) (h1 : c <= 1152921504606846976) :
  ∃ c' o', zX.F N (a, c) = some (c', o') /\ c <= c' /\ c' <= c + 4 * a.length /\ zT.F N (o', c) = some c' /\ o'.length = a.length := by
 rw [zX.F_eq]
 obtain ⟨c', o', e1, e2, e3, e4, e5, e6⟩ := marksAct_L1 N N 0 c a (by unfold maxN; omega) (by omega) (by omega) h0 (by omega)
 exact ⟨c', o', e1, e4, by omega, by rw [zT.F_eq]; exact e6, e2⟩
theorem marksStp_L1 (N : Nat) : ∀ (n k : Nat) (c : Int) (o : List MSt), o.length <= maxN -> k <= o.length -> o.length < n + k -> 0 <= c -> c + 4 * (o.length - k) <= 4611686018427387904 ->
  ∃ c' o', z1.L1 N n c (k : Int) o = some (c', o') /\ o'.length = o.length /\ (∀ j, j < k -> o'.getD j (0, 0, 0) = o.getD j (0, 0, 0)) /\ c <= c' /\ c' <= c + 4 * (o.length - k : Nat) /\ zr.L1 N n o' c (k : Int) = some c' := by
 intro n
 induction n with
 | zero => intro k c o h1 h0 h2 h3 h4; omega
 | succ n ih =>
  intro k c o h1 h0 h2 h3 h4
  unfold maxN at h1
  rw [z1.L1_eq]
  by_cases hk : k < o.length
  ·have w1 : IntKind.wrap .i64 (c + 1) = c + 1 := zBE (by omega) (by omega)
   have w2 : IntKind.wrap .i64 (c + 1 + 1) = c + 2 := by rw [zBE (by omega) (by omega)]; omega
   have w3 : IntKind.wrap .i64 (c + 2 + 1) = c + 3 := by rw [zBE (by omega) (by omega)]; omega
   have ws : IntKind.wrap .i64 ((k : Int) + 1) = ((k + 1 : Nat) : Int) := yP (by omega)
   simp only [oJ, hk, decide_true, condT, inRange_nat, Int.toNat_natCast, List.length_set, w1, w2, w3, ws, getDs o k _ _ hk, List.set_set]
   obtain ⟨c', o', e1, e2, e3, e4, e5, e6⟩ := ih (k + 1) (c + 3) (o.set k (c, (c + 1, c + 2))) (by unfold maxN; rw [List.length_set]; omega) (by rw [List.length_set]; omega) (by rw [List.length_set]; omega) (by omega) (by rw [List.length_set]; omega)
   simp only [List.length_set] at e2 e5
   refine ⟨c', o', e1, e2, fun j hj => ?_, by omega, by omega, ?_⟩
   ·rw [e3 j (by omega), getDs_ne _ _ _ _ _ (by omega)]
   ·rw [zr.L1_eq]
    have hk' : k < o'.length := by omega
    have hg : o'.getD k (0, 0, 0) = (c, (c + 1, c + 2)) := by rw [e3 k (by omega), getDs _ _ _ _ hk]
    simp only [oJ, hk', decide_true, condT, inRange_nat, nth_nat, hg, bne_self_eq_false, condF, w1, w2, w3, ws]
    exact e6
  ·refine ⟨c, o, ?_, rfl, fun j _ => rfl, by omega, by omega, ?_⟩
   ·simp only [oJ, hk, decide_false, condF]
   ·rw [zr.L1_eq]
    simp only [oJ, hk, decide_false, condF]
theorem marksStp (N : Nat) (hN : 1048576 < N) (a : List MSt) (c : Int) (h : a.length <= 1048576) (h0 : 0 <= c) (h1 : c <= 1152921504606846976) :
  ∃ c' o', z1.F N (a, c) = some (c', o') /\ c <= c' /\ c' <= c + 4 * a.length /\ zr.F N (o', c) = some c' /\ o'.length = a.length := by
 rw [z1.F_eq]
 obtain ⟨c', o', e1, e2, e3, e4, e5, e6⟩ := marksStp_L1 N N 0 c a (by unfold maxN; omega) (by omega) (by omega) h0 (by omega)
 exact ⟨c', o', e1, e4, by omega, by rw [zr.F_eq]; exact e6, e2⟩
theorem marksHld_L1 (N : Nat) : ∀ (n k : Nat) (c : Int) (o : List Hd), o.length <= maxN -> k <= o.length -> o.length < n + k -> 0 <= c -> c + 5 * (o.length - k) <= 4611686018427387904 ->
  ∃ c' o', z3.L1 N n c (k : Int) o = some (c', o') /\ o'.length = o.length /\ (∀ j, j < k -> o'.getD j (0, 0, 0, 0, 0) = o.getD j (0, 0, 0, 0, 0)) /\ c <= c' /\ c' <= c + 5 * (o.length - k : Nat) /\ zt.L1 N n o' c (k : Int) = some c' := by
 intro n
 induction n with
 | zero => intro k c o h1 h0 h2 h3 h4; omega
 | succ n ih =>
  intro k c o h1 h0 h2 h3 h4
  unfold maxN at h1
  rw [z3.L1_eq]
  by_cases hk : k < o.length
  ·have w1 : IntKind.wrap .i64 (c + 1) = c + 1 := zBE (by omega) (by omega)
   have w2 : IntKind.wrap .i64 (c + 1 + 1) = c + 2 := by rw [zBE (by omega) (by omega)]; omega
   have w3 : IntKind.wrap .i64 (c + 2 + 1) = c + 3 := by rw [zBE (by omega) (by omega)]; omega
   have w4 : IntKind.wrap .i64 (c + 3 + 1) = c + 4 := by rw [zBE (by omega) (by omega)]; omega
   have w5 : IntKind.wrap .i64 (c + 4 + 1) = c + 5 := by rw [zBE (by omega) (by omega)]; omega
   have ws : IntKind.wrap .i64 ((k : Int) + 1) = ((k + 1 : Nat) : Int) := yP (by omega)
   simp only [oJ, hk, decide_true, condT, inRange_nat, Int.toNat_natCast, List.length_set, w1, w2, w3, w4, w5, ws, getDs o k _ _ hk, List.set_set]
   obtain ⟨c', o', e1, e2, e3, e4, e5, e6⟩ := ih (k + 1) (c + 5) (o.set k (c, (c + 1, (c + 2, (c + 3, c + 4))))) (by unfold maxN; rw [List.length_set]; omega) (by rw [List.length_set]; omega) (by rw [List.length_set]; omega) (by omega) (by rw [List.length_set]; omega)
   simp only [List.length_set] at e2 e5
   refine ⟨c', o', e1, e2, fun j hj => ?_, by omega, by omega, ?_⟩
   ·rw [e3 j (by omega), getDs_ne _ _ _ _ _ (by omega)]
   ·rw [zt.L1_eq]
    have hk' : k < o'.length := by omega
    have hg : o'.getD k (0, 0, 0, 0, 0) = (c, (c + 1, (c + 2, (c + 3, c + 4)))) := by rw [e3 k (by omega), getDs _ _ _ _ hk]
    simp only [oJ, hk', decide_true, condT, inRange_nat, nth_nat, hg, bne_self_eq_false, condF, w1, w2, w3, w4, w5, ws]
    exact e6
  ·refine ⟨c, o, ?_, rfl, fun j _ => rfl, by omega, by omega, ?_⟩
   ·simp only [oJ, hk, decide_false, condF]
   ·rw [zt.L1_eq]
    simp only [oJ, hk, decide_false, condF]
theorem marksHld (N : Nat) (hN : 1048576 < N) (a : List Hd) (c : Int) (h : a.length <= 1048576) (h0 : 0 <= c) (h1 : c <= 1152921504606846976) :
  ∃ c' o', z3.F N (a, c) = some (c', o') /\ c <= c' /\ c' <= c + 5 * a.length /\ zt.F N (o', c) = some c' /\ o'.length = a.length := by
 rw [z3.F_eq]
 obtain ⟨c', o', e1, e2, e3, e4, e5, e6⟩ := marksHld_L1 N N 0 c a (by unfold maxN; omega) (by omega) (by omega) h0 (by omega)
 exact ⟨c', o', e1, e4, by omega, by rw [zt.F_eq]; exact e6, e2⟩
theorem smallL_set {α : Type} {vs : List (List α)} (h : smallL vs) (i : Nat) {o : List α} (ho : o.length <= 1048576) : smallL (vs.set i o) := by
 refine ⟨by rw [List.length_set]; exact h.1, fun x hxm => ?_⟩
 rcases List.mem_or_eq_of_mem_set hxm with g | g
 ·exact h.2 x g
 ·rw [g]; exact ho
theorem markActh_L1 (N : Nat) (hN : 1048576 < N) (hs : List Hnd) (lo hi : Nat) : ∀ (n i : Nat) (c : Int) (vs : List (List Act)) (D : List HRow), smallL vs -> i <= vs.length -> vs.length < n + i -> 0 <= c ->
  c + (vs.length - i : Nat) * 4194304 <= 1152921504606846976 -> Own (u := tA) 8 D lo hi hs vs ->
  ∃ c' vs' D', zN.L1 N n hs c (i : Int) D = some (c', D') /\ Fr lo hi D D' /\ Own (u := tA) 8 D' lo hi hs vs' /\ vs'.length = vs.length /\ (∀ j, j < i -> vs'.getD j [] = vs.getD j []) /\
   c <= c' /\ c' <= c + (vs.length - i : Nat) * 4194304 /\ zO.L1 N n vs' c (i : Int) = some c' := by
 intro n
 induction n with
 | zero => intro i c vs D h0 h1 h2; omega
 | succ n ih =>
  intro i c vs D h0 h1 h2 h3 h4 h5
  have hal := h0.1
  have hl := h5.len
  rw [zN.L1_eq, hl]
  by_cases hi' : i < vs.length
  ·have hx := h0.2 _ (zBT [] vs i hi')
   obtain ⟨c1, o1, m1, m2, m3, m4, m5⟩ := marksAct N hN (vs.getD i []) c hx h3 (by omega)
   obtain ⟨q1, q2⟩ := h5.put hi' (v := o1) m5
   have cutE := h5.cut hi'
   rw [dT (Int.ofNat_lt.mpr hi'), condT, inRange_nat, dT hi', condT, nth_nat, h5.full hi', condT, cutE, m1, bindV, yP (by omega)]
   obtain ⟨c', vs', D', e1, e2, e3, e4, e5, e6, e7, e8⟩ := ih (i + 1) c1 (vs.set i o1) _ (smallL_set h0 i (by omega)) (by rw [List.length_set]; omega) (by rw [List.length_set]; omega) (by omega) (by rw [List.length_set]; omega) q1
   rw [List.length_set] at e4 e7
   refine ⟨c', vs', D', e1, q2.trans e2, e3, e4, fun j hj => ?_, by omega, by omega, ?_⟩
   ·rw [e5 j (by omega), getDs_ne _ _ _ _ _ (by omega)]
   ·have hk' : i < vs'.length := by omega
    have hg : vs'.getD i [] = o1 := by rw [e5 i (by omega), getDs _ _ _ _ hi']
    rw [zO.L1_eq, dT (Int.ofNat_lt.mpr hk'), condT, inRange_nat, dT hk', condT, nth_nat, hg, m4, bindV, dF (by omega), condF, yP (by omega)]
    exact e8
  ·rw [dF (by omega), condF]
   refine ⟨c, vs, D, rfl, Fr.refl, h5, rfl, fun _ _ => rfl, Int.le_refl _, by omega, ?_⟩
   rw [zO.L1_eq, dF (by omega), condF]
theorem markStph_L1 (N : Nat) (hN : 1048576 < N) (hs : List Hnd) (lo hi : Nat) : ∀ (n i : Nat) (c : Int) (vs : List (List MSt)) (D : List HRow), smallL vs -> i <= vs.length -> vs.length < n + i -> 0 <= c ->
  c + (vs.length - i : Nat) * 4194304 <= 1152921504606846976 -> Own (u := tS) 10 D lo hi hs vs ->
  ∃ c' vs' D', zW.L1 N n hs c (i : Int) D = some (c', D') /\ Fr lo hi D D' /\ Own (u := tS) 10 D' lo hi hs vs' /\ vs'.length = vs.length /\ (∀ j, j < i -> vs'.getD j [] = vs.getD j []) /\
   c <= c' /\ c' <= c + (vs.length - i : Nat) * 4194304 /\ ze.L1 N n vs' c (i : Int) = some c' := by
 intro n
 induction n with
 | zero => intro i c vs D h0 h1 h2; omega
 | succ n ih =>
  intro i c vs D h0 h1 h2 h3 h4 h5
  have hal := h0.1
  have hl := h5.len
  rw [zW.L1_eq, hl]
  by_cases hi' : i < vs.length
  ·have hx := h0.2 _ (zBT [] vs i hi')
   obtain ⟨c1, o1, m1, m2, m3, m4, m5⟩ := marksStp N hN (vs.getD i []) c hx h3 (by omega)
   obtain ⟨q1, q2⟩ := h5.put hi' (v := o1) m5
   have cutE := h5.cut hi'
   rw [dT (Int.ofNat_lt.mpr hi'), condT, inRange_nat, dT hi', condT, nth_nat, h5.full hi', condT, cutE, m1, bindV, yP (by omega)]
   obtain ⟨c', vs', D', e1, e2, e3, e4, e5, e6, e7, e8⟩ := ih (i + 1) c1 (vs.set i o1) _ (smallL_set h0 i (by omega)) (by rw [List.length_set]; omega) (by rw [List.length_set]; omega) (by omega) (by rw [List.length_set]; omega) q1
   rw [List.length_set] at e4 e7
   refine ⟨c', vs', D', e1, q2.trans e2, e3, e4, fun j hj => ?_, by omega, by omega, ?_⟩
   ·rw [e5 j (by omega), getDs_ne _ _ _ _ _ (by omega)]
   ·have hk' : i < vs'.length := by omega
    have hg : vs'.getD i [] = o1 := by rw [e5 i (by omega), getDs _ _ _ _ hi']
    rw [ze.L1_eq, dT (Int.ofNat_lt.mpr hk'), condT, inRange_nat, dT hk', condT, nth_nat, hg, m4, bindV, dF (by omega), condF, yP (by omega)]
    exact e8
  ·rw [dF (by omega), condF]
   refine ⟨c, vs, D, rfl, Fr.refl, h5, rfl, fun _ _ => rfl, Int.le_refl _, by omega, ?_⟩
   rw [ze.L1_eq, dF (by omega), condF]
theorem Fr.wide {lo hi lo' hi' : Nat} {D D' : List HRow} (h : Fr lo hi D D') (h1 : lo' <= lo) (h2 : hi <= hi') : Fr lo' hi' D D' := ⟨h.1, fun k hk => h.2 k (by omega)⟩
theorem markD (N : Nat) (hN : 1048576 < N) (d : Dcd) (h : smallE d.1) (hq : d.2.2.1.length <= 1048576) {hs gs : List Hnd} {D : List HRow} {lo m hi : Nat} (h1 : lo <= m) (h2 : m <= hi) (o1 : Own (u := tA) 8 D lo m hs d.1.1.2) (o2 : Own (u := tS) 10 D m hi gs d.1.2.1) :
  ∃ k hl q vs ws D', yi.H N ((((d.1.1.1, hs), (gs, d.1.2.2)), d.2), 1) D = some ((k, (hl, q)), D') /\ 0 <= k /\ k <= 35184372088832 /\ Fr lo hi D D' /\ Own (u := tA) 8 D' lo m hs vs /\ Own (u := tS) 10 D' m hi gs ws /\
   yo.F N ((((d.1.1.1, vs), (ws, (d.1.2.2.1, (hl, d.1.2.2.2.2)))), (d.2.1, (q, d.2.2.2))), 1) = some k := by
 obtain ⟨s1, s2, s3⟩ := h
 have a1 := s1.1
 have a2 := s2.1
 obtain ⟨c1, vs, D1, e1, e2, e3, e4, _, e6, e7, e8⟩ := markActh_L1 N hN hs lo m N 0 1 d.1.1.2 D s1 (by omega) (by omega) (by omega) (by omega) o1
 have o3 := o2.apart e2 (Or.inr (nR _))
 obtain ⟨c2, ws, D2, f1, f2, f3, f4, _, f6, f7, f8⟩ := markStph_L1 N hN gs m hi N 0 c1 d.1.2.1 D1 s2 (by omega) (by omega) (by omega) (by omega) o3
 obtain ⟨c3, hl, g1, g2, g3, g4, _⟩ := marksHld N hN d.1.2.2.2.1 c2 s3 (by omega) (by omega)
 obtain ⟨c4, q, i1, i2, i3, i4, _⟩ := marksE_eq N d.2.2.1 c3 (by omega) (by unfold maxN; omega) (by omega) (by omega)
 refine ⟨c4, hl, q, vs, ws, D2, ?_, by omega, by omega, (e2.wide (nR _) h2).trans (f2.wide h1 (nR _)), e3.apart f2 (Or.inl (nR _)), f3, ?_⟩
 ·rw [yi.H_eq, y5.H_eq, y4.H_eq, zN.H_eq]
  dsimp only
  have e1 : zN.L1 N N hs 1 0 D = _ := e1
  rw [e1, bindV, bindV, zW.H_eq]
  dsimp only
  have f1 : zW.L1 N N gs c1 0 D1 = _ := f1
  rw [f1, bindV]
  dsimp only
  rw [g1, bindV, bindV]
  dsimp only
  rw [i1, bindV]
 ·rw [yo.F_eq, zAP.F_eq, zAO.F_eq, zO.F_eq]
  dsimp only
  have e8 : zO.L1 N N vs 1 0 = _ := e8
  have f8 : ze.L1 N N ws c1 0 = _ := f8
  rw [e8, bindV, dF (by omega), condF, bindV, dF (by omega), condF, ze.F_eq, f8, bindV, dF (by omega), condF, g4, bindV, dF (by omega), condF, bindV, dF (by omega), condF, i4, bindV, dF (by omega), condF]
end Go.Kb
namespace Go.Kb
set_option maxRecDepth 100000
section
variable {D D' : List HRow} {lo hi : Nat} {A : List SH} {V : List Snt}
theorem sh2 (A : List SH) (i : Nat) : ((A.map Prod.snd).map Prod.snd).getD i none = (A.getD i (0, 0, none)).2.2 := by
 rw [snd_getD]
 have : (A.map Prod.snd).getD i (0, none) = (A.getD i (0, 0, none)).2 := map_getD Prod.snd ((0, 0, none) : SH) A i
 rw [this]
theorem sv2 (V : List Snt) (i : Nat) : ((V.map Prod.snd).map Prod.snd).getD i [] = (V.getD i (0, 0, [])).2.2 := by
 rw [snd_getD']
 have : (V.map Prod.snd).getD i (0, []) = (V.getD i (0, 0, [])).2 := map_getD Prod.snd ((0, 0, []) : Snt) V i
 rw [this]
theorem OwnS.full (h : OwnS D lo hi A V) {i : Nat} (hi' : i < V.length) : hfull D 2 (.int .i64) (A.getD i (0, 0, none)).2.2 = true := by
 have := h.2.2.full (i := i) (by rw [List.length_map, List.length_map]; exact hi')
 rw [sh2] at this
 exact this
theorem OwnS.cut (h : OwnS D lo hi A V) {i : Nat} (hi' : i < V.length) : hcut D (.int .i64) (A.getD i (0, 0, none)).2.2 = (V.getD i (0, 0, [])).2.2 := by
 have := h.2.2.cut (i := i) (by rw [List.length_map, List.length_map]; exact hi')
 rw [sh2, sv2] at this
 exact this
theorem OwnS.okAt (h : OwnS D lo hi A V) {i : Nat} (hi' : i < V.length) : hok D (.int .i64) (A.getD i (0, 0, none)).2.2 = true := by
 have := h.2.2.okAt (i := i) (by rw [List.length_map, List.length_map]; exact hi')
 rw [sh2] at this
 exact this
theorem OwnS.fst (h : OwnS D lo hi A V) (i : Nat) : (A.getD i (0, 0, none)).1 = (V.getD i (0, 0, [])).1 := by
 have e1 : (A.map Prod.fst).getD i 0 = (A.getD i (0, 0, none)).1 := map_getD Prod.fst ((0, 0, none) : SH) A i
 have e2 : (V.map Prod.fst).getD i 0 = (V.getD i (0, 0, [])).1 := map_getD Prod.fst ((0, 0, []) : Snt) V i
 rw [<- e1, <- e2, h.1]
theorem OwnS.mod (h : OwnS D lo hi A V) (i : Nat) : (A.getD i (0, 0, none)).2.1 = (V.getD i (0, 0, [])).2.1 := by
 have := h.2.fst i
 have e1 : (A.map Prod.snd).getD i (0, none) = (A.getD i (0, 0, none)).2 := map_getD Prod.snd ((0, 0, none) : SH) A i
 have e2 : (V.map Prod.snd).getD i (0, []) = (V.getD i (0, 0, [])).2 := map_getD Prod.snd ((0, 0, []) : Snt) V i
 rw [e1, e2] at this
 exact this
theorem OwnS.unok (h : OwnS D lo hi A V) : List.all A (Ty.unok D (.pair (.int .i64) (.pair (.int .i64) (.hnd (.int .i64))))) = true := by
 rw [List.all_eq_true]
 intro x hx
 obtain ⟨i, hi', rfl⟩ := getD_of_mem (d := ((0, 0, none) : SH)) hx
 have := h.okAt (i := i) (by rw [<- h.len]; exact hi')
 show (true && (true && hok D _ _)) = true
 rw [this]; rfl
theorem mapAtS (f : SH -> Snt) (A : List SH) (V : List Snt) (hl : A.length = V.length) (h : ∀ i, i < V.length -> f (A.getD i (0, 0, none)) = V.getD i (0, 0, [])) : List.map f A = V := by
 refine List.ext_getElem (by rw [List.length_map]; exact hl) fun i h1 h2 => ?_
 have h3 : i < A.length := by omega
 have := h i h2
 rw [List.getD_eq_getElem?_getD, List.getD_eq_getElem?_getD, List.getElem?_eq_getElem (l := V) h2, List.getElem?_eq_getElem (l := A) h3] at this
 rw [List.getElem_map]
 exact this
theorem OwnS.un (h : OwnS D lo hi A V) : (List.map (Ty.unden D (.pair (.int .i64) (.pair (.int .i64) (.hnd (.int .i64))))) A : List (Int × Int × List Int)) = V :=
 mapAtS (Ty.unden D (.pair (.int .i64) (.pair (.int .i64) (.hnd (.int .i64))))) A V h.len fun i hi' => Prod.ext (h.fst i) (Prod.ext (h.mod i) (h.cut hi'))
theorem setSelf {α : Type} (l : List α) (i : Nat) (d : α) (h : i < l.length) : l.set i (l.getD i d) = l := by
 refine List.ext_getElem (by rw [List.length_set]) fun j h1 h2 => ?_
 rw [List.getElem_set]
 split
 ·rename_i e; subst e; rw [List.getD_eq_getElem?_getD, List.getElem?_eq_getElem h]; rfl
 ·rfl
theorem OwnS.put (h : OwnS D lo hi A V) {i : Nat} (hi' : i < V.length) (t m : Int) {v : List Int} (hv : v.length = (V.getD i (0, 0, [])).2.2.length) :
  OwnS (hput (hgone D (A.getD i (0, 0, none)).2.2) (A.getD i (0, 0, none)).2.2 2 (.int .i64) v) lo hi (A.set i (t, (m, (A.getD i (0, 0, none)).2.2))) (V.set i (t, (m, v))) /\ Fr lo hi D (hput (hgone D (A.getD i (0, 0, none)).2.2) (A.getD i (0, 0, none)).2.2 2 (.int .i64) v) := by
 have hl := h.len
 obtain ⟨p1, p2⟩ := h.2.2.put (i := i) (v := v) (by rw [List.length_map, List.length_map]; exact hi') (by rw [sv2]; exact hv)
 rw [sh2] at p1 p2
 refine ⟨⟨?_, ?_, ?_⟩, p2⟩
 ·rw [List.map_set, List.map_set, h.1]
 ·rw [List.map_set, List.map_set, List.map_set, List.map_set, h.2.1]
 ·rw [List.map_set, List.map_set, List.map_set, List.map_set]
  have e1 : ((A.map Prod.snd).map Prod.snd).set i (A.getD i (0, 0, none)).2.2 = (A.map Prod.snd).map Prod.snd := by
   rw [<- sh2]
   exact setSelf _ _ _ (by rw [List.length_map, List.length_map]; omega)
  show Own (u := .int .i64) _ _ _ _ (((A.map Prod.snd).map Prod.snd).set i (A.getD i (0, 0, none)).2.2) (((V.map Prod.snd).map Prod.snd).set i v)
  rw [e1]
  exact p1
end
def Fr2 (lo a b hi : Nat) (D D' : List HRow) : Prop := D'.length = D.length /\ ∀ k, ¬ (lo <= k /\ k < a) -> ¬ (b <= k /\ k < hi) -> D'[k]? = D[k]?
theorem Fr2.refl {lo a b hi : Nat} {D : List HRow} : Fr2 lo a b hi D D := ⟨rfl, fun _ _ _ => rfl⟩
theorem Fr2.left {lo a b hi : Nat} {D D' D'' : List HRow} (h : Fr lo a D D') (g : Fr2 lo a b hi D' D'') : Fr2 lo a b hi D D'' := ⟨g.1.trans h.1, fun k h1 h2 => (g.2 k h1 h2).trans (h.2 k h1)⟩
theorem Fr2.right {lo a b hi : Nat} {D D' D'' : List HRow} (h : Fr b hi D D') (g : Fr2 lo a b hi D' D'') : Fr2 lo a b hi D D'' := ⟨g.1.trans h.1, fun k h1 h2 => (g.2 k h1 h2).trans (h.2 k h2)⟩
theorem getD_app {α : Type} (l r : List α) (i : Nat) (d : α) : (l ++ r).getD i d = if i < l.length then l.getD i d else r.getD (i - l.length) d := by
 rw [List.getD_eq_getElem?_getD]
 by_cases h : i < l.length
 ·rw [List.getElem?_append_left h, if_pos h, List.getD_eq_getElem?_getD]
 ·rw [List.getElem?_append_right (by omega), if_neg h, List.getD_eq_getElem?_getD]
theorem markSent_L1 (N : Nat) (hN : 1048576 < N) (lo a b hi : Nat) (hab : a <= b) : ∀ (n i : Nat) (c : Int) (A1 A2 : List SH) (V1 V2 : List Snt) (D : List HRow), (∀ s ∈ V1 ++ V2, s.2.2.length <= 1048576) -> i <= (V1 ++ V2).length -> (V1 ++ V2).length < n + i -> (V1 ++ V2).length <= 1000000 -> 0 <= c ->
  c + ((V1 ++ V2).length - i : Nat) * 2097152 <= 1152921504606846976 -> OwnS D lo a A1 V1 -> OwnS D b hi A2 V2 ->
  ∃ c' B1 B2 W1 W2 D', zd.L1 N n c (i : Int) (A1 ++ A2) D = some ((c', B1 ++ B2), D') /\ Fr2 lo a b hi D D' /\ OwnS D' lo a B1 W1 /\ OwnS D' b hi B2 W2 /\ W1.length = V1.length /\ W2.length = V2.length /\ (∀ j, j < i -> (W1 ++ W2).getD j (0, 0, []) = (V1 ++ V2).getD j (0, 0, [])) /\
   c <= c' /\ zq.L1 N n (W1 ++ W2) c (i : Int) = some c' := by
 intro n
 induction n with
 | zero => intro i c A1 A2 V1 V2 D h0 h1 h2; omega
 | succ n ih =>
  intro i c A1 A2 V1 V2 D h0 h1 h2 h3 h4 h5 o1 o2
  have l1 := o1.len
  have l2 := o2.len
  have hA : (A1 ++ A2).length = (V1 ++ V2).length := by rw [lA, lA, l1, l2]
  rw [zd.L1_eq]
  by_cases hi' : i < (V1 ++ V2).length
  ·have hiA : i < (A1 ++ A2).length := by omega
   have hx := h0 _ (zBT (0, 0, []) _ i hi')
   have w1 : IntKind.wrap .i64 (c + 1) = c + 1 := zBE (by omega) (by omega)
   have w2 : IntKind.wrap .i64 (c + 1 + 1) = c + 2 := by rw [zBE (by omega) (by omega)]; omega
   have ws : IntKind.wrap .i64 ((i : Int) + 1) = ((i + 1 : Nat) : Int) := yP (by omega)
   obtain ⟨c1, v1, m1, m2, m3, m4, m5⟩ := marksI_eq N ((V1 ++ V2).getD i (0, 0, [])).2.2 (c + 2) (by omega) (by unfold maxN; omega) (by omega) (by omega)
   simp only [oJ, hiA, decide_true, condT, inRange_nat, Int.toNat_natCast, List.length_set, w1, w2, ws, getDs (A1 ++ A2) i _ _ hiA, List.set_set]
   -- the rest, once a row is marked
   have rest : ∀ (B1 B2 : List SH) (U1 U2 : List Snt) (D2 : List HRow), U1 ++ U2 = (V1 ++ V2).set i (c, (c + 1, v1)) -> U1.length = V1.length -> U2.length = V2.length -> OwnS D2 lo a B1 U1 -> OwnS D2 b hi B2 U2 ->
     ∃ c' B1' B2' W1 W2 D', zd.L1 N n c1 ((i + 1 : Nat) : Int) (B1 ++ B2) D2 = some ((c', B1' ++ B2'), D') /\ Fr2 lo a b hi D2 D' /\ OwnS D' lo a B1' W1 /\ OwnS D' b hi B2' W2 /\ W1.length = V1.length /\ W2.length = V2.length /\ (∀ j, j < i -> (W1 ++ W2).getD j (0, 0, []) = (V1 ++ V2).getD j (0, 0, [])) /\
      c <= c' /\ zq.L1 N (n + 1) (W1 ++ W2) c (i : Int) = some c' := by
    intro B1 B2 U1 U2 D2 eU u1 u2 p1 p2
    have hUl : (U1 ++ U2).length = (V1 ++ V2).length := by rw [eU, List.length_set]
    obtain ⟨c', B1', B2', W1, W2, D', e1, e2, e3, e4, e5, e6, e7, e8, e9⟩ := ih (i + 1) c1 B1 B2 U1 U2 D2 (fun s hs => by
     rw [eU] at hs
     rcases List.mem_or_eq_of_mem_set hs with g | g
     ·exact h0 s g
     ·rw [g, m5]; exact hx) (by omega) (by omega) (by omega) (by omega) (by omega) p1 p2
    refine ⟨c', B1', B2', W1, W2, D', e1, e2, e3, e4, by omega, by omega, fun j hj => ?_, by omega, ?_⟩
    ·rw [e7 j (by omega), eU, getDs_ne _ _ _ _ _ (by omega)]
    ·have hk' : i < (W1 ++ W2).length := by rw [lA] at hi' ⊢; omega
     have hg : (W1 ++ W2).getD i (0, 0, []) = (c, (c + 1, v1)) := by rw [e7 i (by omega), eU, getDs _ _ _ _ hi']
     rw [zq.L1_eq]
     simp only [oJ, hk', decide_true, condT, inRange_nat, nth_nat, hg, bne_self_eq_false, condF, w1, w2, ws]
     rw [m4, bindV, dF (by omega), condF]
     exact e9
   by_cases hlt : i < V1.length
   ·have hg1 : (A1 ++ A2).getD i (0, 0, none) = A1.getD i (0, 0, none) := by rw [getD_app, if_pos (by omega)]
    have hg2 : (V1 ++ V2).getD i (0, 0, []) = V1.getD i (0, 0, []) := by rw [getD_app, if_pos hlt]
    obtain ⟨q1, q2⟩ := o1.put hlt c (c + 1) (v := v1) (by rw [m5, hg2])
    rw [hg1, o1.full hlt, condT, o1.cut hlt, <- hg2, m1, bindV]
    dsimp only
    rw [List.set_append_left _ _ (by omega)]
    obtain ⟨c', B1', B2', W1, W2, D', e1, e2, e3⟩ := rest _ A2 _ V2 _ (by rw [List.set_append_left _ _ hlt]) (by rw [List.length_set]) rfl q1 (o2.apart q2 (Or.inr hab))
    exact ⟨c', B1', B2', W1, W2, D', e1, Fr2.left q2 e2, e3⟩
   ·have hj : i - V1.length < V2.length := by rw [lA] at hi'; omega
    have hg1 : (A1 ++ A2).getD i (0, 0, none) = A2.getD (i - V1.length) (0, 0, none) := by rw [getD_app, if_neg (by omega), l1]
    have hg2 : (V1 ++ V2).getD i (0, 0, []) = V2.getD (i - V1.length) (0, 0, []) := by rw [getD_app, if_neg hlt]
    obtain ⟨q1, q2⟩ := o2.put hj c (c + 1) (v := v1) (by rw [m5, hg2])
    rw [hg1, o2.full hj, condT, o2.cut hj, <- hg2, m1, bindV]
    dsimp only
    rw [List.set_append_right _ _ (by omega), l1]
    obtain ⟨c', B1', B2', W1, W2, D', e1, e2, e3⟩ := rest A1 _ V1 _ _ (by rw [List.set_append_right _ _ (by omega)]) rfl (by rw [List.length_set]) (o1.apart q2 (Or.inl hab)) q1
    exact ⟨c', B1', B2', W1, W2, D', e1, Fr2.right q2 e2, e3⟩
  ·have hiA : ¬ i < (A1 ++ A2).length := by omega
   simp only [oJ, hiA, decide_false, condF]
   refine ⟨c, A1, A2, V1, V2, D, rfl, Fr2.refl, o1, o2, rfl, rfl, fun _ _ => rfl, Int.le_refl _, ?_⟩
   rw [zq.L1_eq, dF (by omega), condF]
theorem markS (N : Nat) (hN : 1048576 < N) {lo a b hi : Nat} (hab : a <= b) {A1 A2 : List SH} {V1 V2 : List Snt} {D : List HRow} (c : Int) (h0 : ∀ s ∈ V1 ++ V2, s.2.2.length <= 1048576) (h3 : (V1 ++ V2).length <= 1000000) (h4 : 0 <= c) (h5 : c <= 35184372088832) (o1 : OwnS D lo a A1 V1) (o2 : OwnS D b hi A2 V2) :
  ∃ c' B1 B2 W1 W2 D', zd.H N (A1 ++ A2, c) D = some ((c', B1 ++ B2), D') /\ Fr2 lo a b hi D D' /\ OwnS D' lo a B1 W1 /\ OwnS D' b hi B2 W2 /\ 0 <= c' /\ zq.F N (W1 ++ W2, c) = some c' := by
 obtain ⟨c', B1, B2, W1, W2, D', e1, e2, e3, e4, _, _, _, e8, e9⟩ := markSent_L1 N hN lo a b hi hab N 0 c A1 A2 V1 V2 D h0 (by omega) (by omega) h3 h4 (by omega) o1 o2
 exact ⟨c', B1, B2, W1, W2, D', by rw [zd.H_eq]; exact e1, e2, e3, e4, by omega, by rw [zq.F_eq]; exact e9⟩
end Go.Kb
