/- What the reference plays. -/
import Derived.Test.YticidpdbkjgebabGreatExactWaitUntilP102toP103
import Derived.Test.YticidpdbkjgebabGreatExactWaitUntilP8toP75
namespace Go.Kb
def downV (d : Dcd) (w : Int) : List Rpt × Int × Bool × Dcd := match stepD d with
 | some (o, d') => (o, d'.2.2.2.2.1, true, (d'.1, d.2.1, d.2.2.1, d.2.2.2.1, d.2.2.2.2.1, d'.2.2.2.2.2))
 | none => ([], w, false, d)
theorem down_v (N : Nat) (hN : 1048576 < N) (d : Dcd) (h : OkD d) {f : Ev} {r : List Ev} (hq : d.2.2.1 = f :: r) (hd : f.2.2 = true) : zAr.F N (d, f, maxI d.2.2.2.2.1 f.1) = some (downV d (maxI d.2.2.2.2.1 f.1)) := by
 obtain ⟨e, tm, q, now, ck, tp, ta⟩ := d
 dsimp only at hq
 subst hq
 obtain ⟨⟨k, f1, f2⟩, ⟨t0, t1⟩, hrel, hprs⟩ := h.front rfl
 obtain ⟨h1, h2, h3, h4, h5, h6, h7, h8⟩ := h
 obtain ⟨t, key, dn⟩ := f
 dsimp only at f1 f2 t0 t1 hrel hprs h1 h2 h3 h4 h5 h7 h8 hd
 subst f1
 subst hd
 have hk := h1.map.keys
 have hh := h1.len
 have i1 : (decide ((0 : Int) <= 1) && decide ((1 : Int) <= (((t, (k : Int), true) :: r).length : Int))) = true := by
  rw [List.length_cons, dT (by omega), dT (by omega)]; rfl
 have d1 : List.drop 1 ((t, (k : Int), true) :: r) = r := rfl
 have wk : IntKind.wrap .i64 ((k : Int) + 1) = (k : Int) + 1 := zBE (by omega) (by omega)
 have wt : IntKind.wrap .i64 (t - ta) = t - ta := zBE (by omega) (by omega)
 have hr : r.length <= 63 := by rw [List.length_cons] at h5; omega
 have p1 := press_spec N hN e h1 k f2 (hprs rfl) true
 have p2 := press_spec N hN e h1 k f2 (hprs rfl) false
 rw [zAr.F_eq]
 dsimp only
 rw [i1]
 simp only [condT, d1, wk, wt]
 rw [ly_spec N hN _ _ (by omega), bindV, act_spec N hN h1.map f2, bindV, isTH_spec, bindV, chc_spec N hN tm (k : Int) t r (by omega) now]
 unfold downV
 simp only [stepD, condT, chD]
 cases isTH (actN e.1.2 (lyOn e.2.2.1 e.2.2.2.1) (k : Int)) with
 | false =>
  rw [p2]
  simp only [condF, bindV]
 | true =>
  simp only [condT, bindV]
  have hv := chc_vals tm (k : Int) t r now
  generalize chc tm (k : Int) t r now = c at *
  obtain ⟨c1, c2⟩ := c
  dsimp only at hv
  cases tp == (k : Int) + 1 <;> cases decide (t - ta < tm.2.1) <;> rcases hv with hv | hv | hv <;> subst hv <;> simp only [condT, condF, Bool.and_true, Bool.and_false, Int.reduceBEq, Bool.not_true, Bool.not_false, p1, p2, bindV]
theorem run_L2 (N n1 : Nat) (w : Int) (l : List Rpt) (hl : l.length <= 1000) (d : Dcd) (hq : 1 <= d.2.2.1.length /\ d.2.2.1.length <= 1000000) : ∀ (n i : Nat) (o : List Snt), i <= l.length -> l.length < n + i -> o.length + (l.length - i) <= 1000000 ->
  zQ.L2 N n1 n w l (i : Int) d.1.1.1 d.1.1.2 d.1.2.1 d.1.2.2.1 d.1.2.2.2.1 d.1.2.2.2.2.1 d.1.2.2.2.2.2 d.2.1.1 d.2.1.2.1 d.2.1.2.2 d.2.2.1 d.2.2.2.1 d.2.2.2.2.1 d.2.2.2.2.2.1 d.2.2.2.2.2.2 o =
  zQ.L1 N n1 d.1.1.1 d.1.1.2 d.1.2.1 d.1.2.2.1 d.1.2.2.2.1 d.1.2.2.2.2.1 d.1.2.2.2.2.2 d.2.1.1 d.2.1.2.1 d.2.1.2.2 (d.2.2.1.drop 1) d.2.2.2.1 w d.2.2.2.2.2.1 d.2.2.2.2.2.2 (o ++ sentB w (l.drop i)) := by
 intro n
 induction n with
 | zero => intro i o h1 h2; omega
 | succ n ih =>
  intro i o h1 h2 h3
  rw [zQ.L2_eq]
  by_cases hi : i < l.length
  ·have ws : IntKind.wrap .i64 ((i : Int) + 1) = ((i + 1 : Nat) : Int) := yP (by omega)
   have e1 := len1 o (w, l.getD i dR) (by omega)
   rw [zAG dR l i hi]
   simp only [oJ, hi, decide_true, condT, inRange_nat, nth_nat, ws, e1]
   rw [ih (i + 1) _ (by omega) (by omega) (by rw [lA, List.length_singleton]; omega), List.append_assoc]
   rfl
  ·have e2 : decide (([] : List Ev).length + (d.2.2.1.drop 1).length <= maxN) = true := dT (by rw [List.length_nil, List.length_drop]; unfold maxN; omega)
   simp only [oJ, hi, decide_false, condF]
   rw [dT (show (0 : Int) <= 1 by omega), dT (show (1 : Int) <= (d.2.2.1.length : Int) by omega), e2, List.drop_of_length_le (show l.length <= i by omega)]
   simp only [Bool.and_self, condT, List.nil_append, sentB, List.map_nil, List.append_nil]
theorem run_L1 (N : Nat) (hN : 1048576 < N) : ∀ (k n : Nat) (d : Dcd) (o : List Snt), d.2.2.1.length <= k -> k < n -> OkD d -> o.length + 17 * d.2.2.1.length <= 2000 ->
  zQ.L1 N n d.1.1.1 d.1.1.2 d.1.2.1 d.1.2.2.1 d.1.2.2.2.1 d.1.2.2.2.2.1 d.1.2.2.2.2.2 d.2.1.1 d.2.1.2.1 d.2.1.2.2 d.2.2.1 d.2.2.2.1 d.2.2.2.2.1 d.2.2.2.2.2.1 d.2.2.2.2.2.2 o = some (o ++ (runQ d).2, (runQ d).1) := by
 intro k
 induction k with
 | zero =>
  intro n d o h1 h2 h3 h4
  obtain ⟨n, rfl⟩ : ∃ m, n = m + 1 := ⟨n - 1, by omega⟩
  have hs := stepD_nil (d := d) (List.length_eq_zero_iff.1 (by omega))
  rw [zQ.L1_eq, dF (by omega), condF, zCC hs, List.append_nil]
 | succ k ih =>
  intro n d o h1 h2 h3 h4
  obtain ⟨n, rfl⟩ : ∃ m, n = m + 1 := ⟨n - 1, by omega⟩
  rw [zQ.L1_eq]
  cases hq : d.2.2.1 with
  | nil =>
   have hs := stepD_nil (d := d) hq
   rw [dF (by rw [List.length_nil]; omega), condF, zCC hs, List.append_nil, <- hq]
  | cons f r =>
   have i0 : zG 0 (f :: r).length = true := by
    unfold zG; rw [List.length_cons, dT (by omega), dT (by omega)]; rfl
   have n0 : nth ((0 : Int), ((0 : Int), false)) (f :: r) 0 = f := rfl
   obtain ⟨⟨kk, f1, f2⟩, ⟨t0, t1⟩, hrel, hprs⟩ := h3.front hq
   have hk := h3.eng.map.keys
   rw [dT (by rw [List.length_cons]; omega), condT, i0, condT]
   simp only [n0]
   rw [<- hq]
   simp only [pEta]
   have hlq : d.2.2.1.length = r.length + 1 := by rw [hq]; rfl
   have d1 : d.2.2.1.drop 1 = r := by rw [hq]; rfl
   have h64 := h3.len
   cases hd : f.2.2 with
   | true =>
    rw [condT]
    have hdn := down_v N hN d h3 hq hd
    rw [hdn, bindV]
    unfold downV
    cases hs : stepD d with
    | none => rw [zCC hs, List.append_nil]; rfl
    | some p =>
     obtain ⟨l, d'⟩ := p
     obtain ⟨g1, g2, g3, g4, g5, ⟨f', hf⟩, _⟩ := stepD_ok h3 hs
     have hl := step_len h3 hs
     have er : d'.2.2.1 = r := by rw [hq] at hf; injection hf with _ hf; exact hf.symm
     dsimp only
     rw [notT, condF]
     have g := run_L2 N n d'.2.2.2.2.1 l (by omega) (d'.1, d.2.1, d.2.2.1, d.2.2.2.1, d.2.2.2.2.1, d'.2.2.2.2.2) ⟨by dsimp only; omega, by dsimp only; omega⟩ N 0 o (by omega) (by omega) (by omega)
     have i1 := ih n d' (o ++ sentB d'.2.2.2.2.1 l) (by rw [er]; omega) (by omega) g1 (by rw [lA, sentB_len, er]; omega)
     dsimp only at g
     rw [List.drop_zero, d1] at g
     rw [er, g2, g3] at i1
     refine g.trans ?_
     rw [i1, runQ_some hs, List.append_assoc]
   | false =>
    rw [condF]
    have hrl := release_spec N hN d.1 h3.eng f.2.1 (hrel hd)
    rw [hrl, bindV]
    have wk : IntKind.wrap .i64 (f.2.1 + 1) = f.2.1 + 1 := zBE (by omega) (by omega)
    have hs : stepD d = some ((rls d.1 f.2.1).2, ((rls d.1 f.2.1).1, d.2.1, r, d.2.2.2.1, maxI d.2.2.2.2.1 f.1, d.2.2.2.2.2.1, (bif d.2.2.2.2.2.1 == f.2.1 + 1 then f.1 else d.2.2.2.2.2.2))) := by
     unfold stepD
     rw [hq]
     dsimp only
     rw [hd, condF]
    obtain ⟨g1, g2, g3, g4, g5, _, _⟩ := stepD_ok h3 hs
    have hl := step_len h3 hs
    dsimp only
    rw [wk]
    have key : ∀ ta, (ta = bif d.2.2.2.2.2.1 == f.2.1 + 1 then f.1 else d.2.2.2.2.2.2) -> zQ.L2 N n N (maxI d.2.2.2.2.1 f.1) (rls d.1 f.2.1).2 0 (rls d.1 f.2.1).1.1.1 (rls d.1 f.2.1).1.1.2 (rls d.1 f.2.1).1.2.1 (rls d.1 f.2.1).1.2.2.1 (rls d.1 f.2.1).1.2.2.2.1 (rls d.1 f.2.1).1.2.2.2.2.1 (rls d.1 f.2.1).1.2.2.2.2.2 d.2.1.1 d.2.1.2.1 d.2.1.2.2 d.2.2.1 d.2.2.2.1 d.2.2.2.2.1 d.2.2.2.2.2.1 ta o = some (o ++ (runQ d).2, (runQ d).1) := by
     intro ta hta
     have g := run_L2 N n (maxI d.2.2.2.2.1 f.1) (rls d.1 f.2.1).2 (by omega) ((rls d.1 f.2.1).1, d.2.1, d.2.2.1, d.2.2.2.1, d.2.2.2.2.1, d.2.2.2.2.2.1, ta) ⟨by dsimp only; omega, by dsimp only; omega⟩ N 0 o (by omega) (by omega) (by omega)
     have i1 := ih n ((rls d.1 f.2.1).1, d.2.1, r, d.2.2.2.1, maxI d.2.2.2.2.1 f.1, d.2.2.2.2.2.1, (bif d.2.2.2.2.2.1 == f.2.1 + 1 then f.1 else d.2.2.2.2.2.2)) (o ++ sentB (maxI d.2.2.2.2.1 f.1) (rls d.1 f.2.1).2) (by dsimp only; omega) (by omega) g1 (by rw [lA, sentB_len]; dsimp only; omega)
     rw [<- hta] at i1
     dsimp only at g i1
     rw [List.drop_zero, d1] at g
     refine g.trans ?_
     rw [i1, runQ_some hs, <- hta, List.append_assoc]
    cases hb : d.2.2.2.2.2.1 == f.2.1 + 1 with
    | true => rw [condT]; exact key _ (by rw [hb]; rfl)
    | false => rw [condF]; exact key _ (by rw [hb]; rfl)
theorem play_spec (N : Nat) (hN : 2200000 < N) (d : Dcd) (hd : smallD d) (l : List Ev) (hl : l.length <= 1048576) (en : Int) : zAB.F N (d, l, en) = some (ply d l en) := by
 have hq := hd.2
 have e1 : decide (([] : List Ev).length + d.2.2.1.length <= maxN) = true := dT (by rw [List.length_nil]; unfold maxN; omega)
 have e2 : decide (([] ++ d.2.2.1 : List Ev).length + l.length <= maxN) = true := dT (by rw [List.nil_append]; unfold maxN; omega)
 rw [zAB.F_eq, e1, condT, e2, condT, isD_spec N hN d hd, bindV]
 unfold ply plyB
 cases hD : isD d with
 | false => rfl
 | true =>
  have hO := (isD_iff d).1 hD
  rw [notT, condF, Bool.true_and, zCA, bindV]
  cases hc : decide (d.2.2.2.1 <= en /\ en <= 1000000) with
  | false => rfl
  | true =>
   have hce := of_decide_eq_true hc
   rw [notT, condF, Bool.true_and, hm_spec N (by omega) hO.eng, bindV, List.nil_append, fits_spec N hN _ (by rw [lA]; omega), bindV]
   cases hf : fits (d.2.2.1 ++ l) (hmGo 0 d.1.2.2.2.1) d.1.1.1 with
   | false => rw [Bool.and_false, Bool.and_false]; rfl
   | true =>
    rw [notT, condF, Bool.and_true]
    have hdo : ∀ (hh : headB d.2.2.2.1 l = true) (ht : lT 0 l <= en), (bindO (yI.F N d.1) fun r5 =>
      bindO (zQ.F N (r5, (d.2.1, (d.2.2.1 ++ l, (en, d.2.2.2.2))))) fun r6 =>
      some (r6.2, (r6.1, true))) = some ((runD 64 (d.1, d.2.1, d.2.2.1 ++ l, en, d.2.2.2.2)).1, (runD 64 (d.1, d.2.1, d.2.2.1 ++ l, en, d.2.2.2.2)).2, true) := by
     intro hh ht
     have hP : OkP d l en := (plyB_iff d l en).1 (by
      unfold plyB
      rw [hD, hh, dT ht, hf, hc]; rfl)
     have hx := hP.ext
     have g := run_L1 N (by omega) 64 N (ext l en d) [] hx.len (by omega) hx (by have := hx.len; rw [List.length_nil]; omega)
     have er : (d.1, d.2.1, d.2.2.1 ++ l, en, d.2.2.2.2) = ext l en d := rfl
     rw [copyE_spec N (by omega) d.1 hd.1, bindV, er, runQ_eq (d := ext l en d) hx.len, zQ.F_eq, g, bindV, List.nil_append]
    cases l with
    | nil =>
     have hn := hO.now
     rw [dF (by rw [List.length_nil]; omega), condF]
     rw [show headB d.2.2.2.1 [] = true from rfl, dT (show lT 0 [] <= en by show (0 : Int) <= en; omega), Bool.true_and, condT]
     exact hdo rfl (by show (0 : Int) <= en; omega)
    | cons x s =>
     have i0 : zG 0 (x :: s).length = true := by
      unfold zG; rw [List.length_cons, dT (by omega), dT (by omega)]; rfl
     have n0 : nth ((0 : Int), ((0 : Int), false)) (x :: s) 0 = x := rfl
     have wp : IntKind.wrap .i64 (((x :: s).length : Int) - 1) = (((x :: s).length - 1 : Nat) : Int) := by rw [List.length_cons] at *; rw [zBE (by omega) (by omega)]; omega
     rw [dT (by rw [List.length_cons]; omega), condT, i0, condT, n0]
     by_cases hx : x.1 < d.2.2.2.1
     ·rw [dT hx, condT, show headB d.2.2.2.1 (x :: s) = false from dF (by omega)]; rfl
     ·have hh : headB d.2.2.2.1 (x :: s) = true := dT (by omega)
      rw [dF hx, condF, wp, inRange_nat, dT (show (x :: s).length - 1 < (x :: s).length by rw [List.length_cons]; omega), condT, nth_nat, lT_last (x :: s) 0 (by rw [List.length_cons]; omega), hh, Bool.true_and]
      by_cases ht : lT 0 (x :: s) <= en
      ·rw [dF (show ¬ lT 0 (x :: s) > en by omega), condF, dT ht, condT]
       exact hdo hh ht
      ·rw [dT (show lT 0 (x :: s) > en by omega), condT, dF ht, condF]; rfl
end Go.Kb
namespace Go.Kb
theorem cell_of {nl : Int} {a : Act} (h : okC2 nl a) (f : Bool) : cellB nl f a = true := by
 obtain ⟨h1, h2, h3⟩ := h
 unfold cellB
 rw [(isA_iff a).2 h1, bN h2, Bool.and_false, Bool.true_and]
 by_cases h9 : a.1 = 9
 ·rw [bI h9]; rfl
 ·rw [bN h9, dF (show ¬ nl <= a.2.2.2 by have := h3 h9; omega)]; rfl
end Go.Kb
namespace Go.Kb
set_option maxRecDepth 100000
theorem tyBeq_refl : ∀ t : Ty, Ty.beq t t = true := by
 intro t
 induction t with
 | int k => cases k <;> rfl
 | pair a b ha hb => simp only [Ty.beq, ha, hb, Bool.and_self]
 | list t h => exact h
 | hnd t h => exact h
 | bool => rfl
 | str => rfl
 | unit => rfl
theorem hrowAt_row {D : List HRow} {e k : Nat} {u : Ty} {xs : List u.den} (h : D[k]? = some (.row e u xs)) : hrowAt D u k = xs := by
 unfold hrowAt
 rw [h]
 simp only
 split
 ·rfl
 ·next hb => exact absurd hb (by rw [tyBeq_refl]; simp)
theorem hisAt_row {D : List HRow} {e k : Nat} {u : Ty} {xs : List u.den} (h : D[k]? = some (.row e u xs)) : hisAt D u k = true := by
 unfold hisAt
 rw [h]
 exact tyBeq_refl u
theorem hcut_row {D : List HRow} {e k : Nat} {u : Ty} {xs : List u.den} (h : D[k]? = some (.row e u xs)) : hcut D u (some (k, 0, xs.length)) = xs := by
 show ((hrowAt D u k).drop 0).take xs.length = xs
 rw [hrowAt_row h]
 simp
theorem hok_row {D : List HRow} {e k : Nat} {u : Ty} {xs : List u.den} (h : D[k]? = some (.row e u xs)) : hok D u (some (k, 0, xs.length)) = true := by
 show (hisAt D u k && Nat.ble (0 + xs.length) (hrowAt D u k).length) = true
 rw [hisAt_row h, hrowAt_row h]
 simp
theorem hfull_row {D : List HRow} {e k : Nat} {u : Ty} {xs : List u.den} (h : D[k]? = some (.row e u xs)) : hfull D e u (some (k, 0, xs.length)) = true := by
 show (hisAt D u k && (hcodeAt D e k && (Nat.beq 0 0 && Nat.beq xs.length (hrowAt D u k).length))) = true
 rw [hisAt_row h, hrowAt_row h]
 unfold hcodeAt
 rw [h]
 simp
theorem hput_eq {D : List HRow} {k a b a' b' e : Nat} {u : Ty} {xs : List u.den} : hput (hgone D (some (k, a, b))) (some (k, a', b')) e u xs = D.set k (.row e u xs) := by
 show (D.set k HRow.gone).set k _ = _
 rw [List.set_set]
def Own {u : Ty} (e : Nat) (D : List HRow) (lo hi : Nat) (hs : List Hnd) (vs : List (List u.den)) : Prop :=
 hs.length = vs.length /\ ∃ κ : Nat -> Nat, (∀ i, i < vs.length -> (hs.getD i none = none /\ vs.getD i [] = []) \/ (lo <= κ i /\ κ i < hi /\ hs.getD i none = some (κ i, 0, (vs.getD i []).length) /\ D[κ i]? = some (.row e u (vs.getD i [])))) /\
  ∀ i j, i < vs.length -> j < vs.length -> hs.getD i none ≠ none -> hs.getD j none ≠ none -> κ i = κ j -> i = j
section
variable {u : Ty} {e : Nat} {D D' : List HRow} {lo hi : Nat} {hs : List Hnd} {vs : List (List u.den)}
theorem own_nil : Own (u := u) e D lo hi [] [] := ⟨rfl, fun _ => 0, fun i h => absurd h (Nat.not_lt_zero i), fun i _ h => absurd h (Nat.not_lt_zero i)⟩
theorem Own.len (h : Own e D lo hi hs vs) : hs.length = vs.length := h.1
theorem Own.cut (h : Own e D lo hi hs vs) {i : Nat} (hi' : i < vs.length) : hcut D u (hs.getD i none) = vs.getD i [] := by
 obtain ⟨_, κ, h2, _⟩ := h
 rcases h2 i hi' with ⟨e1, e2⟩ | ⟨_, _, e1, e2⟩
 ·rw [e1, e2]; rfl
 ·rw [e1, hcut_row e2]
theorem Own.full (h : Own e D lo hi hs vs) {i : Nat} (hi' : i < vs.length) : hfull D e u (hs.getD i none) = true := by
 obtain ⟨_, κ, h2, _⟩ := h
 rcases h2 i hi' with ⟨e1, e2⟩ | ⟨_, _, e1, e2⟩
 ·rw [e1]; rfl
 ·rw [e1, hfull_row e2]
theorem Own.okAt (h : Own e D lo hi hs vs) {i : Nat} (hi' : i < vs.length) : hok D u (hs.getD i none) = true := by
 obtain ⟨_, κ, h2, _⟩ := h
 rcases h2 i hi' with ⟨e1, e2⟩ | ⟨_, _, e1, e2⟩
 ·rw [e1]; rfl
 ·rw [e1, hok_row e2]
theorem getD_of_mem {α : Type} {d x : α} {l : List α} (h : x ∈ l) : ∃ i, i < l.length /\ l.getD i d = x := by
 obtain ⟨i, hi, e⟩ := List.getElem_of_mem h
 exact ⟨i, hi, by rw [List.getD_eq_getElem?_getD, List.getElem?_eq_getElem hi]; exact e⟩
theorem Own.unok (h : Own e D lo hi hs vs) : List.all hs (Ty.unok D (.hnd u)) = true := by
 rw [List.all_eq_true]
 intro x hx
 obtain ⟨i, hi', rfl⟩ := getD_of_mem (d := none) hx
 exact h.okAt (by rw [<- h.1]; exact hi')
theorem Own.unden (h : Own e D lo hi hs vs) : List.map (Ty.unden D (.hnd u)) hs = vs := by
 refine List.ext_getElem (by rw [List.length_map]; exact h.1) fun i h1 h2 => ?_
 have := h.cut h2
 have h3 : i < hs.length := by rw [h.1]; exact h2
 rw [List.getD_eq_getElem?_getD, List.getD_eq_getElem?_getD, List.getElem?_eq_getElem (l := vs) h2, List.getElem?_eq_getElem (l := hs) h3] at this
 rw [List.getElem_map]
 exact this
theorem Own.mono (h : Own e D lo hi hs vs) {lo' hi' : Nat} (h1 : lo' <= lo) (h2 : hi <= hi') : Own e D lo' hi' hs vs := by
 obtain ⟨a, κ, b, c⟩ := h
 exact ⟨a, κ, fun i hi => (b i hi).imp id fun ⟨x, y, z⟩ => ⟨by omega, by omega, z⟩, c⟩
theorem Own.same (h : Own e D lo hi hs vs) (hD : ∀ k, lo <= k -> k < hi -> D'[k]? = D[k]?) : Own e D' lo hi hs vs := by
 obtain ⟨a, κ, b, c⟩ := h
 exact ⟨a, κ, fun i hi => (b i hi).imp id fun ⟨x, y, z, t⟩ => ⟨x, y, z, by rw [hD _ x y]; exact t⟩, c⟩
theorem hrow_lt {k e : Nat} {xs : List u.den} (t : D[k]? = some (.row e u xs)) : k < D.length := by
 rcases Nat.lt_or_ge k D.length with g | g
 ·exact g
 ·rw [List.getElem?_eq_none g] at t; cases t
theorem Own.more (h : Own e D lo hi hs vs) (hD : D <+: D') : Own e D' lo hi hs vs := by
 obtain ⟨a, κ, b, c⟩ := h
 obtain ⟨E, rfl⟩ := hD
 refine ⟨a, κ, fun i hi => (b i hi).imp id fun ⟨x, y, z, t⟩ => ⟨x, y, z, ?_⟩, c⟩
 rw [List.getElem?_append_left (hrow_lt t)]; exact t
theorem Own.push (h : Own e D lo D.length hs vs) (hlo : lo <= D.length) (v : List u.den) : Own e (D ++ [HRow.row e u v]) lo (D.length + 1) (hs ++ [some (D.length, 0, v.length)]) (vs ++ [v]) := by
 have h' := h.more (D' := D ++ [HRow.row e u v]) ⟨_, rfl⟩
 obtain ⟨a, κ, b, c⟩ := h'
 have l1 : ∀ i, i < vs.length -> (vs ++ [v]).getD i [] = vs.getD i [] := fun i hv => by simp only [List.getD_eq_getElem?_getD, List.getElem?_append_left hv]
 have l2 : ∀ i, i < vs.length -> (hs ++ [some (D.length, 0, v.length)]).getD i none = hs.getD i none := fun i hv => by simp only [List.getD_eq_getElem?_getD]; rw [List.getElem?_append_left (by omega)]
 refine ⟨by simp [a], fun i => if i < vs.length then κ i else D.length, fun i hi => ?_, fun i j hi hj ni nj he => ?_⟩
 ·by_cases hv : i < vs.length
  ·simp only [hv, if_true]
   rw [l1 i hv, l2 i hv]
   exact (b i hv).imp id fun ⟨x, y, z, t⟩ => ⟨x, by omega, z, t⟩
  ·have hv' : i = vs.length := by simp only [lA, List.length_cons, List.length_nil] at hi; omega
   simp only [hv, if_false]
   have e1 : (vs ++ [v]).getD i [] = v := by simp [List.getD_eq_getElem?_getD, hv']
   have e2 : (hs ++ [some (D.length, 0, v.length)]).getD i none = some (D.length, 0, v.length) := by simp [List.getD_eq_getElem?_getD, hv', <- a]
   rw [e1, e2]
   exact Or.inr ⟨hlo, by omega, rfl, by simp⟩
 ·simp only [lA, List.length_cons, List.length_nil] at hi hj
  have far : ∀ i, i < vs.length -> (hs ++ [some (D.length, 0, v.length)]).getD i none ≠ none -> κ i < D.length := fun i hv hn => by
   rcases b i hv with ⟨z, _⟩ | ⟨_, y, _⟩
   ·rw [l2 i hv, z] at hn; exact absurd rfl hn
   ·exact y
  by_cases h1 : i < vs.length
  ·by_cases h2 : j < vs.length
   ·simp only [h1, h2, if_true] at he
    rw [l2 i h1] at ni; rw [l2 j h2] at nj
    exact c i j h1 h2 ni nj he
   ·simp only [h1, h2, if_true, if_false] at he; have := far i h1 ni; omega
  ·by_cases h2 : j < vs.length
   ·simp only [h1, h2, if_true, if_false] at he; have := far j h2 nj; omega
   ·omega
theorem Own.sub (h : Own e D lo hi hs vs) {hs' : List Hnd} {vs' : List (List u.den)} (φ : Nat -> Nat) (hl : hs'.length = vs'.length)
  (hφ : ∀ i, i < vs'.length -> φ i < vs.length /\ hs'.getD i none = hs.getD (φ i) none /\ vs'.getD i [] = vs.getD (φ i) []) (inj : ∀ i j, i < vs'.length -> j < vs'.length -> φ i = φ j -> i = j) : Own e D lo hi hs' vs' := by
 obtain ⟨a, κ, b, c⟩ := h
 refine ⟨hl, fun i => κ (φ i), fun i hi => ?_, fun i j hi hj ni nj he => ?_⟩
 ·obtain ⟨p, q, r⟩ := hφ i hi
  rw [q, r]
  exact b (φ i) p
 ·obtain ⟨p, q, _⟩ := hφ i hi
  obtain ⟨p', q', _⟩ := hφ j hj
  rw [q] at ni; rw [q'] at nj
  exact inj i j hi hj (c _ _ p p' ni nj he)
def Fr (lo hi : Nat) (D D' : List HRow) : Prop := D'.length = D.length /\ ∀ k, ¬ (lo <= k /\ k < hi) -> D'[k]? = D[k]?
theorem Fr.refl : Fr lo hi D D := ⟨rfl, fun _ _ => rfl⟩
theorem Fr.trans {D'' : List HRow} (h : Fr lo hi D D') (g : Fr lo hi D' D'') : Fr lo hi D D'' := ⟨g.1.trans h.1, fun k hk => (g.2 k hk).trans (h.2 k hk)⟩
theorem Own.apart (h : Own e D lo hi hs vs) {a b : Nat} (hf : Fr a b D D') (hab : hi <= a \/ b <= lo) : Own e D' lo hi hs vs := h.same fun k h1 h2 => hf.2 k (by omega)
theorem Own.put (h : Own e D lo hi hs vs) {i : Nat} (hi' : i < vs.length) {v : List u.den} (hv : v.length = (vs.getD i []).length) :
  Own e (hput (hgone D (hs.getD i none)) (hs.getD i none) e u v) lo hi hs (vs.set i v) /\ Fr lo hi D (hput (hgone D (hs.getD i none)) (hs.getD i none) e u v) := by
 obtain ⟨a, κ, b, c⟩ := h
 rcases b i hi' with ⟨z, z2⟩ | ⟨x, y, z, t⟩
 ·rw [z]
  have hv0 : v = [] := by rw [z2] at hv; exact List.length_eq_zero_iff.mp hv
  have : vs.set i v = vs := by
   refine List.ext_getElem (by simp) fun j h1 h2 => ?_
   rw [List.getElem_set]
   split
   ·next e => subst e; rw [hv0, <- z2, List.getD_eq_getElem?_getD, List.getElem?_eq_getElem h2]; rfl
   ·rfl
  rw [this]
  exact ⟨⟨a, κ, b, c⟩, Fr.refl⟩
 have hl : κ i < D.length := hrow_lt t
 have hn : hs.getD i none ≠ none := by rw [z]; simp
 rw [z, hput_eq]
 refine ⟨⟨by rw [List.length_set]; exact a, κ, fun j hj => ?_, fun j l hj hl => c j l (by simpa using hj) (by simpa using hl)⟩, by rw [List.length_set], fun k hk => ?_⟩
 ·rw [List.length_set] at hj
  by_cases hij : i = j
  ·subst hij
   have e1 : (vs.set i v).getD i [] = v := by simp [List.getD_eq_getElem?_getD, hj]
   rw [e1]
   exact Or.inr ⟨x, y, by rw [z, hv], List.getElem?_set_self hl⟩
  ·have e1 : (vs.set i v).getD j [] = vs.getD j [] := by simp only [List.getD_eq_getElem?_getD, List.getElem?_set_ne hij]
   rw [e1]
   by_cases hj0 : hs.getD j none = none
   ·rcases b j hj with ⟨q1, q2⟩ | ⟨_, _, q, _⟩
    ·exact Or.inl ⟨q1, q2⟩
    ·rw [q] at hj0; cases hj0
   ·rcases b j hj with ⟨q1, q2⟩ | ⟨x', y', z', t'⟩
    ·exact Or.inl ⟨q1, q2⟩
    ·exact Or.inr ⟨x', y', z', by rw [List.getElem?_set_ne (fun e => hij (c i j hi' hj hn hj0 e)), t']⟩
 ·rw [List.getElem?_set_ne (by omega)]
end
theorem hide_more {D E : List HRow} (h : hhide D <+: E) : D <+: yw D E /\ (yw D E).length = E.length /\ ∀ k, D.length <= k -> (yw D E)[k]? = E[k]? := by
 obtain ⟨T, rfl⟩ := h
 have hl : (hhide D).length = D.length := by unfold hhide; rw [List.length_replicate]
 have : yw D (hhide D ++ T) = D ++ T := by
  unfold yw
  rw [<- hl, List.drop_left]
 rw [this]
 refine ⟨⟨T, rfl⟩, by rw [lA, lA, hl], fun k hk => ?_⟩
 rw [List.getElem?_append_right hk, List.getElem?_append_right (by omega), hl]
theorem hide_len (D : List HRow) : (hhide D).length = D.length := by unfold hhide; rw [List.length_replicate]
theorem Own.shown {u : Ty} {e : Nat} {D E : List HRow} {lo hi : Nat} {hs : List Hnd} {vs : List (List u.den)} (h : Own e E lo hi hs vs) (hD : hhide D <+: E) (hlo : D.length <= lo) : Own e (yw D E) lo hi hs vs :=
 h.same fun k h1 _ => (hide_more hD).2.2 k (by omega)
end Go.Kb
