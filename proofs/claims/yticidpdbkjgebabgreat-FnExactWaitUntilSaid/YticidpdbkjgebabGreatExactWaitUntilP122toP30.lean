/- What is performed, sent and played, with rows of their own. -/
import Derived.Test.YticidpdbkjgebabGreatExactWaitUntilP120toP121
import Derived.Test.YticidpdbkjgebabGreatExactWaitUntilP15toP90
import Derived.Test.YticidpdbkjgebabGreatExactWaitUntilP93toF8
namespace Go.Kb
set_option maxRecDepth 100000
abbrev HEng := (Int × List Hnd) × (List Hnd) × Int × List Hd × Int × Bool
theorem hrow_mid (D : List HRow) (r s : HRow) : ((D ++ [r]) ++ [s])[D.length]? = some r := by
 rw [List.getElem?_append_left (by rw [lA, List.length_singleton]; omega)]
 exact rowAt D r
theorem releaseh_eq (N : Nat) (hN : 1048576 < N) (e : Eng) (he : OkE e) (key : Int) (hk : ∃ x ∈ e.2.2.2.1, x.1 = key) (D : List HRow) : POut (zAc.H N (e, key) D) D (rls e key) := by
 have hl := he.len
 obtain ⟨h1, h2⟩ := hAtI_some hk
 have ws : IntKind.wrap .i64 ((hIx e.2.2.2.1 key : Int) + 1) = ((hIx e.2.2.2.1 key + 1 : Nat) : Int) := yP (by omega)
 have hrl : (rmv e.2.2.2.1 key).length <= 32 := by unfold rmv; rw [lA, List.length_take, List.length_drop]; omega
 have r1 := repO_impl N hN (rmv e.2.2.2.1 key) (by omega)
 have r2 := repO_impl N hN e.2.2.2.1 (by omega)
 have k1 := (zB1 (rmv e.2.2.2.1 key)).1
 have k2 := (zB1 e.2.2.2.1).1
 obtain ⟨hs, gs, E, e1, o1⟩ := cEh_eq N hN e he.small (hhide D)
 obtain ⟨p1, mid, m1, m2, m3, m4⟩ := o1.call
 rw [zAc.H_eq, e1, bindV]
 dsimp only
 generalize yw D E = D1 at p1 m2 m3 m4
 rw [hAt_impl N hN e (by omega), bindV, h1, ws]
 rw [dT (show (0 : Int) <= (hIx e.2.2.2.1 key : Int) by omega), dT (show (hIx e.2.2.2.1 key : Int) <= (e.2.2.2.1.length : Int) by omega), dT (show (0 : Int) <= ((hIx e.2.2.2.1 key + 1 : Nat) : Int) by omega), dT (show ((hIx e.2.2.2.1 key + 1 : Nat) : Int) <= (e.2.2.2.1.length : Int) by omega), dT (show Int.toNat (hIx e.2.2.2.1 key : Int) <= Int.toNat ((hIx e.2.2.2.1 key + 1 : Nat) : Int) by omega), dT (show e.2.2.2.1.length <= maxN by unfold maxN; omega)]
 simp only [Bool.and_self, condT, Int.toNat_natCast]
 have er : e.2.2.2.1.take (hIx e.2.2.2.1 key) ++ e.2.2.2.1.drop (hIx e.2.2.2.1 key + 1) = rmv e.2.2.2.1 key := rfl
 rw [er, r2, bindV, r1, bindV]
 have q1 : OwnR ((D1 ++ [HRow.row 2 (.int .i64) (repO e.2.2.2.1).2]) ++ [HRow.row 2 (.int .i64) (repO (rmv e.2.2.2.1 key)).2]) (D1.length + 1) (D1.length + 1 + 1) [((repO (rmv e.2.2.2.1 key)).1, some ((D1 ++ [HRow.row 2 (.int .i64) (repO e.2.2.2.1).2]).length, 0, (repO (rmv e.2.2.2.1 key)).2.length))] [repO (rmv e.2.2.2.1 key)] := by
  have := OwnR.one (m := (repO (rmv e.2.2.2.1 key)).1) (rowAt (D1 ++ [HRow.row 2 (.int .i64) (repO e.2.2.2.1).2]) (HRow.row 2 (.int .i64) (repO (rmv e.2.2.2.1 key)).2))
  rw [lA, List.length_singleton] at this ⊢
  exact this
 have hrow := hrow_mid D1 (HRow.row 2 (.int .i64) (repO e.2.2.2.1).2) (HRow.row 2 (.int .i64) (repO (rmv e.2.2.2.1 key)).2)
 obtain ⟨B, b1, b2⟩ := chgh_eq N hN _ _ _ _ _ q1 (by simp) (fun r hr => by rw [List.mem_singleton] at hr; subst hr; omega) (repO e.2.2.2.1) (by omega) ((repO e.2.2.2.1).1, some (D1.length, 0, (repO e.2.2.2.1).2.length)) (hok_row hrow) (Prod.ext rfl (hcut_row hrow))
 rw [b1, bindV]
 have p2 : D1 <+: (D1 ++ [HRow.row 2 (.int .i64) (repO e.2.2.2.1).2]) ++ [HRow.row 2 (.int .i64) (repO (rmv e.2.2.2.1 key)).2] := (List.prefix_append _ _).trans (List.prefix_append _ _)
 refine ⟨⟨hs, gs, B, _, rfl, p1.trans p2, mid, D1.length, m1, m2, p2.length_le, m3.more p2, m4.more p2, b2.mono (by omega) (by simp only [lA, List.length_singleton]; omega)⟩⟩
theorem pressh_eq (N : Nat) (hN : 1048576 < N) (e : Eng) (he : OkE e) (key : Nat) (hk : (key : Int) < e.1.1) (hold : Bool) (D : List HRow) : POut (zAd.H N (e, (key : Int), hold) D) D (prs e (key : Int) hold) := by
 have hp := he.prA ⟨by omega, hk⟩ hold
 have hl := he.map.len
 have hle := layN_le e.1.2 (lyOn e.2.2.1 e.2.2.2.1) (key : Int) (e.1.2.length - 1)
 have hh := he.len
 have hcell : nth ((0 : Int), ((0 : Int), ((0 : Int), (0 : Int)))) (e.1.2.getD (layN e.1.2 (lyOn e.2.2.1 e.2.2.2.1) (key : Int) (e.1.2.length - 1)) []) (key : Int) = actN e.1.2 (lyOn e.2.2.1 e.2.2.2.1) (key : Int) := by
  rw [nth_nat]; rfl
 have hr := he.map.rows hk (layN e.1.2 (lyOn e.2.2.1 e.2.2.2.1) (key : Int) (e.1.2.length - 1)) (by omega)
 obtain ⟨hs, gs, E, e1, o1⟩ := cEh_eq N hN e he.small (hhide D)
 obtain ⟨p1, mid, m1, m2, m3, m4⟩ := o1.call
 rw [zAd.H_eq, e1, bindV]
 dsimp only
 generalize yw D E = D1 at p1 m2 m3 m4
 rw [ly_impl N hN _ _ (by omega), bindV, lay_impl N (by omega) he.map hk, bindV]
 rw [inRange_nat, dT (show layN e.1.2 (lyOn e.2.2.1 e.2.2.2.1) (key : Int) (e.1.2.length - 1) < e.1.2.length by omega), condT, inRange_nat, nth_nat, dT hr, condT]
 simp only [pEta]
 rw [hcell, hold_impl, tap_impl, bindV, bindV]
 obtain ⟨A, D', t1, t2, t3⟩ := tailh N hN e he (key : Int) (stlE e (prA e (key : Int) hold)).1 (stl_n (okA_n hp.1).1) ((e.1.1, hs), (gs, (stlE e (prA e (key : Int) hold)).2.2.2.1, e.2.2.2.1 ++ [((key : Int), (stlE e (prA e (key : Int) hold)).1)], (stlE e (prA e (key : Int) hold)).2.2.2.2.2)) D1
 rw [prs_eq]
 have fin : ∀ r, r = some ((((e.1.1, hs), (gs, (stlE e (prA e (key : Int) hold)).2.2.2.1, e.2.2.2.1 ++ [((key : Int), (stlE e (prA e (key : Int) hold)).1)], (stlE e (prA e (key : Int) hold)).2.2.2.2.2)), A), D') -> POut r D (let s := stlE e (prA e (key : Int) hold)
  ((s.2.1, s.2.2.1, s.2.2.2.1, e.2.2.2.1 ++ [((key : Int), s.1)], s.2.2.2.2.2), chg (repO e.2.2.2.1) ((bif s.1.1 == 9 && decide (s.1.2.2.2 < e.2.1.length) then mcRep (e.2.2.2.1 ++ [((key : Int), s.1)]) (e.2.1.getD s.1.2.2.2.toNat []) else []) ++ [repO (e.2.2.2.1 ++ [((key : Int), s.1)])]))) := by
  intro r hr
  refine ⟨⟨hs, gs, A, D', hr, p1.trans t2, mid, D1.length, m1, m2, t2.length_le, m3.more t2, m4.more t2, t3⟩⟩
 cases hold with
 | true =>
  rw [condT]
  unfold prA at hp t1 fin ⊢
  rw [condT] at hp t1 fin ⊢
  rw [settleh_eq N e _ hp.1, bindV]
  exact fin _ t1
 | false =>
  rw [condF]
  unfold prA at hp t1 fin ⊢
  rw [condF] at hp t1 fin ⊢
  rw [settleh_eq N e _ hp.1, bindV]
  exact fin _ t1
theorem POut.call {r : Option ((HEng × List RH) × List HRow)} {D : List HRow} {V : Eng × List Rpt} (h : POut r (hhide D) V) :
  ∃ hs gs A E, r = some ((((V.1.1.1, hs), (gs, V.1.2.2)), A), E) /\ D <+: yw D E /\ ∃ a b, D.length <= a /\ a <= b /\ b <= (yw D E).length /\ Own (u := tA) 8 (yw D E) D.length a hs V.1.1.2 /\ Own (u := tS) 10 (yw D E) a b gs V.1.2.1 /\ OwnR (yw D E) b (yw D E).length A V.2 := by
 obtain ⟨hs, gs, A, E, e1, p, a, b, h1, h2, h3, h4, h5, h6⟩ := h.out
 rw [hide_len] at h1 h4
 obtain ⟨q1, q2, _⟩ := hide_more p
 refine ⟨hs, gs, A, E, e1, q1, a, b, h1, h2, by rw [q2]; exact h3, h4.shown p (nR _), h5.shown p h1, ?_⟩
 rw [q2]
 exact h6.shown p (by omega)
def StepH (D : List HRow) (o : List Rpt) (d' : Dcd) (r : Option ((List RH × Bool × HEng × Tmg × List Ev × Int × Int × Int × Int) × List HRow)) : Prop :=
 ∃ hs gs A D', r = some ((A, true, (((d'.1.1.1, hs), (gs, d'.1.2.2)), d'.2)), D') /\ D <+: D' /\ ∃ a b, D.length <= a /\ a <= b /\ b <= D'.length /\ Own (u := tA) 8 D' D.length a hs d'.1.1.2 /\ Own (u := tS) 10 D' a b gs d'.1.2.1 /\ OwnR D' b D'.length A o
theorem performh_eq (N : Nat) (hN : 1048576 < N) (d : Dcd) (h : OkD d) (h0 : 0 < d.2.2.1.length) (hs gs : List Hnd) (D : List HRow) (lo m hi : Nat) (o1 : Own (u := tA) 8 D lo m hs d.1.1.2) (o2 : Own (u := tS) 10 D m hi gs d.1.2.1) :
  match stepD d with
  | none => yL.H N ((((d.1.1.1, hs), (gs, d.1.2.2)), d.2)) D = some (([], false, (((d.1.1.1, hs), (gs, d.1.2.2)), d.2)), D)
  | some (o, d') => StepH D o d' (yL.H N ((((d.1.1.1, hs), (gs, d.1.2.2)), d.2)) D) := by
 obtain ⟨⟨⟨km, ls⟩, macs, fx, held, on, cp⟩, tm, q, now, ck, tp, ta⟩ := d
 cases q with
 | nil => simp at h0
 | cons f r =>
  obtain ⟨⟨k, f1, f2⟩, ⟨t0, t1⟩, hrel, hprs⟩ := h.front rfl
  obtain ⟨h1, h2, h3, h4, h5, h6, h7, h8⟩ := h
  obtain ⟨t, key, dn⟩ := f
  dsimp only at f1 f2 t0 t1 hrel hprs h1 h2 h3 h4 h5 h7 h8 o1 o2
  subst f1
  have hk := h1.map.keys
  have hh := h1.len
  dsimp only at hk hh
  have i0 : zG 0 ((t, (k : Int), dn) :: r).length = true := by
   unfold zG; rw [List.length_cons, dT (by omega), dT (by omega)]; rfl
  have i1 : (decide ((0 : Int) <= 1) && decide ((1 : Int) <= (((t, (k : Int), dn) :: r).length : Int))) = true := by
   rw [List.length_cons, dT (by omega), dT (by omega)]; rfl
  have n0 : List.getD ((t, (k : Int), dn) :: r) 0 ((0 : Int), ((0 : Int), false)) = (t, (k : Int), dn) := rfl
  have d1 : List.drop 1 ((t, (k : Int), dn) :: r) = r := rfl
  have wk : IntKind.wrap .i64 ((k : Int) + 1) = (k : Int) + 1 := zBE (by omega) (by omega)
  have wt : IntKind.wrap .i64 (t - ta) = t - ta := zBE (by omega) (by omega)
  have hr : r.length <= 63 := by rw [List.length_cons] at h5; omega
  have hm : decide (r.length <= maxN) = true := dT (by unfold maxN; omega)
  rw [yL.H_eq]
  dsimp only
  rw [i0, condT, i1, condT]
  simp only [n0, d1, wk, wt, hm, condT, o1.unok, o2.unok, Bool.and_self]
  rw [o1.unA, o2.unS]
  simp only [stepD]
  cases dn with
  | false =>
   obtain ⟨hs', gs', A, E, e1, p, a, b, g⟩ := (releaseh_eq N hN _ h1 (k : Int) (hrel rfl) (hhide D)).call
   rw [e1]
   simp only [notF, condT, condF, bindV]
   cases tp == (k : Int) + 1
   ·exact ⟨hs', gs', A, _, rfl, p, a, b, g⟩
   ·exact ⟨hs', gs', A, _, rfl, p, a, b, g⟩
  | true =>
   obtain ⟨hs1, gs1, A1, E1, e1, p1, a1, b1, g1⟩ := (pressh_eq N hN _ h1 k f2 true (hhide D)).call
   obtain ⟨hs2, gs2, A2, E2, e2, p2, a2, b2, g2⟩ := (pressh_eq N hN _ h1 k f2 false (hhide D)).call
   simp only [notT, condF, condT]
   rw [ly_impl N hN _ _ (by omega), bindV, act_impl N hN h1.map f2, bindV, isTH_impl, bindV]
   rw [e1, e2, chc_impl N hN tm (k : Int) t r (by omega) now]
   simp only [bindV, chD]
   cases isTH (actN ls (lyOn fx held) (k : Int)) with
   | false => exact ⟨hs2, gs2, A2, _, rfl, p2, a2, b2, g2⟩
   | true =>
    simp only [condT, bneB]
    have eq : decide (t - ta >= tm.2.1) = !decide (t - ta < tm.2.1) := by
     rw [Bool.eq_iff_iff]; simp only [decide_eq_true_eq, Bool.not_eq_true', decide_eq_false_iff_not]; omega
    rw [eq]
    have hv := chc_vals tm (k : Int) t r now
    generalize chc tm (k : Int) t r now = c at *
    obtain ⟨c1, c2⟩ := c
    dsimp only at hv
    cases tp == (k : Int) + 1 <;> cases decide (t - ta < tm.2.1) <;> rcases hv with hv | hv | hv <;> subst hv <;> first | rfl | exact ⟨hs2, gs2, A2, _, rfl, p2, a2, b2, g2⟩ | exact ⟨hs1, gs1, A1, _, rfl, p1, a1, b1, g1⟩
end Go.Kb
namespace Go.Kb
set_option maxRecDepth 100000
abbrev SH := Int × RH
abbrev HDcd := HEng × Tmg × List Ev × Int × Int × Int × Int
def OwnS (D : List HRow) (lo hi : Nat) (A : List SH) (V : List Snt) : Prop := A.map Prod.fst = V.map Prod.fst /\ OwnR D lo hi (A.map Prod.snd) (V.map Prod.snd)
section
variable {D D' : List HRow} {lo hi mid : Nat} {A B : List SH} {V W : List Snt}
theorem ownS_nil : OwnS D lo hi [] [] := ⟨rfl, ownR_nil⟩
theorem OwnS.len (h : OwnS D lo hi A V) : A.length = V.length := by have := h.2.len; simpa using this
theorem OwnS.more (h : OwnS D lo hi A V) (hD : D <+: D') : OwnS D' lo hi A V := ⟨h.1, h.2.more hD⟩
theorem OwnS.mono (h : OwnS D lo hi A V) {lo' hi' : Nat} (h1 : lo' <= lo) (h2 : hi <= hi') : OwnS D lo' hi' A V := ⟨h.1, h.2.mono h1 h2⟩
theorem OwnS.apart (h : OwnS D lo hi A V) {a b : Nat} (hf : Fr a b D D') (hab : hi <= a \/ b <= lo) : OwnS D' lo hi A V := ⟨h.1, h.2.apart hf hab⟩
theorem OwnS.shown {E : List HRow} (h : OwnS E lo hi A V) (hD : hhide D <+: E) (hlo : D.length <= lo) : OwnS (yw D E) lo hi A V := ⟨h.1, h.2.shown hD hlo⟩
theorem OwnS.append (h : OwnS D lo mid A V) (g : OwnS D mid hi B W) (h1 : lo <= mid) (h2 : mid <= hi) : OwnS D lo hi (A ++ B) (V ++ W) := by
 refine ⟨by simp [h.1, g.1], ?_⟩
 rw [List.map_append, List.map_append]
 exact h.2.append g.2 h1 h2
theorem ownS_sent {R : List RH} {l : List Rpt} (h : OwnR D lo hi R l) (t : Int) : OwnS D lo hi (R.map fun r => (t, r)) (sentB t l) := by
 refine ⟨?_, ?_⟩
 ·unfold sentB
  rw [List.map_map, List.map_map]
  have e1 : (Prod.fst ∘ fun r : RH => (t, r)) = fun _ => t := rfl
  have e2 : (Prod.fst ∘ fun r : Rpt => (t, r)) = fun _ => t := rfl
  rw [e1, e2, List.map_const', List.map_const', h.len]
 ·unfold sentB
  rw [List.map_map, List.map_map]
  have e1 : (Prod.snd ∘ fun r : RH => (t, r)) = id := rfl
  have e2 : (Prod.snd ∘ fun r : Rpt => (t, r)) = id := rfl
  rw [e1, e2, List.map_id, List.map_id]
  exact h
end
theorem sendh_eq (N : Nat) (hN : 1048576 < N) (t : Int) (l : List RH) (hl : l.length <= 1000) (o : List SH) (ho : o.length <= 1000000) (D : List HRow) : yr.H N (o, t, l) D = some (o ++ l.map (fun r => (t, r)), D) := by
 have gl : ∀ (n i : Nat) (o : List SH), i <= l.length -> l.length < n + i -> o.length + (l.length - i) <= 1001000 -> yr.L1 N n t l (l.length : Int) (i : Int) o D = some (o ++ (l.drop i).map (fun r => (t, r)), D) := by
  intro n
  induction n with
  | zero => intro i o h1 h2; omega
  | succ n ih =>
   intro i o h1 h2 h3
   rw [yr.L1_eq]
   by_cases hi : i < l.length
   ·rw [zAG (0, none) l i hi, dT (Int.ofNat_lt.mpr hi), condT, inRange_nat, dT hi, condT, nth_nat, len1 o _ (by omega), condT, yP (by omega)]
    rw [ih (i + 1) _ (by omega) (by omega) (by rw [lA, List.length_singleton]; omega), List.append_assoc]
    rfl
   ·rw [dF (by omega), condF, List.drop_of_length_le (by omega), List.map_nil, List.append_nil]
 rw [yr.H_eq]
 have g := gl N 0 o (by omega) (by omega) (by omega)
 rw [List.drop_zero] at g
 exact g
def zCO (lo : Nat) (D : List HRow) (hs gs : List Hnd) (A : List SH) (d : Dcd) (V : List Snt) : Prop :=
 ∃ a m b A1 A2 V1 V2, lo <= a /\ a <= m /\ m <= b /\ b <= D.length /\ Own (u := tA) 8 D a m hs d.1.1.2 /\ Own (u := tS) 10 D m b gs d.1.2.1 /\ A = A1 ++ A2 /\ V = V1 ++ V2 /\ OwnS D lo a A1 V1 /\ OwnS D b D.length A2 V2
def QO (D : List HRow) (V : Dcd × List Snt × Bool) (r : Option ((HDcd × List SH × Bool) × List HRow)) : Prop :=
 ∃ hs gs A D', r = some (((((V.1.1.1.1, hs), (gs, V.1.1.2.2)), V.1.2), (A, V.2.2)), D') /\ D <+: D' /\ zCO D.length D' hs gs A V.1 V.2.1
theorem QOzero {D D' : List HRow} (h : D <+: D') : QO D (zeroD, [], false) (some (((((0, ([] : List Hnd)), (([] : List Hnd), (0, (([] : List (Int × Int × Int × Int × Int)), (0, false))))), ((0, (0, 0)), (([] : List (Int × Int × Bool)), (0, (0, (0, 0)))))), (([] : List (Int × Int × Hnd)), false)), D')) :=
 ⟨[], [], [], D', rfl, h, D.length, D.length, D'.length, [], [], [], [], nR _, nR _, h.length_le, nR _, own_nil, own_nil, rfl, rfl, ownS_nil, ownS_nil⟩
theorem playh_L1 (N : Nat) (hN : 1048576 < N) (lo : Nat) : ∀ (k n : Nat) (d : Dcd) (hs gs : List Hnd) (A : List SH) (V : List Snt) (D : List HRow), d.2.2.1.length <= k -> k < n -> OkD d -> A.length + 17 * d.2.2.1.length <= 2000 -> zCO lo D hs gs A d V ->
  ∃ hs' gs' A' D', zS.L1 N n d.1.1.1 hs gs d.1.2.2.1 d.1.2.2.2.2.1 d.1.2.2.2.2.2 d.2.1.1 d.2.1.2.1 d.2.1.2.2 d.2.2.2.1 d.2.2.2.2.1 d.2.2.2.2.2.1 d.2.2.2.2.2.2 d.2.2.1 d.1.2.2.2.1 A D = some ((((((runQ d).1.1.1.1, hs'), (gs', (runQ d).1.1.2.2)), (runQ d).1.2), (A', true)), D') /\ D <+: D' /\ zCO lo D' hs' gs' A' (runQ d).1 (V ++ (runQ d).2) := by
 intro k
 induction k with
 | zero =>
  intro n d hs gs A V D h1 h2 h3 h4 h5
  obtain ⟨n, rfl⟩ : ∃ m, n = m + 1 := ⟨n - 1, by omega⟩
  have hs' := stepD_nil (d := d) (List.length_eq_zero_iff.1 (by omega))
  rw [zS.L1_eq, dF (by omega), condF, zCC hs', List.append_nil]
  exact ⟨hs, gs, A, D, rfl, List.prefix_refl _, h5⟩
 | succ k ih =>
  intro n d hs gs A V D h1 h2 h3 h4 h5
  obtain ⟨n, rfl⟩ : ∃ m, n = m + 1 := ⟨n - 1, by omega⟩
  rw [zS.L1_eq]
  by_cases h0 : 0 < d.2.2.1.length
  ·obtain ⟨a, m, b, A1, A2, V1, V2, l1, l2, l3, l4, o1, o2, eA, eV, s1, s2⟩ := h5
   have hp := performh_eq N hN d h3 h0 hs gs D a m b o1 o2
   rw [dT (by omega), condT]
   simp only [pEta]
   cases hst : stepD d with
   | none =>
    rw [hst] at hp
    dsimp only at hp
    rw [hp, bindV]
    dsimp only
    rw [notF, condT, zCC hst, List.append_nil]
    exact ⟨hs, gs, A, D, rfl, List.prefix_refl _, a, m, b, A1, A2, V1, V2, l1, l2, l3, l4, o1, o2, eA, eV, s1, s2⟩
   | some p =>
    obtain ⟨o, d'⟩ := p
    rw [hst] at hp
    obtain ⟨hs', gs', B, D', e1, p1, a', b', g1, g2, g3, g4, g5, g6⟩ := hp
    obtain ⟨i1, i2, i3, i4, i5, ⟨f, hf⟩, _⟩ := stepD_ok h3 hst
    have hl := step_len h3 hst
    have hlen : d.2.2.1.length = d'.2.2.1.length + 1 := by rw [hf]; rfl
    have hBl := g6.len
    have hpl := p1.length_le
    rw [e1, bindV]
    dsimp only
    rw [notT, condF, sendh_eq N hN _ B (by omega) A (by omega), bindV]
    have own' : zCO lo D' hs' gs' (A ++ B.map (fun r => (d'.2.2.2.2.1, r))) d' (V ++ sentB d'.2.2.2.2.1 o) := by
     refine ⟨D.length, a', b', A, B.map (fun r => (d'.2.2.2.2.1, r)), V, sentB d'.2.2.2.2.1 o, by omega, g1, g2, g3, g4, g5, rfl, rfl, ?_, ownS_sent g6 _⟩
     rw [eA, eV]
     exact ((s1.more p1).mono (nR _) (by omega)).append ((s2.more p1).mono (by omega) (nR _)) l1 (by omega)
    obtain ⟨hs2, gs2, A', D2, q1, q2, q3⟩ := ih n d' hs' gs' _ _ D' (by omega) (by omega) i1 (by rw [lA, List.length_map]; omega) own'
    rw [runQ_some hst]
    dsimp only
    rw [<- List.append_assoc]
    exact ⟨hs2, gs2, A', D2, q1, p1.trans q2, q3⟩
  ·have hs' := stepD_nil (d := d) (List.length_eq_zero_iff.1 (by omega))
   rw [dF (by omega), condF, zCC hs', List.append_nil]
   exact ⟨hs, gs, A, D, rfl, List.prefix_refl _, h5⟩
theorem playh_eq (N : Nat) (hN : 2200000 < N) (d : Dcd) (hd : smallD d) (l : List Ev) (hl : l.length <= 1048576) (en : Int) (D : List HRow) : QO D (ply d l en) (zS.H N (d, l, en) D) := by
 rw [zS.H_eq, isD_impl N hN d hd, bindV]
 have z0 := QOzero (List.prefix_refl D)
 by_cases hD : isD d = true
 ·have hO := (isD_iff d).1 hD
  have hq := hO.len
  obtain ⟨hs, gs, E, ec, oc⟩ := cDh_eq N (by omega) d hd.1 (by omega) (hhide D)
  obtain ⟨pc, mid, c3, c4, c5, c6⟩ := oc.call
  have em : decide (d.2.2.1.length + l.length <= maxN) = true := dT (by unfold maxN; omega)
  rw [hD, notT, condF]
  by_cases c1 : en < d.2.2.2.1
  ·have hp : plyB d l en = false := by
    rw [Bool.eq_false_iff]; intro hp; have := ((plyB_iff d l en).1 hp).en_; omega
   rw [dT c1, condT]; unfold ply; rw [hp]; exact z0
  by_cases c2 : en > 1000000
  ·have hp : plyB d l en = false := by
    rw [Bool.eq_false_iff]; intro hp; have := ((plyB_iff d l en).1 hp).en_; omega
   rw [dF c1, condF, dT c2, condT]; unfold ply; rw [hp]; exact z0
  rw [dF c1, condF, dF c2, condF]
  have hb := behind_impl N l (by omega) en (by have := hO.now; omega)
  rw [hb, ec]
  simp only [bindV]
  rw [em, hm_impl N (by omega) hO.eng]
  simp only [condT, bindV]
  rw [fits_impl N hN _ (by rw [lA]; omega)]
  simp only [bindV]
  have core : headB d.2.2.2.1 l = true -> QO D (ply d l en) (bif !(decide (lT 0 l <= en)) then some (((((0, ([] : List Hnd)), (([] : List Hnd), (0, (([] : List (Int × Int × Int × Int × Int)), (0, false))))), ((0, (0, 0)), (([] : List (Int × Int × Bool)), (0, (0, (0, 0)))))), (([] : List (Int × Int × Hnd)), false)), D) else
    bif !(fits (d.2.2.1 ++ l) (hmGo 0 d.1.2.2.2.1) d.1.1.1) then some (((((0, ([] : List Hnd)), (([] : List Hnd), (0, (([] : List (Int × Int × Int × Int × Int)), (0, false))))), ((0, (0, 0)), (([] : List (Int × Int × Bool)), (0, (0, (0, 0)))))), (([] : List (Int × Int × Hnd)), false)), yw D E) else
    zS.L1 N N d.1.1.1 hs gs d.1.2.2.1 d.1.2.2.2.2.1 d.1.2.2.2.2.2 d.2.1.1 d.2.1.2.1 d.2.1.2.2 en d.2.2.2.2.1 d.2.2.2.2.2.1 d.2.2.2.2.2.2 (d.2.2.1 ++ l) d.1.2.2.2.1 ([] : List (Int × Int × Hnd)) (yw D E)) := by
   intro hh
   unfold ply plyB
   rw [hD, hh, Bool.true_and, Bool.true_and, dT (show d.2.2.2.1 <= en /\ en <= 1000000 by omega), Bool.true_and]
   cases hlt : decide (lT 0 l <= en) with
   | false => exact z0
   | true =>
    rw [notT, condF, Bool.true_and]
    cases hf : fits (d.2.2.1 ++ l) (hmGo 0 d.1.2.2.2.1) d.1.1.1 with
    | false => exact QOzero pc
    | true =>
     have hP : OkP d l en := (plyB_iff d l en).1 (by
      unfold plyB
      rw [hD, hh, hlt, hf, dT (show d.2.2.2.1 <= en /\ en <= 1000000 by omega)]; rfl)
     have hx := hP.ext
     rw [notT, condF, condT]
     have e1 : (d.1, d.2.1, d.2.2.1 ++ l, en, d.2.2.2.2) = ext l en d := rfl
     rw [e1, runQ_eq (d := ext l en d) hx.len]
     obtain ⟨hs', gs', A', D', q1, q2, q3⟩ := playh_L1 N (by omega) D.length 64 N (ext l en d) hs gs [] [] (yw D E) hx.len (by omega) hx (by have := hx.len; rw [List.length_nil]; omega) ⟨D.length, mid, (yw D E).length, [], [], [], [], nR _, c3, c4, nR _, c5, c6, rfl, rfl, ownS_nil, ownS_nil⟩
     rw [List.nil_append] at q3
     exact ⟨hs', gs', A', D', q1, pc.trans q2, q3⟩
  cases l with
  | nil =>
   rw [dF (by rw [List.length_nil]; omega), condF]
   exact core rfl
  | cons x s =>
   have i0 : zG 0 (x :: s).length = true := by
    unfold zG; rw [List.length_cons, dT (by omega), dT (by omega)]; rfl
   have n0 : nth ((0 : Int), ((0 : Int), false)) (x :: s) 0 = x := rfl
   rw [dT (by rw [List.length_cons]; omega), condT, i0, condT, n0]
   by_cases hx : x.1 < d.2.2.2.1
   ·have hp : plyB d (x :: s) en = false := by
     rw [Bool.eq_false_iff]; intro hp
     have := ((plyB_iff d (x :: s) en).1 hp).hd
     have := of_decide_eq_true (show decide (d.2.2.2.1 <= x.1) = true from this)
     omega
    rw [dT hx, condT]; unfold ply; rw [hp]; exact z0
   ·rw [dF hx, condF]
    exact core (dT (by omega))
 ·have hD : isD d = false := by rw [Bool.eq_false_iff]; exact hD
  have hp : plyB d l en = false := by unfold plyB; rw [hD]; rfl
  rw [hD, notF, condT]; unfold ply; rw [hp]; exact z0
end Go.Kb
namespace Go.Kb
theorem marksE_L1 (N : Nat) : ∀ (n k : Nat) (c : Int) (o : List Ev), o.length <= maxN -> k <= o.length -> o.length < n + k -> 0 <= c -> c + 3 * (o.length - k) <= 4611686018427387904 ->
  ∃ c' o', zm.L1 N n c (k : Int) o = some (c', o') /\ o'.length = o.length /\ (∀ j, j < k -> o'.getD j (0, 0, false) = o.getD j (0, 0, false)) /\ c <= c' /\ c' <= c + 3 * (o.length - k : Nat) /\ zf.L1 N n o' c (k : Int) = some c' := by
 intro n
 induction n with
 | zero => intro k c o h1 h0 h2 h3 h4; omega
 | succ n ih =>
  intro k c o h1 h0 h2 h3 h4
  unfold maxN at h1
  rw [zm.L1_eq]
  by_cases hk : k < o.length
  ·have w1 : IntKind.wrap .i64 (c + 1) = c + 1 := zBE (by omega) (by omega)
   have w2 : IntKind.wrap .i64 (c + 1 + 1) = c + 1 + 1 := zBE (by omega) (by omega)
   have w3 : IntKind.wrap .i64 (c + 1 + 1 + 1) = c + 3 := by rw [zBE (by omega) (by omega)]; omega
   have ws : IntKind.wrap .i64 ((k : Int) + 1) = ((k + 1 : Nat) : Int) := yP (by omega)
   simp only [oJ, hk, decide_true, condT, inRange_nat, Int.toNat_natCast, List.length_set, w1, w2, w3, ws, getD_set o k _ _ hk, List.set_set]
   obtain ⟨c', o', e1, e2, e3, e4, e5, e6⟩ := ih (k + 1) (c + 3) (o.set k (c, (c + 1, (Int.tmod (c + 1 + 1) 3 == 0)))) (by unfold maxN; simp; omega) (by simp; omega) (by simp; omega) (by omega) (by simp; omega)
   simp only [List.length_set] at e2 e5
   refine ⟨c', o', e1, e2, fun j hj => ?_, by omega, by omega, ?_⟩
   ·rw [e3 j (by omega), getD_set_ne _ _ _ _ _ (by omega)]
   ·rw [zf.L1_eq]
    have hk' : k < o'.length := by omega
    have hg : o'.getD k (0, 0, false) = (c, (c + 1, (Int.tmod (c + 1 + 1) 3 == 0))) := by rw [e3 k (by omega), getD_set _ _ _ _ hk]
    simp only [oJ, hk', decide_true, condT, inRange_nat, nth_nat, hg, bne_self_eq_false, condF, w1, w2, w3, ws]
    exact e6
  ·refine ⟨c, o, ?_, rfl, fun j _ => rfl, by omega, by omega, ?_⟩
   ·simp only [oJ, hk, decide_false, condF]
   ·rw [zf.L1_eq]
    simp only [oJ, hk, decide_false, condF]
theorem marksE_eq (N : Nat) (a : List Ev) (c : Int) (h : a.length < N) (hm : a.length <= maxN) (h0 : 0 <= c) (h1 : c <= 1152921504606846976) :
  ∃ c' o', zm.F N (a, c) = some (c', o') /\ c <= c' /\ c' <= c + 3 * a.length /\ zf.F N (o', c) = some c' /\ o'.length = a.length := by
 rw [zm.F_eq]
 obtain ⟨c', o', e1, e2, e3, e4, e5, e6⟩ := marksE_L1 N N 0 c a hm (by omega) (by omega) h0 (by unfold maxN at hm; omega)
 exact ⟨c', o', e1, e4, by omega, by rw [zf.F_eq]; exact e6, e2⟩
structure lenC (c : Cm) : Prop where
 a : c.1.length <= 1100000
 b : c.2.2.1.length <= 1100000
 d : c.2.2.2.2.2.2.length <= 1100000
end Go.Kb
