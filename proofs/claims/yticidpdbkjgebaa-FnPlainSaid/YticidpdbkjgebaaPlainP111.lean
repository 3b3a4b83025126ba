/- The law FnPlain, as a value. -/
import Derived.Test.YticidpdbkjgebaaPlainP110
namespace Go.Kb
set_option maxRecDepth 100000
theorem taps_next {ls : List (List Act)} {i k : Nat} (hk : (ls.getD i []).length <= k) (h : tapsB ls i k) : tapsB ls (i + 1) 0 := by
 intro j q hj
 by_cases hji : j = i
 ·subst hji
  by_cases hq : q < k
  ·exact h j q (Or.inr ⟨rfl, hq⟩)
  ·rw [List.getD_eq_getElem?_getD, List.getElem?_eq_none (by omega)]; rfl
 ·exact h j q (Or.inl (by omega))
theorem Plain_L2 (N : Nat) (code : List Int) (keys : Nat) (hk : 1 <= keys /\ keys <= 32) (hs : List Hnd) (hi : Nat) (n1 i : Nat) : ∀ (n2 k : Nat) (ls : List (List Act)) (D : List HRow), k <= keys -> keys < n2 + k -> OkM ((keys : Int), ls) -> Own (u := tA) 8 D 0 hi hs ls -> i < ls.length -> tapsB ls i k ->
  ∃ ls' D', laws_FnPlain.L2 N n1 n2 code (i : Int) (k : Int) (keys : Int) hs D = laws_FnPlain.L1 N n1 code ((i + 1 : Nat) : Int) (keys : Int) hs D' /\ OkM ((keys : Int), ls') /\ Own (u := tA) 8 D' 0 hi hs ls' /\ tapsB ls' (i + 1) 0 /\ ls'.length = ls.length := by
 intro n2
 induction n2 with
 | zero => intro k ls D x1 x2; omega
 | succ n2 ih =>
  intro k ls D x1 x2 x3 x4 x5 x6
  have hrow := x3.row (i := i) x5
  have hl := x3.len
  have hhl := x4.len
  dsimp only at hrow hl
  rw [laws_FnPlain.L2_eq]
  by_cases hkk : k < keys
  ·have hkr : k < (ls.getD i []).length := by omega
   have ht : zAF.F N ((((ls.getD i []).getD k (0, 0, 0, 0)).1, (((ls.getD i []).getD k (0, 0, 0, 0)).2.1, ((ls.getD i []).getD k (0, 0, 0, 0)).2.2))) = some (tapO ((ls.getD i []).getD k (0, 0, 0, 0))) := tap_impl N _
   have hcell := x3.cell (i := i) x5 (key := (k : Int)) ⟨by omega, by dsimp only; omega⟩
   have hcell : cellB ls.length (decide (i = 0)) ((ls.getD i []).getD k (0, 0, 0, 0)) = true := hcell
   have e0 : (i == 0) = decide (i = 0) := by cases i <;> rfl
   have hM := x3.setc x5 hkr (by rw [e0]; exact tap_cell (by omega) hcell)
   obtain ⟨p1, p2⟩ := x4.put (i := i) x5 (v := (ls.getD i []).set k (tapO ((ls.getD i []).getD k (0, 0, 0, 0)))) (by rw [List.length_set])
   have hT := tapsB_set x5 hkr (tap_no ((ls.getD i []).getD k (0, 0, 0, 0))) x6
   rw [dT (show (k : Int) < (keys : Int) by omega), condT, nth_nat, x4.full x5, condT, inRange_nat, dT (show i < hs.length by omega), condT, x4.cut x5, hsame_own x4 x5 (by omega), condT, condT, condT, inRange_nat, dT hkr, condT, Int.toNat_natCast, ht, bindV, condT, y0 (by omega)]
   obtain ⟨ls', D', q1, q2, q3, q4, q5⟩ := ih (k + 1) _ _ (by omega) (by omega) hM p1 (by rw [List.length_set]; exact x5) hT
   exact ⟨ls', D', q1, q2, q3, q4, by rw [q5, List.length_set]⟩
  ·rw [dF (show ¬ (k : Int) < (keys : Int) by omega), condF, y0 (by omega)]
   exact ⟨ls, D, rfl, x3, x4, taps_next (by omega) x6, rfl⟩
theorem rel_held (N : Nat) (hN : 1048576 < N) (e : Eng) (he : OkE e) (key : Int) (hk : ∃ x ∈ e.2.2.2.1, x.1 = key) : y3.F N (e, key) = some ((rls e key).1, (rls e key).2, true) := by
 have hl := he.len
 obtain ⟨h1, h2⟩ := hAtI_some hk
 rw [y3.F_eq, isE_impl N hN e he.small, bindV, (isE_iff e).2 he, notT, condF, hAt_impl N hN e (by omega), bindV, h1, dF (by omega), condF, release_impl N hN e he key hk, bindV]
theorem rel_none (N : Nat) (hN : 1048576 < N) (e : Eng) (he : OkE e) (key : Int) (hk : ∀ x ∈ e.2.2.2.1, x.1 ≠ key) : y3.F N (e, key) = some (zeroE, [], false) := by
 have hl := he.len
 rw [y3.F_eq, isE_impl N hN e he.small, bindV, (isE_iff e).2 he, notT, condF, hAt_impl N hN e (by omega), bindV, hAtI_none hk, dT (by omega), condT]
 rfl
theorem press_v (N : Nat) (hN : 1048576 < N) (e : Eng) (he : OkE e) (k : Nat) (hk : (k : Int) < e.1.1) (hn : ∀ x ∈ e.2.2.2.1, x.1 ≠ (k : Int)) : zAK.F N (e, (k : Int), false) = some ((prs e (k : Int) false).1, (prs e (k : Int) false).2, true) := by
 have hl := he.len
 rw [zAK.F_eq, isE_impl N hN e he.small, bindV, (isE_iff e).2 he, notT, condF, dF (show ¬ (k : Int) < 0 by omega), condF, dF (show ¬ (k : Int) >= e.1.1 by omega), condF, hAt_impl N hN e (by omega), bindV, hAtI_none hn, dF (by omega), condF, press_impl N hN e he k hk false, bindV]
def evP (e : Eng) (f : Ev) : Eng × List Rpt := bif f.2.2 then prs e f.2.1 false else rls e f.2.1
def noTH (m : Mp) : Prop := ∀ on key : Int, 0 <= key -> key < m.1 -> isTH (actN m.2 on key) = false
theorem noTH_of {keys : Int} {ls : List (List Act)} (hl : 1 <= ls.length) (h : tapsB ls ls.length 0) : noTH (keys, ls) := by
 intro on key _ _
 have := layN_le ls on key (ls.length - 1)
 exact h (layN ls on key (ls.length - 1)) _ (Or.inl (by omega))
theorem stepP {x : Dcd} (hx : OkD x) (hn : noTH x.1.1) {f : Ev} {r : List Ev} (hq : x.2.2.1 = f :: r) (hc : x.2.2.2.2.1 <= f.1) :
  ∃ x', stepD x = some ((evP x.1 f).2, x') /\ x'.1 = (evP x.1 f).1 /\ x'.2.2.1 = r /\ x'.2.2.2.2.1 = f.1 := by
 obtain ⟨⟨k, f1, f2⟩, _, _, _⟩ := hx.front hq
 have hw : maxI x.2.2.2.2.1 f.1 = f.1 := by unfold maxI; split <;> omega
 unfold stepD evP
 rw [hq]
 dsimp only
 rw [hw]
 cases hd : f.2.2 with
 | false => rw [condF, condF]; exact ⟨_, rfl, rfl, rfl, rfl⟩
 | true =>
  rw [condT, condT, hn _ f.2.1 (by omega) (by omega), condF]
  exact ⟨_, rfl, rfl, rfl, rfl⟩
theorem Plain_L4 (N n3 : Nat) (l : List Ev) (all : List Snt) (i : Nat) (hi : i < l.length) (hl : l.length <= 1000) (rs : List Rpt) (hr : rs.length <= 1000) (a b : Eng) (x : Dcd) (D : List HRow) : ∀ (n4 k : Nat) (o : List Snt), k <= rs.length -> rs.length < n4 + k -> o.length + (rs.length - k) <= 1000000 ->
  laws_FnPlain.L4 N n3 n4 true true l all true (i : Int) rs (k : Int) a.1.1 a.1.2 a.2.1 a.2.2.1 a.2.2.2.1 a.2.2.2.2.1 a.2.2.2.2.2 x.1.1.1 x.1.1.2 x.1.2.1 x.1.2.2.1 x.1.2.2.2.1 x.1.2.2.2.2.1 x.1.2.2.2.2.2 x.2.1.1 x.2.1.2.1 x.2.1.2.2 x.2.2.1 x.2.2.2.1 x.2.2.2.2.1 x.2.2.2.2.2.1 x.2.2.2.2.2.2 o b.1.1 b.1.2 b.2.1 b.2.2.1 b.2.2.2.1 b.2.2.2.2.1 b.2.2.2.2.2 D =
  laws_FnPlain.L3 N n3 true true l all true ((i + 1 : Nat) : Int) b.1.1 b.1.2 b.2.1 b.2.2.1 b.2.2.2.1 b.2.2.2.2.1 b.2.2.2.2.2 x.1.1.1 x.1.1.2 x.1.2.1 x.1.2.2.1 x.1.2.2.2.1 x.1.2.2.2.2.1 x.1.2.2.2.2.2 x.2.1.1 x.2.1.2.1 x.2.1.2.2 x.2.2.1 x.2.2.2.1 x.2.2.2.2.1 x.2.2.2.2.2.1 x.2.2.2.2.2.2 (o ++ sentB (l.getD i (0, 0, false)).1 (rs.drop k)) D := by
 intro n4
 induction n4 with
 | zero => intro k o h1 h2; omega
 | succ n4 ih =>
  intro k o h1 h2 h3
  rw [laws_FnPlain.L4_eq]
  by_cases hk : k < rs.length
  ·rw [dT (Int.ofNat_lt.2 hk), condT, inRange_nat, dT hi, condT, inRange_nat, dT hk, condT, nth_nat, nth_nat, len1 o _ (by omega), condT, y0 (by omega), ih (k + 1) _ (by omega) (by omega) (by rw [lA, List.length_singleton]; omega), zAL (0, []) rs k hk, List.append_assoc]
   rfl
  ·rw [dF (by omega), condF, y0 (by omega), List.drop_of_length_le (by omega)]
   show _ = laws_FnPlain.L3 N n3 true true l all true ((i + 1 : Nat) : Int) b.1.1 b.1.2 b.2.1 b.2.2.1 b.2.2.2.1 b.2.2.2.2.1 b.2.2.2.2.2 x.1.1.1 x.1.1.2 x.1.2.1 x.1.2.2.1 x.1.2.2.2.1 x.1.2.2.2.2.1 x.1.2.2.2.2.2 x.2.1.1 x.2.1.2.1 x.2.1.2.2 x.2.2.1 x.2.2.2.1 x.2.2.2.2.1 x.2.2.2.2.2.1 x.2.2.2.2.2.2 (o ++ []) D
   rw [List.append_nil]
theorem Plain_L3 (N : Nat) (hN : 1048576 < N) (l : List Ev) (hl : l.length <= 64) (R : Dcd × List Snt) (hR : R.2.length <= 1000) (hS : ∀ s ∈ R.2, s.2.2.length <= 1048576) (D : List HRow) : ∀ (n i : Nat) (x : Dcd) (o : List Snt), i <= l.length -> l.length < n + i -> OkD x -> noTH x.1.1 -> x.2.2.1 = l.drop i -> (∀ f ∈ l.drop i, x.2.2.2.2.1 <= f.1) -> R = ((runQ x).1, o ++ (runQ x).2) ->
  laws_FnPlain.L3 N n true true l R.2 true (i : Int) x.1.1.1 x.1.1.2 x.1.2.1 x.1.2.2.1 x.1.2.2.2.1 x.1.2.2.2.2.1 x.1.2.2.2.2.2 R.1.1.1.1 R.1.1.1.2 R.1.1.2.1 R.1.1.2.2.1 R.1.1.2.2.2.1 R.1.1.2.2.2.2.1 R.1.1.2.2.2.2.2 R.1.2.1.1 R.1.2.1.2.1 R.1.2.1.2.2 R.1.2.2.1 R.1.2.2.2.1 R.1.2.2.2.2.1 R.1.2.2.2.2.2.1 R.1.2.2.2.2.2.2 o D = some true := by
 intro n
 induction n with
 | zero => intro i x o h1 h2; omega
 | succ n ih =>
  intro i x o h1 h2 hx hn hq hc hr
  rw [laws_FnPlain.L3_eq]
  by_cases hi : i < l.length
  ·rw [zAL (0, 0, false) l i hi] at hq hc
   rw [dT (Int.ofNat_lt.2 hi), condT, inRange_nat, dT hi, condT, nth_nat]
   simp only [condT, pEta]
   obtain ⟨x', s1, s2, s3, s4⟩ := stepP hx hn hq (hc _ (by simp))
   obtain ⟨g1, g2, g3, g4, g5, _, _⟩ := stepD_ok hx s1
   obtain ⟨⟨k, f1, f2⟩, f3, f4, f5⟩ := hx.front hq
   have hf := hx.f
   rw [hq] at hf
   obtain ⟨_, _, k2, _, _, _, f6⟩ := hf
   have hlate := fol_time _ _ _ _ f6
   have hrun := runQ_some s1
   rw [s4] at hrun
   have hlen : (evP x.1 (l.getD i (0, 0, false))).2.length <= 17 := by
    unfold evP
    cases (l.getD i (0, 0, false)).2.2 with
    | false => exact rls_len _ _
    | true => exact prs_len _ _ _
   have ho : o.length <= 1000 := by
    have : R.2.length = o.length + (runQ x).2.length := by rw [hr, lA]
    omega
   have fin : ∀ a : Eng, laws_FnPlain.L4 N n N true true l R.2 true (i : Int) (evP x.1 (l.getD i (0, 0, false))).2 0 a.1.1 a.1.2 a.2.1 a.2.2.1 a.2.2.2.1 a.2.2.2.2.1 a.2.2.2.2.2 R.1.1.1.1 R.1.1.1.2 R.1.1.2.1 R.1.1.2.2.1 R.1.1.2.2.2.1 R.1.1.2.2.2.2.1 R.1.1.2.2.2.2.2 R.1.2.1.1 R.1.2.1.2.1 R.1.2.1.2.2 R.1.2.2.1 R.1.2.2.2.1 R.1.2.2.2.2.1 R.1.2.2.2.2.2.1 R.1.2.2.2.2.2.2 o (evP x.1 (l.getD i (0, 0, false))).1.1.1 (evP x.1 (l.getD i (0, 0, false))).1.1.2 (evP x.1 (l.getD i (0, 0, false))).1.2.1 (evP x.1 (l.getD i (0, 0, false))).1.2.2.1 (evP x.1 (l.getD i (0, 0, false))).1.2.2.2.1 (evP x.1 (l.getD i (0, 0, false))).1.2.2.2.2.1 (evP x.1 (l.getD i (0, 0, false))).1.2.2.2.2.2 D = some true := by
    intro a
    have e4 := Plain_L4 N n l R.2 i hi (by omega) (evP x.1 (l.getD i (0, 0, false))).2 (by omega) a (evP x.1 (l.getD i (0, 0, false))).1 R.1 D N 0 o (by omega) (by omega) (by omega)
    refine e4.trans ?_
    rw [List.drop_zero, <- s2]
    refine ih (i + 1) x' _ (by omega) (by omega) g1 (by rw [g5]; exact hn) s3 (fun f hf => ?_) ?_
    ·rw [s4]; exact (hlate f hf).1
    ·rw [hr, hrun, List.append_assoc]
   cases hd : (l.getD i (0, 0, false)).2.2 with
   | true =>
    have ev : evP x.1 (l.getD i (0, 0, false)) = prs x.1 (k : Int) false := by unfold evP; rw [hd, condT, f1]
    have hno := f5 hd
    rw [f1] at hno
    rw [f1, rel_none N hN x.1 hx.eng _ hno, bindV, condT, press_v N hN x.1 hx.eng k f2 hno, bindV, notT, condF]
    rw [ev] at fin
    exact fin x.1
   | false =>
    have ev : evP x.1 (l.getD i (0, 0, false)) = rls x.1 (l.getD i (0, 0, false)).2.1 := by unfold evP; rw [hd, condF]
    rw [rel_held N hN x.1 hx.eng _ (f4 hd), bindV, condF, notT, condF]
    rw [ev] at fin
    exact fin x.1
  ·have hil : i = l.length := by omega
   rw [hil, List.drop_length] at hq
   have h0 := runQ_none (stepD_nil hq)
   rw [h0, List.append_nil] at hr
   subst hr
   dsimp only at hR hS ⊢
   rw [dF (by omega), condF, condT, condT, condT, sameS2 N hN o (by omega) hS, bindV, condT, hq, bI (show (([] : List Ev).length : Int) = 0 by simp), condT]
   simp only [pEta]
   rw [sameE2 N hN x.1 hx.eng.small, bindV]
theorem Plain_tail (N : Nat) (hN : 3999999 < N) (code : List Int) (hm : code.length <= maxN) (hc : code.length < N) (n : Nat) (hs : List Hnd) (hi : Nat) (ls : List (List Act)) (D : List HRow) (hM : OkM (4, ls)) (hO : Own (u := tA) 8 D 0 hi hs ls) (hT : tapsB ls ls.length 0) :
  laws_FnPlain.L1 N (n + 1) code (ls.length : Int) 4 hs D = some true := by
 obtain ⟨c1, e1, k1⟩ := l24New_ok N code 6 hm hc
 obtain ⟨mc, c2, e2, m2, _⟩ := l8_ok N (by omega) code c1 k1 hm
 obtain ⟨c3, e3, k3⟩ := l24New_ok N code 9 hm hc
 obtain ⟨t, c4, e4, t1, _, _⟩ := l10T_ok N code c3 k3 hm
 obtain ⟨c5, e5, k5⟩ := l24New_ok N code 41 hm hc
 obtain ⟨v, c6, e6, v0, v1, k6⟩ := zAP N code c5 9 k5 hm (by omega)
 have w1 : IntKind.wrap .i64 (1 + v) = 1 + v := zAl (by omega) (by omega)
 obtain ⟨l, c7, e7, _, f7, l7, n7⟩ := l4_ok N (by omega) code hm 4 (by omega) 12 (by omega) (1 + v) ⟨by omega, by omega⟩ c6 k6
 have e7 : z3.F N (c6, ((4 : Int), ((12 : Int), 1 + v))) = some (l, c7) := e7
 have hE : OkE ((4, ls), [mc], 0, [], 0, false) := OkE_new hM (by simp) (by simp only [List.all_cons, List.all_nil, m2, Bool.and_self])
 have hD := OkD_new hE t1
 have i1 := isE_impl N (by omega) _ hE.small
 rw [(isE_iff _).2 hE] at i1
 have i1 : zF.F N ((4, ls), ([mc], ((0 : Int), (([] : List Hd), ((0 : Int), false))))) = some true := i1
 have i2 := isD_impl N (by omega) _ (⟨hE.small, by show 0 <= _; omega⟩ : smallD (newD ((4, ls), [mc], 0, [], 0, false) t))
 rw [(isD_iff _).2 hD] at i2
 have i2 : yJ.F N (((4, ls), ([mc], ((0 : Int), (([] : List Hd), ((0 : Int), false))))), (t, (([] : List Ev), ((0 : Int), ((0 : Int), ((0 : Int), (0 : Int))))))) = some true := i2
 have cE := copyE_impl N (by omega) _ hE.small
 have cE : zk.F N ((4, ls), ([mc], ((0 : Int), (([] : List Hd), ((0 : Int), false))))) = some ((4, ls), ([mc], ((0 : Int), (([] : List Hd), ((0 : Int), false))))) := cE
 have hl0 := lT_ge _ l 0 0 f7
 have hP : OkP (newD ((4, ls), [mc], 0, [], 0, false) t) l (lT 0 l) := by
  refine ⟨hD, ⟨by dsimp only [newD]; omega, by omega⟩, ?_, by omega, by show ([] ++ l).length <= 64; rw [List.nil_append]; omega, f7⟩
  cases l with
  | nil => rfl
  | cons x q => exact dT (by have := (fol_time _ _ 0 0 f7 x (by simp)).1; dsimp only [newD]; omega)
 have hp := play_impl N (by omega) (newD ((4, ls), [mc], 0, [], 0, false) t) ⟨hE.small, by show 0 <= _; omega⟩ l (by omega) (lT 0 l)
 rw [ply_ok hP] at hp
 have hx := hP.ext
 obtain ⟨_, _, r3, _⟩ := run_sent _ (ext l (lT 0 l) (newD ((4, ls), [mc], 0, [], 0, false) t)) (nR _) hx
 have hsl := runQ_sent_len _ (ext l (lT 0 l) (newD ((4, ls), [mc], 0, [], 0, false) t)) (nR _) hx
 have hq : (ext l (lT 0 l) (newD ((4, ls), [mc], 0, [], 0, false) t)).2.2.1 = l := rfl
 rw [hq] at hsl
 have g := Plain_L3 N (by omega) l (by omega) (runQ (ext l (lT 0 l) (newD ((4, ls), [mc], 0, [], 0, false) t))) (by omega) (fun s hs => by have := rpB_small (r3 s hs).2.2; omega) D N 0 (ext l (lT 0 l) (newD ((4, ls), [mc], 0, [], 0, false) t)) [] (by omega) (by omega) hx (noTH_of hM.len.1 hT) (by rw [hq, List.drop_zero]) (fun f hf => (fol_time _ _ 0 0 f7 f hf).1) (by rw [List.nil_append])
 generalize runQ (ext l (lT 0 l) (newD ((4, ls), [mc], 0, [], 0, false) t)) = R at g hp
 have hmk : ym.F N code = some mc := by rw [ym.F_eq, e1, bindV, e2, bindV]
 have htm : yW.F N code = some t := by rw [yW.F_eq, e3, bindV, e4, bindV]
 have hev : yX.F N (code, (41, (4, 12))) = some l := by
  rw [yX.F_eq, e5, bindV, e6, bindV]
  dsimp only
  rw [w1, e7, bindV]
 have hne : yo.F N (((4 : Int), ls), [mc]) = some (((4, ls), ([mc], ((0 : Int), (([] : List Hd), ((0 : Int), false))))), true) := by
  rw [yo.F_eq, copyM_impl N (by omega) _ hM.small, bindV, copyS_impl N (by omega) _ hE.small.2.1, bindV, i1, bindV, notT, condF]
 have hnd : ya.F N (((4, ls), ([mc], ((0 : Int), (([] : List Hd), ((0 : Int), false))))), t) = some (newD ((4, ls), [mc], 0, [], 0, false) t, true) := by
  rw [ya.F_eq, cE, bindV, i2, bindV, notT, condF]; rfl
 rw [laws_FnPlain.L1_eq, hO.len, dF (by omega), condF, hmk, bindV, hO.unok, condT, hO.unA, hne, bindV, htm, bindV]
 dsimp only
 rw [hnd, bindV, hev, bindV]
 dsimp only
 have g : laws_FnPlain.L3 N N true true l R.2 true 0 4 ls [mc] 0 [] 0 false R.1.1.1.1 R.1.1.1.2 R.1.1.2.1 R.1.1.2.2.1 R.1.1.2.2.2.1 R.1.1.2.2.2.2.1 R.1.1.2.2.2.2.2 R.1.2.1.1 R.1.2.1.2.1 R.1.2.1.2.2 R.1.2.2.1 R.1.2.2.2.1 R.1.2.2.2.2.1 R.1.2.2.2.2.2.1 R.1.2.2.2.2.2.2 [] D = some true := g
 by_cases hr : l.length = 0
 ·have : l = [] := List.length_eq_zero_iff.1 hr
  subst this
  have e0 : lT 0 ([] : List Ev) = 0 := rfl
  rw [e0] at hp
  rw [dF (by rw [List.length_nil]; omega), condF, hp, bindV]
  exact g
 ·have w : IntKind.wrap .i64 ((l.length : Int) - 1) = ((l.length - 1 : Nat) : Int) := by rw [zAl (by omega) (by omega)]; omega
  rw [dT (show (l.length : Int) > 0 by omega), condT, w, inRange_nat, dT (show l.length - 1 < l.length by omega), condT, nth_nat, lT_last l 0 (by omega), hp, bindV]
  exact g
theorem FnPlain_F (code : List Int) : laws_FnPlain.F 4000000 code = some true := by
 generalize hNN : (4000000 : Nat) = N
 have hN : 3999999 < N := by omega
 rw [laws_FnPlain.F_eq, zA0.F_eq, bindV]
 by_cases hb : (code.length : Int) > 1048576
 ·rw [dT hb, condT]
 ·rw [dF hb, condF]
  have hm : code.length <= maxN := by unfold maxN; omega
  obtain ⟨ls, hs, E, e1, m1, o1⟩ := MakeKeymap_ok N (by omega) code 40 hm (by omega) 4 (by omega)
  have e1 : yS.H N (code, (40, 4)) (hhide ([] : List HRow)) = some ((4, hs), E) := e1
  rw [e1, bindV]
  dsimp only
  have o2 : Own (u := tA) 8 (zBf [] E) 0 E.length hs ls := by
   have := (Own.call (D := []) o1 (List.nil_prefix)).2
   rwa [(hide_more (D := []) (E := E) (List.nil_prefix)).2.1] at this
  generalize zBf [] E = D at o2
  have gl : ∀ (n i : Nat) (ls : List (List Act)) (D : List HRow), i <= ls.length -> ls.length < n + i -> OkM (4, ls) -> Own (u := tA) 8 D 0 E.length hs ls -> tapsB ls i 0 -> laws_FnPlain.L1 N n code (i : Int) 4 hs D = some true := by
   intro n
   induction n with
   | zero => intro i ls D h1 h2; omega
   | succ n ih =>
    intro i ls D h1 h2 h3 h4 h5
    by_cases hi : i < ls.length
    ·have hhl := h4.len
     obtain ⟨ls', D', q1, q2, q3, q4, q5⟩ := Plain_L2 N code 4 (by omega) hs E.length n i N 0 ls D (by omega) (by omega) h3 h4 hi h5
     have q1 : laws_FnPlain.L2 N n N code (i : Int) 0 4 hs D = laws_FnPlain.L1 N n code ((i + 1 : Nat) : Int) 4 hs D' := q1
     rw [laws_FnPlain.L1_eq, dT (by omega), condT, q1]
     exact ih (i + 1) ls' D' (by omega) (by omega) q2 q3 q4
    ·have : i = ls.length := by omega
     subst this
     exact Plain_tail N hN code hm (by omega) n hs E.length ls D h3 h4 h5
  have hl := m1.len
  dsimp only at hl
  exact gl N 0 ls D (by omega) (by omega) m1 o2 (fun j q hj => by omega)
end Go.Kb
