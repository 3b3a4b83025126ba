/- The laws FnTwoParts and FnDecided, as values. -/
import Derived.Test.YticidpdbkjgebaaGreatTwoPartsP107
import Derived.Test.YticidpdbkjgebaaGreatTwoPartsF31
namespace Go.Kb
set_option maxRecDepth 100000
theorem sameEv2 (N : Nat) (hN : 1048576 < N) (a : List Ev) (ha : a.length <= 1048576) : zd.F N (a, a) = some true := by
 have gl : ∀ (n i : Nat), i <= a.length -> a.length < n + i -> zd.L1 N n a a (i : Int) = some true := by
  intro n
  induction n with
  | zero => intro i h1 h2; omega
  | succ n ih =>
   intro i h1 h2
   rw [zd.L1_eq]
   by_cases hi : i < a.length
   ·have ws : IntKind.wrap .i64 ((i : Int) + 1) = ((i + 1 : Nat) : Int) := yA (by omega)
    simp only [oJ, hi, decide_true, condT, inRange_nat, ws, ih (i + 1) (by omega) (by omega), beq_self_eq_true, Bool.and_self, notT, condF]
   ·simp only [oJ, hi, decide_false, condF]
 rw [zd.F_eq, bneI, dT rfl, notT, condF]
 exact gl N 0 (by omega) (by omega)
theorem sameH2 (N : Nat) (hN : 1048576 < N) (a : List Hd) (ha : a.length <= 1048576) : zv.F N (a, a) = some true := by
 have gl : ∀ (n i : Nat), i <= a.length -> a.length < n + i -> zv.L1 N n a a (i : Int) = some true := by
  intro n
  induction n with
  | zero => intro i h1 h2; omega
  | succ n ih =>
   intro i h1 h2
   rw [zv.L1_eq]
   by_cases hi : i < a.length
   ·have ws : IntKind.wrap .i64 ((i : Int) + 1) = ((i + 1 : Nat) : Int) := yA (by omega)
    simp only [oJ, hi, decide_true, condT, inRange_nat, ws, ih (i + 1) (by omega) (by omega), beq_self_eq_true, Bool.and_self, notT, condF]
   ·simp only [oJ, hi, decide_false, condF]
 rw [zv.F_eq, bneI, dT rfl, notT, condF]
 exact gl N 0 (by omega) (by omega)
theorem sameM2 (N : Nat) (hN : 1048576 < N) (m : Mp) (hm : smallM m) : zO.F N (m, m) = some true := by
 obtain ⟨k, ls⟩ := m
 have h0 : ls.length <= 1048576 := hm.1
 have g2 : ∀ (n1 i : Nat), i < ls.length -> ∀ (n j : Nat), j <= (ls.getD i []).length -> (ls.getD i []).length < n + j -> zO.L2 N n1 n (i : Int) (j : Int) k ls k ls = zO.L1 N n1 ((i + 1 : Nat) : Int) k ls k ls := by
  intro n1 i hi n
  have hl : (ls.getD i []).length <= 1048576 := hm.2 _ (zAr [] ls i hi)
  induction n with
  | zero => intro j h1 h2; omega
  | succ n ih =>
   intro j h1 h2
   rw [zO.L2_eq]
   by_cases hj : j < (ls.getD i []).length
   ·have ws : IntKind.wrap .i64 ((j : Int) + 1) = ((j + 1 : Nat) : Int) := yA (by omega)
    simp only [inRange_nat, hi, nth_nat, oJ, hj, decide_true, condT, ws, ih (j + 1) (by omega) (by omega), beq_self_eq_true, Bool.and_self, notT, condF]
   ·have wi : IntKind.wrap .i64 ((i : Int) + 1) = ((i + 1 : Nat) : Int) := yA (by omega)
    simp only [inRange_nat, hi, nth_nat, oJ, hj, decide_true, decide_false, condT, condF, wi]
 have g1 : ∀ (n i : Nat), i <= ls.length -> ls.length < n + i -> zO.L1 N n (i : Int) k ls k ls = some true := by
  intro n
  induction n with
  | zero => intro i h1 h2; omega
  | succ n ih =>
   intro i h1 h2
   rw [zO.L1_eq]
   by_cases hi : i < ls.length
   ·have hl : (ls.getD i []).length <= 1048576 := hm.2 _ (zAr [] ls i hi)
    have g := g2 n i hi N 0 (by omega) (by omega)
    have g : zO.L2 N n N (i : Int) 0 k ls k ls = _ := g
    simp only [oJ, hi, decide_true, condT, inRange_nat, nth_nat]
    rw [bneI, dT rfl, notT, condF, g, ih (i + 1) (by omega) (by omega)]
   ·simp only [oJ, hi, decide_false, condF]
 rw [zO.F_eq]
 dsimp only
 rw [bneI, dT rfl, notT, condF, bneI, dT rfl, notT, condF]
 exact g1 N 0 (by omega) (by omega)
theorem sameE2 (N : Nat) (hN : 1048576 < N) (e : Eng) (he : smallE e) : yj.F N (e, e) = some true := by
 rw [yj.F_eq]
 rw [sameM2 N hN e.1 he.1, bindV, condT, sameH2 N hN e.2.2.2.1 he.2.2, bindV]
 simp only [beq_self_eq_true, condT]
theorem sameD2 (N : Nat) (hN : 1048576 < N) (d : Dcd) (hd : smallD d) : yP.F N (d, d) = some true := by
 rw [yP.F_eq]
 rw [sameE2 N hN d.1 hd.1, bindV, condT, sameEv2 N hN d.2.2.1 hd.2, bindV]
 simp only [beq_self_eq_true, Bool.and_self, condT]
theorem sameS2 (N : Nat) (hN : 1048576 < N) (a : List Snt) (ha : a.length <= 1048576) (hs : ∀ s ∈ a, s.2.2.length <= 1048576) : zo.F N (a, a) = some true := by
 have gl : ∀ (n i : Nat), i <= a.length -> a.length < n + i -> zo.L1 N n a a (a.length : Int) (i : Int) = some true := by
  intro n
  induction n with
  | zero => intro i h1 h2; omega
  | succ n ih =>
   intro i h1 h2
   rw [zo.L1_eq]
   by_cases hi : i < a.length
   ·have ws : IntKind.wrap .i64 ((i : Int) + 1) = ((i + 1 : Nat) : Int) := yA (by omega)
    have hx := hs _ (zAr (0, 0, []) a i hi)
    have hr := same_impl N hN (a.getD i (0, 0, [])).2 (a.getD i (0, 0, [])).2 hx
    rw [dT (Int.ofNat_lt.2 hi), condT, inRange_nat, dT hi]
    simp only [condT, nth_nat]
    rw [bneI, dT rfl, notT, condF, hr, bindV, dT rfl, notT, condF, ws, ih (i + 1) (by omega) (by omega)]
   ·rw [dF (by omega), condF]
 rw [zo.F_eq, bneI, dT rfl, notT, condF]
 exact gl N 0 (by omega) (by omega)
theorem OkP.cut {d : Dcd} {l1 l2 : List Ev} {en : Int} (h : OkP d (l1 ++ l2) en) {n : Int} (h1 : d.2.2.2.1 <= n) (h2 : lT 0 l1 <= n) (h4 : n <= en) : OkP d l1 n := by
 have hf := h.f
 rw [<- List.append_assoc, fol_append] at hf
 have hlen := h.len
 rw [<- List.append_assoc, lA] at hlen
 have hen := h.en_
 refine ⟨h.dk, ⟨h1, by omega⟩, ?_, h2, by omega, hf.1⟩
 have := h.hd
 cases l1 with
 | nil => rfl
 | cons x r => exact this
theorem OkP.order {d : Dcd} {l1 l2 : List Ev} {en : Int} (h : OkP d (l1 ++ l2) en) : (∀ e ∈ l1 ++ l2, d.2.2.2.1 <= e.1 /\ e.1 <= en) /\ (l1 ≠ [] -> d.2.2.2.1 <= lT 0 l1 /\ lT 0 l1 <= en /\ ∀ e ∈ l2, lT 0 l1 <= e.1) := by
 have hlat := h.later
 have hf := h.f
 rw [fol_append] at hf
 have hf2 := hf.2
 have hft := fol_time _ _ _ _ hf2
 have htm := h.tm
 have hall : ∀ e ∈ l1 ++ l2, d.2.2.2.1 <= e.1 /\ e.1 <= en := by
  intro e he
  refine ⟨(hlat e he).1, ?_⟩
  have h1 := (hft e he).2.1
  have hne : l1 ++ l2 ≠ [] := fun hn => by rw [hn] at he; cases he
  rw [lT_app_ne hne _ 0] at h1
  omega
 refine ⟨hall, fun hne => ?_⟩
 rw [fol_append] at hf2
 have e1 : lT (lT 0 d.2.2.1) l1 = lT 0 l1 := lT_app_ne hne _ _
 rw [e1] at hf2
 have hlast : ∃ e ∈ l1, e.1 = lT 0 l1 := by
  have hp : 0 < l1.length := List.length_pos_iff.2 hne
  exact ⟨_, zAr dE l1 (l1.length - 1) (by omega), lT_last l1 0 hp⟩
 obtain ⟨e, he, ee⟩ := hlast
 have h3 := hall e (List.mem_append_left _ he)
 exact ⟨by omega, by omega, fun x hx => (fol_time _ _ _ _ hf2.2 x hx).1⟩
def upTo (d : Dcd) (l : List Ev) (n : Int) : Dcd × List Snt := runQ (ext l n d)
structure UpTo (d : Dcd) (l : List Ev) (n : Int) : Prop where
 ok : OkD (upTo d l n).1
 now : (upTo d l n).1.2.2.2.1 = n
 sm : smallD (upTo d l n).1
 len : (upTo d l n).2.length <= 1088
 rep : ∀ s ∈ (upTo d l n).2, s.2.2.length <= 56
theorem OkP.upTo {d : Dcd} {l : List Ev} {n : Int} (h : OkP d l n) : UpTo d l n := by
 have hx := h.ext
 have hq := hx.len
 obtain ⟨r1, r2, r3, r4, r5, r6, r7⟩ := run_sent _ (Kb.ext l n d) (nR _) hx
 have hsl := runQ_sent_len _ (Kb.ext l n d) (nR _) hx
 exact ⟨r1, r5, ⟨r1.eng.small, by have := r1.len; unfold Kb.upTo; omega⟩, by unfold Kb.upTo; omega, fun s hs => rpB_small (r3 s hs).2.2⟩
theorem play_more (N : Nat) (hN : 2200000 < N) {d : Dcd} {l1 l2 : List Ev} {n m : Int} (h : OkP d (l1 ++ l2) m) (h1 : d.2.2.2.1 <= n) (h2 : lT 0 l1 <= n) (h3 : ∀ e ∈ l2, n <= e.1) (h4 : n <= m) (hl : l2.length <= 1048576) :
  ∃ s, zM.F N ((upTo d l1 n).1, l2, m) = some ((upTo d (l1 ++ l2) m).1, s, true) /\ (upTo d (l1 ++ l2) m).2 = (upTo d l1 n).2 ++ s := by
 obtain ⟨p1, p2, p3⟩ := ply_parts h n h1 h2 h3 h4
 have u1 := p1.upTo
 have g := play_impl N hN (upTo d l1 n).1 u1.sm l2 hl m
 have g2 : ply (upTo d l1 n).1 l2 m = _ := ply_ok p2
 rw [g2] at g
 refine ⟨(runQ (ext l2 m (upTo d l1 n).1)).2, ?_, ?_⟩
 ·rw [g]
  unfold upTo
  rw [p3]
 ·unfold upTo
  rw [p3]
theorem FnTwoParts_F (code : List Int) : laws_FnTwoParts.F 4000000 code = some true := by
 generalize hNN : (4000000 : Nat) = N
 have hN : 3999999 < N := by omega
 rw [laws_FnTwoParts.F_eq, zAj.F_eq, bindV]
 by_cases hb : (code.length : Int) > 1048576
 ·rw [dT hb, condT]
 ·rw [dF hb, condF]
  obtain ⟨d, l, en, e1, hd, hP, l1, l2⟩ := MakeD N (by omega) code (by unfold maxN; omega) (by omega)
  have hsm : smallD d := ⟨hP.dk.eng.small, by have := hd.q; omega⟩
  have w : IntKind.wrap .i64 ((l.length : Int) + 1) = ((l.length + 1 : Nat) : Int) := yA (by omega)
  obtain ⟨k, e2, k0, k1⟩ := MakeNumber_ok N code 19 ((l.length + 1 : Nat) : Int) (by unfold maxN; omega) (by omega) (by omega)
  obtain ⟨k, rfl⟩ := Int.eq_ofNat_of_zero_le k0
  have hp := play_impl N (by omega) d hsm l (by omega) en
  rw [ply_ok hP] at hp
  have hp : zM.F N (d, l, en) = some ((upTo d l en).1, (upTo d l en).2, true) := hp
  have uE := hP.upTo
  have hsplit : l.take k ++ l.drop k = l := List.take_append_drop k l
  have hP' : OkP d (l.take k ++ l.drop k) en := by rw [hsplit]; exact hP
  have main : ∀ n, d.2.2.2.1 <= n -> lT 0 (l.take k) <= n -> (∀ e ∈ l.drop k, n <= e.1) -> n <= en ->
    (bindO (zM.F N (d, (l.take k, n))) fun r5 =>
     bif decide ((0 : Int) <= (k : Int)) && decide ((k : Int) <= (l.length : Int)) then
     bindO (zM.F N (r5.1, (l.drop k, en))) fun r6 =>
     bif true then
      bif r5.2.2 then
       bif r6.2.2 then
        bif decide (([] : List Snt).length + r5.2.1.length <= maxN) then
        bif decide (([] ++ r5.2.1 : List Snt).length + r6.2.1.length <= maxN) then
        bindO (zo.F N (([] ++ r5.2.1) ++ r6.2.1, (upTo d l en).2)) fun r7 =>
        bif r7 then
         bindO (yP.F N (r6.1, (upTo d l en).1)) fun r8 => some r8
        else some false
        else none
        else none
       else some false
      else some false
     else some false
     else none) = some true := by
   intro n n1 n2 n3 n4
   have pc := hP'.cut n1 n2 n4
   have uC := pc.upTo
   have g1 := play_impl N (by omega) d hsm (l.take k) (by rw [List.length_take]; omega) n
   rw [ply_ok pc] at g1
   have g1 : zM.F N (d, l.take k, n) = some ((upTo d (l.take k) n).1, (upTo d (l.take k) n).2, true) := g1
   obtain ⟨s, g2, g3⟩ := play_more N (by omega) hP' n1 n2 n3 n4 (by rw [List.length_drop]; omega)
   rw [hsplit] at g2 g3
   have hl1 := uC.len
   have hl2 := uE.len
   have hsl : s.length <= 1088 := by rw [g3, lA] at hl2; omega
   have hb1 : (decide ((0 : Int) <= (k : Int)) && decide ((k : Int) <= (l.length : Int))) = true := by
    rw [dT (show (0 : Int) <= (k : Int) by omega), dT (show (k : Int) <= (l.length : Int) by omega)]; rfl
   have m1 : decide (([] : List Snt).length + (upTo d (l.take k) n).2.length <= maxN) = true := dT (by rw [List.length_nil]; unfold maxN; omega)
   have m2 : decide (([] ++ (upTo d (l.take k) n).2 : List Snt).length + s.length <= maxN) = true := dT (by rw [List.nil_append]; unfold maxN; omega)
   rw [g1, bindV, hb1, condT, g2, bindV, condT, condT, condT, m1, condT, m2, condT, List.nil_append, <- g3, sameS2 N (by omega) _ (by omega) (fun x hx => by have := uE.rep x hx; omega), bindV, condT, sameD2 N (by omega) _ uE.sm, bindV]
  have hb1 : (decide ((0 : Int) <= (k : Int)) && decide ((k : Int) <= (l.length : Int))) = true := by
   rw [dT (show (0 : Int) <= (k : Int) by omega), dT (show (k : Int) <= (l.length : Int) by omega)]; rfl
  obtain ⟨o1, o2⟩ := hP'.order
  rw [e1, bindV]
  dsimp only
  rw [w, e2, bindV, hp, bindV, Int.toNat_natCast]
  by_cases hk : k = 0
  ·rw [dF (by omega), condF, hb1, condT]
   have hm := main d.2.2.2.1 (Int.le_refl _) (by subst hk; have := hP.dk.now; show (0 : Int) <= _; omega) (fun e he => (o1 e (List.mem_append_right _ he)).1) hP.en_.1
   rw [hb1] at hm
   exact hm
  ·have wk : IntKind.wrap .i64 ((k : Int) - 1) = ((k - 1 : Nat) : Int) := by rw [zAE (by omega) (by omega)]; omega
   have htl : (l.take k).length = k := by rw [List.length_take]; omega
   have hne : l.take k ≠ [] := fun hn => by rw [hn, List.length_nil] at htl; omega
   have hlast : (l.getD (k - 1) (0, 0, false)).1 = lT 0 (l.take k) := by
    rw [<- lT_last (l.take k) 0 (by omega), htl]
    rw [List.getD_eq_getElem?_getD, List.getD_eq_getElem?_getD, List.getElem?_take_of_lt (by omega)]
   obtain ⟨q1, q2, q3⟩ := o2 hne
   rw [dT (show (k : Int) > 0 by omega), condT, wk, inRange_nat, dT (show k - 1 < l.length by omega), condT, hb1, condT, nth_nat, hlast]
   have hm := main (lT 0 (l.take k)) q1 (Int.le_refl _) q3 q2
   rw [hb1] at hm
   exact hm
end Go.Kb
