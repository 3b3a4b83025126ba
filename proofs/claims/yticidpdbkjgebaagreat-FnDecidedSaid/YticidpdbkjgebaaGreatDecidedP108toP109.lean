/- The laws FnTwoParts and FnDecided, as values. -/
import Derived.Test.YticidpdbkjgebaaGreatDecidedP107
import Derived.Test.YticidpdbkjgebaaGreatDecidedF31
namespace Go.Kb
set_option maxRecDepth 100000
theorem sameEv2 (N : Nat) (hN : 1048576 < N) (a : List Ev) (ha : a.length <= 1048576) : zd.F N (a, a) = some true := by
 have gl : ∀ (n i : Nat), i <= a.length -> a.length < n + i -> zd.L1 N n a a (i : Int) = some true := by
  intro n
  induction n with
  | zero => intro i h1 h2; omega
  | succ n ih =>
   intro i h1 h2
   rw [zd.L1_eq]
   by_cases hi : i < a.length
   ·have ws : IntKind.wrap .i64 ((i : Int) + 1) = ((i + 1 : Nat) : Int) := yA (by omega)
    simp only [oJ, hi, decide_true, condT, inRange_nat, ws, ih (i + 1) (by omega) (by omega), beq_self_eq_true, Bool.and_self, notT, condF]
   ·simp only [oJ, hi, decide_false, condF]
 rw [zd.F_eq, bneI, dT rfl, notT, condF]
 exact gl N 0 (by omega) (by omega)
theorem sameH2 (N : Nat) (hN : 1048576 < N) (a : List Hd) (ha : a.length <= 1048576) : zu.F N (a, a) = some true := by
 have gl : ∀ (n i : Nat), i <= a.length -> a.length < n + i -> zu.L1 N n a a (i : Int) = some true := by
  intro n
  induction n with
  | zero => intro i h1 h2; omega
  | succ n ih =>
   intro i h1 h2
   rw [zu.L1_eq]
   by_cases hi : i < a.length
   ·have ws : IntKind.wrap .i64 ((i : Int) + 1) = ((i + 1 : Nat) : Int) := yA (by omega)
    simp only [oJ, hi, decide_true, condT, inRange_nat, ws, ih (i + 1) (by omega) (by omega), beq_self_eq_true, Bool.and_self, notT, condF]
   ·simp only [oJ, hi, decide_false, condF]
 rw [zu.F_eq, bneI, dT rfl, notT, condF]
 exact gl N 0 (by omega) (by omega)
theorem sameM2 (N : Nat) (hN : 1048576 < N) (m : Mp) (hm : smallM m) : zO.F N (m, m) = some true := by
 obtain ⟨k, ls⟩ := m
 have h0 : ls.length <= 1048576 := hm.1
 have g2 : ∀ (n1 i : Nat), i < ls.length -> ∀ (n j : Nat), j <= (ls.getD i []).length -> (ls.getD i []).length < n + j -> zO.L2 N n1 n (i : Int) (j : Int) k ls k ls = zO.L1 N n1 ((i + 1 : Nat) : Int) k ls k ls := by
  intro n1 i hi n
  have hl : (ls.getD i []).length <= 1048576 := hm.2 _ (zAt [] ls i hi)
  induction n with
  | zero => intro j h1 h2; omega
  | succ n ih =>
   intro j h1 h2
   rw [zO.L2_eq]
   by_cases hj : j < (ls.getD i []).length
   ·have ws : IntKind.wrap .i64 ((j : Int) + 1) = ((j + 1 : Nat) : Int) := yA (by omega)
    simp only [inRange_nat, hi, nth_nat, oJ, hj, decide_true, condT, ws, ih (j + 1) (by omega) (by omega), beq_self_eq_true, Bool.and_self, notT, condF]
   ·have wi : IntKind.wrap .i64 ((i : Int) + 1) = ((i + 1 : Nat) : Int) := yA (by omega)
    simp only [inRange_nat, hi, nth_nat, oJ, hj, decide_true, decide_false, condT, condF, wi]
 have g1 : ∀ (n i : Nat), i <= ls.length -> ls.length < n + i -> zO.L1 N n (i : Int) k ls k ls = some true := by
  intro n
  induction n with
  | zero => intro i h1 h2; omega
  | succ n ih =>
   intro i h1 h2
   rw [zO.L1_eq]
   by_cases hi : i < ls.length
   ·have hl : (ls.getD i []).length <= 1048576 := hm.2 _ (zAt [] ls i hi)
    have g := g2 n i hi N 0 (by omega) (by omega)
    have g : zO.L2 N n N (i : Int) 0 k ls k ls = _ := g
    simp only [oJ, hi, decide_true, condT, inRange_nat, nth_nat]
    rw [bneI, dT rfl, notT, condF, g, ih (i + 1) (by omega) (by omega)]
   ·simp only [oJ, hi, decide_false, condF]
 rw [zO.F_eq]
 dsimp only
 rw [bneI, dT rfl, notT, condF, bneI, dT rfl, notT, condF]
 exact g1 N 0 (by omega) (by omega)
theorem sameE2 (N : Nat) (hN : 1048576 < N) (e : Eng) (he : smallE e) : yk.F N (e, e) = some true := by
 rw [yk.F_eq]
 rw [sameM2 N hN e.1 he.1, bindV, condT, sameH2 N hN e.2.2.2.1 he.2.2, bindV]
 simp only [beq_self_eq_true, condT]
theorem sameD2 (N : Nat) (hN : 1048576 < N) (d : Dcd) (hd : smallD d) : yb.F N (d, d) = some true := by
 rw [yb.F_eq]
 rw [sameE2 N hN d.1 hd.1, bindV, condT, sameEv2 N hN d.2.2.1 hd.2, bindV]
 simp only [beq_self_eq_true, Bool.and_self, condT]
theorem sameS2 (N : Nat) (hN : 1048576 < N) (a : List Snt) (ha : a.length <= 1048576) (hs : ∀ s ∈ a, s.2.2.length <= 1048576) : zw.F N (a, a) = some true := by
 have gl : ∀ (n i : Nat), i <= a.length -> a.length < n + i -> zw.L1 N n a a (a.length : Int) (i : Int) = some true := by
  intro n
  induction n with
  | zero => intro i h1 h2; omega
  | succ n ih =>
   intro i h1 h2
   rw [zw.L1_eq]
   by_cases hi : i < a.length
   ·have ws : IntKind.wrap .i64 ((i : Int) + 1) = ((i + 1 : Nat) : Int) := yA (by omega)
    have hx := hs _ (zAt (0, 0, []) a i hi)
    have hr := same_impl N hN (a.getD i (0, 0, [])).2 (a.getD i (0, 0, [])).2 hx
    rw [dT (Int.ofNat_lt.2 hi), condT, inRange_nat, dT hi]
    simp only [condT, nth_nat]
    rw [bneI, dT rfl, notT, condF, hr, bindV, dT rfl, notT, condF, ws, ih (i + 1) (by omega) (by omega)]
   ·rw [dF (by omega), condF]
 rw [zw.F_eq, bneI, dT rfl, notT, condF]
 exact gl N 0 (by omega) (by omega)
theorem OkP.cut {d : Dcd} {l1 l2 : List Ev} {en : Int} (h : OkP d (l1 ++ l2) en) {n : Int} (h1 : d.2.2.2.1 <= n) (h2 : lT 0 l1 <= n) (h4 : n <= en) : OkP d l1 n := by
 have hf := h.f
 rw [<- List.append_assoc, fol_append] at hf
 have hlen := h.len
 rw [<- List.append_assoc, lA] at hlen
 have hen := h.en_
 refine ⟨h.dk, ⟨h1, by omega⟩, ?_, h2, by omega, hf.1⟩
 have := h.hd
 cases l1 with
 | nil => rfl
 | cons x r => exact this
theorem OkP.order {d : Dcd} {l1 l2 : List Ev} {en : Int} (h : OkP d (l1 ++ l2) en) : (∀ e ∈ l1 ++ l2, d.2.2.2.1 <= e.1 /\ e.1 <= en) /\ (l1 ≠ [] -> d.2.2.2.1 <= lT 0 l1 /\ lT 0 l1 <= en /\ ∀ e ∈ l2, lT 0 l1 <= e.1) := by
 have hlat := h.later
 have hf := h.f
 rw [fol_append] at hf
 have hf2 := hf.2
 have hft := fol_time _ _ _ _ hf2
 have htm := h.tm
 have hall : ∀ e ∈ l1 ++ l2, d.2.2.2.1 <= e.1 /\ e.1 <= en := by
  intro e he
  refine ⟨(hlat e he).1, ?_⟩
  have h1 := (hft e he).2.1
  have hne : l1 ++ l2 ≠ [] := fun hn => by rw [hn] at he; cases he
  rw [lT_app_ne hne _ 0] at h1
  omega
 refine ⟨hall, fun hne => ?_⟩
 rw [fol_append] at hf2
 have e1 : lT (lT 0 d.2.2.1) l1 = lT 0 l1 := lT_app_ne hne _ _
 rw [e1] at hf2
 have hlast : ∃ e ∈ l1, e.1 = lT 0 l1 := by
  have hp : 0 < l1.length := List.length_pos_iff.2 hne
  exact ⟨_, zAt dE l1 (l1.length - 1) (by omega), lT_last l1 0 hp⟩
 obtain ⟨e, he, ee⟩ := hlast
 have h3 := hall e (List.mem_append_left _ he)
 exact ⟨by omega, by omega, fun x hx => (fol_time _ _ _ _ hf2.2 x hx).1⟩
def upTo (d : Dcd) (l : List Ev) (n : Int) : Dcd × List Snt := runQ (ext l n d)
theorem upTo_start {d : Dcd} (h : stepD d = none) : upTo d [] d.2.2.2.1 = (d, []) := by
 unfold upTo
 rw [ext_self rfl, zAm h]
structure UpTo (d : Dcd) (l : List Ev) (n : Int) : Prop where
 ok : OkD (upTo d l n).1
 now : (upTo d l n).1.2.2.2.1 = n
 sm : smallD (upTo d l n).1
 len : (upTo d l n).2.length <= 1088
 rep : ∀ s ∈ (upTo d l n).2, s.2.2.length <= 56
theorem OkP.upTo {d : Dcd} {l : List Ev} {n : Int} (h : OkP d l n) : UpTo d l n := by
 have hx := h.ext
 have hq := hx.len
 obtain ⟨r1, r2, r3, r4, r5, r6, r7⟩ := run_sent _ (Kb.ext l n d) (nR _) hx
 have hsl := runQ_sent_len _ (Kb.ext l n d) (nR _) hx
 exact ⟨r1, r5, ⟨r1.eng.small, by have := r1.len; unfold Kb.upTo; omega⟩, by unfold Kb.upTo; omega, fun s hs => rpB_small (r3 s hs).2.2⟩
theorem play_more (N : Nat) (hN : 2200000 < N) {d : Dcd} {l1 l2 : List Ev} {n m : Int} (h : OkP d (l1 ++ l2) m) (h1 : d.2.2.2.1 <= n) (h2 : lT 0 l1 <= n) (h3 : ∀ e ∈ l2, n <= e.1) (h4 : n <= m) (hl : l2.length <= 1048576) :
  ∃ s, zM.F N ((upTo d l1 n).1, l2, m) = some ((upTo d (l1 ++ l2) m).1, s, true) /\ (upTo d (l1 ++ l2) m).2 = (upTo d l1 n).2 ++ s := by
 obtain ⟨p1, p2, p3⟩ := ply_parts h n h1 h2 h3 h4
 have u1 := p1.upTo
 have g := play_impl N hN (upTo d l1 n).1 u1.sm l2 hl m
 have g2 : ply (upTo d l1 n).1 l2 m = _ := ply_ok p2
 rw [g2] at g
 refine ⟨(runQ (ext l2 m (upTo d l1 n).1)).2, ?_, ?_⟩
 ·rw [g]
  unfold upTo
  rw [p3]
 ·unfold upTo
  rw [p3]
end Go.Kb
namespace Go.Kb
set_option maxRecDepth 100000
theorem lT_snoc (l : List Ev) (e : Ev) (t : Int) : lT t (l ++ [e]) = e.1 := by rw [lT_append]; rfl
theorem take_snoc {l : List Ev} {i : Nat} (h : i < l.length) : l.take (i + 1) = l.take i ++ [l.getD i (0, 0, false)] := by
 rw [List.take_add_one, List.getElem?_eq_getElem h, List.getD_eq_getElem?_getD, List.getElem?_eq_getElem h]; rfl
theorem Decided_L1 (N : Nat) (hN : 3999999 < N) (code : List Int) (hc : code.length <= maxN) (hc2 : code.length < N) (d : Dcd) (l : List Ev) (en : Int) (hP : OkP d l en) (hl : l.length <= 9) (W : Dcd × List Snt) (hW : W = upTo d l en) : ∀ (k i : Nat), i <= l.length -> l.length < k + i -> ∀ (n : Int), d.2.2.2.1 <= n -> lT 0 (l.take i) <= n -> (∀ e ∈ l.drop i, n <= e.1) -> n <= en -> ∀ X : Dcd × List Snt, X = upTo d (l.take i) n ->
  laws_FnDecided.L1 N k code l en W.2 (i : Int) W.1.1.1.1 W.1.1.1.2 W.1.1.2.1 W.1.1.2.2.1 W.1.1.2.2.2.1 W.1.1.2.2.2.2.1 W.1.1.2.2.2.2.2 W.1.2.1.1 W.1.2.1.2.1 W.1.2.1.2.2 W.1.2.2.1 W.1.2.2.2.1 W.1.2.2.2.2.1 W.1.2.2.2.2.2.1 W.1.2.2.2.2.2.2
   X.1.1.1.1 X.1.1.1.2 X.1.1.2.1 X.1.1.2.2.1 X.1.1.2.2.2.1 X.1.1.2.2.2.2.1 X.1.1.2.2.2.2.2 X.1.2.1.1 X.1.2.1.2.1 X.1.2.1.2.2 X.1.2.2.1 X.1.2.2.2.1 X.1.2.2.2.2.1 X.1.2.2.2.2.2.1 X.1.2.2.2.2.2.2 X.2 = some true := by
 intro k
 induction k with
 | zero => intro i h1 h2; omega
 | succ k ih =>
  intro i h1 h2 n n1 n2 n3 n4 X hX
  have hsplit : l.take i ++ l.drop i = l := List.take_append_drop i l
  have hP' : OkP d (l.take i ++ l.drop i) en := by rw [hsplit]; exact hP
  have pc := hP'.cut n1 n2 n4
  have hlen : X.2.length <= 1088 := by rw [hX]; exact pc.upTo.len
  have hnow : X.1.2.2.2.1 = n := by rw [hX]; exact pc.upTo.now
  have hn0 := hP.dk.now
  have hen := hP.en_
  rw [laws_FnDecided.L1_eq]
  simp only [pEta]
  by_cases hi : i < l.length
  ·have ws : IntKind.wrap .i64 ((i : Int) + 1) = ((i + 1 : Nat) : Int) := yA (by omega)
   have hmem : l.getD i (0, 0, false) ∈ l.drop i := by rw [yq (0, 0, false) l i hi]; simp
   have he := n3 _ hmem
   obtain ⟨o1, _⟩ := hP'.order
   have he2 := (o1 _ (List.mem_append_right _ hmem)).2
   have htk := take_snoc hi
   have hsplit2 : l.take (i + 1) ++ l.drop (i + 1) = l := List.take_append_drop (i + 1) l
   have hP2 : OkP d (l.take (i + 1) ++ l.drop (i + 1)) en := by rw [hsplit2]; exact hP
   obtain ⟨_, o3⟩ := hP2.order
   generalize hee : l.getD i (0, 0, false) = e at *
   have hlt : lT 0 (l.take (i + 1)) = e.1 := by rw [htk, lT_snoc]
   obtain ⟨q1, q2, q3⟩ := o3 (by rw [htk]; simp)
   rw [hlt] at q1 q2 q3
   have w1 : IntKind.wrap .i64 (e.1 - n) = e.1 - n := zAF (by omega) (by omega)
   have w2 : IntKind.wrap .i64 (e.1 - n + 1) = e.1 - n + 1 := zAF (by omega) (by omega)
   obtain ⟨v, e5, v0, v1⟩ := MakeNumber_ok N code (IntKind.wrap .i64 (20 + (i : Int))) (e.1 - n + 1) hc hc2 (by omega)
   have w3 : IntKind.wrap .i64 (n + v) = n + v := zAF (by omega) (by omega)
   have pA : OkP d (l.take i ++ []) (n + v) := by
    rw [List.append_nil]; exact hP'.cut (by omega) (by omega) (by omega)
   obtain ⟨s1, g1, g2⟩ := play_more N (by omega) pA n1 n2 (by simp) (by omega) (by simp)
   rw [List.append_nil, <- hX] at g1 g2
   have pB : OkP d (l.take i ++ [e]) e.1 := by
    rw [<- htk]; exact hP2.cut (by omega) (by rw [hlt]; exact Int.le_refl _) he2
   obtain ⟨s2, g3, g4⟩ := play_more N (by omega) pB (n := n + v) (by omega) (by omega) (fun x hx => by rw [List.mem_singleton] at hx; subst hx; omega) (by omega) (by simp)
   rw [<- htk] at g3 g4
   have uB := pB.upTo
   rw [<- htk] at uB
   have hl2 := uB.len
   have hls : X.2.length + s1.length + s2.length <= 1088 := by rw [g4, g2, lA, lA] at hl2; exact hl2
   have m1 : decide (X.2.length + s1.length <= maxN) = true := dT (by unfold maxN; omega)
   have m2 : decide ((X.2 ++ s1).length + s2.length <= maxN) = true := dT (by rw [lA]; unfold maxN; omega)
   rw [dT (Int.ofNat_lt.2 hi), condT, inRange_nat, dT hi, condT, nth_nat, hee, hnow, w1, w2, e5, bindV, w3, yu.F_eq, g1, bindV, bindV, condT, yz.F_eq]
   dsimp only
   rw [g3, bindV, bindV]
   dsimp only
   rw [notT, condF, condF, m1, condT, m2, condT, ws]
   refine ih (i + 1) (by omega) (by omega) e.1 (by omega) (by rw [hlt]; exact Int.le_refl _) q3 q2 ((upTo d (l.take (i + 1)) e.1).1, X.2 ++ s1 ++ s2) ?_
   rw [g2] at g4
   rw [<- g4]
  ·have hil : i = l.length := by omega
   have htk : l.take i = l := by rw [hil]; exact List.take_length
   rw [htk] at hX n2
   have pA : OkP d (l ++ []) en := by rw [List.append_nil]; exact hP
   obtain ⟨s1, g1, g2⟩ := play_more N (by omega) pA n1 n2 (by simp) n4 (by simp)
   rw [List.append_nil, <- hX, <- hW] at g1 g2
   have hl2 : W.2.length <= 1088 := by rw [hW]; exact hP.upTo.len
   have hrp : ∀ s ∈ W.2, s.2.2.length <= 56 := by rw [hW]; exact hP.upTo.rep
   have hsm : smallD W.1 := by rw [hW]; exact hP.upTo.sm
   have hls : X.2.length + s1.length <= 1088 := by rw [g2, lA] at hl2; exact hl2
   have m1 : decide (X.2.length + s1.length <= maxN) = true := dT (by unfold maxN; omega)
   rw [dF (by omega), condF, yu.F_eq, g1, bindV, bindV]
   dsimp only
   rw [m1, condT, condT, <- g2, sameS2 N (by omega) _ (by omega) (fun x hx => by have := hrp x hx; omega), bindV, condT, sameD2 N (by omega) _ hsm, bindV]
theorem FnDecided_F (code : List Int) : laws_FnDecided.F 4000000 code = some true := by
 generalize hNN : (4000000 : Nat) = N
 have hN : 3999999 < N := by omega
 rw [laws_FnDecided.F_eq, zAl.F_eq, bindV]
 by_cases hb : (code.length : Int) > 1048576
 ·rw [dT hb, condT]
 ·rw [dF hb, condF]
  obtain ⟨d, l, en, e1, hd, hP, l1, l2⟩ := MakeD N (by omega) code (by unfold maxN; omega) (by omega)
  have hsm : smallD d := ⟨hP.dk.eng.small, by have := hd.q; omega⟩
  have hp := play_impl N (by omega) d hsm l (by omega) en
  rw [ply_ok hP] at hp
  have hp : zM.F N (d, l, en) = some ((upTo d l en).1, (upTo d l en).2, true) := hp
  have uE := hP.upTo
  have hi := isD_impl N (by omega) (upTo d l en).1 uE.sm
  rw [(isD_iff _).2 uE.ok] at hi
  rw [e1, bindV, hp, bindV]
  dsimp only
  rw [notT, condF, hi, bindV, notT, condF]
  exact Decided_L1 N (by omega) code (by unfold maxN; omega) (by omega) d l en hP l1 (upTo d l en) rfl N 0 (by omega) (by omega) d.2.2.2.1 (Int.le_refl _) (by have := hP.dk.now; rw [List.take_zero]; show (0 : Int) <= _; omega) (fun e he => (hP.later e (List.mem_of_mem_drop he)).1) hP.en_.1 (d, []) (by rw [List.take_zero]; exact (upTo_start hd.rest).symm)
end Go.Kb
