/- Keymaps that are drawn with handles; the taps of all their keys. -/
import Derived.Test.YticidpdbkjgebaaPlainF31toP108
import Derived.Test.YticidpdbkjgebaaPlainF32
namespace Go.Kb
set_option maxRecDepth 100000
theorem laysB_set (keys nl : Int) : ∀ (ls : List (List Act)) (f : Bool) (i k : Nat) (a : Act), laysB keys nl f ls = true -> i < ls.length -> k < (ls.getD i []).length -> cellB nl (f && (i == 0)) a = true -> laysB keys nl f (ls.set i ((ls.getD i []).set k a)) = true := by
 intro ls
 induction ls with
 | nil => intro f i k a _ h; simp at h
 | cons x s ih =>
  intro f i k a h1 h2 h3 h4
  simp only [laysB, bA] at h1
  cases i with
  | zero =>
   have e0 : (x :: s).getD 0 [] = x := rfl
   rw [e0] at h3 ⊢
   simp only [List.set_cons_zero, laysB, layB, bA]
   obtain ⟨⟨g1, g2⟩, g3⟩ := (by simpa only [layB, bA] using h1 : (_ /\ _) /\ _)
   refine ⟨⟨by rw [List.length_set]; exact g1, ?_⟩, g3⟩
   rw [List.all_eq_true] at g2 ⊢
   intro y hy
   rcases List.mem_or_eq_of_mem_set hy with hy | hy
   ·exact g2 y hy
   ·rw [hy]
    have : (f && (0 == 0)) = f := by cases f <;> rfl
    rw [this] at h4; exact h4
  | succ i =>
   have e0 : (x :: s).getD (i + 1) [] = s.getD i [] := by simp only [List.getD_cons_succ]
   rw [e0] at h3 ⊢
   simp only [List.set_cons_succ, laysB, bA]
   refine ⟨h1.1, ih false i k a h1.2 (by simpa using h2) h3 ?_⟩
   have : (f && (i + 1 == 0)) = false := by cases f <;> rfl
   rw [this] at h4; rw [Bool.false_and]; exact h4
theorem OkM.setc {keys : Int} {ls : List (List Act)} (h : OkM (keys, ls)) {i k : Nat} (hi : i < ls.length) (hk : k < (ls.getD i []).length) {a : Act} (ha : cellB ls.length (i == 0) a = true) : OkM (keys, ls.set i ((ls.getD i []).set k a)) := by
 obtain ⟨h1, h2, h3⟩ := h
 dsimp only at h1 h2 h3
 refine ⟨h1, by dsimp only; rw [List.length_set]; exact h2, ?_⟩
 dsimp only
 rw [List.length_set]
 exact laysB_set keys _ ls true i k a h3 hi hk (by rw [Bool.true_and]; exact ha)
theorem l6h_ok (N : Nat) (hN : 100 < N) (code : List Int) (c : List Int × Int × Int) (keys : Nat) (hk : 1 <= keys /\ keys <= 32) (h : okC code c) (hm : code.length <= maxN) (D : List HRow) :
  ∃ ls hs c' D', zH.H N (c, (keys : Int)) D = some ((((keys : Int), hs), c'), D') /\ OkM ((keys : Int), ls) /\ okC code c' /\ D <+: D' /\ Own (u := tA) 8 D' D.length D'.length hs ls := by
 obtain ⟨v, c1, e1, p1, q1, k1⟩ := zAP N code c 4 h hm (by omega)
 obtain ⟨v, rfl⟩ := Int.eq_ofNat_of_zero_le p1
 have w1 : IntKind.wrap .i64 (1 + (v : Int)) = ((v + 1 : Nat) : Int) := by rw [zAl (by omega) (by omega)]; omega
 have g2 : ∀ (n1 : Nat) (i : Nat) (o7 : List Hnd) (E : List HRow), i < v + 1 -> o7.length = i -> ∀ (n2 k : Nat) (c : List Int × Int × Int) (o3 : List Act), k <= keys -> keys < n2 + k -> o3.length = k -> okC code c -> (o3.all (cellB ((v + 1 : Nat) : Int) (i == 0))) = true ->
   ∃ r c', zH.L2 N n1 n2 (keys : Int) ((v + 1 : Nat) : Int) (i : Int) (k : Int) c.1 c.2.1 c.2.2 (keys : Int) o3 o7 E = zH.L1 N n1 (keys : Int) ((v + 1 : Nat) : Int) ((i + 1 : Nat) : Int) c'.1 c'.2.1 c'.2.2 (keys : Int) (o7 ++ [some (E.length, 0, r.length)]) (E ++ [HRow.row 8 tA r]) /\ layB (keys : Int) ((v + 1 : Nat) : Int) (i == 0) r = true /\ okC code c' := by
  intro n1 i o7 E hi h7 n2
  induction n2 with
  | zero => intro k c o3 x1 x2; omega
  | succ n2 ih =>
   intro k c o3 x1 x2 x3 x4 x5
   rw [zH.L2_eq]
   by_cases hkk : k < keys
   ·have ws : IntKind.wrap .i64 ((k : Int) + 1) = ((k + 1 : Nat) : Int) := y0 (by omega)
    obtain ⟨a, c2, e2, a2, k2⟩ := l5_ok N code c ((v + 1 : Nat) : Int) (by omega) (by omega) x4 hm
    have e2 : zAG.F N ((c.1, (c.2.1, c.2.2)), ((v + 1 : Nat) : Int)) = _ := e2
    have l1 := fun x : Act => len1 o3 x (by omega)
    have put : ∀ (x : Act) (c3 : List Int × Int × Int), cellB ((v + 1 : Nat) : Int) (i == 0) x = true -> okC code c3 -> ∃ r c', zH.L2 N n1 n2 (keys : Int) ((v + 1 : Nat) : Int) (i : Int) ((k + 1 : Nat) : Int) c3.1 c3.2.1 c3.2.2 (keys : Int) (o3 ++ [x]) o7 E = zH.L1 N n1 (keys : Int) ((v + 1 : Nat) : Int) ((i + 1 : Nat) : Int) c'.1 c'.2.1 c'.2.2 (keys : Int) (o7 ++ [some (E.length, 0, r.length)]) (E ++ [HRow.row 8 tA r]) /\ layB (keys : Int) ((v + 1 : Nat) : Int) (i == 0) r = true /\ okC code c' := by
     intro x c3 hx hc3
     refine ih (k + 1) c3 (o3 ++ [x]) (by omega) (by omega) (by rw [lA, List.length_singleton]; omega) hc3 ?_
     rw [List.all_append, x5]
     simp only [List.all_cons, List.all_nil, hx, Bool.and_self]
    rw [dT (show (k : Int) < (keys : Int) by omega), condT, e2, bindV]
    simp only [l1, condT, ws]
    by_cases hi0 : i = 0
    ·subst hi0
     rw [dF (show ¬ (((0 : Nat) : Int) > 0) by omega), condF]
     exact put a c2 (cell_of a2 _) k2
    ·obtain ⟨b, c3, e3, k3⟩ := once_ok N code c2 3 k2 hm (by omega)
     rw [dT (show (i : Int) > 0 by omega), condT, e3, bindV]
     have e0 : (i == 0) = false := by simp [hi0]
     cases b with
     | true => rw [condT]; exact put _ c3 (by rw [e0]; exact cell_pass (by omega)) k3
     | false => rw [condF]; exact put a c3 (cell_of a2 _) k3
   ·have wi : IntKind.wrap .i64 ((i : Int) + 1) = ((i + 1 : Nat) : Int) := y0 (by omega)
    rw [dF (show ¬ (k : Int) < (keys : Int) by omega), condF, len1 o7 _ (by omega), condT, wi]
    refine ⟨o3, c, rfl, ?_, x4⟩
    unfold layB
    rw [x5, dT (show (o3.length : Int) = (keys : Int) by omega)]; rfl
 have g1 : ∀ (n i : Nat) (c : List Int × Int × Int) (o7 : List Hnd) (ls : List (List Act)) (E : List HRow), i <= v + 1 -> v + 1 < n + i -> o7.length = i -> ls.length = i -> okC code c -> laysB (keys : Int) ((v + 1 : Nat) : Int) true ls = true -> D <+: E -> Own (u := tA) 8 E D.length E.length o7 ls ->
   ∃ ls hs c' D', zH.L1 N n (keys : Int) ((v + 1 : Nat) : Int) (i : Int) c.1 c.2.1 c.2.2 (keys : Int) o7 E = some ((((keys : Int), hs), c'), D') /\ ls.length = v + 1 /\ laysB (keys : Int) ((v + 1 : Nat) : Int) true ls = true /\ okC code c' /\ D <+: D' /\ Own (u := tA) 8 D' D.length D'.length hs ls := by
  intro n
  induction n with
  | zero => intro i c o7 ls E x1 x2; omega
  | succ n ih =>
   intro i c o7 ls E x1 x2 x3 x3b x4 x5 x6 x7
   rw [zH.L1_eq]
   by_cases hi : i < v + 1
   ·obtain ⟨r, c2, e2, r2, k2⟩ := g2 n i o7 E hi x3 N 0 c [] (by omega) (by omega) rfl x4 rfl
    have e2 : zH.L2 N n N (keys : Int) ((v + 1 : Nat) : Int) (i : Int) 0 c.1 c.2.1 c.2.2 (keys : Int) [] o7 E = _ := e2
    rw [dT (show (i : Int) < ((v + 1 : Nat) : Int) by omega), condT, e2]
    have hp := x7.push x6.length_le r
    refine ih (i + 1) c2 _ (ls ++ [r]) _ (by omega) (by omega) (by rw [lA, List.length_singleton]; omega) (by rw [lA, List.length_singleton]; omega) k2 ?_ (x6.trans (List.prefix_append _ _)) (by rw [lA]; exact hp)
    have e0 : ls.isEmpty = (i == 0) := by
     cases ls with
     | nil => subst x3b; rfl
     | cons x s => rw [<- x3b]; rfl
    rw [laysB_snoc, x5, e0, Bool.true_and, Bool.true_and, r2]
   ·have : i = v + 1 := by omega
    subst this
    rw [dF (show ¬ ((v + 1 : Nat) : Int) < ((v + 1 : Nat) : Int) by omega), condF]
    exact ⟨ls, o7, c, E, rfl, x3b, x5, x4, x6, x7⟩
 obtain ⟨ls, hs, c2, D', e2, l2, l3, k2, p2, o2⟩ := g1 N 0 c1 [] [] D (by omega) (by omega) rfl rfl k1 rfl (List.prefix_refl _) own_nil
 have e2 : zH.L1 N N (keys : Int) ((v + 1 : Nat) : Int) 0 c1.1 c1.2.1 c1.2.2 (keys : Int) [] D = _ := e2
 rw [zH.H_eq, e1, bindV, w1, e2]
 exact ⟨ls, hs, c2, D', rfl, ⟨⟨by dsimp only; omega, by dsimp only; omega⟩, ⟨by dsimp only; omega, by dsimp only; omega⟩, by dsimp only; rw [l2]; exact l3⟩, k2, p2, o2⟩
theorem l18_ok (N : Nat) (hN : 100 < N) (code : List Int) (c : List Int × Int × Int) (keys : Nat) (hk : 1 <= keys /\ keys <= 32) (h : okC code c) (hm : code.length <= maxN) (D : List HRow) :
  ∃ ls hs c' D', zp.H N (c, (keys : Int)) D = some ((((keys : Int), hs), c'), D') /\ OkM ((keys : Int), ls) /\ okC code c' /\ D.length <= D'.length /\ (∀ k, k < D.length -> D'[k]? = D[k]?) /\ Own (u := tA) 8 D' D.length D'.length hs ls := by
 obtain ⟨ls, hs, c1, E, e1, m1, k1, p1, o1⟩ := l6h_ok N hN code c keys hk h hm (hhide D)
 obtain ⟨v, c2, e2, v0, v1, k2⟩ := zAP N code c1 6 k1 hm (by omega)
 obtain ⟨v, rfl⟩ := Int.eq_ofNat_of_zero_le v0
 rw [hide_len] at o1
 obtain ⟨q1, q2⟩ := o1.call p1
 rw [zp.H_eq, e1, bindV]
 dsimp only
 rw [e2, bindV]
 dsimp only
 generalize zBf D E = D1 at q1 q2
 have gl : ∀ (n m : Nat) (c : List Int × Int × Int) (ls : List (List Act)) (D2 : List HRow), m < n -> m <= 6 -> okC code c -> OkM ((keys : Int), ls) -> Own (u := tA) 8 D2 D.length D1.length hs ls -> D2.length = D1.length -> (∀ k, k < D.length -> D2[k]? = D[k]?) ->
   ∃ ls hs' c' D', zp.L1 N n (keys : Int) (m : Int) c.1 c.2.1 c.2.2 (keys : Int) hs D2 = some ((((keys : Int), hs'), c'), D') /\ OkM ((keys : Int), ls) /\ okC code c' /\ D.length <= D'.length /\ (∀ k, k < D.length -> D'[k]? = D[k]?) /\ Own (u := tA) 8 D' D.length D'.length hs' ls := by
  intro n
  induction n with
  | zero => intro m c ls D2 x1; omega
  | succ n ih =>
   intro m c ls D2 x1 x2 x3 x4 x5 x6 x7
   rw [zp.L1_eq]
   cases m with
   | zero =>
    exact ⟨ls, hs, c, D2, rfl, x4, x3, by rw [x6]; exact q1.length_le, x7, by rw [x6]; exact x5⟩
   | succ m =>
    have wn : IntKind.wrap .i64 (((m + 1 : Nat) : Int) - 1) = (m : Int) := by rw [zAl (by omega) (by omega)]; omega
    have hl := x4.len
    dsimp only at hl
    have hhl := x5.len
    obtain ⟨i, c3, e3, i0, i1, k3⟩ := zAP N code c (hs.length : Int) x3 hm (by omega)
    have e3 : zG.F N ((c.1, (c.2.1, c.2.2)), (hs.length : Int)) = _ := e3
    obtain ⟨i, rfl⟩ := Int.eq_ofNat_of_zero_le i0
    obtain ⟨j, c4, e4, j0, j1, k4⟩ := zAP N code c3 (keys : Int) k3 hm (by omega)
    obtain ⟨j, rfl⟩ := Int.eq_ofNat_of_zero_le j0
    rw [dT (show ((m + 1 : Nat) : Int) > 0 by omega), condT, e3, bindV]
    dsimp only
    rw [e4, bindV, wn]
    dsimp only
    by_cases hg : (hs.length : Int) > 1
    ·have hi : i < ls.length := by omega
     have hrow := x4.row (i := i) hi
     dsimp only at hrow
     obtain ⟨a, c5, e5, a1, k5⟩ := l1PickInt_ok N code c4 [4, 5, 3] k4 hm (by simp)
     have wl : IntKind.wrap .i64 ((hs.length : Int) - 1) = (hs.length : Int) - 1 := zAl (by omega) (by omega)
     obtain ⟨b, c6, e6, b0, b1, k6⟩ := zAP N code c5 ((hs.length : Int) - 1) k5 hm (by omega)
     have wb : IntKind.wrap .i64 (1 + b) = 1 + b := zAl (by omega) (by omega)
     have hjr : j < (ls.getD i []).length := by omega
     have ok : okC2 ls.length (a, 0, 0, 1 + b) := by
      simp only [List.mem_cons, List.not_mem_nil, or_false] at a1
      have l1 := okC2_lay (nl := (ls.length : Int)) (n := 1 + b) (by omega) ⟨by omega, by omega⟩
      rcases a1 with rfl | rfl | rfl
      ·exact l1.2
      ·exact okC2_to (by omega) (by omega) ⟨by omega, by omega⟩
      ·exact l1.1
     have hM := x4.setc hi hjr (cell_of ok _)
     obtain ⟨p1, p2⟩ := x5.put (i := i) hi (v := (ls.getD i []).set j (a, 0, 0, 1 + b)) (by rw [List.length_set])
     rw [dT hg, condT, inRange_nat, dT (show i < hs.length by omega), condT, nth_nat, x5.full hi, condT, e5, bindV]
     dsimp only
     rw [wl, e6, bindV, x5.cut hi, inRange_nat, dT hjr, condT, wb, Int.toNat_natCast]
     exact ih m c6 _ _ (by omega) (by omega) k6 hM p1 (p2.1.trans x6) (fun k hk => (p2.2 k (by omega)).trans (x7 k hk))
    ·rw [dF hg, condF]
     exact ih m c4 _ _ (by omega) (by omega) k4 x4 x5 x6 x7
 exact gl N v c2 ls D1 (by omega) (by omega) k2 m1 q2 rfl (fun k hk => by
  obtain ⟨t, rfl⟩ := q1
  rw [List.getElem?_append_left hk])
theorem MakeKeymap_ok (N : Nat) (hN : 100 < N) (code : List Int) (p : Int) (hm : code.length <= maxN) (hc : code.length < N) (keys : Nat) (hk : 1 <= keys /\ keys <= 32) :
  ∃ ls hs D', yS.H N (code, p, (keys : Int)) [] = some (((keys : Int), hs), D') /\ OkM ((keys : Int), ls) /\ Own (u := tA) 8 D' 0 D'.length hs ls := by
 obtain ⟨c, e, k⟩ := l24New_ok N code p hm hc
 obtain ⟨ls, hs, c1, E, e1, m1, _, _, _, o1⟩ := l18_ok N hN code c keys hk k hm (hhide [])
 have o2 : Own (u := tA) 8 (zBf [] E) 0 (zBf [] E).length hs ls := (Own.call (D := []) o1 (List.nil_prefix)).2
 rw [yS.H_eq, e, bindV, e1, bindV]
 exact ⟨ls, hs, _, rfl, m1, o2⟩
theorem tap_cell {nl : Int} {f : Bool} {a : Act} (h1 : 1 <= nl) (h : cellB nl f a = true) : cellB nl f (tapO a) = true := by
 unfold tapO
 cases ht : isTH a with
 | false => exact h
 | true =>
  rw [condT]
  obtain ⟨h2, h3⟩ := (isTH_iff a).1 ht
  refine cell_of (okC2_key h1 ?_ ⟨by omega, by omega⟩ (Or.inl ?_)) f
  ·exact okA_code h2
  ·unfold okA at h2; omega
theorem tap_no (a : Act) : isTH (tapO a) = false := by
 unfold tapO
 cases ht : isTH a with
 | false => exact ht
 | true =>
  rw [condT]
  cases h : isTH (2, a.2.1, 0, 0) with
  | false => rfl
  | true =>
   have := ((isTH_iff _).1 h).2
   dsimp only at this
   omega
theorem hsame_own {D : List HRow} {lo hi : Nat} {hs : List Hnd} {vs : List (List Act)} (h : Own (u := tA) 8 D lo hi hs vs) {i : Nat} (hi' : i < vs.length) (h0 : 0 < (vs.getD i []).length) : hsame (hs.getD i none) (hs.getD i none) (vs.getD i []).length = true := by
 obtain ⟨_, κ, h2, _⟩ := h
 rcases h2 i hi' with ⟨_, e2⟩ | ⟨_, _, e1, _⟩
 ·rw [e2] at h0; simp at h0
 ·rw [e1]
  simp [hsame, hbeq]
def tapsB (ls : List (List Act)) (i k : Nat) : Prop := ∀ j q, j < i \/ (j = i /\ q < k) -> isTH ((ls.getD j []).getD q (0, 0, 0, 0)) = false
theorem tapsB_set {ls : List (List Act)} {i k : Nat} (hi : i < ls.length) (hk : k < (ls.getD i []).length) {a : Act} (ha : isTH a = false) (h : tapsB ls i k) : tapsB (ls.set i ((ls.getD i []).set k a)) i (k + 1) := by
 intro j q hj
 by_cases hji : j = i
 ·subst hji
  have e1 : (ls.set j ((ls.getD j []).set k a)).getD j [] = (ls.getD j []).set k a := by
   rw [List.getD_eq_getElem?_getD, List.getElem?_set_self hi]; rfl
  rw [e1]
  by_cases hq : q = k
  ·subst hq
   rw [List.getD_eq_getElem?_getD, List.getElem?_set_self hk]; exact ha
  ·rw [List.getD_eq_getElem?_getD, List.getElem?_set_ne (fun x => hq x.symm), <- List.getD_eq_getElem?_getD]
   exact h j q (Or.inr ⟨rfl, by omega⟩)
 ·have e1 : (ls.set i ((ls.getD i []).set k a)).getD j [] = ls.getD j [] := by
   rw [List.getD_eq_getElem?_getD, List.getElem?_set_ne (fun x => hji x.symm), <- List.getD_eq_getElem?_getD]
  rw [e1]
  exact h j q (Or.inl (by omega))
end Go.Kb
