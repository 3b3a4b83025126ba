/- Draws of keymaps, macros, timings and events are valid. -/
import Derived.Test.YticidpdbkjgebaaPlainP103toP104
namespace Go.Kb
theorem quo_rng {w d : Int} (hw : 0 <= w /\ w <= 1000) (hd : 0 < d) : 0 <= quoI .i64 w d /\ quoI .i64 w d <= w := by
 unfold quoI
 rw [Int.tdiv_eq_ediv_of_nonneg hw.1]
 have h1 := Int.ediv_nonneg hw.1 (Int.le_of_lt hd)
 have h2 := Int.ediv_le_self d hw.1
 rw [zAl (by omega) (by omega)]
 exact ⟨h1, h2⟩
theorem once_ok (N : Nat) (code : List Int) (c : List Int × Int × Int) (n : Int) (h : okC code c) (hm : code.length <= maxN) (hn : 0 < n) : ∃ b c', yr.F N (c, n) = some (b, c') /\ okC code c' := by
 obtain ⟨v, c', e, _, _, k⟩ := zAP N code c n h hm hn
 exact ⟨_, c', by rw [yr.F_eq, e, bindV], k⟩
theorem pick3 (v : Int) (h : 0 <= v /\ v < 3) (a b c : Act) : zu v (List.length [a, b, c]) = true /\ (List.getD [a, b, c] (Int.toNat v) (0, 0, 0, 0) = a \/ List.getD [a, b, c] (Int.toNat v) (0, 0, 0, 0) = b \/ List.getD [a, b, c] (Int.toNat v) (0, 0, 0, 0) = c) := by
 have : v = 0 \/ v = 1 \/ v = 2 := by omega
 rcases this with rfl | rfl | rfl
 ·exact ⟨rfl, Or.inl rfl⟩
 ·exact ⟨rfl, Or.inr (Or.inl rfl)⟩
 ·exact ⟨rfl, Or.inr (Or.inr rfl)⟩
theorem okC2_key {nl c m : Int} (h1 : 1 <= nl) (hc : 0 <= c /\ c <= 56) (hm : 0 <= m /\ m <= 15) (h : c ≠ 0 \/ m ≠ 0) : okC2 nl (2, c, m, 0) := by
 refine ⟨?_, by dsimp only; omega, fun _ => by dsimp only; omega⟩
 unfold okA; dsimp only; omega
theorem okC2_mt {nl c m : Int} (h1 : 1 <= nl) (hc : 1 <= c /\ c <= 56) (hm : 1 <= m /\ m <= 15) : okC2 nl (6, c, m, 0) := by
 refine ⟨?_, by dsimp only; omega, fun _ => by dsimp only; omega⟩
 unfold okA; dsimp only; omega
theorem okC2_once {nl m : Int} (h1 : 1 <= nl) (hm : 1 <= m /\ m <= 15) : okC2 nl (8, 0, m, 0) := by
 refine ⟨?_, by dsimp only; omega, fun _ => by dsimp only; omega⟩
 unfold okA; dsimp only; omega
theorem okC2_mac {nl n : Int} (hn : 0 <= n /\ n <= 3) : okC2 nl (9, 0, 0, n) := by
 refine ⟨?_, by dsimp only; omega, fun h => absurd rfl h⟩
 unfold okA; dsimp only; omega
theorem okC2_caps {nl : Int} (h1 : 1 <= nl) : okC2 nl (10, 0, 0, 0) := by
 refine ⟨?_, by dsimp only; omega, fun _ => by dsimp only; omega⟩
 unfold okA; dsimp only; omega
theorem okC2_to {nl n : Int} (h1 : 1 <= nl) (h4 : nl <= 4) (hn : 0 <= n /\ n < nl) : okC2 nl (5, 0, 0, n) := by
 refine ⟨?_, by dsimp only; omega, fun _ => by dsimp only; omega⟩
 unfold okA; dsimp only; omega
theorem okC2_lay {nl n : Int} (h4 : nl <= 4) (hn : 1 <= n /\ n < nl) : okC2 nl (3, 0, 0, n) /\ okC2 nl (4, 0, 0, n) := by
 refine ⟨⟨?_, by dsimp only; omega, fun _ => by dsimp only; omega⟩, ⟨?_, by dsimp only; omega, fun _ => by dsimp only; omega⟩⟩
 ·unfold okA; dsimp only; omega
 ·unfold okA; dsimp only; omega
theorem okC2_lt {nl c n : Int} (h4 : nl <= 4) (hc : 1 <= c /\ c <= 56) (hn : 1 <= n /\ n < nl) : okC2 nl (7, c, 0, n) := by
 refine ⟨?_, by dsimp only; omega, fun _ => by dsimp only; omega⟩
 unfold okA; dsimp only; omega
set_option maxHeartbeats 2000000 in
theorem l5_ok (N : Nat) (code : List Int) (c : List Int × Int × Int) (nl : Int) (h1 : 1 <= nl) (h4 : nl <= 4) (h : okC code c) (hm : code.length <= maxN) :
  ∃ a c', zAG.F N (c, nl) = some (a, c') /\ okC2 nl a /\ okC code c' := by
 obtain ⟨v1, c1, e1, p1, q1, k1⟩ := zAP N code c 56 h hm (by omega)
 obtain ⟨v2, c2, e2, p2, q2, k2⟩ := zAP N code c1 15 k1 hm (by omega)
 obtain ⟨b, c3, e3, k3⟩ := once_ok N code c2 2 k2 hm (by omega)
 have wl : IntKind.wrap .i64 (nl - 1) = nl - 1 := zAl (by omega) (by omega)
 have hx : 0 < maxI 1 (nl - 1) := by have := maxI_ge 1 (nl - 1); omega
 have hx2 : nl > 1 -> maxI 1 (nl - 1) = nl - 1 := by intro g; unfold maxI; split <;> omega
 have hy : 0 < maxI 1 nl := by have := maxI_ge 1 nl; omega
 have hy2 : maxI 1 nl = nl := by unfold maxI; split <;> omega
 obtain ⟨v4, c4, e4, p4, q4, k4⟩ := zAP N code c3 (maxI 1 (nl - 1)) k3 hm hx
 obtain ⟨v5, c5, e5, p5, q5, k5⟩ := zAP N code c4 16 k4 hm (by omega)
 obtain ⟨v6, c6, e6, p6, q6, k6⟩ := zAP N code c5 4 k5 hm (by omega)
 obtain ⟨v7, c7, e7, p7, q7, k7⟩ := zAP N code c5 (maxI 1 nl) k5 hm hy
 obtain ⟨v8, c8, e8, p8, q8, k8⟩ := zAP N code c5 3 k5 hm (by omega)
 have w1 : IntKind.wrap .i64 (1 + v1) = 1 + v1 := zAl (by omega) (by omega)
 have w2 : IntKind.wrap .i64 (1 + v2) = 1 + v2 := zAl (by omega) (by omega)
 have w4 : IntKind.wrap .i64 (1 + v4) = 1 + v4 := zAl (by omega) (by unfold maxI at q4; split at q4 <;> omega)
 rw [hy2] at q7
 have p3 := pick3 v8 ⟨p8, q8⟩ (3, 0, 0, 1 + v4) (4, 0, 0, 1 + v4) (7, 1 + v1, 0, 1 + v4)
 have lays : nl > 1 -> ∀ a : Act, (a = (3, 0, 0, 1 + v4) \/ a = (4, 0, 0, 1 + v4) \/ a = (7, 1 + v1, 0, 1 + v4)) -> okC2 nl a := by
  intro g a ha
  rw [hx2 g] at q4
  have l1 := okC2_lay (n := 1 + v4) h4 ⟨by omega, by omega⟩
  have l2 := okC2_lt (c := 1 + v1) (n := 1 + v4) h4 ⟨by omega, by omega⟩ ⟨by omega, by omega⟩
  rcases ha with rfl | rfl | rfl
  ·exact l1.1
  ·exact l1.2
  ·exact l2
 have key0 : okC2 nl (2, 1 + v1, 0, 0) := okC2_key h1 ⟨by omega, by omega⟩ ⟨by omega, by omega⟩ (Or.inl (by omega))
 rw [zAG.F_eq, e1, bindV]
 dsimp only
 rw [e2, bindV]
 dsimp only
 rw [e3, bindV]
 dsimp only
 rw [wl, e4, bindV]
 dsimp only
 rw [e5]
 have hv5 : v5 = 0 \/ v5 = 1 \/ v5 = 2 \/ v5 = 3 \/ v5 = 4 \/ v5 = 5 \/ v5 = 6 \/ v5 = 7 \/ v5 = 8 \/ v5 = 9 \/ v5 = 10 \/ (10 < v5) := by omega
 cases b with
 | true =>
  rw [condT]
  simp only [bindV, w1, w4]
  rcases hv5 with h5 | h5 | h5 | h5 | h5 | h5 | h5 | h5 | h5 | h5 | h5 | h5
  ·subst h5; exact ⟨_, _, rfl, okC2_key h1 ⟨by omega, by omega⟩ ⟨by omega, by omega⟩ (Or.inl (by omega)), k5⟩
  ·subst h5; exact ⟨_, _, rfl, okC2_key h1 ⟨by omega, by omega⟩ ⟨by omega, by omega⟩ (Or.inr (by omega)), k5⟩
  ·subst h5; exact ⟨_, _, rfl, okC2_mt h1 ⟨by omega, by omega⟩ ⟨by omega, by omega⟩, k5⟩
  ·subst h5; exact ⟨_, _, rfl, okC2_mt h1 ⟨by omega, by omega⟩ ⟨by omega, by omega⟩, k5⟩
  ·subst h5; exact ⟨_, _, rfl, okC2_once h1 ⟨by omega, by omega⟩, k5⟩
  ·subst h5
   rw [e6]
   exact ⟨_, _, rfl, okC2_mac ⟨p6, by omega⟩, k6⟩
  ·subst h5; exact ⟨_, _, rfl, okC2_caps h1, k5⟩
  ·subst h5
   rw [e7]
   exact ⟨_, _, rfl, okC2_to h1 h4 ⟨p7, q7⟩, k7⟩
  ·subst h5
   rw [e8]
   simp only [Int.reduceBEq, cond_true, cond_false, bindV]
   by_cases hg : nl > 1
   ·rw [dT hg, condT, p3.1, condT]
    exact ⟨_, _, rfl, lays hg _ p3.2, k8⟩
   ·rw [dF hg, condF]
    exact ⟨_, _, rfl, key0, k5⟩
  ·subst h5
   rw [e8]
   simp only [Int.reduceBEq, cond_true, cond_false, bindV]
   by_cases hg : nl > 1
   ·rw [dT hg, condT, p3.1, condT]
    exact ⟨_, _, rfl, lays hg _ p3.2, k8⟩
   ·rw [dF hg, condF]
    exact ⟨_, _, rfl, key0, k5⟩
  ·subst h5
   rw [e8]
   simp only [Int.reduceBEq, cond_true, cond_false, bindV]
   by_cases hg : nl > 1
   ·rw [dT hg, condT, p3.1, condT]
    exact ⟨_, _, rfl, lays hg _ p3.2, k8⟩
   ·rw [dF hg, condF]
    exact ⟨_, _, rfl, key0, k5⟩
  ·simp only [bN (show v5 ≠ 0 by omega), bN (show v5 ≠ 1 by omega), bN (show v5 ≠ 2 by omega), bN (show v5 ≠ 3 by omega), bN (show v5 ≠ 4 by omega), bN (show v5 ≠ 5 by omega), bN (show v5 ≠ 6 by omega), bN (show v5 ≠ 7 by omega), bN (show v5 ≠ 8 by omega), bN (show v5 ≠ 9 by omega), bN (show v5 ≠ 10 by omega), condF]
   exact ⟨_, _, rfl, key0, k5⟩
 | false =>
  rw [condF]
  simp only [bindV, w1, w2, w4]
  rw [e5]
  simp only [bindV]
  rcases hv5 with h5 | h5 | h5 | h5 | h5 | h5 | h5 | h5 | h5 | h5 | h5 | h5
  ·subst h5; exact ⟨_, _, rfl, okC2_key h1 ⟨by omega, by omega⟩ ⟨by omega, by omega⟩ (Or.inl (by omega)), k5⟩
  ·subst h5; exact ⟨_, _, rfl, okC2_key h1 ⟨by omega, by omega⟩ ⟨by omega, by omega⟩ (Or.inr (by omega)), k5⟩
  ·subst h5; exact ⟨_, _, rfl, okC2_mt h1 ⟨by omega, by omega⟩ ⟨by omega, by omega⟩, k5⟩
  ·subst h5; exact ⟨_, _, rfl, okC2_mt h1 ⟨by omega, by omega⟩ ⟨by omega, by omega⟩, k5⟩
  ·subst h5; exact ⟨_, _, rfl, okC2_once h1 ⟨by omega, by omega⟩, k5⟩
  ·subst h5
   rw [e6]
   exact ⟨_, _, rfl, okC2_mac ⟨p6, by omega⟩, k6⟩
  ·subst h5; exact ⟨_, _, rfl, okC2_caps h1, k5⟩
  ·subst h5
   rw [e7]
   exact ⟨_, _, rfl, okC2_to h1 h4 ⟨p7, q7⟩, k7⟩
  ·subst h5
   rw [e8]
   simp only [Int.reduceBEq, cond_true, cond_false, bindV]
   by_cases hg : nl > 1
   ·rw [dT hg, condT, p3.1, condT]
    exact ⟨_, _, rfl, lays hg _ p3.2, k8⟩
   ·rw [dF hg, condF]
    exact ⟨_, _, rfl, key0, k5⟩
  ·subst h5
   rw [e8]
   simp only [Int.reduceBEq, cond_true, cond_false, bindV]
   by_cases hg : nl > 1
   ·rw [dT hg, condT, p3.1, condT]
    exact ⟨_, _, rfl, lays hg _ p3.2, k8⟩
   ·rw [dF hg, condF]
    exact ⟨_, _, rfl, key0, k5⟩
  ·subst h5
   rw [e8]
   simp only [Int.reduceBEq, cond_true, cond_false, bindV]
   by_cases hg : nl > 1
   ·rw [dT hg, condT, p3.1, condT]
    exact ⟨_, _, rfl, lays hg _ p3.2, k8⟩
   ·rw [dF hg, condF]
    exact ⟨_, _, rfl, key0, k5⟩
  ·simp only [bN (show v5 ≠ 0 by omega), bN (show v5 ≠ 1 by omega), bN (show v5 ≠ 2 by omega), bN (show v5 ≠ 3 by omega), bN (show v5 ≠ 4 by omega), bN (show v5 ≠ 5 by omega), bN (show v5 ≠ 6 by omega), bN (show v5 ≠ 7 by omega), bN (show v5 ≠ 8 by omega), bN (show v5 ≠ 9 by omega), bN (show v5 ≠ 10 by omega), condF]
   exact ⟨_, _, rfl, key0, k5⟩
theorem cell_of {nl : Int} {a : Act} (h : okC2 nl a) (f : Bool) : cellB nl f a = true := by
 obtain ⟨h1, h2, h3⟩ := h
 unfold cellB
 rw [(isA_iff a).2 h1, bN h2, Bool.and_false, Bool.true_and]
 by_cases h9 : a.1 = 9
 ·rw [bI h9]; rfl
 ·rw [bN h9, dF (show ¬ nl <= a.2.2.2 by have := h3 h9; omega)]; rfl
theorem cell_pass {nl : Int} (h1 : 1 <= nl) : cellB nl false (1, 0, 0, 0) = true := by
 unfold cellB
 have : isA (1, 0, 0, 0) = true := by decide
 rw [this, dF (show ¬ nl <= (1, 0, 0, 0).2.2.2 by dsimp only; omega)]; rfl
theorem laysB_snoc (keys nl : Int) : ∀ (ls : List (List Act)) (f : Bool) (r : List Act), laysB keys nl f (ls ++ [r]) = (laysB keys nl f ls && layB keys nl (f && ls.isEmpty) r) := by
 intro ls
 induction ls with
 | nil => intro f r; simp only [List.nil_append, laysB, Bool.and_true, Bool.true_and, List.isEmpty_nil]
 | cons x s ih =>
  intro f r
  simp only [List.cons_append, laysB]
  rw [ih]
  simp only [Bool.false_and, List.isEmpty_cons, Bool.and_false, Bool.and_assoc]
theorem mcGo_append : ∀ (a : List MSt) (d : List Pr) (b : List MSt), mcGo d a = true -> mcGo [] b = true -> mcGo d (a ++ b) = true := by
 intro a
 induction a with
 | nil =>
  intro d b h1 h2
  cases d with
  | nil => exact h2
  | cons x s => cases h1
 | cons s t ih =>
  intro d b h1 h2
  simp only [List.cons_append, mcGo, bA] at h1 ⊢
  refine ⟨h1.1, ?_⟩
  have h1 := h1.2
  cases k0 : s.1 == 0 with
  | true =>
   rw [k0, condT, bA] at h1
   rw [condT, bA]
   exact ⟨h1.1, ih _ _ h1.2 h2⟩
  | false =>
   rw [k0, condF] at h1
   rw [condF]
   cases k1 : s.1 == 1 with
   | true =>
    rw [k1, condT, bA] at h1
    rw [condT, bA]
    exact ⟨h1.1, ih _ _ h1.2 h2⟩
   | false =>
    rw [k1, condF] at h1
    rw [condF]
    cases k2 : s.1 == 2 with
    | true =>
     rw [k2, condT, bA] at h1
     rw [condT, bA]
     exact ⟨h1.1, ih _ _ h1.2 h2⟩
    | false => rw [k2, condF] at h1; cases h1
theorem stepA_ok {k c m : Int} (hc : 1 <= c /\ c <= 56) (hm : 0 <= m /\ m <= 15) : isA (stepA (k, c, m)) = true := by
 rw [isA_iff]; unfold okA stepA; dsimp only; omega
theorem mc_tap {c m : Int} (hc : 1 <= c /\ c <= 56) (hm : 0 <= m /\ m <= 15) : mcGo [] [(0, c, m)] = true := by
 simp only [mcGo]
 rw [stepA_ok hc hm]
 rfl
theorem mc_hold {c m x : Int} (hc : 1 <= c /\ c <= 56) (hm : 0 <= m /\ m <= 7) (hx : 1 <= x /\ x <= 56) : mcGo [] [(1, c, m), (0, x, 8), (2, c, m)] = true := by
 simp only [mcGo]
 rw [stepA_ok hc (show 0 <= m /\ m <= 15 by omega), stepA_ok hx (by omega), stepA_ok hc (show 0 <= m /\ m <= 15 by omega)]
 have hne : ((x, (8 : Int)) == (c, m)) = false := by
  rw [beq_eq_false_iff_ne]; intro h; injection h with _ h; omega
 have h1 : ([] ++ [(c, m)] : List Pr).contains (x, 8) = false := by
  rw [List.nil_append, List.contains_cons, hne]; rfl
 have h2 : ([] ++ [(c, m)] : List Pr).contains (c, m) = true := by
  rw [List.nil_append, List.contains_cons]; simp
 have h3 : ([] ++ [(c, m)] : List Pr).erase (c, m) = [] := by simp
 rw [h1, h2, h3]
 rfl
theorem l8_ok (N : Nat) (hN : 100 < N) (code : List Int) (c : List Int × Int × Int) (h : okC code c) (hm : code.length <= maxN) :
  ∃ l c', z1.F N c = some (l, c') /\ isMc l = true /\ okC code c' := by
 obtain ⟨v, c1, e1, p1, q1, k1⟩ := zAP N code c 3 h hm (by omega)
 obtain ⟨v, rfl⟩ := Int.eq_ofNat_of_zero_le p1
 have gl : ∀ (n m : Nat) (c : List Int × Int × Int) (o : List MSt), m < n -> m <= 2 -> o.length + 3 * m <= 6 -> okC code c -> mcGo [] o = true ->
   ∃ l c', z1.L1 N n (m : Int) c.1 c.2.1 c.2.2 o = some (l, c') /\ l.length <= 6 /\ mcGo [] l = true /\ okC code c' := by
  intro n
  induction n with
  | zero => intro m c o x1; omega
  | succ n ih =>
   intro m c o x1 x2 x3 x4 x5
   rw [z1.L1_eq]
   cases m with
   | zero => exact ⟨o, c, rfl, by omega, x5, x4⟩
   | succ m =>
    have wn : IntKind.wrap .i64 (((m + 1 : Nat) : Int) - 1) = (m : Int) := by rw [zAl (by omega) (by omega)]; omega
    obtain ⟨a, c2, e2, a1, a2, k2⟩ := zAP N code c 56 x4 hm (by omega)
    have e2 : zG.F N ((c.1, (c.2.1, c.2.2)), 56) = _ := e2
    obtain ⟨b, c3, e3, b1, k3⟩ := l1PickInt_ok N code c2 [0, 0, 2, 1] k2 hm (by simp)
    obtain ⟨t, c4, e4, k4⟩ := once_ok N code c3 2 k3 hm (by omega)
    have w1 : IntKind.wrap .i64 (1 + a) = 1 + a := zAl (by omega) (by omega)
    have hb : 0 <= b /\ b <= 7 := by
     simp only [List.mem_cons, List.not_mem_nil, or_false] at b1
     omega
    rw [dT (show ((m + 1 : Nat) : Int) > 0 by omega), condT, e2, bindV]
    dsimp only
    rw [e3, bindV]
    dsimp only
    rw [e4, bindV, wn, w1]
    cases t with
    | true =>
     rw [condT, len1 o _ (by omega), condT]
     exact ih m c4 _ (by omega) (by omega) (by rw [lA, List.length_singleton]; omega) k4 (mcGo_append o [] _ x5 (mc_tap ⟨by omega, by omega⟩ ⟨by omega, by omega⟩))
    | false =>
     have wx : IntKind.wrap .i64 (IntKind.wrap .i64 (60 - (o.length : Int)) - 10) = 50 - (o.length : Int) := by
      rw [zAl (show -9223372036854775808 <= 60 - (o.length : Int) by omega) (by omega), zAl (by omega) (by omega)]; omega
     rw [condF, wx, dT (show o.length + ([((1 : Int), 1 + a, b), (0, 50 - (o.length : Int), 8), (2, 1 + a, b)] : List MSt).length <= maxN by simp only [List.length_cons, List.length_nil]; unfold maxN; omega), condT]
     exact ih m c4 _ (by omega) (by omega) (by rw [lA]; simp only [List.length_cons, List.length_nil]; omega) k4 (mcGo_append o [] _ x5 (mc_hold ⟨by omega, by omega⟩ hb ⟨by omega, by omega⟩))
 obtain ⟨l, c2, e2, l1, l2, k2⟩ := gl N v c1 [] (by omega) (by omega) (by rw [List.length_nil]; omega) k1 rfl
 rw [z1.F_eq, e1, bindV]
 refine ⟨l, c2, e2, ?_, k2⟩
 unfold isMc
 rw [dT (show l.length <= 8 by omega), l2]; rfl
theorem l10T_ok (N : Nat) (code : List Int) (c : List Int × Int × Int) (h : okC code c) (hm : code.length <= maxN) :
  ∃ t c', yl.F N c = some (t, c') /\ isT t = true /\ t.1 <= 9 /\ okC code c' := by
 obtain ⟨a, c1, e1, a1, a2, k1⟩ := zAP N code c 9 h hm (by omega)
 obtain ⟨b, c2, e2, b1, k2⟩ := l1PickInt_ok N code c1 [0, 0, 3, 6] k1 hm (by simp)
 obtain ⟨f, c3, e3, f1, f2, k3⟩ := zAP N code c2 3 k2 hm (by omega)
 have w1 : IntKind.wrap .i64 (1 + a) = 1 + a := zAl (by omega) (by omega)
 have hb : 0 <= b /\ b <= 7 := by
  simp only [List.mem_cons, List.not_mem_nil, or_false] at b1
  omega
 rw [yl.F_eq, e1, bindV]
 dsimp only
 rw [e2, bindV]
 dsimp only
 rw [e3, bindV, w1]
 exact ⟨_, c3, rfl, (isT_iff _).2 (by dsimp only; omega), by dsimp only; omega, k3⟩
theorem xor32 {h k : Nat} (hh : h < 4294967296) (hk : k <= 31) : h ^^^ 2 ^ k < 4294967296 := by
 have := Nat.xor_lt_two_pow (n := 32) (x := h) (y := 2 ^ k) (by omega) (by have := pow_lt32 (k := k) (by omega); omega)
 omega
theorem ev_bits {held k : Nat} (hh : held < 4294967296) (hk : k <= 31) :
  zBa .i64 (held : Int) (zBS .i64 1 (k : Int)) = ((held ^^^ 2 ^ k : Nat) : Int) /\ (zBg .i64 (zCA .i64 ((held ^^^ 2 ^ k : Nat) : Int) (k : Int)) 1 == 1) = !(held.testBit k) := by
 refine ⟨xorI hh hk, ?_⟩
 rw [bitOf (xor32 hh hk) hk, xor_bit]; simp
theorem l4_L1 (N : Nat) (code : List Int) (hm : code.length <= maxN) (keys : Nat) (hk : 1 <= keys /\ keys <= 32) (wide : Int) (hw : 1 <= wide /\ wide <= 10) : ∀ (n m : Nat) (held : Nat) (time : Int) (c : List Int × Int × Int) (o : List Ev), m < n -> held < 4294967296 -> 0 <= time -> time + 11 * m <= 10000 -> okC code c -> o.length + m <= 1000 ->
  ∃ (r : List Ev) (c' : List Int × Int × Int), z3.L1 N n (keys : Int) wide time (held : Int) (m : Int) c.1 c.2.1 c.2.2 o = some (o ++ r, c') /\ okC code c' /\ fol keys held time r /\ r.length <= m /\ lT time r <= time + 11 * m := by
 intro n
 induction n with
 | zero => intro m held time c o h1; omega
 | succ n ih =>
  intro m held time c o h1 h2 h3 h4 hc h5
  rw [z3.L1_eq]
  cases m with
  | zero => exact ⟨[], c, by rw [List.append_nil]; rfl, hc, trivial, nR _, by show time <= _; omega⟩
  | succ j =>
   have x1 := quo_rng (w := wide) (d := 3) (by omega) (by omega)
   have x2 := quo_rng (w := wide) (d := 2) (by omega) (by omega)
   have x3 : IntKind.wrap .i64 (wide - 1) = wide - 1 := zAl (by omega) (by omega)
   have x4 : IntKind.wrap .i64 (wide + 1) = wide + 1 := zAl (by omega) (by omega)
   obtain ⟨v, c1, e1, g1, k1⟩ := l1PickInt_ok N code c [0, 0, 1, quoI .i64 wide 3, IntKind.wrap .i64 (wide - 1), wide, IntKind.wrap .i64 (wide + 1), quoI .i64 wide 2] hc hm (by simp)
   have e1 : zq.F N ((c.1, (c.2.1, c.2.2)), [0, 0, 1, quoI .i64 wide 3, IntKind.wrap .i64 (wide - 1), wide, IntKind.wrap .i64 (wide + 1), quoI .i64 wide 2]) = _ := e1
   have hv : 0 <= v /\ v <= 11 := by
    simp only [List.mem_cons, List.not_mem_nil, or_false, x3, x4] at g1
    omega
   obtain ⟨w, c2, e2, w0, w1, k2⟩ := zAP N code c1 (keys : Int) k1 hm (by omega)
   obtain ⟨k, rfl⟩ := Int.eq_ofNat_of_zero_le w0
   have wt : IntKind.wrap .i64 (time + v) = time + v := zAl (by omega) (by omega)
   have wn : IntKind.wrap .i64 (((j + 1 : Nat) : Int) - 1) = (j : Int) := by rw [zAl (by omega) (by omega)]; omega
   obtain ⟨sx, sb⟩ := ev_bits (held := held) (k := k) h2 (by omega)
   obtain ⟨r, c', f1, f2, f3, f4, f5⟩ := ih j (held ^^^ 2 ^ k) (time + v) c2 (o ++ [(time + v, ((k : Int), !(held.testBit k)))]) (by omega) (xor32 h2 (by omega)) (by omega) (by omega) k2 (by simp only [lA, List.length_cons, List.length_nil]; omega)
   rw [dT (show ((j + 1 : Nat) : Int) > 0 by omega), condT, e1, bindV]
   dsimp only
   rw [e2, bindV]
   dsimp only
   rw [dT (show (0 : Int) <= (k : Int) by omega), condT, condT, wt, wn, sx, sb, len1 o _ (by omega), condT, f1]
   refine ⟨(time + v, ((k : Int), !(held.testBit k))) :: r, c', by rw [List.append_assoc]; rfl, f2, ⟨by dsimp only; omega, by dsimp only; omega, k, by omega, rfl, rfl, f3⟩, by simp only [List.length_cons]; omega, ?_⟩
   have : lT time ((time + v, ((k : Int), !(held.testBit k))) :: r) = lT (time + v) r := rfl
   rw [this]; omega
theorem l4_ok (N : Nat) (hN : 1000 < N) (code : List Int) (hm : code.length <= maxN) (keys : Nat) (hk : 1 <= keys /\ keys <= 32) (most : Nat) (hmost : most <= 100) (wide : Int) (hw : 1 <= wide /\ wide <= 10) (c : List Int × Int × Int) (hc : okC code c) :
  ∃ (r : List Ev) (c' : List Int × Int × Int), z3.F N (c, (keys : Int), (most : Int), wide) = some (r, c') /\ okC code c' /\ fol keys 0 0 r /\ r.length <= most /\ lT 0 r <= 11 * most := by
 rw [z3.F_eq]
 have w : IntKind.wrap .i64 ((most : Int) + 1) = (most : Int) + 1 := zAl (by omega) (by omega)
 obtain ⟨v, c1, e1, v0, v1, k1⟩ := zAP N code c ((most : Int) + 1) hc hm (by omega)
 obtain ⟨m, rfl⟩ := Int.eq_ofNat_of_zero_le v0
 obtain ⟨r, c', f1, f2, f3, f4, f5⟩ := l4_L1 N code hm keys hk wide hw N m 0 0 c1 [] (by omega) (by omega) (by omega) (by omega) k1 (by simp only [List.length_nil]; omega)
 rw [w, e1, bindV]
 exact ⟨r, c', f1, f2, f3, by omega, by omega⟩
end Go.Kb
