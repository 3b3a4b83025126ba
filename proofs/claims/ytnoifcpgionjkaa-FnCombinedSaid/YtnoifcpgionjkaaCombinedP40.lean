/- What comes of switches that all go up again; combinations found on the way. -/
import Derived.Test.YtnoifcpgionjkaaCombinedP39
namespace Go.Kb

/-! ### all switches go up -/
/-! ### on the way -/
theorem sameC_L1 (N : Nat) (o00 : List Cb) (o01 : Int) (o02 : List Ev) (o03 o04 o05 : Int) (a : List Ev) (ha : a.length ≤ 1048576) (hend : laws_sameEvents.F N (o02, o02) = some true) : ∀ (n i : Nat), i ≤ a.length → a.length < n + i → laws_sameCombiner.L1 N n (i : Int) o00 o01 o02 o03 o04 o05 a o00 o01 o02 o03 o04 o05 a = some true := by
  intro n
  induction n with
  | zero => intro i h1 h2; omega
  | succ n ih =>
    intro i h1 h2
    rw [laws_sameCombiner.L1_eq]
    by_cases hi : i < a.length
    · have ws : IntKind.wrap .i64 ((i : Int) + 1) = ((i + 1 : Nat) : Int) := wrap_succ (by omega)
      simp only [Int.ofNat_lt, hi, decide_true, condT, inRange_nat, nth_nat, ws, tri_beq, notT, condF, ih (i + 1) (by omega) (by omega)]
    · simp only [Int.ofNat_lt, hi, decide_false, condF, beq_self_eq_true, condT, hend, bindV]

theorem sameC (N : Nat) (hN : 1048576 < N) (c : Cm) (h1 : c.2.2.1.length ≤ 1048576) (h2 : c.2.2.2.2.2.2.length ≤ 1048576) : laws_sameCombiner.F N (c, c) = some true := by
  rw [laws_sameCombiner.F_eq]
  simp only [bne_self_eq_false, condF]
  exact sameC_L1 N c.1 c.2.1 c.2.2.1 c.2.2.2.1 c.2.2.2.2.1 c.2.2.2.2.2.1 c.2.2.2.2.2.2 h2 (sameEv N hN _ h1) N 0 (by omega) (by omega)

theorem add_nil (s : Sc) : s.add [] = s := by obtain ⟨q, ck, dn, ac⟩ := s; simp only [Sc.add, List.append_nil]
theorem add_add (s : Sc) (a b : List Ev) : (s.add a).add b = s.add (a ++ b) := by simp only [Sc.add, List.append_assoc]

theorem Combined_L1 (N : Nat) (hN : 2000000 < N) (code : List Int) (hcm : code.length ≤ maxN) (hcN : code.length < N) (l : List Cb) (t : Int) (L : List Ev) (e : Int) (he : e ≤ 1000000) (hLe : ∀ x ∈ L, x.1 ≤ e) (W : Cm) (all : List Ev) (hW1 : W.2.2.1.length ≤ 1048576) (hW2 : W.2.2.2.2.2.2.length ≤ 1048576) (hall : all.length ≤ 1048576) (hLL : L.length ≤ 64) :
    ∀ (n i : Nat) (now : Int) (s : Sc) (h : Nat) (o3 : List Ev), i ≤ L.length → L.length < n + i → okM N l t now s h → fol 24 (hA h s.q) now (L.drop i) → now ≤ e → s.q.length + (L.drop i).length ≤ 64 → o3.length + s.q.length + (L.drop i).length ≤ 128 →
      W = (runA l t e (s.add (L.drop i))).2.cm l t e → all = o3 ++ (runA l t e (s.add (L.drop i))).1 →
      laws_FnCombined.L1 N n code L e all (i : Int) W.1 W.2.1 W.2.2.1 W.2.2.2.1 W.2.2.2.2.1 W.2.2.2.2.2.1 W.2.2.2.2.2.2 l t s.q now s.ck s.dn s.ac o3 = some true := by
  intro n
  induction n with
  | zero => intro i now s h o3 h1 h2; omega
  | succ n ih =>
    intro i now s h o3 h1 h2 ho hf hne hq64 hlen hW hal
    rw [laws_FnCombined.L1_eq]
    have hnow0 := ho.on.1
    by_cases hi : i < L.length
    · have ws : IntKind.wrap .i64 ((i : Int) + 1) = ((i + 1 : Nat) : Int) := wrap_succ (by omega)
      obtain ⟨x, hx⟩ : ∃ x, L.getD i (0, 0, false) = x := ⟨_, rfl⟩
      have hd : L.drop i = x :: L.drop (i + 1) := by rw [drop_cons (0, 0, false) L i hi, hx]
      have hxm : x ∈ L := by rw [← hx]; exact nth_mem _ _ _ hi
      have hxe := hLe x hxm
      rw [hd] at hf hq64 hlen hW hal
      simp only [List.length_cons] at hq64 hlen
      have hf0 := hf
      obtain ⟨b1, b2, k, b3, b4, b5, b6⟩ := hf
      have wa : IntKind.wrap .i64 (x.1 - now) = x.1 - now := wrap64 (by omega) (by omega)
      have wb : IntKind.wrap .i64 (x.1 - now + 1) = x.1 - now + 1 := wrap64 (by omega) (by omega)
      obtain ⟨v, ev, v0, v1⟩ := MakeNumber_ok N code (IntKind.wrap .i64 (71 + (i : Int))) (x.1 - now + 1) hcm hcN (by omega)
      have wc : IntKind.wrap .i64 (now + v) = now + v := wrap64 (by omega) (by omega)
      -- a wait
      obtain ⟨f1, f2, h', f3, f4⟩ := okM_CE hN ho (L := []) (e := now + v) ⟨by omega, by omega⟩ trivial (by intro y hy; cases hy) (by simp; omega)
      rw [add_nil] at f1 f2 f3 f4
      rw [List.append_nil] at f3
      have hw : impl_CombineWait.F N (s.cm l t now, now + v) = some ((runA l t (now + v) s).2.cm l t (now + v), ((runA l t (now + v) s).1, true)) := by rw [impl_CombineWait.F_eq, f1, bindV]
      have hsplit1 := run_split (l := l) (term := t) (now := now + v) (now2 := e) (by omega) (L := x :: L.drop (i + 1)) (by
        intro y hy
        have hsw := fol_sw _ _ now hnow0 hf0 y hy
        have hty := fol_time 24 _ _ _ b6 
        refine ⟨hsw, ?_⟩
        rcases List.mem_cons.1 hy with rfl | hy
        · omega
        · have := hty y hy; omega) s.q.length s (Nat.le_refl _)
      -- an event
      have hfx : fol 24 (hA h' (runA l t (now + v) s).2.q) (now + v) [x] := by rw [f3]; exact ⟨by omega, b2, k, b3, b4, b5, trivial⟩
      have l1 := f2.len
      obtain ⟨g1, g2, h'', g3, g4⟩ := okM_CE hN f4 (L := [x]) (e := x.1) ⟨by omega, b2⟩ hfx (by intro y hy; simp at hy; rw [hy]; simp) (by simp only [List.length_cons, List.length_nil]; omega)
      have hev : impl_CombineEvent.F N ((runA l t (now + v) s).2.cm l t (now + v), (x.1, x.2)) = some ((runA l t x.1 ((runA l t (now + v) s).2.add [x])).2.cm l t x.1, ((runA l t x.1 ((runA l t (now + v) s).2.add [x])).1, true)) := by
        rw [impl_CombineEvent.F_eq]
        show bindO (impl_CombineEvents.F N ((runA l t (now + v) s).2.cm l t (now + v), ([x], x.1))) _ = _
        rw [g1, bindV]
      have hsplit2 := run_split (l := l) (term := t) (now := x.1) (now2 := e) hxe (L := L.drop (i + 1)) (by
        intro y hy
        have hsw := fol_sw _ _ x.1 (by omega) b6 y hy
        have := fol_time 24 _ _ _ b6 y hy
        exact ⟨hsw, by omega⟩) ((runA l t (now + v) s).2.add [x]).q.length ((runA l t (now + v) s).2.add [x]) (Nat.le_refl _)
      rw [add_add, List.cons_append, List.nil_append] at hsplit2
      have l2 := g2.len
      have l3 : ((runA l t (now + v) s).2.add [x]).q.length = (runA l t (now + v) s).2.q.length + 1 := by simp [Sc.add]
      have hnext : fol 24 (hA h'' (runA l t x.1 ((runA l t (now + v) s).2.add [x])).2.q) x.1 (L.drop (i + 1)) := by
        rw [g3, hA_append, f3]
        have : hA (hA h s.q) [x] = hA h s.q ^^^ 2 ^ k := by simp only [hA, List.foldl_cons, List.foldl_nil, b4, Int.toNat_natCast]
        rw [this]; exact b6
      rw [hsplit1, hsplit2] at hW hal
      have fin := ih (i + 1) x.1 (runA l t x.1 ((runA l t (now + v) s).2.add [x])).2 h'' ((o3 ++ (runA l t (now + v) s).1) ++ (runA l t x.1 ((runA l t (now + v) s).2.add [x])).1) (by omega) (by omega) g4 hnext hxe (by omega) (by simp only [List.length_append]; omega) hW (by rw [hal]; simp only [List.append_assoc])
      have m1 : o3.length + (runA l t (now + v) s).1.length ≤ maxN := by unfold maxN; omega
      have m2 : (o3 ++ (runA l t (now + v) s).1).length + (runA l t x.1 ((runA l t (now + v) s).2.add [x])).1.length ≤ maxN := by rw [List.length_append]; unfold maxN; omega
      have hw' : impl_CombineWait.F N ((l, (t, (s.q, (now, (s.ck, (s.dn, s.ac)))))), now + v) = _ := hw
      simp only [Int.ofNat_lt, hi, decide_true, condT, inRange_nat, nth_nat, hx, wa, wb, ev, bindV, wc, hw', hev, notT, condF, m1, m2, ws]
      exact fin
    · have hi' : L.drop i = [] := List.drop_of_length_le (by omega)
      rw [hi'] at hf hq64 hlen hW hal
      obtain ⟨f1, f2, h', f3, f4⟩ := okM_CE hN ho (L := []) (e := e) ⟨hne, he⟩ trivial (by intro y hy; cases hy) (by simp; exact ho.olen)
      have hw : impl_CombineWait.F N ((l, (t, (s.q, (now, (s.ck, (s.dn, s.ac)))))), e) = some ((runA l t e (s.add [])).2.cm l t e, ((runA l t e (s.add [])).1, true)) := by
        rw [impl_CombineWait.F_eq]
        have f1' : impl_CombineEvents.F N ((l, (t, (s.q, (now, (s.ck, (s.dn, s.ac)))))), ([], e)) = _ := f1
        rw [f1', bindV]
      rw [← hW] at hw
      have hl := f2.len
      have hsq : (s.add []).q.length = s.q.length := by simp [Sc.add]
      have m1 : o3.length + (runA l t e (s.add [])).1.length ≤ maxN := by simp only [List.length_nil] at hlen; unfold maxN; omega
      have hsame := sameEv N (by omega) all hall
      have hsc := sameC N (by omega) W hW1 hW2
      simp only [Int.ofNat_lt, hi, decide_false, condF, hw, bindV, m1, decide_true, condT]
      rw [← hal, hsame]
      simp only [bindV, condT]
      rw [hsc, bindV]

theorem FnCombined_true (N : Nat) (hN : 2000000 < N) (code : List Int) : laws_FnCombined.F N code = some true := by
  rw [laws_FnCombined.F_eq]
  rw [laws_big.F_eq, bindV]
  by_cases hbig : (code.length : Int) > 1048576
  · simp only [hbig, decide_true, condT]
  · have hmN : code.length ≤ maxN := by unfold maxN; omega
    obtain ⟨l, t, now, s, h, r, e, a1, a2, e1, g1, g2, g3, g4⟩ := CombinerD N hN code hmN (by omega)
    obtain ⟨f1, f2, h', f3, f4⟩ := okM_CE hN a2 g3 g1 g2 g4
    have hic := (okM_IsC hN f4).1
    simp only [hbig, decide_false, condF, e1, bindV, f1, notT, hic]
    have l1 := f2.len
    have l2 : (s.add r).q.length = s.q.length + r.length := by simp [Sc.add]
    have hac := ac_small f4.ol f4.os
    have := Combined_L1 N hN code hmN (by omega) l t r e g3.2 g2 ((runA l t e (s.add r)).2.cm l t e) (runA l t e (s.add r)).1 (by simp only [Sc.cm]; omega) (by simp only [Sc.cm]; omega) (by omega) (by omega) N 0 now s h [] (by omega) (by omega) a2 (by rw [List.drop_zero]; exact g1) g3.1 (by rw [List.drop_zero]; exact g4) (by rw [List.drop_zero]; simp only [List.length_nil]; omega) (by rw [List.drop_zero]) (by rw [List.drop_zero, List.nil_append])
    exact this
end Go.Kb
