/- A right state is a right combiner, and CombineEvents performs all steps on it. -/
import Derived.Test.YtnoifcpgionjkaaCombinedP35
namespace Go.Kb

theorem nodup_small : ∀ (n : Nat) (l : List Nat), l.Nodup → (∀ x ∈ l, x < n) → l.length ≤ n := by
  intro n
  induction n with
  | zero =>
    intro l _ h
    cases l with
    | nil => simp
    | cons x r => have := h x (by simp); omega
  | succ n ih =>
    intro l hn h
    by_cases hm : n ∈ l
    · have h1 := List.length_erase_of_mem hm
      have h2 := ih (l.erase n) (hn.erase n) (by
        intro x hx
        have h3 := (hn.mem_erase_iff).1 hx
        have := h x h3.2
        have := h3.1
        omega)
      omega
    · have := ih l hn (by
        intro x hx
        have h1 := h x hx
        have : x ≠ n := fun he => hm (he ▸ hx)
        omega)
      omega

theorem ac_small {l : List Cb} (hl : okL l) {s : Sc} {h : Nat} (hs : okS l s h) : s.ac.length ≤ 8 := by
  obtain ⟨d, _, _, hd⟩ := hs.d
  have hp := act_pos hl hd
  have h1 : ((s.ac.map (·.1)).map fun x => (x - 24).toNat).Nodup := by
    rw [List.nodup_iff_pairwise_ne, List.pairwise_map]
    refine List.Pairwise.imp_of_mem ?_ hs.nd
    intro a b ha hb hab he
    obtain ⟨x, hx, rfl⟩ := List.mem_map.1 ha
    obtain ⟨y, hy, rfl⟩ := List.mem_map.1 hb
    have := hp x hx
    have := hp y hy
    omega
  have h2 := nodup_small 8 _ h1 (by
    intro x hx
    obtain ⟨y, hy, rfl⟩ := List.mem_map.1 hx
    obtain ⟨z, hz, rfl⟩ := List.mem_map.1 hy
    have := hp z hz
    omega)
  simpa using h2

structure okM (N : Nat) (l : List Cb) (term now : Int) (s : Sc) (h : Nat) : Prop where
  ol : okL l
  oc : impl_IsCombos.F N l = some true
  ot : 1 ≤ term ∧ term ≤ 200
  on : 0 ≤ now ∧ now ≤ 1000000
  ock : 0 ≤ s.ck ∧ s.ck ≤ now
  os : okS l s h
  of : fol 24 h 0 s.q
  oq : ∀ e ∈ s.q, e.1 ≤ now
  olen : s.q.length ≤ 64

theorem comboOf_found (N : Nat) (l : List Cb) (hl : l.length ≤ 1048576) (hp : l.Pairwise fun a b => a.2 ≠ b.2) (c : Cb) (hc : c ∈ l) : ∀ (n i : Nat), i ≤ l.length → l.length < n + i → c ∈ l.drop i → impl_comboOf.L1 N n c.2 l (l.length : Int) (i : Int) = some (c, true) := by
  intro n
  induction n with
  | zero => intro i h1 h2; omega
  | succ n ih =>
    intro i h1 h2 h3
    rw [impl_comboOf.L1_eq]
    by_cases hi : i < l.length
    · have ws : IntKind.wrap .i64 ((i : Int) + 1) = ((i + 1 : Nat) : Int) := wrap_succ (by omega)
      have hg : l.getD i (0, 0) = l[i] := by rw [List.getD_eq_getElem?_getD, List.getElem?_eq_getElem hi]; rfl
      rw [drop_cons (0, 0) l i hi] at h3
      simp only [Int.ofNat_lt, hi, decide_true, condT, inRange_nat, nth_nat, ws]
      by_cases a : (l.getD i (0, 0)).2 = c.2
      · have b : ((l.getD i (0, 0)).2 == c.2) = true := by rw [beqI]; exact decide_eq_true a
        simp only [b, condT]
        have : l.getD i (0, 0) = c := by
          obtain ⟨j, hj, hjc⟩ := List.getElem_of_mem hc
          by_cases hij : i = j
          · subst hij; rw [hg, hjc]
          · exfalso
            rw [List.pairwise_iff_getElem] at hp
            rcases Nat.lt_or_gt_of_ne hij with h | h
            · exact hp i j hi hj h (by rw [← hg, hjc]; exact a)
            · exact hp j i hj hi h (by rw [← hg, hjc]; exact a.symm)
        rw [this]
      · have b : ((l.getD i (0, 0)).2 == c.2) = false := by rw [beqI]; exact decide_eq_false a
        simp only [b, condF]
        refine ih (i + 1) (by omega) (by omega) ?_
        rcases List.mem_cons.1 h3 with h | h
        · exact absurd (by rw [h]) a
        · exact h
    · rw [List.drop_of_length_le (by omega)] at h3; cases h3

theorem subset_zero {m K : Nat} (hm : m < 16777216) (hK : K < 16777216) (h : ∀ i, m.testBit i = true → K.testBit i = true) : (bitAndNot .i64 (m : Int) (K : Int) != 0) = false := by
  have e : m ^^^ (m &&& K) = 0 := by
    apply Nat.eq_of_testBit_eq; intro i
    rw [Nat.testBit_xor, Nat.testBit_and, Nat.zero_testBit]
    cases hmi : m.testBit i with
    | false => rfl
    | true => rw [h i hmi]; rfl
  rw [andNotN m K (by omega) (by omega), e]; rfl

theorem fits_true (N : Nat) {l : List Cb} (hl : okL l) (q2 : Int) (q3 : List Ev) (q4 q5 q6 : Int) (a : List Ev) (ha : a.length ≤ 1048576) (hN : 1048576 < N) (hnd : (a.map (·.1)).Nodup) : ∀ (n i s : Nat) (d h : Nat), i ≤ a.length → a.length < n + i → seenOk a s i → AOk l d (a.drop i) h →
    impl_activeFits.L1 N n (s : Int) a (a.length : Int) (i : Int) l q2 q3 q4 q5 q6 a = some true := by
  intro n
  induction n with
  | zero => intro i s d h h1 h2; omega
  | succ n ih =>
    intro i s d h h1 h2 h3 h4
    rw [impl_activeFits.L1_eq]
    by_cases hi : i < a.length
    · have ws : IntKind.wrap .i64 ((i : Int) + 1) = ((i + 1 : Nat) : Int) := wrap_succ (by omega)
      rw [drop_cons (0, 0, false) a i hi] at h4
      obtain ⟨m, K, b1, b2, b3, b4, b5, b6, b7, b8, b9⟩ := h4
      obtain ⟨_, _, _, _, r1, r2⟩ := hl.2.1 _ b5
      simp only [] at r1 r2
      have hcf : impl_comboOf.F N (l, (a.getD i (0, 0, false)).1) = some (((K : Int), (a.getD i (0, 0, false)).1), true) := by
        rw [impl_comboOf.F_eq]
        have hl8 := hl.1
        exact comboOf_found N l (by omega) hl.2.2 _ b5 N 0 (by omega) (by omega) (by rw [List.drop_zero]; exact b5)
      obtain ⟨o, ho⟩ := Int.eq_ofNat_of_zero_le (show 0 ≤ (a.getD i (0, 0, false)).1 by omega)
      have ho : (a.getD i (0, 0, false)).1 = (o : Int) := ho
      have hbit : s.testBit o = false := by
        cases hso : s.testBit o with
        | false => rfl
        | true =>
          exfalso
          obtain ⟨j, hj, hja⟩ := (h3.2 o (by omega) (by omega)).1 hso
          have hnd' := hnd
          rw [List.nodup_iff_pairwise_ne, List.pairwise_iff_getElem] at hnd'
          have := hnd' j i (by simp; omega) (by simp; omega) hj
          apply this
          rw [List.getElem_map, List.getElem_map]
          have g1 : a.getD j (0, 0, false) = a[j] := by rw [List.getD_eq_getElem?_getD, List.getElem?_eq_getElem (by omega)]; rfl
          have g2 : a.getD i (0, 0, false) = a[i] := by rw [List.getD_eq_getElem?_getD, List.getElem?_eq_getElem hi]; rfl
          rw [← g1, ← g2, hja, ho]
      have hb1 := bitOf (m := s) (k := o) h3.1 (by omega)
      rw [hbit] at hb1
      have hm0 : ¬ (a.getD i (0, 0, false)).2.1 ≤ 0 := by omega
      have hz := subset_zero b3 b4 b6
      have hop : ((a.getD i (0, 0, false)).2.2 != ((a.getD i (0, 0, false)).2.1 == (K : Int))) = false := by
        rw [b7, b1]
        by_cases hmk : m = K
        · subst hmk; simp
        · have : ¬ ((m : Int) = (K : Int)) := by omega
          simp [hmk, this]
      have h0 : 0 ≤ (a.getD i (0, 0, false)).1 := by omega
      have h0' : (0 : Int) ≤ (o : Int) := by omega
      have hnext := ih (i + 1) (s ||| 2 ^ o) (d ||| m) h (by omega) (by omega) (seen_step a s i o h3 (by omega) (by omega) ho) b9
      have hor := orI (h := s) (k := o) h3.1 (by omega)
      unfold bitK at hor
      rw [← b1] at hz
      rw [ho] at hcf
      simp only [Int.ofNat_lt, hi, decide_true, condT, inRange_nat, nth_nat, ws, ho, hcf, bindV, notT, condF, impl_bit.F_eq, h0', hb1, hm0, decide_false, hz, hop, hor]
      exact hnext
    · simp only [Int.ofNat_lt, hi, decide_false, condF]

theorem downs_true (N : Nat) {l : List Cb} (a : List Ev) (ha : a.length ≤ 1048576) : ∀ (n i d h : Nat), i ≤ a.length → a.length < n + i → d < 16777216 → AOk l d (a.drop i) h → impl_switchesDown.L1 N n (d : Int) a (a.length : Int) (i : Int) = some ((h : Int), true) := by
  intro n
  induction n with
  | zero => intro i d h h1 h2; omega
  | succ n ih =>
    intro i d h h1 h2 hd h4
    rw [impl_switchesDown.L1_eq]
    by_cases hi : i < a.length
    · have ws : IntKind.wrap .i64 ((i : Int) + 1) = ((i + 1 : Nat) : Int) := wrap_succ (by omega)
      rw [drop_cons (0, 0, false) a i hi] at h4
      obtain ⟨m, K, b1, b2, b3, b4, b5, b6, b7, b8, b9⟩ := h4
      have hz : (bitAnd .i64 (d : Int) (m : Int) != 0) = false := by
        have e : d &&& m = 0 := by
          apply Nat.eq_of_testBit_eq; intro i
          rw [Nat.testBit_and, Nat.zero_testBit]
          cases hmi : m.testBit i with
          | false => simp
          | true => rw [b8 i hmi]; rfl
        rw [andI d m (by omega) (by omega), e]; rfl
      have ho := bitOr_nat d m (by omega) (by omega)
      simp only [Int.ofNat_lt, hi, decide_true, condT, inRange_nat, nth_nat, ws, b1, hz, condF, ho]
      exact ih (i + 1) (d ||| m) h (by omega) (by omega) (or_lt24 hd b3) b9
    · simp only [Int.ofNat_lt, hi, decide_false, condF]
      rw [List.drop_of_length_le (by omega)] at h4
      rw [show h = d from h4]

theorem okM_IsC {N : Nat} (hN : 2000000 < N) {l : List Cb} {term now : Int} {s : Sc} {h : Nat} (ho : okM N l term now s h) : impl_IsCombiner.F N (s.cm l term now) = some true ∧ impl_switchesDown.F N (s.cm l term now) = some ((h : Int), true) := by
  obtain ⟨h1, h2, ⟨h3, h3'⟩, ⟨h4, h4'⟩, ⟨h5, h5'⟩, h6, h7, h8, h9⟩ := ho
  have hac := ac_small h1 h6
  obtain ⟨d, d1, d2, d3⟩ := h6.d
  have hhl := AOk_lt d2 d3
  have e1 : impl_switchesDown.F N (s.cm l term now) = some ((h : Int), true) := by
    rw [impl_switchesDown.F_eq]
    simp only [Sc.cm, d1]
    exact downs_true N s.ac (by omega) N 0 d h (by omega) (by omega) d2 (by rw [List.drop_zero]; exact d3)
  have e2 : impl_activeFits.F N (s.cm l term now) = some true := by
    rw [impl_activeFits.F_eq]
    simp only [Sc.cm]
    exact fits_true N h1 _ _ _ _ _ s.ac (by omega) (by omega) h6.nd N 0 0 d h (by omega) (by omega) ⟨by omega, fun o _ _ => ⟨fun h => by simp at h, fun ⟨j, hj, _⟩ => by omega⟩⟩ (by rw [List.drop_zero]; exact d3)
  have e3 := queue_eq N (by omega) s.q h9 h (by omega) 0 (by omega) h7
  have e4 : impl_notBehind.F N (s.q, now) = some true := by
    rw [NB_eq N s.q (by omega) now]
    by_cases hz : s.q.length = 0
    · rw [decide_eq_true hz]; rfl
    · have hm := h8 _ (nth_mem (0, 0, false) s.q (s.q.length - 1) (by omega))
      rw [decide_eq_true hm, Bool.or_true]
  refine ⟨?_, e1⟩
  rw [impl_IsCombiner.F_eq, e1, e2]
  have a1 : ¬ term < 1 := by omega
  have a2 : ¬ term > 200 := by omega
  have a3 : ¬ now < 0 := by omega
  have a4 : ¬ now > 1000000 := by omega
  have a5 : ¬ s.ck < 0 := by omega
  have a6 : ¬ s.ck > now := by omega
  have a7 : ¬ ((d : Nat) : Int) < 0 := by omega
  have a8 : ¬ ((d : Nat) : Int) > 16777215 := by omega
  simp only [Sc.cm, h2, bindV, notT, condF, a1, a2, a3, a4, a5, a6, d1, a7, a8, decide_false, condT, e3, e4]

theorem okM_CE {N : Nat} (hN : 2000000 < N) {l : List Cb} {term now : Int} {s : Sc} {h : Nat} (ho : okM N l term now s h) {L : List Ev} {e : Int} (he : now ≤ e ∧ e ≤ 1000000) (hL : fol 24 (hA h s.q) now L) (hLe : ∀ x ∈ L, x.1 ≤ e) (hlen : s.q.length + L.length ≤ 64) :
    impl_CombineEvents.F N (s.cm l term now, (L, e)) = some ((runA l term e (s.add L)).2.cm l term e, ((runA l term e (s.add L)).1, true)) ∧ runPost (s.add L) (runA l term e (s.add L)) l term e h ∧
      ∃ h', hA h' (runA l term e (s.add L)).2.q = hA h (s.q ++ L) ∧ okM N l term e (runA l term e (s.add L)).2 h' := by
  have ho' := ho
  obtain ⟨h1, h2, ⟨h3, h3'⟩, ⟨h4, h4'⟩, ⟨h5, h5'⟩, h6, h7, h8, h9⟩ := ho
  obtain ⟨e1, e2⟩ := okM_IsC hN ho'
  have hac := ac_small h1 h6
  obtain ⟨d, d1, d2, d3⟩ := h6.d
  have hhl := AOk_lt d2 d3
  have hlt := lT_le s.q 0 now h4 h8
  have hfol : fol 24 h 0 (s.q ++ L) := (fol_append 24 s.q h 0 L).2 ⟨h7, fol_mono (by omega) L _ now _ hlt hL⟩
  have hll : (s.q ++ L).length ≤ 64 := by rw [List.length_append]; omega
  have hle : ∀ x ∈ s.q ++ L, x.1 ≤ e := by
    intro x hx
    rcases List.mem_append.1 hx with hx | hx
    · have := h8 x hx; omega
    · exact hLe x hx
  have hsw := fol_sw _ h 0 (by omega) hfol
  have hl8 := h1.1
  have hsm : smallC (s.cm l term now) := ⟨by simp only [Sc.cm]; omega, by simp only [Sc.cm]; omega, by simp only [Sc.cm]; omega⟩
  have post := run_ok (term := term) h1 he.2 (s.add L).q.length (s.add L) h 0 (Nat.le_refl _) ⟨⟨d, d1, d2, d3⟩, h6.nd⟩ (by omega) hfol hle (by simp only [Sc.add]; omega)
  refine ⟨?_, post, ?_⟩
  · obtain ⟨r, r0, r1, r2, r3, r4⟩ := CE_run N hN (s.cm l term now) hsm L hll hsw e h2 ⟨h3, h3'⟩
    have hr : runC l term e 64 ⟨s.q ++ L, s.ck, s.dn, s.ac⟩ = runA l term e (s.add L) := runA_eq l term e 64 _ hll
    simp only [Sc.cm] at r1
    rw [hr] at r1
    have m1 : s.q.length + L.length ≤ maxN := by unfold maxN; omega
    have m2 : s.q.length ≤ maxN := by unfold maxN; omega
    have m3 : l.length ≤ maxN := by unfold maxN; omega
    have m4 : s.ac.length ≤ maxN := by unfold maxN; omega
    have q1 := queue_eq N (by omega) (s.q ++ L) hll h (by omega) 0 (by omega) hfol
    have nb : impl_notBehind.F N (L, e) = some true := by
      rw [NB_eq N L (by omega) e]
      by_cases hz : L.length = 0
      · rw [decide_eq_true hz]; rfl
      · have hm := hLe _ (nth_mem (0, 0, false) L (L.length - 1) (by omega))
        rw [decide_eq_true hm, Bool.or_true]
    have a1 : ¬ e < now := by omega
    have a2 : ¬ e > 1000000 := by omega
    simp only [Sc.cm] at r2 e1 e2
    rw [impl_CombineEvents.F_eq]
    simp only [Sc.cm, e1, bindV, notT, condF, a1, a2, decide_false, nb, impl_copyCombiner.F_eq, m1, m2, m3, m4, decide_true, condT, e2, q1, r2, r1]
    by_cases hz : (L.length : Int) > 0
    · have hz' : 0 < L.length := by omega
      have hf : ¬ (L.getD 0 (0, 0, false)).1 < now := by
        cases L with
        | nil => simp at hz'
        | cons x r => have := hL.1; simp only [List.getD_cons_zero]; omega
      simp only [hz, decide_true, condT, inRangez, hz', nthz, hf, decide_false, condF]
    · simp only [hz, decide_false, condF]
  · obtain ⟨h', t', p1, p2, p3, p4⟩ := post.st
    refine ⟨h', p4, h1, h2, ⟨h3, h3'⟩, ⟨by omega, he.2⟩, ?_, p1, fol_mono (by omega) _ _ t' _ p3 p2, ?_, ?_⟩
    · have hc := post.ck
      have hs : (s.add L).ck = s.ck := rfl
      exact ⟨by omega, hc.2⟩
    · intro x hx
      obtain ⟨j, hj⟩ := post.suf
      rw [hj] at hx
      exact hle x (List.mem_of_mem_drop hx)
    · have hc := post.len
      have hs : (s.add L).q = s.q ++ L := rfl
      rw [hs] at hc
      omega
end Go.Kb
