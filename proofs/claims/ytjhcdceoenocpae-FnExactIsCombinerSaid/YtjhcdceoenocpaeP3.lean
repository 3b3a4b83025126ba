/- The link: one byte, all bytes, and a silent tick; the program answers as the reference. -/
import Derived.Test.YtjhcdceoenocpaeP2
import Derived.Test.YtjhcdceoenocpaeF2
import Derived.Test.YtjhcdceoenocpaeKc
namespace Go.Kb

theorem wfByte {x : Int} (h : (Lit.int .u8 x).wf = true) : 0 ≤ x ∧ x ≤ 255 := by
  simp only [Lit.wf, IntKind.min, IntKind.max, IntKind.signed, IntKind.bits] at h
  simpa using h
theorem wfByteL {xs : List Int} (h : Wf (.list (.int .u8)) xs) : byteL xs := fun x hx => wfByte (h.2 x hx)
theorem wfInt {x : Int} (h : (Lit.int .i64 x).wf = true) : -9223372036854775808 ≤ x ∧ x ≤ 9223372036854775807 := by
  simp only [Lit.wf, IntKind.min, IntKind.max, IntKind.signed, IntKind.bits] at h
  simpa using h

theorem marksR (N : Nat) (r : List Int × Int × Int × Int) (c : Int) (h : r.1.length < N) (hm : r.1.length ≤ maxN) (h0 : 0 ≤ c) (h1 : c ≤ 2305843009213693952) :
    ∃ c' o', laws_markReceiver.F N (r, c) = some (c', o') ∧ c ≤ c' ∧ c' ≤ c + r.1.length ∧ laws_heldReceiver.F N ((o', r.2), c) = some c' := by
  obtain ⟨c', o', e1, e2, e3, e4, e5⟩ := marks_eq N r.1 c h hm h0 h1
  have h2 : ¬ c' < 0 := by omega
  exact ⟨c', o', by rw [laws_markReceiver.F_eq, e1]; rfl, e2, e3, by rw [laws_heldReceiver.F_eq]; simp [e4, h2]⟩

theorem minI_comm (x y : Int) : minI x y = minI y x := by
  unfold minI; split <;> split <;> omega

theorem SilentTick_same (N : Nat) (r : List Int × Int × Int × Int) : ∃ q : List Int × Int × Int × Int, q.1.length ≤ 5 ∧ spec_SilentTick.F N r = some q ∧ impl_SilentTick.F N r = some q := by
  rw [spec_SilentTick.F_eq, impl_SilentTick.F_eq, IsReceiver_spec, IsReceiver_impl]
  cases hk : okR r with
  | false => exact ⟨_, by simp, rfl, rfl⟩
  | true =>
    have hl : r.1.length < 6 := by
      simp only [okR, decide_eq_true_eq] at hk; exact hk.1
    have h1 : r.1.length ≤ maxN := by unfold maxN; omega
    rw [minI_comm]
    simp only [bindO_val, Bool.not_true, cond_false, List.length_nil, Nat.zero_add, h1, decide_true, cond_true, List.nil_append]
    cases minI (IntKind.wrap .i64 (r.2.2.2 + 1)) 20 == 20 with
    | true => exact ⟨_, by simp only []; omega, rfl, rfl⟩
    | false => exact ⟨_, by simp only []; omega, rfl, rfl⟩

theorem FnExactSilentTick_true (r : List Int × Int × Int × Int) (h : r.1.length ≤ maxLen) : laws_FnExactSilentTick.F 2000000 r = some true := by
  rw [laws_FnExactSilentTick.F_eq, laws_szReceiver.F_eq, szByteS_eq _ _ _ h (by omega) (by omega)]
  by_cases hl : (1048576 : Int) - (r.1.length : Int) < 0
  · simp [hl]
  · have h1 : r.1.length ≤ maxN := by unfold maxN; omega
    obtain ⟨q, hq, e1, e2⟩ := SilentTick_same 2000000 r
    obtain ⟨c1, o1, a1, a2, a3, a4⟩ := marksR 2000000 r 1 (by omega) h1 (by omega) (by omega)
    obtain ⟨c2, o2, b1, b2, b3, b4⟩ := marksR 2000000 q 1 (by omega) (by unfold maxN; omega) (by omega) (by omega)
    have n1 : ¬ c1 < 0 := by omega
    have n2 : ¬ c2 < 0 := by omega
    simp [hl, toReceiver_eq 2000000 r (by omega) h1, eqReceiver_self 2000000 r (by omega) h1, eqReceiver_self 2000000 q (by omega) (by unfold maxN; omega), e1, e2, a1, b1, b4, n1, n2]

theorem ReceiveByte_same (N : Nat) (hN : 10 < N) (r : List Int × Int × Int × Int) (x : Int) (hb : byteL r.1) (hx : 0 ≤ x ∧ x ≤ 255) :
    ∃ (q : List Int × Int × Int × Int) (w : Int), q.1.length ≤ 5 ∧ byteL q.1 ∧ spec_ReceiveByte.F N (r, x) = some (q, w) ∧ impl_ReceiveByte.F N (r, x) = some (q, w) ∧ (okR r = true → okR q = true ∧ w ≠ 0) ∧ (okR r = false → w = 0 ∧ q = ([], 0, 0, 0)) := by
  rw [spec_ReceiveByte.F_eq, impl_ReceiveByte.F_eq, IsReceiver_spec, IsReceiver_impl]
  cases hk : okR r with
  | false => exact ⟨_, 0, by simp, by simp [byteL], rfl, rfl, by simp, by simp⟩
  | true =>
    have hk' := hk
    simp only [okR, decide_eq_true_eq] at hk'
    obtain ⟨hl, k1, k2, k3, k4, k5, k6⟩ := hk'
    have h1 : r.1.length ≤ maxN := by unfold maxN; omega
    have h2 : r.1.length + 1 ≤ maxN := by unfold maxN; omega
    have hbx : byteL (r.1 ++ [x]) := by
      intro y hy
      rcases List.mem_append.1 hy with hy | hy
      · exact hb y hy
      · simp only [List.mem_singleton] at hy; subst hy; exact hx
    simp only [bindO_val, Bool.not_true, cond_false, List.length_nil, Nat.zero_add, h1, decide_true, cond_true, List.nil_append, List.length_cons, h2, ReadFrame_spec N hN _ hbx, ReadFrame_impl N hN _ hbx, List.length_append]
    by_cases h5 : r.1.length < 5
    · have h6 : (((r.1.length + 1 : Nat) : Int) < 6) := by omega
      simp only [h6, decide_true, cond_true]
      refine ⟨_, _, ?_, hbx, rfl, rfl, fun _ => ⟨?_, by omega⟩, by simp⟩
      · simp; omega
      · simp only [okR, decide_eq_true_eq, List.length_append, List.length_cons, List.length_nil]; omega
    · have h6 : ¬ (((r.1.length + 1 : Nat) : Int) < 6) := by omega
      have h7 : decide ((1 : Int) ≤ ((r.1.length + 1 : Nat) : Int)) = true := by simp; omega
      simp only [h6, decide_false, cond_false, h7, Bool.and_true, show decide ((0 : Int) ≤ 1) = true from rfl, cond_true]
      obtain ⟨b0, b1, b2, b3, b4, b5, hb6⟩ := bytes6 (b := r.1 ++ [x]) (by simp; omega)
      rw [hb6] at hbx ⊢
      have g : ∀ x ∈ [b0, b1, b2, b3, b4, b5], 0 ≤ x ∧ x ≤ 255 := hbx
      simp only [List.mem_cons, List.not_mem_nil, or_false, forall_eq_or_imp, forall_eq] at g
      obtain ⟨g0, g1, g2, g3, g4, g5⟩ := g
      simp only [readF]
      by_cases hc : b0 = 85 ∧ ((ck (nats [b0, b1, b2, b3, b4]) 0 : Nat) : Int) = b5
      · simp only [if_pos hc, Bool.not_true, cond_false]
        cases hq : (b1 == r.2.1) with
        | true => exact ⟨_, _, by simp, by simp [byteL], rfl, rfl, fun _ => ⟨by simp [okR]; omega, by omega⟩, by simp⟩
        | false => exact ⟨_, _, by simp, by simp [byteL], rfl, rfl, fun _ => ⟨by simp [okR]; omega, by omega⟩, by simp⟩
      · simp only [if_neg hc, Bool.not_false, cond_true]
        refine ⟨_, _, by simp, ?_, rfl, rfl, fun _ => ⟨?_, by omega⟩, by simp⟩
        · intro y hy
          exact hbx y (List.mem_of_mem_drop hy)
        · simp [okR]; omega

theorem FnExactReceiveByte_true (r : List Int × Int × Int × Int) (x : Int) (hb : byteL r.1) (hx : 0 ≤ x ∧ x ≤ 255) (h : r.1.length ≤ maxLen) : laws_FnExactReceiveByte.F 2000000 (r, x) = some true := by
  rw [laws_FnExactReceiveByte.F_eq, laws_szReceiver.F_eq, szByteS_eq _ _ _ h (by omega) (by omega)]
  by_cases hl : (1048576 : Int) - (r.1.length : Int) < 0
  · simp [hl]
  · have h1 : r.1.length ≤ maxN := by unfold maxN; omega
    obtain ⟨q, w, hq, _, e1, e2, _⟩ := ReceiveByte_same 2000000 (by omega) r x hb hx
    obtain ⟨c1, o1, a1, a2, a3, a4⟩ := marksR 2000000 r 1 (by omega) h1 (by omega) (by omega)
    obtain ⟨c2, o2, b1, b2, b3, b4⟩ := marksR 2000000 q 1 (by omega) (by unfold maxN; omega) (by omega) (by omega)
    have n1 : ¬ c1 < 0 := by omega
    have n2 : ¬ c2 < 0 := by omega
    simp [hl, toReceiver_eq 2000000 r (by omega) h1, eqReceiver_self 2000000 r (by omega) h1, eqReceiver_self 2000000 q (by omega) (by unfold maxN; omega), e1, e2, a1, b1, b4, n1, n2]

/-! ### all bytes -/
theorem ReceiveAll_L (N : Nat) (hN : 10 < N) : ∀ (n k : Nat) (b : List Int) (r : List Int × Int × Int × Int) (o : List Int), byteL b → byteL r.1 → okR r = true → b.length ≤ maxN → o.length ≤ k → k ≤ b.length → b.length < n + k →
    ∃ (q : List Int × Int × Int × Int) (o' : List Int), q.1.length ≤ 5 ∧ o'.length ≤ b.length ∧ spec_ReceiveAll.L1 N n b (k : Int) o r.2.1 r.2.2.1 r.2.2.2 r.1 = some (q, o') ∧
      impl_ReceiveAll.L1 N n b (List.length b : Int) (k : Int) r.2.1 r.2.2.1 r.2.2.2 r.1 o = some (q, o') := by
  intro n
  induction n with
  | zero => intro k b r o h1 h2 h3 h4 h5 h0 h6; omega
  | succ n ih =>
    intro k b r o h1 h2 h3 h4 h5 h0 h6
    rw [spec_ReceiveAll.L1_eq, impl_ReceiveAll.L1_eq]
    unfold maxN at h4
    by_cases hk : k < b.length
    · simp only [Int.ofNat_lt, hk, decide_true, cond_true, inRange_nat, nth_nat]
      have hm : b.getD k 0 ∈ b := by
        rw [List.getD_eq_getElem?_getD, List.getElem?_eq_getElem hk]; exact List.getElem_mem hk
      obtain ⟨q, w, hq, hqb, e1, e2, e3, e4⟩ := ReceiveByte_same N hN r (b.getD k 0) h2 (h1 _ hm)
      obtain ⟨ok', hw⟩ := e3 h3
      have e1' : spec_ReceiveByte.F N ((r.1, (r.2.1, (r.2.2.1, r.2.2.2))), b.getD k 0) = some (q, w) := e1
      have e2' : impl_ReceiveByte.F N ((r.1, (r.2.1, (r.2.2.1, r.2.2.2))), b.getD k 0) = some (q, w) := e2
      have hw0 : (w == 0) = false := by simpa using hw
      simp only [e1', e2', bindO_val, hw0, cond_false]
      rw [wrap_succ (by omega)]
      have hlen : o.length + List.length ([q.2.2.1] : List Int) ≤ maxN := by simp only [maxN, List.length_cons, List.length_nil]; omega
      cases hw2 : (w == 2) with
      | true =>
        simp only [hlen, decide_true, cond_true]
        exact ih (k + 1) b q _ h1 hqb ok' (by unfold maxN; omega) (by simp; omega) (by omega) (by omega)
      | false =>
        simp only [cond_false]
        exact ih (k + 1) b q _ h1 hqb ok' (by unfold maxN; omega) (by omega) (by omega) (by omega)
    · simp only [Int.ofNat_lt, hk, decide_false, cond_false]
      have e5 := IsReceiver_spec N r
      have e5' : spec_IsReceiver.F N (r.1, (r.2.1, (r.2.2.1, r.2.2.2))) = some (okR r) := e5
      simp only [e5', h3, bindO_val, Bool.not_true, cond_false]
      refine ⟨_, _, ?_, by omega, rfl, rfl⟩
      simp only [okR, decide_eq_true_eq] at h3
      show r.1.length ≤ 5
      omega

theorem ReceiveByte_bad (N : Nat) (r : List Int × Int × Int × Int) (x : Int) (h : okR r = false) : spec_ReceiveByte.F N (r, x) = some (([], 0, 0, 0), 0) := by
  rw [spec_ReceiveByte.F_eq, IsReceiver_spec, h]; rfl

theorem ReceiveAll_same (N : Nat) (hN : 10 < N) (r : List Int × Int × Int × Int) (b : List Int) (hb : byteL b) (hr : byteL r.1) (h : b.length ≤ maxN) (h' : r.1.length ≤ maxN) (hn : b.length < N) :
    ∃ (q : List Int × Int × Int × Int) (o : List Int), q.1.length ≤ 5 ∧ o.length ≤ b.length ∧ spec_ReceiveAll.F N (r, b) = some (q, o) ∧ impl_ReceiveAll.F N (r, b) = some (q, o) := by
  rw [spec_ReceiveAll.F_eq, impl_ReceiveAll.F_eq, IsReceiver_impl]
  simp only [List.length_nil, Nat.zero_add, h', decide_true, cond_true, List.nil_append, bindO_val]
  cases hk : okR r with
  | false =>
    simp only [Bool.not_false, cond_true]
    refine ⟨([], 0, 0, 0), [], by simp, by simp, ?_, rfl⟩
    obtain ⟨n, rfl⟩ : ∃ n, N = n + 1 := ⟨N - 1, by omega⟩
    rw [spec_ReceiveAll.L1_eq]
    have e1 := ReceiveByte_bad (n + 1) r (nth 0 b 0) hk
    have e1' : spec_ReceiveByte.F (n + 1) ((r.1, (r.2.1, (r.2.2.1, r.2.2.2))), nth 0 b 0) = some (([], 0, 0, 0), 0) := e1
    have e2 : spec_IsReceiver.F (n + 1) (r.1, (r.2.1, (r.2.2.1, r.2.2.2))) = some (okR r) := IsReceiver_spec _ r
    by_cases hz : 0 < b.length
    · have hz' : (0 : Int) < (b.length : Int) := by omega
      have hi : inRange 0 b.length = true := by
        have := inRange_nat 0 b.length
        simp only [Int.natCast_zero] at this
        rw [this]; simpa using hz
      rw [decide_eq_true hz', hi]
      simp only [cond_true, e1', bindO_val, BEq.rfl]
    · have hz' : ¬ (0 : Int) < (b.length : Int) := by omega
      rw [decide_eq_false hz']
      simp only [cond_false, e2, hk, bindO_val, Bool.not_false, cond_true]
  | true =>
    simp only [Bool.not_true, cond_false]
    exact ReceiveAll_L N hN N 0 b r [] hb hr hk h (by simp) (by omega) (by omega)

/-! ### rows of whole numbers -/
theorem eqIntS_L1 (N : Nat) : ∀ (n k : Nat) (a b : List Int), a.length ≤ maxN → b.length = a.length → k ≤ a.length → a.length < n + k → laws_eqIntS.L1 N n a b (k : Int) = some (decide (a.drop k = b.drop k)) := by
  intro n
  induction n with
  | zero =>
    intro k a b h1 h2 h0 h3
    omega
  | succ n ih =>
    intro k a b h1 h2 h0 h3
    unfold maxN at h1
    rw [laws_eqIntS.L1_eq]
    by_cases hk : k < a.length
    · have hkb : k < b.length := by omega
      simp only [Int.ofNat_lt, hk, decide_true, cond_true, inRange_nat, hkb, nth_nat]
      rw [wrap_succ (by omega), ih (k + 1) a b (by unfold maxN; omega) h2 (by omega) (by omega), drop_cons 0 a k hk, drop_cons 0 b k hkb]
      generalize a.getD k 0 = x
      generalize b.getD k 0 = y
      by_cases he : x = y
      · simp [he]
      · simp [he, bneI]
    · simp only [Int.ofNat_lt, hk, decide_false, cond_false]
      rw [List.drop_of_length_le (by omega), List.drop_of_length_le (by omega)]
      simp

theorem eqIntS_eq (N : Nat) (a b : List Int) (h : a.length < N) (hm : a.length ≤ maxN) : laws_eqIntS.F N (a, b) = some (decide (a = b)) := by
  rw [laws_eqIntS.F_eq]
  by_cases hl : a.length = b.length
  · have : ((a.length : Int) != (b.length : Int)) = false := by simp [hl]
    rw [this, cond_false]
    have := eqIntS_L1 N N 0 a b hm hl.symm (by omega) (by omega)
    simpa using this
  · have h1 : ((a.length : Int) != (b.length : Int)) = true := by simp; omega
    have h2 : a ≠ b := fun e => hl (by rw [e])
    rw [h1, cond_true]
    simp [h2]

theorem marksI_L1 (N : Nat) : ∀ (n k : Nat) (c : Int) (o : List Int), o.length ≤ maxN → k ≤ o.length → o.length < n + k → 0 ≤ c → c + (o.length - k) ≤ 4611686018427387904 →
    ∃ c' o', laws_markIntS.L1 N n c (k : Int) o = some (c', o') ∧ o'.length = o.length ∧ (∀ j, j < k → o'.getD j 0 = o.getD j 0) ∧ c ≤ c' ∧ c' ≤ c + (o.length - k : Nat) ∧ laws_heldIntS.L1 N n o' c (k : Int) = some c' := by
  intro n
  induction n with
  | zero => intro k c o h1 h0 h2 h3 h4; omega
  | succ n ih =>
    intro k c o h1 h0 h2 h3 h4
    unfold maxN at h1
    rw [laws_markIntS.L1_eq]
    by_cases hk : k < o.length
    · simp only [Int.ofNat_lt, hk, decide_true, cond_true, inRange_nat, Int.toNat_natCast]
      rw [wrap_succ (by omega), wrap64 (x := c + 1) (by omega) (by omega)]
      obtain ⟨c', o', e1, e2, e3, e4, e5, e6⟩ := ih (k + 1) (c + 1) (o.set k c) (by unfold maxN; simp; omega) (by simp; omega) (by simp; omega) (by omega) (by simp; omega)
      simp only [List.length_set] at e2 e5
      refine ⟨c', o', e1, e2, fun j hj => ?_, by omega, by omega, ?_⟩
      · rw [e3 j (by omega)]
        simp only [List.getD_eq_getElem?_getD]
        rw [List.getElem?_set_ne (by omega)]
      · rw [laws_heldIntS.L1_eq]
        have hk' : k < o'.length := by omega
        have hg : o'.getD k 0 = c := by
          rw [e3 k (by omega)]
          simp only [List.getD_eq_getElem?_getD]
          rw [List.getElem?_set_self hk]; rfl
        simp only [Int.ofNat_lt, hk', decide_true, cond_true, inRange_nat, nth_nat, hg, bne_self_eq_false, cond_false]
        rw [wrap_succ (by omega), wrap64 (x := c + 1) (by omega) (by omega)]
        exact e6
    · refine ⟨c, o, ?_, rfl, fun j _ => rfl, by omega, by omega, ?_⟩
      · simp only [Int.ofNat_lt, hk, decide_false, cond_false]
      · rw [laws_heldIntS.L1_eq]
        simp only [Int.ofNat_lt, hk, decide_false, cond_false]

theorem marksI_eq (N : Nat) (a : List Int) (c : Int) (h : a.length < N) (hm : a.length ≤ maxN) (h0 : 0 ≤ c) (h1 : c ≤ 2305843009213693952) :
    ∃ c' o', laws_markIntS.F N (a, c) = some (c', o') ∧ c ≤ c' ∧ c' ≤ c + a.length ∧ laws_heldIntS.F N (o', c) = some c' ∧ o'.length = a.length := by
  rw [laws_markIntS.F_eq]
  obtain ⟨c', o', e1, e2, e3, e4, e5, e6⟩ := marksI_L1 N N 0 c a hm (by omega) (by omega) h0 (by unfold maxN at hm; omega)
  exact ⟨c', o', e1, e4, by omega, by rw [laws_heldIntS.F_eq]; exact e6, e2⟩

theorem FnExactReceiveAll_true (r : List Int × Int × Int × Int) (b : List Int) (hr : byteL r.1) (hb : byteL b) (h : r.1.length ≤ maxLen) : laws_FnExactReceiveAll.F 2000000 (r, b) = some true := by
  rw [laws_FnExactReceiveAll.F_eq, laws_szReceiver.F_eq, szByteS_eq _ _ _ h (by omega) (by omega)]
  by_cases hbl : (b.length : Int) > 1048576
  · simp [hbl]
  · by_cases hl : (1048576 : Int) - (r.1.length : Int) < 0
    · simp [hl]
    · have h1 : r.1.length ≤ maxN := by unfold maxN; omega
      have hb1 : b.length ≤ maxN := by unfold maxN; omega
      obtain ⟨q, o, hq, ho, e1, e2⟩ := ReceiveAll_same 2000000 (by omega) r b hb hr hb1 h1 (by omega)
      have ho1 : o.length ≤ maxN := by omega
      obtain ⟨c1, o1, a1, a2, a3, a4⟩ := marksR 2000000 r 1 (by omega) h1 (by omega) (by omega)
      obtain ⟨c2, o2, b1, b2, b3, b4, _⟩ := marks_eq 2000000 b c1 (by omega) hb1 (by omega) (by omega)
      obtain ⟨c3, o3, d1, d2, d3, d4⟩ := marksR 2000000 q 1 (by omega) (by unfold maxN; omega) (by omega) (by omega)
      obtain ⟨c4, o4, f1, f2, f3, f4, _⟩ := marksI_eq 2000000 o c3 (by omega) ho1 (by omega) (by omega)
      have n2 : ¬ c2 < 0 := by omega
      have n3 : ¬ c3 < 0 := by omega
      have n4 : ¬ c4 < 0 := by omega
      simp [hl, hbl, toReceiver_eq 2000000 r (by omega) h1, eqReceiver_self 2000000 r (by omega) h1, eqReceiver_self 2000000 q (by omega) (by unfold maxN; omega), toByteS_eq 2000000 b (by omega) hb1, eqByteS_eq 2000000 b b (by omega) hb1, eqIntS_eq 2000000 o o (by omega) ho1, e1, e2, a1, b1, d1, d4, f1, f4, n2, n3, n4]
end Go.Kb
