/- The link, whole: frames sent twice are read once each; silence resets. -/
import Derived.Test.YtjhcdceoenocpabP4
namespace Go.Kb

abbrev Rcv := List Int × Int × Int × Int

theorem RB_part (N : Nat) (r : Rcv) (x : Int) (h : okR r = true) (hl : r.1.length < 5) : impl_ReceiveByte.F N (r, x) = some ((r.1 ++ [x], r.2), 1) := by
  rw [impl_ReceiveByte.F_eq, IsReceiver_impl, h]
  have h1 : r.1.length ≤ maxN := by unfold maxN; omega
  have h2 : r.1.length + 1 ≤ maxN := by unfold maxN; omega
  have h6 : (((r.1.length + 1 : Nat) : Int) < 6) := by omega
  simp only [bindO_val, Bool.not_true, cond_false, h1, decide_true, cond_true, List.length_append, List.length_cons, List.length_nil, Nat.zero_add, h2, h6]

theorem readF_frame {n m : Int} (_h : 0 ≤ n ∧ n ≤ 255 ∧ 0 ≤ m ∧ m ≤ 16777215) : readF (frame n m) = (n, m, true) := by
  have : frame n m = [85, n, m % 256, m / 256 % 256, m / 65536, ((ck (nats (f5 n m)) 0 : Nat) : Int)] := rfl
  rw [this]
  simp only [readF]
  rw [if_pos ⟨trivial, rfl⟩]
  congr 2
  omega

theorem RB_full (N : Nat) (hN : 10 < N) (n m : Int) (h : 0 ≤ n ∧ n ≤ 255 ∧ 0 ≤ m ∧ m ≤ 16777215) (t : Int × Int × Int) (hk : okR (f5 n m, t) = true) :
    impl_ReceiveByte.F N ((f5 n m, t), ((ck (nats (f5 n m)) 0 : Nat) : Int)) = some (if n = t.1 then (([], t.1, t.2.1, 0), 3) else (([], n, m, 0), 2)) := by
  rw [impl_ReceiveByte.F_eq, IsReceiver_impl, hk]
  have e : f5 n m ++ [((ck (nats (f5 n m)) 0 : Nat) : Int)] = frame n m := rfl
  have l5 : (f5 n m).length = 5 := rfl
  have l6 : (frame n m).length = 6 := rfl
  simp only [bindO_val, Bool.not_true, cond_false, e, l5, l6, ReadFrame_impl N hN _ (frame_bytes h), readF_frame h]
  have m1 : (5 : Nat) ≤ maxN := by unfold maxN; omega
  have m2 : (5 + 1 : Nat) ≤ maxN := by unfold maxN; omega
  by_cases hq : n = t.1
  · simp [m1, m2, hq]
  · simp [m1, m2, hq, beqI]

/-- all bytes, as a fold -/
def RA (N : Nat) : List Int → Rcv → List Int → Option (Rcv × List Int)
  | [], r, o => some (r, o)
  | x :: xs, r, o => bindO (impl_ReceiveByte.F N (r, x)) fun q => bif q.2 == 2 then RA N xs q.1 (o ++ [q.1.2.2.1]) else RA N xs q.1 o

theorem RA_L1 (N : Nat) : ∀ (n k : Nat) (b : List Int) (r : Rcv) (o : List Int), b.length ≤ maxN → o.length ≤ k → k ≤ b.length → b.length < n + k →
    impl_ReceiveAll.L1 N n b (List.length b : Int) (k : Int) r.2.1 r.2.2.1 r.2.2.2 r.1 o = RA N (b.drop k) r o := by
  intro n
  induction n with
  | zero => intro k b r o h4 h5 h0 h6; omega
  | succ n ih =>
    intro k b r o h4 h5 h0 h6
    rw [impl_ReceiveAll.L1_eq]
    unfold maxN at h4
    by_cases hk : k < b.length
    · simp only [Int.ofNat_lt, hk, decide_true, cond_true, inRange_nat, nth_nat]
      rw [drop_cons 0 b k hk]
      show (bindO (impl_ReceiveByte.F N (r, b.getD k 0)) fun r2 => _) = bindO (impl_ReceiveByte.F N (r, b.getD k 0)) fun q => bif q.2 == 2 then RA N _ q.1 (o ++ [q.1.2.2.1]) else RA N _ q.1 o
      congr 1
      funext q
      rw [wrap_succ (by omega)]
      have hlen : o.length + List.length ([q.1.2.2.1] : List Int) ≤ maxN := by simp only [maxN, List.length_cons, List.length_nil]; omega
      cases hw2 : (q.2 == 2) with
      | true =>
        simp only [hlen, decide_true, cond_true]
        exact ih (k + 1) b q.1 _ (by unfold maxN; omega) (by simp; omega) (by omega) (by omega)
      | false =>
        simp only [cond_false]
        exact ih (k + 1) b q.1 _ (by unfold maxN; omega) (by omega) (by omega) (by omega)
    · simp only [Int.ofNat_lt, hk, decide_false, cond_false]
      rw [List.drop_of_length_le (by omega)]
      rfl

theorem ReceiveAll_RA (N : Nat) (r : Rcv) (b : List Int) (hk : okR r = true) (h : b.length ≤ maxN) (hn : b.length < N) : impl_ReceiveAll.F N (r, b) = RA N b r [] := by
  rw [impl_ReceiveAll.F_eq, IsReceiver_impl, hk]
  have hl : r.1.length ≤ maxN := by
    simp only [okR, decide_eq_true_eq] at hk; unfold maxN; omega
  have := RA_L1 N N 0 b r [] h (by simp) (by omega) (by omega)
  simp only [Int.natCast_zero, List.drop_zero] at this
  simp only [bindO_val, Bool.not_true, cond_false, hl, decide_true, cond_true, this]

theorem RA_frame (N : Nat) (hN : 10 < N) (n m : Int) (h : 0 ≤ n ∧ n ≤ 255 ∧ 0 ≤ m ∧ m ≤ 16777215) (a k s : Int) (ha : -1 ≤ a ∧ a ≤ 255 ∧ 0 ≤ k ∧ k ≤ 16777215 ∧ 0 ≤ s ∧ s ≤ 20) (rest o : List Int) :
    RA N (frame n m ++ rest) ([], a, k, s) o = RA N rest (if n = a then ([], a, k, 0) else ([], n, m, 0)) (if n = a then o else o ++ [m]) := by
  have e : frame n m ++ rest = 85 :: n :: (m % 256) :: (m / 256 % 256) :: (m / 65536) :: ((ck (nats (f5 n m)) 0 : Nat) : Int) :: rest := rfl
  have ok : ∀ l : List Int, l.length < 6 → okR (l, a, k, s) = true := by
    intro l hl
    simp only [okR, decide_eq_true_eq]; omega
  have st : ∀ (l : List Int) (x : Int) (xs : List Int), l.length < 5 → RA N (x :: xs) (l, a, k, s) o = RA N xs (l ++ [x], a, k, s) o := by
    intro l x xs hl
    show (bindO (impl_ReceiveByte.F N ((l, a, k, s), x)) fun q => bif q.2 == 2 then RA N xs q.1 (o ++ [q.1.2.2.1]) else RA N xs q.1 o) = _
    rw [RB_part N (l, a, k, s) x (ok l (by omega)) hl]; rfl
  rw [e, st _ _ _ (by simp), st _ _ _ (by simp), st _ _ _ (by simp), st _ _ _ (by simp), st _ _ _ (by simp)]
  show (bindO (impl_ReceiveByte.F N ((f5 n m, a, k, s), ((ck (nats (f5 n m)) 0 : Nat) : Int))) fun q => bif q.2 == 2 then RA N rest q.1 (o ++ [q.1.2.2.1]) else RA N rest q.1 o) = _
  rw [RB_full N hN n m h (a, k, s) (ok _ (by simp [f5]))]
  by_cases hq : n = a
  · simp only [if_pos hq]; rfl
  · simp only [if_neg hq]; rfl

/-! ### silence -/
theorem SilentTick_ok (N : Nat) (a k s : Int) (ha : -1 ≤ a ∧ a ≤ 255 ∧ 0 ≤ k ∧ k ≤ 16777215 ∧ 0 ≤ s ∧ s ≤ 20) :
    impl_SilentTick.F N ([], a, k, s) = some (if 19 ≤ s then ([], -1, 0, 20) else ([], a, k, s + 1)) := by
  rw [impl_SilentTick.F_eq, IsReceiver_impl]
  have ok : okR ([], a, k, s) = true := by simp only [okR, decide_eq_true_eq, List.length_nil]; omega
  have h0 : (0 : Nat) ≤ maxN := by omega
  simp only [ok, bindO_val, Bool.not_true, cond_false, List.length_nil, h0, decide_true, cond_true]
  rw [wrap64 (by omega) (by omega)]
  by_cases h : 19 ≤ s
  · have hm : minI (s + 1) 20 = 20 := by unfold minI; split <;> omega
    rw [hm, if_pos h]; rfl
  · have hm : minI (s + 1) 20 = s + 1 := by unfold minI; split <;> omega
    have hne : (s + 1 == 20) = false := by simp; omega
    rw [hm, hne, if_neg h]; rfl

theorem Link_end (N : Nat) (hN : 30 < N) (n2 : Nat) (i : Int) (hi : ¬ i < 20) : laws_FnLink.L2 N (n2 + 1) i [] (-1) 0 20 = some true := by
  rw [laws_FnLink.L2_eq]
  have hv : (0 : Int) ≤ 7 ∧ (7 : Int) ≤ 255 ∧ (0 : Int) ≤ 5 ∧ (5 : Int) ≤ 16777215 := by omega
  simp only [hi, decide_false, cond_false, LinkFrame_impl N (by omega), if_pos hv, bindO_val]
  rw [ReceiveAll_RA N ([], -1, 0, 20) (frame 7 5) (by decide) (by simp [frame, f5, maxN]) (by simp [frame, f5]; omega)]
  have := RA_frame N (by omega) 7 5 hv (-1) 0 20 (by omega) [] []
  rw [List.append_nil] at this
  rw [this]
  rfl

theorem Link_L2 (N : Nat) (hN : 30 < N) : ∀ (t n2 : Nat) (a k s : Int), t + s = 20 → 0 < t → t < n2 → (-1 ≤ a ∧ a ≤ 255 ∧ 0 ≤ k ∧ k ≤ 16777215 ∧ 0 ≤ s ∧ s ≤ 20) →
    laws_FnLink.L2 N n2 s [] a k s = some true := by
  intro t
  induction t with
  | zero => intro n2 a k s h1 h2; omega
  | succ t ih =>
    intro n2 a k s h1 h2 h3 h4
    obtain ⟨n2, rfl⟩ : ∃ j, n2 = j + 1 := ⟨n2 - 1, by omega⟩
    rw [laws_FnLink.L2_eq]
    have hs : s < 20 := by omega
    simp only [hs, decide_true, cond_true, SilentTick_ok N a k s h4, bindO_val]
    rw [wrap64 (by omega) (by omega)]
    by_cases ht : 19 ≤ s
    · simp only [if_pos ht]
      obtain ⟨n2, rfl⟩ : ∃ j, n2 = j + 1 := ⟨n2 - 1, by omega⟩
      exact Link_end N hN n2 _ (by omega)
    · simp only [if_neg ht]
      exact ih n2 a k (s + 1) (by omega) (by omega) (by omega) (by omega)

/-! ### rows alike -/
theorem sameInts_L1 (N : Nat) : ∀ (n k : Nat) (a b : List Int), a.length ≤ maxN → b.length = a.length → k ≤ a.length → a.length < n + k → laws_sameInts.L1 N n a b (k : Int) = some (decide (a.drop k = b.drop k)) := by
  intro n
  induction n with
  | zero =>
    intro k a b h1 h2 h0 h3
    omega
  | succ n ih =>
    intro k a b h1 h2 h0 h3
    unfold maxN at h1
    rw [laws_sameInts.L1_eq]
    by_cases hk : k < a.length
    · have hkb : k < b.length := by omega
      simp only [Int.ofNat_lt, hk, decide_true, cond_true, inRange_nat, hkb, nth_nat]
      rw [wrap_succ (by omega), ih (k + 1) a b (by unfold maxN; omega) h2 (by omega) (by omega), drop_cons 0 a k hk, drop_cons 0 b k hkb]
      generalize a.getD k 0 = x
      generalize b.getD k 0 = y
      by_cases he : x = y
      · simp [he]
      · simp [he, bneI]
    · simp only [Int.ofNat_lt, hk, decide_false, cond_false]
      rw [List.drop_of_length_le (by omega), List.drop_of_length_le (by omega)]
      simp

theorem sameInts_eq (N : Nat) (a b : List Int) (h : a.length < N) (hm : a.length ≤ maxN) : laws_sameInts.F N (a, b) = some (decide (a = b)) := by
  rw [laws_sameInts.F_eq]
  by_cases hl : a.length = b.length
  · have : ((a.length : Int) != (b.length : Int)) = false := by simp [hl]
    rw [this, cond_false]
    have := sameInts_L1 N N 0 a b hm hl.symm (by omega) (by omega)
    simpa using this
  · have h1 : ((a.length : Int) != (b.length : Int)) = true := by simp; omega
    have h2 : a ≠ b := fun e => hl (by rw [e])
    rw [h1, cond_true]
    simp [h2]

theorem Link_L1 (N : Nat) (hN : 100 < N) (code : List Int) (hc : code.length ≤ maxN) (hcN : code.length < N) : ∀ (n n1 : Nat) (a k : Int) (o1 o2 : List Int), n < n1 → n ≤ 5 → o1.length + 12 * n ≤ 60 → o2.length + n ≤ 5 →
    (a = -1 ∨ (n : Int) < a) → a ≤ 255 → 0 ≤ k → k ≤ 16777215 →
    (∀ rest, RA N (o1 ++ rest) ([], -1, 0, 0) [] = RA N rest ([], a, k, 0) o2) →
    laws_FnLink.L1 N n1 code (n : Int) [] (-1) 0 0 o1 o2 = some true := by
  intro n
  induction n with
  | zero =>
    intro n1 a k o1 o2 h1 h2 h3 h4 h5 h6 h7 h8 hr
    obtain ⟨n1, rfl⟩ : ∃ j, n1 = j + 1 := ⟨n1 - 1, by omega⟩
    rw [laws_FnLink.L1_eq]
    have hz : ¬ (((0 : Nat) : Int) > 0) := by omega
    have ok : okR ([], -1, 0, 0) = true := by decide
    have hra := hr []
    rw [List.append_nil] at hra
    have hm : o1.length ≤ maxN := by unfold maxN; omega
    simp only [hz, decide_false, cond_false, ReceiveAll_RA N ([], -1, 0, 0) o1 ok hm (by omega), IsReceiver_impl, ok, hra, RA, bindO_val, Bool.not_true, sameInts_eq N o2 o2 (by omega) (by unfold maxN; omega), decide_true]
    simp only [List.length_nil]
    exact Link_L2 N (by omega) 20 N a k 0 (by omega) (by omega) (by omega) (by omega)
  | succ n ih =>
    intro n1 a k o1 o2 h1 h2 h3 h4 h5 h6 h7 h8 hr
    obtain ⟨n1, rfl⟩ : ∃ j, n1 = j + 1 := ⟨n1 - 1, by omega⟩
    rw [laws_FnLink.L1_eq]
    have hz : (((n + 1 : Nat) : Int) > 0) := by omega
    obtain ⟨m, em, m1, m2⟩ := MakeMask_ok N code (IntKind.wrap .i64 ((131 : Int) + ((n + 1 : Nat) : Int))) hc hcN
    have hv : 0 ≤ ((n + 1 : Nat) : Int) ∧ ((n + 1 : Nat) : Int) ≤ 255 ∧ 0 ≤ m ∧ m ≤ 16777215 := by omega
    simp only [hz, decide_true, cond_true, em, bindO_val, LinkFrame_impl N (by omega), if_pos hv]
    have lf : (frame ((n + 1 : Nat) : Int) m).length = 6 := rfl
    have g1 : o1.length + 6 ≤ maxN := by unfold maxN; omega
    have g2 : o1.length + 6 + 6 ≤ maxN := by unfold maxN; omega
    have g3 : o2.length + 1 ≤ maxN := by unfold maxN; omega
    simp only [List.length_append, lf, List.length_cons, List.length_nil, Nat.zero_add, g1, g2, g3, decide_true, cond_true]
    rw [wrap64 (by omega) (by omega), show (((n + 1 : Nat) : Int) - 1) = (n : Int) by omega]
    refine ih n1 ((n + 1 : Nat) : Int) m _ _ (by omega) (by omega) (by simp only [List.length_append, lf]; omega) (by simp; omega) (by omega) (by omega) (by omega) (by omega) ?_
    intro rest
    have hne : ¬ (((n + 1 : Nat) : Int) = a) := by omega
    rw [List.append_assoc, List.append_assoc, hr, RA_frame N (by omega) _ m hv a k 0 (by omega), if_neg hne, if_neg hne, RA_frame N (by omega) _ m hv _ m 0 (by omega), if_pos rfl, if_pos rfl]

theorem FnLink_true (code : List Int) : laws_FnLink.F 2000000 code = some true := by
  rw [laws_FnLink.F_eq, laws_big.F_eq]
  by_cases hl : (code.length : Int) > 1048576
  · simp [hl]
  · have hc : code.length ≤ maxN := by unfold maxN; omega
    obtain ⟨v, ev, v1, v2⟩ := MakeNumber_ok 2000000 code 130 6 hc (by omega) (by omega)
    obtain ⟨n, hn⟩ := Int.eq_ofNat_of_zero_le v1
    simp only [hl, decide_false, bindO_val, cond_false, impl_NewReceiver.F_eq, ev, hn]
    exact Link_L1 2000000 (by omega) code hc (by omega) n 2000000 (-1) 0 [] [] (by omega) (by omega) (by simp; omega) (by simp; omega) (by omega) (by omega) (by omega) (by omega) (fun rest => rfl)
end Go.Kb
