/- Bytes: numbers from 0 to 255; the check sum; frames. -/
import Derived.Test.YtjhcdceoenocpaeP0
import Derived.Test.YtjhcdceoenocpaeF1
namespace Go.Kb

theorem l1In_eq (N : Nat) (x l h : Int) : spec_l1In.F N (x, l, h) = some (decide (l ≤ x ∧ x ≤ h)) := by
  rw [spec_l1In.F_eq]
  by_cases h1 : l ≤ x <;> by_cases h2 : x ≤ h <;> simp [h1, h2]

theorem CheckOf_same (N : Nat) (s v h : Int) : ∃ r, spec_CheckOf.F N (s, v, h) = some r ∧ impl_CheckOf.F N (s, v, h) = some r := by
  rw [spec_CheckOf.F_eq, impl_CheckOf.F_eq, impl_isSetting.F_eq]
  simp only [l1In_eq, bindO_val]
  by_cases a1 : 0 ≤ s <;> by_cases a2 : s ≤ 3 <;> by_cases a3 : 0 ≤ v <;> by_cases a4 : v ≤ 9999 <;> by_cases a5 : 1 ≤ h <;> by_cases a6 : h ≤ 60000 <;>
    (have b2 : (s < 4) = (s ≤ 3) := by simp; omega
     have b5 : (h < 1) = ¬ (1 ≤ h) := by simp
     have b6 : (h > 60000) = ¬ (h ≤ 60000) := by simp
     simp [a1, a2, a3, a4, a5, a6, b2, b5, b6])

theorem FnExactCheckOf_true (N : Nat) (s v h : Int) : laws_FnExactCheckOf.F N (s, v, h) = some true := by
  obtain ⟨r, h1, h2⟩ := CheckOf_same N s v h
  rw [laws_FnExactCheckOf.F_eq]
  simp [h1, h2]

/-! ### bytes -/
theorem toByteS_L1 (N : Nat) : ∀ (n k : Nat) (a o : List Int), a.length ≤ maxN → o.length = a.length → k ≤ a.length → a.length < n + k → o.take k = a.take k → laws_toByteS.L1 N n a (k : Int) o = some a := by
  intro n
  induction n with
  | zero =>
    intro k a o h1 h2 h0 h3 h4
    omega
  | succ n ih =>
    intro k a o h1 h2 h0 h3 h4
    unfold maxN at h1
    rw [laws_toByteS.L1_eq]
    by_cases hk : k < a.length
    · have hko : k < o.length := by omega
      simp only [Int.ofNat_lt, hk, decide_true, cond_true, inRange_nat, hko, nth_nat, Int.toNat_natCast]
      rw [wrap_succ (by omega)]
      refine ih (k + 1) a _ (by unfold maxN; omega) (by simp [h2]) (by omega) (by omega) ?_
      rw [List.take_add_one, List.take_add_one, List.take_set_of_le (by omega), h4]
      simp [List.getElem?_set_self hko, List.getElem?_eq_getElem hk, List.getD_eq_getElem?_getD]
    · simp only [Int.ofNat_lt, hk, decide_false, cond_false]
      rw [List.take_of_length_le (by omega), List.take_of_length_le (by omega)] at h4
      rw [h4]

theorem toByteS_eq (N : Nat) (a : List Int) (h : a.length < N) (hm : a.length ≤ maxN) : laws_toByteS.F N a = some a := by
  rw [laws_toByteS.F_eq]
  unfold maxN at hm
  have h2 : (decide (0 ≤ (a.length : Int)) && decide ((a.length : Int) ≤ (maxN : Int))) = true := by
    unfold maxN
    simp; omega
  rw [h2, cond_true]
  exact toByteS_L1 N N 0 a _ (by unfold maxN; omega) (by simp) (by omega) (by omega) (by simp)

theorem eqByteS_L1 (N : Nat) : ∀ (n k : Nat) (a b : List Int), a.length ≤ maxN → b.length = a.length → k ≤ a.length → a.length < n + k → laws_eqByteS.L1 N n a b (k : Int) = some (decide (a.drop k = b.drop k)) := by
  intro n
  induction n with
  | zero =>
    intro k a b h1 h2 h0 h3
    omega
  | succ n ih =>
    intro k a b h1 h2 h0 h3
    unfold maxN at h1
    rw [laws_eqByteS.L1_eq]
    by_cases hk : k < a.length
    · have hkb : k < b.length := by omega
      simp only [Int.ofNat_lt, hk, decide_true, cond_true, inRange_nat, hkb, nth_nat]
      rw [wrap_succ (by omega), ih (k + 1) a b (by unfold maxN; omega) h2 (by omega) (by omega), drop_cons 0 a k hk, drop_cons 0 b k hkb]
      generalize a.getD k 0 = x
      generalize b.getD k 0 = y
      by_cases he : x = y
      · simp [he]
      · simp [he, bneI]
    · simp only [Int.ofNat_lt, hk, decide_false, cond_false]
      rw [List.drop_of_length_le (by omega), List.drop_of_length_le (by omega)]
      simp

theorem eqByteS_eq (N : Nat) (a b : List Int) (h : a.length < N) (hm : a.length ≤ maxN) : laws_eqByteS.F N (a, b) = some (decide (a = b)) := by
  rw [laws_eqByteS.F_eq]
  by_cases hl : a.length = b.length
  · have : ((a.length : Int) != (b.length : Int)) = false := by simp [hl]
    rw [this, cond_false]
    have := eqByteS_L1 N N 0 a b hm hl.symm (by omega) (by omega)
    simpa using this
  · have h1 : ((a.length : Int) != (b.length : Int)) = true := by simp; omega
    have h2 : a ≠ b := fun e => hl (by rw [e])
    rw [h1, cond_true]
    simp [h2]

/-- marks laid and found again -/
theorem marks_L1 (N : Nat) : ∀ (n k : Nat) (c : Int) (o : List Int), o.length ≤ maxN → k ≤ o.length → o.length < n + k → 0 ≤ c → c + (o.length - k) ≤ 4611686018427387904 →
    ∃ c' o', laws_markByteS.L1 N n c (k : Int) o = some (c', o') ∧ o'.length = o.length ∧ (∀ j, j < k → o'.getD j 0 = o.getD j 0) ∧ c ≤ c' ∧ c' ≤ c + (o.length - k : Nat) ∧ laws_heldByteS.L1 N n o' c (k : Int) = some c' := by
  intro n
  induction n with
  | zero => intro k c o h1 h0 h2 h3 h4; omega
  | succ n ih =>
    intro k c o h1 h0 h2 h3 h4
    unfold maxN at h1
    rw [laws_markByteS.L1_eq]
    by_cases hk : k < o.length
    · simp only [Int.ofNat_lt, hk, decide_true, cond_true, inRange_nat, Int.toNat_natCast]
      rw [wrap_succ (by omega), wrap64 (x := c + 1) (by omega) (by omega)]
      obtain ⟨c', o', e1, e2, e3, e4, e5, e6⟩ := ih (k + 1) (c + 1) (o.set k (IntKind.wrap .u8 c)) (by unfold maxN; simp; omega) (by simp; omega) (by simp; omega) (by omega) (by simp; omega)
      simp only [List.length_set] at e2 e5
      refine ⟨c', o', e1, e2, fun j hj => ?_, by omega, by omega, ?_⟩
      · rw [e3 j (by omega)]
        simp only [List.getD_eq_getElem?_getD]
        rw [List.getElem?_set_ne (by omega)]
      · rw [laws_heldByteS.L1_eq]
        have hk' : k < o'.length := by omega
        have hg : o'.getD k 0 = IntKind.wrap .u8 c := by
          rw [e3 k (by omega)]
          simp only [List.getD_eq_getElem?_getD]
          rw [List.getElem?_set_self hk]; rfl
        simp only [Int.ofNat_lt, hk', decide_true, cond_true, inRange_nat, nth_nat, hg, bne_self_eq_false, cond_false]
        rw [wrap_succ (by omega), wrap64 (x := c + 1) (by omega) (by omega)]
        exact e6
    · refine ⟨c, o, ?_, rfl, fun j _ => rfl, by omega, by omega, ?_⟩
      · simp only [Int.ofNat_lt, hk, decide_false, cond_false]
      · rw [laws_heldByteS.L1_eq]
        simp only [Int.ofNat_lt, hk, decide_false, cond_false]

theorem marks_eq (N : Nat) (a : List Int) (c : Int) (h : a.length < N) (hm : a.length ≤ maxN) (h0 : 0 ≤ c) (h1 : c ≤ 2305843009213693952) :
    ∃ c' o', laws_markByteS.F N (a, c) = some (c', o') ∧ c ≤ c' ∧ c' ≤ c + a.length ∧ laws_heldByteS.F N (o', c) = some c' ∧ o'.length = a.length := by
  rw [laws_markByteS.F_eq]
  obtain ⟨c', o', e1, e2, e3, e4, e5, e6⟩ := marks_L1 N N 0 c a hm (by omega) (by omega) h0 (by unfold maxN at hm; omega)
  exact ⟨c', o', e1, e4, by omega, by rw [laws_heldByteS.F_eq]; exact e6, e2⟩

/-! ### the check sum -/
theorem bitXor_nat (a b : Nat) (ha : a < 9223372036854775808) (hb : b < 9223372036854775808) : bitXor .i64 (a : Int) (b : Int) = ((a ^^^ b : Nat) : Int) := by
  have hx : a ^^^ b < 2 ^ 63 := Nat.xor_lt_two_pow (by omega) (by omega)
  have e : ∀ n : Nat, n < 9223372036854775808 → (BitVec.ofInt 64 (n : Int)).toNat = n := by
    intro n hn
    rw [BitVec.ofInt_natCast, BitVec.toNat_ofNat]; exact Nat.mod_eq_of_lt (by omega)
  show IntKind.i64.wrap ((BitVec.ofInt 64 (a : Int) ^^^ BitVec.ofInt 64 (b : Int)).toNat : Int) = _
  rw [BitVec.toNat_xor, e a ha, e b hb, wrap64 (by omega) (by omega)]

def ckStep (c : Nat) : Nat := if 2 * c > 255 then (2 * c) ^^^ 263 else 2 * c
def ckN : Nat → Nat → Nat
  | 0, c => c
  | n + 1, c => ckN n (ckStep c)
def ck : List Nat → Nat → Nat
  | [], c => c
  | x :: r, c => ck r (ckN 8 (c ^^^ x))

theorem ckStep_lt : ∀ c, c < 256 → ckStep c < 256 := by decide +kernel
theorem ckN_lt : ∀ n c, c < 256 → ckN n c < 256
  | 0, _, h => h
  | n + 1, c, h => ckN_lt n _ (ckStep_lt c h)
theorem ck_lt : ∀ (b : List Nat) (c : Nat), (∀ x ∈ b, x < 256) → c < 256 → ck b c < 256
  | [], _, _, h => h
  | x :: r, _c, hb, h => ck_lt r _ (fun y hy => hb y (.tail _ hy)) (ckN_lt 8 _ (Nat.xor_lt_two_pow (n := 8) h (hb x (.head _))))

theorem Checksum_L2 (N n1 : Nat) (b : List Int) (i : Int) : ∀ (n m c : Nat), m ≤ 8 → m < n → c < 256 →
    spec_Checksum.L2 N n1 n b (c : Int) i ((8 - m : Nat) : Int) = spec_Checksum.L1 N n1 b ((ckN m c : Nat) : Int) (IntKind.wrap .i64 (i + 1)) := by
  intro n
  induction n with
  | zero => intro m c _ h; omega
  | succ n ih =>
    intro m c h1 h2 h3
    rw [spec_Checksum.L2_eq]
    cases m with
    | zero => simp [ckN]
    | succ m =>
      have h4 : (((8 - (m + 1) : Nat) : Int) < 8) := by omega
      simp only [h4, decide_true, cond_true]
      rw [wrap64 (x := 2 * (c : Int)) (by omega) (by omega), wrap_succ (by omega), show 8 - (m + 1) + 1 = 8 - m by omega]
      by_cases h5 : 2 * c > 255
      · have h6 : (2 * (c : Int) > 255) := by omega
        simp only [h6, decide_true, cond_true]
        have := bitXor_nat (2 * c) 263 (by omega) (by omega)
        rw [show ((2 * c : Nat) : Int) = 2 * (c : Int) by omega] at this
        rw [show ((263 : Nat) : Int) = 263 from rfl] at this
        rw [this, ih m _ (by omega) (by omega) (by have := ckStep_lt c h3; unfold ckStep at this; rwa [if_pos h5] at this)]
        simp only [ckN, ckStep, if_pos h5]
      · have h6 : ¬ (2 * (c : Int) > 255) := by omega
        simp only [h6, decide_false, cond_false]
        rw [show 2 * (c : Int) = ((2 * c : Nat) : Int) by omega, ih m _ (by omega) (by omega) (by omega)]
        simp only [ckN, ckStep, if_neg h5]

def byteL (b : List Int) : Prop := ∀ x ∈ b, 0 ≤ x ∧ x ≤ 255
def nats (b : List Int) : List Nat := b.map Int.toNat

theorem Checksum_L1 (N : Nat) (hN : 8 < N) : ∀ (n k c : Nat) (b : List Int), byteL b → b.length ≤ maxN → k ≤ b.length → b.length < n + k → c < 256 →
    spec_Checksum.L1 N n b (c : Int) (k : Int) = some ((ck (nats (b.drop k)) c : Nat) : Int) := by
  intro n
  induction n with
  | zero => intro k c b h1 h2 h0 h3 h4; omega
  | succ n ih =>
    intro k c b h1 h2 h0 h3 h4
    rw [spec_Checksum.L1_eq]
    unfold maxN at h2
    by_cases hk : k < b.length
    · simp only [Int.ofNat_lt, hk, decide_true, cond_true, inRange_nat, nth_nat]
      have hm : b.getD k 0 ∈ b := by
        rw [List.getD_eq_getElem?_getD, List.getElem?_eq_getElem hk]; exact List.getElem_mem hk
      obtain ⟨g1, g2⟩ := h1 _ hm
      rw [wrap64 (x := b.getD k 0) (by omega) (by omega)]
      obtain ⟨x, hx⟩ := Int.eq_ofNat_of_zero_le g1
      rw [hx, bitXor_nat c x (by omega) (by omega)]
      have hlt : c ^^^ x < 256 := Nat.xor_lt_two_pow (n := 8) h4 (by omega)
      have := Checksum_L2 N n b (k : Int) N 8 (c ^^^ x) (by omega) hN hlt
      simp only [Nat.sub_self, Int.natCast_zero] at this
      rw [this, wrap_succ (by omega), ih (k + 1) _ b h1 (by unfold maxN; omega) (by omega) (by omega) (ckN_lt 8 _ hlt), drop_cons 0 b k hk]
      simp only [nats, List.map_cons, hx, Int.toNat_natCast, ck]
    · simp only [Int.ofNat_lt, hk, decide_false, cond_false]
      rw [List.drop_of_length_le (by omega)]
      rfl

theorem Checksum_eq (N : Nat) (hN : 8 < N) (b : List Int) (h1 : byteL b) (h2 : b.length ≤ maxN) (h3 : b.length < N) : spec_Checksum.F N b = some ((ck (nats b) 0 : Nat) : Int) := by
  rw [spec_Checksum.F_eq]
  have := Checksum_L1 N hN N 0 0 b h1 h2 (by omega) (by omega) (by omega)
  simpa using this

theorem Checksum_same_L (N : Nat) : ∀ (n : Nat) (b : List Int) (c i : Int), impl_Checksum.L1 N n c b (List.length b : Int) i = spec_Checksum.L1 N n b c i := by
  intro n
  induction n with
  | zero => intro b c i; rw [impl_Checksum.L1_zero, spec_Checksum.L1_zero]
  | succ n ih =>
    intro b c i
    have h2 : ∀ (m : Nat) (c k : Int), impl_Checksum.L2 N n m c b (List.length b : Int) i k = spec_Checksum.L2 N n m b c i k := by
      intro m
      induction m with
      | zero => intro c k; rw [impl_Checksum.L2_zero, spec_Checksum.L2_zero]
      | succ m ihm =>
        intro c k
        rw [impl_Checksum.L2_eq, spec_Checksum.L2_eq, ihm, ihm, ih, Int.mul_comm c 2]
    rw [impl_Checksum.L1_eq, spec_Checksum.L1_eq, h2]

theorem Checksum_same (N : Nat) (b : List Int) : impl_Checksum.F N b = spec_Checksum.F N b := by
  rw [impl_Checksum.F_eq, spec_Checksum.F_eq, Checksum_same_L]

theorem FnExactChecksum_true (b : List Int) (hb : byteL b) : laws_FnExactChecksum.F 2000000 b = some true := by
  rw [laws_FnExactChecksum.F_eq]
  by_cases hl : (b.length : Int) > 1048576
  · simp [hl]
  · have h1 : b.length ≤ maxN := by unfold maxN; omega
    simp only [hl, decide_false, cond_false]
    simp [toByteS_eq 2000000 b (by omega) h1, Checksum_same, Checksum_eq 2000000 (by omega) b hb h1 (by omega), eqByteS_eq 2000000 b b (by omega) h1]

/-! ### receivers -/
theorem FnExactNewReceiver_true : laws_FnExactNewReceiver.F 10 () = some true := by
  rw [laws_FnExactNewReceiver.F_eq, spec_NewReceiver.F_eq, impl_NewReceiver.F_eq]
  obtain ⟨c', o', e1, e2, e3, e4, e5⟩ := marks_eq 10 [] 1 (by simp) (by simp) (by omega) (by omega)
  have h0 : ¬ c' < 0 := by omega
  have he : laws_eqReceiver.F 10 (([], -1, 0, 0), ([], -1, 0, 0)) = some true := by
    rw [laws_eqReceiver.F_eq]
    simp [eqByteS_eq 10 [] [] (by simp) (by simp)]
  simp [he, laws_markReceiver.F_eq, laws_heldReceiver.F_eq, e1, e4, h0]

theorem toReceiver_eq (N : Nat) (r : List Int × Int × Int × Int) (h : r.1.length < N) (hm : r.1.length ≤ maxN) : laws_toReceiver.F N r = some r := by
  rw [laws_toReceiver.F_eq, toByteS_eq N _ h hm]; rfl

theorem eqReceiver_self (N : Nat) (r : List Int × Int × Int × Int) (h : r.1.length < N) (hm : r.1.length ≤ maxN) : laws_eqReceiver.F N (r, r) = some true := by
  rw [laws_eqReceiver.F_eq]
  simp [eqByteS_eq N _ _ h hm]

def okR (r : List Int × Int × Int × Int) : Bool := decide (r.1.length < 6 ∧ -1 ≤ r.2.1 ∧ r.2.1 ≤ 255 ∧ 0 ≤ r.2.2.1 ∧ r.2.2.1 ≤ 16777215 ∧ 0 ≤ r.2.2.2 ∧ r.2.2.2 ≤ 20)

theorem IsReceiver_spec (N : Nat) (r : List Int × Int × Int × Int) : spec_IsReceiver.F N r = some (okR r) := by
  rw [spec_IsReceiver.F_eq]
  simp only [l1In_eq, bindO_val, okR]
  by_cases a0 : r.1.length < 6 <;> by_cases a1 : -1 ≤ r.2.1 <;> by_cases a2 : r.2.1 ≤ 255 <;> by_cases a3 : 0 ≤ r.2.2.1 <;> by_cases a4 : r.2.2.1 ≤ 16777215 <;>
    (have b0 : ((r.1.length : Int) < 6) = (r.1.length < 6) := by simp; omega
     simp [a0, a1, a2, a3, a4, b0])

theorem IsReceiver_impl (N : Nat) (r : List Int × Int × Int × Int) : impl_IsReceiver.F N r = some (okR r) := by
  rw [impl_IsReceiver.F_eq]
  simp only [okR]
  by_cases a0 : r.1.length < 6 <;> by_cases a1 : -1 ≤ r.2.1 <;> by_cases a2 : r.2.1 ≤ 255 <;> by_cases a3 : 0 ≤ r.2.2.1 <;> by_cases a4 : r.2.2.1 ≤ 16777215 <;> by_cases a5 : 0 ≤ r.2.2.2 <;>
    (have b0 : ((r.1.length : Int) < 6) = (r.1.length < 6) := by simp; omega
     simp [a0, a1, a2, a3, a4, a5, b0])

theorem szByteS_eq (N : Nat) (a : List Int) (left : Int) (h : a.length ≤ maxLen) (h0 : 0 ≤ left) (h1 : left ≤ 1048576) : laws_szByteS.F N (a, left) = some (if left - a.length < 0 then -1 else left - a.length) := by
  rw [laws_szByteS.F_eq]
  unfold maxLen at h
  rw [wrap64 (by omega) (by omega)]
  by_cases hh : left - (a.length : Int) < 0 <;> simp [hh]

theorem FnExactIsReceiver_true (r : List Int × Int × Int × Int) (h : r.1.length ≤ maxLen) : laws_FnExactIsReceiver.F 2000000 r = some true := by
  rw [laws_FnExactIsReceiver.F_eq, laws_szReceiver.F_eq, szByteS_eq _ _ _ h (by omega) (by omega)]
  by_cases hl : (1048576 : Int) - (r.1.length : Int) < 0
  · simp [hl]
  · have h1 : r.1.length ≤ maxN := by unfold maxN; omega
    simp [hl, toReceiver_eq 2000000 r (by omega) h1, IsReceiver_spec, IsReceiver_impl, eqReceiver_self 2000000 r (by omega) h1]
end Go.Kb
