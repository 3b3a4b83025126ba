/- Frames: what the program's link says is what the reference's says. -/
import Derived.Test.YtjhcdceoenocpaeP1
namespace Go.Kb

theorem bitOr_nat (a b : Nat) (ha : a < 9223372036854775808) (hb : b < 9223372036854775808) : bitOr .i64 (a : Int) (b : Int) = ((a ||| b : Nat) : Int) := by
  have hx : a ||| b < 2 ^ 63 := Nat.or_lt_two_pow (by omega) (by omega)
  have e : ∀ n : Nat, n < 9223372036854775808 → (BitVec.ofInt 64 (n : Int)).toNat = n := by
    intro n hn
    rw [BitVec.ofInt_natCast, BitVec.toNat_ofNat]; exact Nat.mod_eq_of_lt (by omega)
  show IntKind.i64.wrap ((BitVec.ofInt 64 (a : Int) ||| BitVec.ofInt 64 (b : Int)).toNat : Int) = _
  rw [BitVec.toNat_or, e a ha, e b hb, wrap64 (by omega) (by omega)]

def f5 (n m : Int) : List Int := [85, n, m % 256, m / 256 % 256, m / 65536]
def frame (n m : Int) : List Int := f5 n m ++ [((ck (nats (f5 n m)) 0 : Nat) : Int)]

theorem f5_bytes {n m : Int} (h : 0 ≤ n ∧ n ≤ 255 ∧ 0 ≤ m ∧ m ≤ 16777215) : byteL (f5 n m) := by
  intro x hx
  simp only [f5, List.mem_cons, List.not_mem_nil, or_false] at hx
  rcases hx with rfl | rfl | rfl | rfl | rfl <;> omega

theorem ck_byte {b : List Int} (h : byteL b) : ck (nats b) 0 < 256 := by
  refine ck_lt _ _ ?_ (by omega)
  intro x hx
  obtain ⟨y, hy, rfl⟩ := List.mem_map.1 hx
  have := h y hy
  omega

theorem frame_bytes {n m : Int} (h : 0 ≤ n ∧ n ≤ 255 ∧ 0 ≤ m ∧ m ≤ 16777215) : byteL (frame n m) := by
  intro x hx
  rcases List.mem_append.1 hx with hx | hx
  · exact f5_bytes h x hx
  · have := ck_byte (f5_bytes h)
    simp only [List.mem_singleton] at hx
    omega

theorem LinkFrame_impl (N : Nat) (hN : 10 < N) (n m : Int) : impl_LinkFrame.F N (n, m) = some (if 0 ≤ n ∧ n ≤ 255 ∧ 0 ≤ m ∧ m ≤ 16777215 then frame n m else []) := by
  rw [impl_LinkFrame.F_eq]
  by_cases h : 0 ≤ n ∧ n ≤ 255 ∧ 0 ≤ m ∧ m ≤ 16777215
  · obtain ⟨h1, h2, h3, h4⟩ := h
    have b1 : ¬ n < 0 := by omega
    have b2 : ¬ n > 255 := by omega
    have b3 : ¬ m < 0 := by omega
    have b4 : ¬ m > 16777215 := by omega
    have e : [(85 : Int), IntKind.wrap .u8 n, IntKind.wrap .u8 m, IntKind.wrap .u8 (shiftR .i64 m 8), IntKind.wrap .u8 (shiftR .i64 m 16)] = f5 n m := by
      have s8 : shiftR .i64 m 8 = m / 256 := by
        simp only [shiftR, IntKind.bits]
        rw [Int.fdiv_eq_ediv_of_nonneg _ (by decide)]; rfl
      have s16 : shiftR .i64 m 16 = m / 65536 := by
        simp only [shiftR, IntKind.bits]
        rw [Int.fdiv_eq_ediv_of_nonneg _ (by decide)]; rfl
      rw [s8, s16, wrap8 h1 h2]
      have u8 : ∀ x : Int, IntKind.wrap .u8 x = x % 256 := fun x => IntKind.wrap_u8 x
      simp only [u8, f5]
      rw [Int.emod_eq_of_lt (a := m / 65536) (by omega) (by omega)]
    have hc := Checksum_eq N (by omega) (f5 n m) (f5_bytes ⟨h1, h2, h3, h4⟩) (by simp [f5, maxN]) (by simp [f5]; omega)
    have hb := ck_byte (f5_bytes ⟨h1, h2, h3, h4⟩)
    rw [if_pos ⟨h1, h2, h3, h4⟩]
    simp only [b1, b2, b3, b4, decide_false, cond_false, e, Checksum_same, hc, bindO_val]
    rw [wrap8 (by omega) (by omega)]
    simp [f5, maxN, frame]
  · rw [if_neg h]
    by_cases b1 : n < 0
    · simp [b1]
    · by_cases b2 : n > 255
      · simp [b1, b2]
      · by_cases b3 : m < 0
        · simp [b1, b2, b3]
        · have b4 : m > 16777215 := by omega
          simp [b1, b2, b3, b4]

theorem LinkFrame_spec (N : Nat) (hN : 10 < N) (n m : Int) : spec_LinkFrame.F N (n, m) = some (if 0 ≤ n ∧ n ≤ 255 ∧ 0 ≤ m ∧ m ≤ 16777215 then frame n m else []) := by
  rw [spec_LinkFrame.F_eq]
  simp only [l1In_eq, bindO_val]
  by_cases h : 0 ≤ n ∧ n ≤ 255 ∧ 0 ≤ m ∧ m ≤ 16777215
  · obtain ⟨h1, h2, h3, h4⟩ := h
    have e : [(85 : Int), IntKind.wrap .u8 n, IntKind.wrap .u8 (Int.tmod m 256), IntKind.wrap .u8 (Int.tmod (quoI .i64 m 256) 256), IntKind.wrap .u8 (quoI .i64 m 65536)] = f5 n m := by
      have q1 : quoI .i64 m 256 = m / 256 := by
        unfold quoI
        rw [Int.tdiv_eq_ediv_of_nonneg h3, wrap64 (by omega) (by omega)]
      have q2 : quoI .i64 m 65536 = m / 65536 := by
        unfold quoI
        rw [Int.tdiv_eq_ediv_of_nonneg h3, wrap64 (by omega) (by omega)]
      rw [q1, q2, wrap8 h1 h2, Int.tmod_eq_emod_of_nonneg h3, Int.tmod_eq_emod_of_nonneg (by omega), wrap8 (by omega) (by omega), wrap8 (by omega) (by omega), wrap8 (by omega) (by omega)]
      rfl
    have hc := Checksum_eq N (by omega) (f5 n m) (f5_bytes ⟨h1, h2, h3, h4⟩) (by simp [f5, maxN]) (by simp [f5]; omega)
    have hb := ck_byte (f5_bytes ⟨h1, h2, h3, h4⟩)
    have d1 : decide (0 ≤ n ∧ n ≤ 255) = true := by simp [h1, h2]
    have d2 : decide (0 ≤ m ∧ m ≤ 16777215) = true := by simp [h3, h4]
    rw [if_pos ⟨h1, h2, h3, h4⟩]
    simp only [d1, d2, Bool.not_true, cond_false, e, hc, bindO_val]
    rw [wrap8 (by omega) (by omega)]
    simp [f5, maxN, frame]
  · rw [if_neg h]
    by_cases h1 : 0 ≤ n ∧ n ≤ 255
    · have h2 : ¬ (0 ≤ m ∧ m ≤ 16777215) := fun hh => h ⟨h1.1, h1.2, hh.1, hh.2⟩
      have d1 : decide (0 ≤ n ∧ n ≤ 255) = true := by simp [h1]
      have d2 : decide (0 ≤ m ∧ m ≤ 16777215) = false := by simpa using h2
      simp only [d1, d2, Bool.not_true, Bool.not_false, cond_true, cond_false]
    · have d1 : decide (0 ≤ n ∧ n ≤ 255) = false := by simpa using h1
      simp only [d1, Bool.not_false, cond_true]

theorem FnExactLinkFrame_true (n m : Int) : laws_FnExactLinkFrame.F 100 (n, m) = some true := by
  rw [laws_FnExactLinkFrame.F_eq, LinkFrame_impl 100 (by omega), LinkFrame_spec 100 (by omega)]
  obtain ⟨b, hb⟩ : ∃ b, b = (if 0 ≤ n ∧ n ≤ 255 ∧ 0 ≤ m ∧ m ≤ 16777215 then frame n m else []) := ⟨_, rfl⟩
  rw [← hb]
  have hl : b.length < 10 := by rw [hb]; split <;> simp [frame, f5]
  have hm : b.length ≤ maxN := by unfold maxN; omega
  obtain ⟨c', o', e1, e2, e3, e4, e5⟩ := marks_eq 100 b 1 (by omega) hm (by omega) (by omega)
  have h0 : ¬ c' < 0 := by omega
  simp [eqByteS_eq 100 b b (by omega) hm, e1, e4, h0]

theorem bytesOf_inj {a b : List Int} (ha : byteL a) (hb : byteL b) : (bytesOf a == bytesOf b) = decide (a = b) := by
  rw [Bool.eq_iff_iff, beq_iff_eq, decide_eq_true_iff]
  refine ⟨fun h => ?_, fun h => by rw [h]⟩
  unfold bytesOf at h
  have hl : a.length = b.length := by simpa using congrArg List.length h
  apply List.ext_getElem hl
  intro i h1 h2
  have := congrArg (fun l => l[i]?) h
  simp only [List.getElem?_map, List.getElem?_eq_getElem h1, List.getElem?_eq_getElem h2, Option.map_some, Option.some.injEq] at this
  have g1 := ha _ (List.getElem_mem h1)
  have g2 := hb _ (List.getElem_mem h2)
  have := congrArg UInt8.toNat this
  simp only [UInt8.toNat_ofNat'] at this
  omega

theorem bytes6 {b : List Int} (h : b.length = 6) : ∃ b0 b1 b2 b3 b4 b5, b = [b0, b1, b2, b3, b4, b5] := by
  match b, h with
  | [b0, b1, b2, b3, b4, b5], _ => exact ⟨b0, b1, b2, b3, b4, b5, rfl⟩

/-- what a reading of a frame gives -/
def readF (b : List Int) : Int × Int × Bool :=
  match b with
  | [b0, b1, b2, b3, b4, b5] => if b0 = 85 ∧ ((ck (nats [b0, b1, b2, b3, b4]) 0 : Nat) : Int) = b5 then (b1, b2 + 256 * b3 + 65536 * b4, true) else (0, 0, false)
  | _ => (0, 0, false)

theorem ReadFrame_spec (N : Nat) (hN : 10 < N) (b : List Int) (hb : byteL b) : spec_ReadFrame.F N b = some (readF b) := by
  rw [spec_ReadFrame.F_eq]
  by_cases hl : b.length = 6
  · obtain ⟨b0, b1, b2, b3, b4, b5, rfl⟩ := bytes6 hl
    have g : ∀ x ∈ [b0, b1, b2, b3, b4, b5], 0 ≤ x ∧ x ≤ 255 := hb
    simp only [List.mem_cons, List.not_mem_nil, or_false, forall_eq_or_imp, forall_eq] at g
    obtain ⟨g0, g1, g2, g3, g4, g5⟩ := g
    have hc := Checksum_eq N (by omega) [b0, b1, b2, b3, b4] (by intro x hx; simp only [List.mem_cons, List.not_mem_nil, or_false] at hx; rcases hx with rfl | rfl | rfl | rfl | rfl <;> assumption) (by simp [maxN]) (by simp; omega)
    simp only [readF]
    have w1 := wrap64 (x := b1) (by omega) (by omega)
    have w2 := wrap64 (x := b2) (by omega) (by omega)
    have w3 := wrap64 (x := b3) (by omega) (by omega)
    have w4 := wrap64 (x := b4) (by omega) (by omega)
    have w5 := wrap64 (x := b5) (by omega) (by omega)
    have w6 := wrap64 (x := 256 * b3) (by omega) (by omega)
    have w7 := wrap64 (x := b2 + 256 * b3) (by omega) (by omega)
    have w8 := wrap64 (x := 65536 * b4) (by omega) (by omega)
    have w9 := wrap64 (x := b2 + 256 * b3 + 65536 * b4) (by omega) (by omega)
    by_cases h0 : b0 = 85
    · subst h0
      by_cases h5 : ((ck (nats [85, b1, b2, b3, b4]) 0 : Nat) : Int) = b5
      · simp [inRange, nth, hc, h5, w1, w2, w3, w4, w5, w6, w7, w8, w9]
      · simp [inRange, nth, hc, h5, w5, bneI]
    · simp [inRange, nth, h0, bneI]
  · have h1 : ((b.length : Int) != 6) = true := by simp; omega
    rw [h1, cond_true]
    unfold readF
    split
    · simp at hl
    · rfl

theorem or_bytes (b2 b3 b4 : Nat) (h2 : b2 < 256) (h3 : b3 < 256) (_h4 : b4 < 256) : (b2 ||| b3 <<< 8) ||| b4 <<< 16 = b2 + 256 * b3 + 65536 * b4 := by
  have e1 : b2 ||| b3 <<< 8 = b2 + 256 * b3 := by
    rw [Nat.or_comm, ← Nat.shiftLeft_add_eq_or_of_lt (by omega), Nat.shiftLeft_eq]; omega
  rw [e1, Nat.or_comm, ← Nat.shiftLeft_add_eq_or_of_lt (by omega), Nat.shiftLeft_eq]; omega

theorem shiftL_nat (a k : Nat) (hk : k ≤ 16) (h : a < 256) : shiftL .i64 (a : Int) (k : Int) = ((a <<< k : Nat) : Int) := by
  have h2 : 2 ^ k ≤ 2 ^ 16 := Nat.pow_le_pow_right (by omega) hk
  have h3 : a * 2 ^ k ≤ 255 * 2 ^ 16 := Nat.mul_le_mul (by omega) h2
  simp only [shiftL, IntKind.bits, Int.toNat_natCast]
  rw [Nat.min_eq_left (by omega), Nat.shiftLeft_eq]
  have e : (a : Int) * 2 ^ k = ((a * 2 ^ k : Nat) : Int) := by simp
  rw [e, wrap64 (by omega) (by omega)]

theorem ReadFrame_impl (N : Nat) (hN : 10 < N) (b : List Int) (hb : byteL b) : impl_ReadFrame.F N b = some (readF b) := by
  rw [impl_ReadFrame.F_eq]
  by_cases hl : b.length = 6
  · obtain ⟨b0, b1, b2, b3, b4, b5, rfl⟩ := bytes6 hl
    have g : ∀ x ∈ [b0, b1, b2, b3, b4, b5], 0 ≤ x ∧ x ≤ 255 := hb
    simp only [List.mem_cons, List.not_mem_nil, or_false, forall_eq_or_imp, forall_eq] at g
    obtain ⟨g0, g1, g2, g3, g4, g5⟩ := g
    have w1 := wrap64 (x := b1) (by omega) (by omega)
    have w2 := wrap64 (x := b2) (by omega) (by omega)
    have w3 := wrap64 (x := b3) (by omega) (by omega)
    have w4 := wrap64 (x := b4) (by omega) (by omega)
    obtain ⟨n2, rfl⟩ := Int.eq_ofNat_of_zero_le g2.1
    obtain ⟨n3, rfl⟩ := Int.eq_ofNat_of_zero_le g3.1
    obtain ⟨n4, rfl⟩ := Int.eq_ofNat_of_zero_le g4.1
    have s3 := shiftL_nat n3 8 (by omega) (by omega)
    have s4 := shiftL_nat n4 16 (by omega) (by omega)
    rw [show ((8 : Nat) : Int) = 8 from rfl] at s3
    rw [show ((16 : Nat) : Int) = 16 from rfl] at s4
    have k3 : n3 <<< 8 < 65536 := by rw [Nat.shiftLeft_eq]; omega
    have k4 : n4 <<< 16 < 16777216 := by rw [Nat.shiftLeft_eq]; omega
    have k5 : n2 ||| n3 <<< 8 < 65536 := Nat.or_lt_two_pow (n := 16) (by omega) (by omega)
    have o1 := bitOr_nat n2 (n3 <<< 8) (by omega) (by omega)
    have o2 := bitOr_nat (n2 ||| n3 <<< 8) (n4 <<< 16) (by omega) (by omega)
    rw [or_bytes n2 n3 n4 (by omega) (by omega) (by omega)] at o2
    have hm : bitOr .i64 (bitOr .i64 (n2 : Int) (shiftL .i64 (n3 : Int) 8)) (shiftL .i64 (n4 : Int) 16) = (n2 : Int) + 256 * n3 + 65536 * n4 := by
      rw [s3, s4, o1, o2]; omega
    have hv : 0 ≤ b1 ∧ b1 ≤ 255 ∧ 0 ≤ (n2 : Int) + 256 * n3 + 65536 * n4 ∧ (n2 : Int) + 256 * n3 + 65536 * n4 ≤ 16777215 := by omega
    have hf5 : f5 b1 ((n2 : Int) + 256 * n3 + 65536 * n4) = [85, b1, (n2 : Int), (n3 : Int), (n4 : Int)] := by
      simp only [f5]
      have e1 : ((n2 : Int) + 256 * n3 + 65536 * n4) % 256 = n2 := by omega
      have e2 : ((n2 : Int) + 256 * n3 + 65536 * n4) / 256 % 256 = n3 := by omega
      have e3 : ((n2 : Int) + 256 * n3 + 65536 * n4) / 65536 = n4 := by omega
      rw [e1, e2, e3]
    have hL := LinkFrame_impl N hN b1 ((n2 : Int) + 256 * n3 + 65536 * n4)
    rw [if_pos hv] at hL
    have hbo := bytesOf_inj (frame_bytes hv) hb
    simp only [frame, hf5, List.cons_append, List.nil_append] at hbo hL
    simp only [inRange, nth, List.length_cons, List.length_nil, Int.toNat_one, List.getD_cons_succ, List.getD_cons_zero, w1]
    simp only [readF]
    by_cases h0 : b0 = 85
    · subst h0
      by_cases h5 : ((ck (nats [85, b1, (n2 : Int), (n3 : Int), (n4 : Int)]) 0 : Nat) : Int) = b5
      · simp [hL, h5, w2, w3, w4, hm]
      · simp [hL, hbo, h5, w2, w3, w4, hm]
    · have h0' : ¬ (85 : Int) = b0 := fun h => h0 h.symm
      simp [hL, hbo, h0, h0', w2, w3, w4, hm]
  · have h1 : ((b.length : Int) != 6) = true := by simp; omega
    rw [h1, cond_true]
    unfold readF
    split
    · simp at hl
    · rfl

theorem FnExactReadFrame_true (b : List Int) (hb : byteL b) : laws_FnExactReadFrame.F 2000000 b = some true := by
  rw [laws_FnExactReadFrame.F_eq]
  by_cases hl : (b.length : Int) > 1048576
  · simp [hl]
  · have h1 : b.length ≤ maxN := by unfold maxN; omega
    simp only [hl, decide_false, cond_false]
    simp [toByteS_eq 2000000 b (by omega) h1, ReadFrame_spec 2000000 (by omega) b hb, ReadFrame_impl 2000000 (by omega) b hb, eqByteS_eq 2000000 b b (by omega) h1]
end Go.Kb
