/- How many bits a mask has: the library's way and the reference's. -/
import Derived.Test.YtnoifcpgionjkaaCombinedP8
import Derived.Test.YtnoifcpgionjkaaCombinedF4
namespace Go.Kb

theorem shr_nat (k : IntKind) (a j : Nat) (hj : j ≤ k.bits) : shiftR k (a : Int) (j : Int) = ((a >>> j : Nat) : Int) := by
  simp only [shiftR, Int.toNat_natCast, Nat.min_eq_left hj]
  rw [Int.fdiv_eq_ediv_of_nonneg _ (by exact Int.le_of_lt (Int.pow_pos (by omega)))]
  rw [Nat.shiftRight_eq_div_pow]
  simp

theorem wrapU {a : Nat} (h : a < 18446744073709551616) : IntKind.wrap .u64 (a : Int) = (a : Int) := by
  have e : IntKind.wrap .u64 (a : Int) = (a : Int) % 18446744073709551616 := by simp [IntKind.wrap, IntKind.bits, IntKind.signed]
  omega

theorem andU (a b : Nat) (ha : a < 18446744073709551616) (hb : b < 18446744073709551616) : bitAnd .u64 (a : Int) (b : Int) = ((a &&& b : Nat) : Int) := by
  have hx : a &&& b ≤ b := Nat.and_le_right
  have e : ∀ n : Nat, n < 18446744073709551616 → (BitVec.ofInt 64 (n : Int)).toNat = n := by
    intro n hn
    rw [BitVec.ofInt_natCast, BitVec.toNat_ofNat]; exact Nat.mod_eq_of_lt (by omega)
  show IntKind.u64.wrap ((BitVec.ofInt 64 (a : Int) &&& BitVec.ofInt 64 (b : Int)).toNat : Int) = _
  rw [BitVec.toNat_and, e a ha, e b hb, wrapU (by omega)]

theorem andI (a b : Nat) (ha : a < 9223372036854775808) (hb : b < 9223372036854775808) : bitAnd .i64 (a : Int) (b : Int) = ((a &&& b : Nat) : Int) := by
  have hx : a &&& b ≤ b := Nat.and_le_right
  have e : ∀ n : Nat, n < 9223372036854775808 → (BitVec.ofInt 64 (n : Int)).toNat = n := by
    intro n hn
    rw [BitVec.ofInt_natCast, BitVec.toNat_ofNat]; exact Nat.mod_eq_of_lt (by omega)
  show IntKind.i64.wrap ((BitVec.ofInt 64 (a : Int) &&& BitVec.ofInt 64 (b : Int)).toNat : Int) = _
  rw [BitVec.toNat_and, e a ha, e b hb, wrap64 (by omega) (by omega)]

/-! ### the library's way, in natural numbers -/
def n1 (x : Nat) : Nat := ((x >>> 1) &&& 6148914691236517205) + (x &&& 6148914691236517205)
def n2 (x : Nat) : Nat := ((x >>> 2) &&& 3689348814741910323) + (x &&& 3689348814741910323)
def n3 (x : Nat) : Nat := ((x >>> 4) + x) &&& 1085102592571150095
def n4 (x : Nat) : Nat := x + (x >>> 8)
def n5 (x : Nat) : Nat := x + (x >>> 16)
def n6 (x : Nat) : Nat := x + (x >>> 32)

theorem shr_le (x k : Nat) : x >>> k ≤ x := by rw [Nat.shiftRight_eq_div_pow]; exact Nat.div_le_self _ _

theorem Ones_nat (N x : Nat) (h : x < 16777216) : math_bits_OnesCount64.F N (x : Int) = some (((n6 (n5 (n4 (n3 (n2 (n1 x)))))) &&& 127 : Nat) : Int) := by
  rw [math_bits_OnesCount64.F_eq]
  have sh : ∀ a j : Nat, j ≤ 64 → shiftR .u64 (a : Int) (j : Int) = ((a >>> j : Nat) : Int) := fun a j hj => shr_nat .u64 a j hj
  have b1 : n1 x < 50331648 := by
    unfold n1
    have g1 : (x >>> 1) &&& 6148914691236517205 ≤ x >>> 1 := Nat.and_le_left
    have g2 : x &&& 6148914691236517205 ≤ x := Nat.and_le_left
    have g3 := shr_le x 1
    omega
  have b2 : n2 (n1 x) < 150994944 := by
    have g1 : ((n1 x) >>> 2) &&& 3689348814741910323 ≤ (n1 x) >>> 2 := Nat.and_le_left
    have g2 : (n1 x) &&& 3689348814741910323 ≤ n1 x := Nat.and_le_left
    have g3 := shr_le (n1 x) 2
    unfold n2
    omega
  have b3 : n3 (n2 (n1 x)) < 301989888 := by
    have g1 : ((n2 (n1 x)) >>> 4 + n2 (n1 x)) &&& 1085102592571150095 ≤ (n2 (n1 x)) >>> 4 + n2 (n1 x) := Nat.and_le_left
    have g3 := shr_le (n2 (n1 x)) 4
    unfold n3
    omega
  have b4 : n4 (n3 (n2 (n1 x))) < 603979776 := by
    have g3 := shr_le (n3 (n2 (n1 x))) 8
    unfold n4
    omega
  have b5 : n5 (n4 (n3 (n2 (n1 x)))) < 1207959552 := by
    have g3 := shr_le (n4 (n3 (n2 (n1 x)))) 16
    unfold n5
    omega
  have b6 : n6 (n5 (n4 (n3 (n2 (n1 x))))) < 2415919104 := by
    have g3 := shr_le (n5 (n4 (n3 (n2 (n1 x))))) 32
    unfold n6
    omega
  have h1 : IntKind.wrap .u64 ((bitAnd .u64 (shiftR .u64 (x : Int) 1) 6148914691236517205) + (bitAnd .u64 (x : Int) 6148914691236517205)) = ((n1 x : Nat) : Int) := by
    have s := sh x 1 (by omega)
    have a1 := andU (x >>> 1) 6148914691236517205 (by have := shr_le x 1; omega) (by omega)
    have a2 := andU x 6148914691236517205 (by omega) (by omega)
    rw [show ((1 : Nat) : Int) = 1 from rfl] at s
    rw [show ((6148914691236517205 : Nat) : Int) = 6148914691236517205 from rfl] at a1 a2
    rw [s, a1, a2, ← Int.natCast_add]
    exact wrapU (by show n1 x < _; omega)
  have h2 : IntKind.wrap .u64 ((bitAnd .u64 (shiftR .u64 ((n1 x : Nat) : Int) 2) 3689348814741910323) + (bitAnd .u64 ((n1 x : Nat) : Int) 3689348814741910323)) = ((n2 (n1 x) : Nat) : Int) := by
    have s := sh (n1 x) 2 (by omega)
    have a1 := andU ((n1 x) >>> 2) 3689348814741910323 (by have := shr_le (n1 x) 2; omega) (by omega)
    have a2 := andU (n1 x) 3689348814741910323 (by omega) (by omega)
    rw [show ((2 : Nat) : Int) = 2 from rfl] at s
    rw [show ((3689348814741910323 : Nat) : Int) = 3689348814741910323 from rfl] at a1 a2
    rw [s, a1, a2, ← Int.natCast_add]
    exact wrapU (by show n2 (n1 x) < _; omega)
  have h3 : bitAnd .u64 (IntKind.wrap .u64 ((shiftR .u64 ((n2 (n1 x) : Nat) : Int) 4) + ((n2 (n1 x) : Nat) : Int))) 1085102592571150095 = ((n3 (n2 (n1 x)) : Nat) : Int) := by
    have s := sh (n2 (n1 x)) 4 (by omega)
    have g := shr_le (n2 (n1 x)) 4
    have a1 := andU ((n2 (n1 x)) >>> 4 + n2 (n1 x)) 1085102592571150095 (by omega) (by omega)
    rw [show ((4 : Nat) : Int) = 4 from rfl] at s
    rw [show ((1085102592571150095 : Nat) : Int) = 1085102592571150095 from rfl] at a1
    rw [s, ← Int.natCast_add, wrapU (by omega), a1]
    rfl
  have h4 : IntKind.wrap .u64 (((n3 (n2 (n1 x)) : Nat) : Int) + (shiftR .u64 ((n3 (n2 (n1 x)) : Nat) : Int) 8)) = ((n4 (n3 (n2 (n1 x))) : Nat) : Int) := by
    have s := sh (n3 (n2 (n1 x))) 8 (by omega)
    rw [show ((8 : Nat) : Int) = 8 from rfl] at s
    rw [s, ← Int.natCast_add]
    exact wrapU (by show n4 _ < _; omega)
  have h5 : IntKind.wrap .u64 (((n4 (n3 (n2 (n1 x))) : Nat) : Int) + (shiftR .u64 ((n4 (n3 (n2 (n1 x))) : Nat) : Int) 16)) = ((n5 (n4 (n3 (n2 (n1 x)))) : Nat) : Int) := by
    have s := sh (n4 (n3 (n2 (n1 x)))) 16 (by omega)
    rw [show ((16 : Nat) : Int) = 16 from rfl] at s
    rw [s, ← Int.natCast_add]
    exact wrapU (by show n5 _ < _; omega)
  have h6 : IntKind.wrap .u64 (((n5 (n4 (n3 (n2 (n1 x)))) : Nat) : Int) + (shiftR .u64 ((n5 (n4 (n3 (n2 (n1 x)))) : Nat) : Int) 32)) = ((n6 (n5 (n4 (n3 (n2 (n1 x))))) : Nat) : Int) := by
    have s := sh (n5 (n4 (n3 (n2 (n1 x))))) 32 (by omega)
    rw [show ((32 : Nat) : Int) = 32 from rfl] at s
    rw [s, ← Int.natCast_add]
    exact wrapU (by show n6 _ < _; omega)
  have w2 : IntKind.wrap .u64 ((n2 (n1 x) : Nat) : Int) = ((n2 (n1 x) : Nat) : Int) := wrapU (by omega)
  have h7 : bitAnd .i64 (IntKind.wrap .i64 ((n6 (n5 (n4 (n3 (n2 (n1 x))))) : Nat) : Int)) 127 = (((n6 (n5 (n4 (n3 (n2 (n1 x)))))) &&& 127 : Nat) : Int) := by
    rw [wrap64 (by omega) (by omega)]
    exact andI _ 127 (by omega) (by omega)
  simp only [h1, h2, h3, h4, h5, h6, h7]

/-! ### the sum of the bits -/
def cntN : Nat → Nat → Nat
  | 0, _ => 0
  | m + 1, x => x % 2 + cntN m (x / 2)

theorem cntN_split : ∀ (a m b r : Nat), b < 2 ^ a → cntN (a + m) (b + 2 ^ a * r) = cntN a b + cntN m r
  | 0, m, b, r, h => by
    have hb : b = 0 := by simp at h; exact h
    subst hb
    simp [cntN]
  | a + 1, m, b, r, h => by
    have e : a + 1 + m = (a + m) + 1 := by omega
    rw [e]
    simp only [cntN]
    have p : 2 ^ (a + 1) = 2 * 2 ^ a := by rw [Nat.pow_succ]; omega
    rw [p, Nat.mul_assoc]
    rw [p] at h
    have d : (b + 2 * (2 ^ a * r)) / 2 = b / 2 + 2 ^ a * r := by omega
    have q : (b + 2 * (2 ^ a * r)) % 2 = b % 2 := by omega
    rw [d, q, cntN_split a m (b / 2) r (by omega), Nat.add_assoc]

theorem Count_L1 (N x : Nat) (hx : x < 16777216) : ∀ (m n c : Nat), m ≤ 32 → m < n → c + m ≤ 32 → spec_l11Count.L1 N n (x : Int) (c : Int) ((32 - m : Nat) : Int) = some ((c + cntN m (x >>> (32 - m)) : Nat) : Int) := by
  intro m
  induction m with
  | zero =>
    intro n c h1 h2 h3
    obtain ⟨n, rfl⟩ : ∃ j, n = j + 1 := ⟨n - 1, by omega⟩
    rw [spec_l11Count.L1_eq]
    have hz : ¬ (((32 - 0 : Nat) : Int) ≤ 31) := by omega
    simp only [hz, decide_false, condF, cntN, Nat.add_zero]
  | succ m ih =>
    intro n c h1 h2 h3
    obtain ⟨n, rfl⟩ : ∃ j, n = j + 1 := ⟨n - 1, by omega⟩
    rw [spec_l11Count.L1_eq]
    have hz : ((32 - (m + 1) : Nat) : Int) ≤ 31 := by omega
    have h0 : (0 : Int) ≤ ((32 - (m + 1) : Nat) : Int) := by omega
    have s := shr_nat .i64 x (32 - (m + 1)) (by simp only [IntKind.bits]; omega)
    have hs := shr_le x (32 - (m + 1))
    have a := andI (x >>> (32 - (m + 1))) 1 (by omega) (by omega)
    rw [show ((1 : Nat) : Int) = 1 from rfl, Nat.and_one_is_mod] at a
    have w1 : IntKind.wrap .i64 ((c : Int) + (((x >>> (32 - (m + 1))) % 2 : Nat) : Int)) = ((c + (x >>> (32 - (m + 1))) % 2 : Nat) : Int) := by
      rw [wrap64 (by omega) (by omega)]; omega
    have w2 : IntKind.wrap .i64 (((32 - (m + 1) : Nat) : Int) + 1) = ((32 - m : Nat) : Int) := by
      rw [wrap64 (by omega) (by omega)]; omega
    simp only [hz, h0, decide_true, condT, s, a, w1, w2]
    rw [ih n _ (by omega) (by omega) (by omega)]
    have e : x >>> (32 - m) = (x >>> (32 - (m + 1))) / 2 := by
      rw [show 32 - m = (32 - (m + 1)) + 1 by omega, Nat.shiftRight_succ]
    rw [e, Nat.add_assoc]
    rfl

theorem Count_eq (N x : Nat) (hN : 40 < N) (hx : x < 16777216) : spec_l11Count.F N (x : Int) = some ((cntN 32 x : Nat) : Int) := by
  rw [spec_l11Count.F_eq]
  have := Count_L1 N x hx 32 N 0 (by omega) (by omega) (by omega)
  simp only [Nat.sub_self, Int.natCast_zero, Nat.shiftRight_zero, Nat.zero_add] at this
  exact this

/-! ### byte by byte -/
theorem and_split (a h ma mh : Nat) (ha : a < 256) (hm : ma < 256) : (a + 256 * h) &&& (ma + 256 * mh) = (a &&& ma) + 256 * (h &&& mh) := by
  have e1 : ((a + 256 * h) &&& (ma + 256 * mh)) % 2 ^ 8 = a &&& ma := by
    rw [Nat.and_mod_two_pow, show (a + 256 * h) % 2 ^ 8 = a by omega, show (ma + 256 * mh) % 2 ^ 8 = ma by omega]
  have e2 : ((a + 256 * h) &&& (ma + 256 * mh)) / 2 ^ 8 = h &&& mh := by
    rw [Nat.and_div_two_pow, show (a + 256 * h) / 2 ^ 8 = h by omega, show (ma + 256 * mh) / 2 ^ 8 = mh by omega]
  omega

theorem and3 (c0 c1 c2 m r : Nat) (h0 : c0 < 256) (h1 : c1 < 256) (h2 : c2 < 256) (hm : m < 256) : (c0 + 256 * (c1 + 256 * c2)) &&& (m + 256 * (m + 256 * (m + 256 * r))) = (c0 &&& m) + 256 * ((c1 &&& m) + 256 * (c2 &&& m)) := by
  rw [and_split _ _ _ _ h0 hm, and_split _ _ _ _ h1 hm]
  have := and_split c2 0 m r h2 hm
  rw [Nat.mul_zero, Nat.zero_and, Nat.mul_zero, Nat.add_zero, Nat.add_zero] at this
  rw [this]

def t1 (b : Nat) : Nat := ((b / 2) &&& 85) + (b &&& 85)
def t2 (b : Nat) : Nat := ((b / 4) &&& 51) + (b &&& 51)
def t3 (b : Nat) : Nat := (b / 16 + b) &&& 15

theorem t1_lt : ∀ b, b < 256 → t1 b < 256 := by decide +kernel
theorem f1 : ∀ b, b < 256 → ∀ e, e < 2 → (b / 2 + 128 * e) &&& 85 = (b / 2) &&& 85 := by decide +kernel
theorem f2 : ∀ b, b < 256 → ∀ e, e < 4 → (b / 4 + 64 * e) &&& 51 = (b / 4) &&& 51 := by decide +kernel
theorem f3 : ∀ b, b < 256 → t2 (t1 b) % 16 ≤ 4 ∧ t2 (t1 b) ≤ 68 := by decide +kernel
theorem f4 : ∀ b, b < 256 → ∀ e, e < 5 → (t2 (t1 b) / 16 + 16 * e + t2 (t1 b)) &&& 15 = t3 (t2 (t1 b)) := by decide +kernel
theorem f5_ : ∀ b, b < 256 → t3 (t2 (t1 b)) = cntN 8 b := by decide +kernel
theorem f6 : ∀ b, b < 256 → cntN 8 b ≤ 8 := by decide +kernel

theorem n1_split (b0 b1 b2 : Nat) (h0 : b0 < 256) (h1 : b1 < 256) (h2 : b2 < 256) : n1 (b0 + 256 * (b1 + 256 * b2)) = t1 b0 + 256 * (t1 b1 + 256 * t1 b2) := by
  have m : 6148914691236517205 = 85 + 256 * (85 + 256 * (85 + 256 * 366503875925)) := by decide
  have s : (b0 + 256 * (b1 + 256 * b2)) >>> 1 = (b0 / 2 + 128 * (b1 % 2)) + 256 * ((b1 / 2 + 128 * (b2 % 2)) + 256 * (b2 / 2 + 128 * 0)) := by
    rw [Nat.shiftRight_eq_div_pow]; omega
  unfold n1 t1
  rw [s, m, and3 _ _ _ _ _ (by omega) (by omega) (by omega) (by omega), and3 _ _ _ _ _ h0 h1 h2 (by omega), f1 b0 h0 _ (by omega), f1 b1 h1 _ (by omega), f1 b2 h2 0 (by omega)]
  omega

theorem n2_split (b0 b1 b2 : Nat) (h0 : b0 < 256) (h1 : b1 < 256) (h2 : b2 < 256) : n2 (b0 + 256 * (b1 + 256 * b2)) = t2 b0 + 256 * (t2 b1 + 256 * t2 b2) := by
  have m : 3689348814741910323 = 51 + 256 * (51 + 256 * (51 + 256 * 219902325555)) := by decide
  have s : (b0 + 256 * (b1 + 256 * b2)) >>> 2 = (b0 / 4 + 64 * (b1 % 4)) + 256 * ((b1 / 4 + 64 * (b2 % 4)) + 256 * (b2 / 4 + 64 * 0)) := by
    rw [Nat.shiftRight_eq_div_pow]; omega
  unfold n2 t2
  rw [s, m, and3 _ _ _ _ _ (by omega) (by omega) (by omega) (by omega), and3 _ _ _ _ _ h0 h1 h2 (by omega), f2 b0 h0 _ (by omega), f2 b1 h1 _ (by omega), f2 b2 h2 0 (by omega)]
  omega

theorem n3_split (b0 b1 b2 : Nat) (h0 : b0 < 256) (h1 : b1 < 256) (h2 : b2 < 256) : n3 (t2 (t1 b0) + 256 * (t2 (t1 b1) + 256 * t2 (t1 b2))) = t3 (t2 (t1 b0)) + 256 * (t3 (t2 (t1 b1)) + 256 * t3 (t2 (t1 b2))) := by
  have m : 1085102592571150095 = 15 + 256 * (15 + 256 * (15 + 256 * 64677154575)) := by decide
  have g0 := f3 b0 h0
  have g1 := f3 b1 h1
  have g2 := f3 b2 h2
  have k0 := f4 b0 h0 (t2 (t1 b1) % 16) (by omega)
  have k1 := f4 b1 h1 (t2 (t1 b2) % 16) (by omega)
  have k2 := f4 b2 h2 0 (by omega)
  generalize t2 (t1 b0) = e0 at *
  generalize t2 (t1 b1) = e1 at *
  generalize t2 (t1 b2) = e2 at *
  have s : (e0 + 256 * (e1 + 256 * e2)) >>> 4 + (e0 + 256 * (e1 + 256 * e2)) = (e0 / 16 + 16 * (e1 % 16) + e0) + 256 * ((e1 / 16 + 16 * (e2 % 16) + e1) + 256 * (e2 / 16 + 16 * 0 + e2)) := by
    rw [Nat.shiftRight_eq_div_pow]; omega
  unfold n3
  rw [s, m, and3 _ _ _ _ _ (by omega) (by omega) (by omega) (by omega), k0, k1, k2]

theorem ones_bytes (b0 b1 b2 : Nat) (h0 : b0 < 256) (h1 : b1 < 256) (h2 : b2 < 256) : (n6 (n5 (n4 (n3 (n2 (n1 (b0 + 256 * (b1 + 256 * b2)))))))) &&& 127 = cntN 8 b0 + (cntN 8 b1 + cntN 8 b2) := by
  rw [n1_split b0 b1 b2 h0 h1 h2, n2_split _ _ _ (t1_lt b0 h0) (t1_lt b1 h1) (t1_lt b2 h2), n3_split b0 b1 b2 h0 h1 h2, f5_ b0 h0, f5_ b1 h1, f5_ b2 h2]
  have g0 := f6 b0 h0
  have g1 := f6 b1 h1
  have g2 := f6 b2 h2
  generalize cntN 8 b0 = p0 at *
  generalize cntN 8 b1 = p1 at *
  generalize cntN 8 b2 = p2 at *
  have e4 : n4 (p0 + 256 * (p1 + 256 * p2)) = (p0 + p1) + 256 * ((p1 + p2) + 256 * p2) := by
    unfold n4; rw [Nat.shiftRight_eq_div_pow]; omega
  have e5 : n5 ((p0 + p1) + 256 * ((p1 + p2) + 256 * p2)) = (p0 + p1 + p2) + 256 * ((p1 + p2) + 256 * p2) := by
    unfold n5; rw [Nat.shiftRight_eq_div_pow]; omega
  have e6 : n6 ((p0 + p1 + p2) + 256 * ((p1 + p2) + 256 * p2)) = (p0 + p1 + p2) + 256 * ((p1 + p2) + 256 * p2) := by
    unfold n6; rw [Nat.shiftRight_eq_div_pow]; omega
  rw [e4, e5, e6]
  have := Nat.and_two_pow_sub_one_eq_mod ((p0 + p1 + p2) + 256 * ((p1 + p2) + 256 * p2)) 7
  rw [show (2 ^ 7 - 1 : Nat) = 127 from rfl] at this
  rw [this]
  omega

theorem cnt_bytes (b0 b1 b2 : Nat) (h0 : b0 < 256) (h1 : b1 < 256) (h2 : b2 < 256) : cntN 32 (b0 + 256 * (b1 + 256 * b2)) = cntN 8 b0 + (cntN 8 b1 + cntN 8 b2) := by
  have a0 := cntN_split 8 24 b0 (b1 + 256 * b2) (by omega)
  have a1 := cntN_split 8 16 b1 b2 (by omega)
  have a2 := cntN_split 8 8 b2 0 (by omega)
  rw [show (2 ^ 8 : Nat) = 256 from rfl] at a0 a1 a2
  simp only [Nat.mul_zero, Nat.add_zero] at a2
  rw [show (32 : Nat) = 8 + 24 from rfl, a0, show (24 : Nat) = 8 + 16 from rfl, a1, show (16 : Nat) = 8 + 8 from rfl, a2]
  have z : cntN 8 0 = 0 := by decide
  rw [z, Nat.add_zero]

theorem Ones_eq (N : Nat) (x : Int) (h : 0 ≤ x ∧ x ≤ 16777215) : ∃ c : Int, (∀ M, 40 < M → spec_l11Count.F M x = some c) ∧ math_bits_OnesCount.F N (IntKind.wrap .u64 x) = some c := by
  obtain ⟨n, rfl⟩ := Int.eq_ofNat_of_zero_le h.1
  have hn : n < 16777216 := by omega
  refine ⟨((cntN 32 n : Nat) : Int), fun M hM => Count_eq M n hM hn, ?_⟩
  rw [wrapU (by omega), math_bits_OnesCount.F_eq, Ones_nat N n hn, bindV]
  have e : n = n % 256 + 256 * (n / 256 % 256 + 256 * (n / 65536)) := by omega
  have a := ones_bytes (n % 256) (n / 256 % 256) (n / 65536) (by omega) (by omega) (by omega)
  have b := cnt_bytes (n % 256) (n / 256 % 256) (n / 65536) (by omega) (by omega) (by omega)
  rw [← e] at a b
  rw [a, b]
end Go.Kb
