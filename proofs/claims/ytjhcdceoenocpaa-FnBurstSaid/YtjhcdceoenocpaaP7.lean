/- A frame hit by a burst, whole. -/
import Derived.Test.YtjhcdceoenocpaaP6
namespace Go.Kb

def ints (l : List Nat) : List Int := l.map fun n : Nat => (n : Int)
def byteN (l : List Nat) : Prop := ∀ x ∈ l, x < 256

theorem ints_getD (l : List Nat) (j : Nat) : (ints l).getD j 0 = ((l.getD j 0 : Nat) : Int) := by
  unfold ints
  simp only [List.getD_eq_getElem?_getD, List.getElem?_map]
  cases l[j]? <;> rfl
theorem ints_set (l : List Nat) (j v : Nat) : (ints l).set j (v : Int) = ints (l.set j v) := by
  unfold ints; rw [List.map_set]
theorem ints_len (l : List Nat) : (ints l).length = l.length := by simp [ints]
theorem ints_nats {b : List Int} (h : byteL b) : ints (nats b) = b := by
  unfold ints nats
  rw [List.map_map]
  calc b.map _ = b.map id := by
        apply List.map_congr_left
        intro x hx
        have := h x hx
        simp only [Function.comp_apply, id]
        omega
    _ = b := List.map_id b
theorem nats_ints (l : List Nat) : nats (ints l) = l := by
  unfold ints nats
  rw [List.map_map]
  calc l.map _ = l.map id := List.map_congr_left fun x _ => rfl
    _ = l := List.map_id l
theorem ints_byteL {l : List Nat} (h : byteN l) : byteL (ints l) := by
  intro x hx
  obtain ⟨y, hy, rfl⟩ := List.mem_map.1 hx
  have := h y hy
  omega
theorem nats_byteN {b : List Int} (h : byteL b) : byteN (nats b) := by
  intro x hx
  obtain ⟨y, hy, rfl⟩ := List.mem_map.1 hx
  have := h y hy
  omega
theorem byteN_getD {l : List Nat} (h : byteN l) (j : Nat) : l.getD j 0 < 256 := by
  rw [List.getD_eq_getElem?_getD]
  cases hj : l[j]? with
  | none => simp
  | some x => exact h x (List.mem_of_getElem? hj)
theorem xorL_byteN : ∀ {a b : List Nat}, byteN a → byteN b → byteN (xorL a b)
  | [], _, _, _ => by intro x hx; simp [xorL] at hx
  | x :: a, [], _, _ => by intro x hx; simp [xorL] at hx
  | x :: a, y :: b, ha, hb => by
    intro z hz
    rcases List.mem_cons.1 (show z ∈ (x ^^^ y) :: xorL a b from hz) with rfl | hz
    · exact Nat.xor_lt_two_pow (n := 8) (ha x (.head _)) (hb y (.head _))
    · exact xorL_byteN (fun u hu => ha u (.tail _ hu)) (fun u hu => hb u (.tail _ hu)) z hz

theorem bitXor8_nat (a b : Nat) (ha : a < 256) (hb : b < 256) : bitXor .u8 (a : Int) (b : Int) = ((a ^^^ b : Nat) : Int) := by
  have hx : a ^^^ b < 2 ^ 8 := Nat.xor_lt_two_pow (by omega) (by omega)
  have e : ∀ n : Nat, n < 256 → (BitVec.ofInt 8 (n : Int)).toNat = n := by
    intro n hn
    rw [BitVec.ofInt_natCast, BitVec.toNat_ofNat]; exact Nat.mod_eq_of_lt (by omega)
  show IntKind.u8.wrap ((BitVec.ofInt 8 (a : Int) ^^^ BitVec.ofInt 8 (b : Int)).toNat : Int) = _
  rw [BitVec.toNat_xor, e a ha, e b hb, wrap8 (by omega) (by omega)]

theorem bitAnd_nat (a b : Nat) (ha : a < 9223372036854775808) (hb : b < 9223372036854775808) : bitAnd .i64 (a : Int) (b : Int) = ((a &&& b : Nat) : Int) := by
  have hx : a &&& b ≤ b := Nat.and_le_right
  have e : ∀ n : Nat, n < 9223372036854775808 → (BitVec.ofInt 64 (n : Int)).toNat = n := by
    intro n hn
    rw [BitVec.ofInt_natCast, BitVec.toNat_ofNat]; exact Nat.mod_eq_of_lt (by omega)
  show IntKind.i64.wrap ((BitVec.ofInt 64 (a : Int) &&& BitVec.ofInt 64 (b : Int)).toNat : Int) = _
  rw [BitVec.toNat_and, e a ha, e b hb, wrap64 (by omega) (by omega)]

theorem shiftR_nat (k : IntKind) (a j : Nat) (hj : j ≤ k.bits) : shiftR k (a : Int) (j : Int) = ((a >>> j : Nat) : Int) := by
  simp only [shiftR, Int.toNat_natCast, Nat.min_eq_left hj]
  rw [Int.fdiv_eq_ediv_of_nonneg _ (by exact Int.le_of_lt (Int.pow_pos (by omega)))]
  rw [Nat.shiftRight_eq_div_pow]
  simp

theorem pat_len (p c : Nat) : ∀ (k : Nat) (l : List Nat), (pat p c k l).length = l.length
  | 0, _ => rfl
  | k + 1, l => by
    simp only [pat]
    rw [pat_len p c k]
    split <;> simp

theorem nats6 {b : List Nat} (h : b.length = 6) : ∃ b0 b1 b2 b3 b4 b5, b = [b0, b1, b2, b3, b4, b5] := by
  match b, h with
  | [b0, b1, b2, b3, b4, b5], _ => exact ⟨b0, b1, b2, b3, b4, b5, rfl⟩

theorem readF_bad (f l : List Nat) (hf : f.length = 6) (hl6 : l.length = 6) (hb : byteN f) (h0 : f.getD 0 0 = 85) (h1 : ck (f.take 5) 0 = f.getD 5 0) (hl : patBad l = true) : (readF (ints (xorL f l))).2.2 = false := by
  obtain ⟨f0, f1, f2, f3, f4, f5, rfl⟩ := nats6 hf
  obtain ⟨p0, p1, p2, p3, p4, p5, rfl⟩ := nats6 hl6
  simp only [patBad, Bool.and_eq_true, decide_eq_true_eq] at hl
  obtain ⟨hq, ⟨⟨⟨⟨g0, g1⟩, g2⟩, g3⟩, g4⟩, g5⟩ := hl
  have g : ∀ x ∈ [f0, f1, f2, f3, f4, f5], x < 256 := hb
  simp only [List.mem_cons, List.not_mem_nil, or_false, forall_eq_or_imp, forall_eq] at g
  obtain ⟨k0, k1, k2, k3, k4, k5⟩ := g
  have h0' : f0 = 85 := h0
  have h1' : ck [f0, f1, f2, f3, f4] 0 = f5 := h1
  have lin := ck_xor [f0, f1, f2, f3, f4] [p0, p1, p2, p3, p4] 0 0 rfl (by simp only [List.mem_cons, List.not_mem_nil, or_false, forall_eq_or_imp, forall_eq]; exact ⟨k0, k1, k2, k3, k4⟩) (by simp only [List.mem_cons, List.not_mem_nil, or_false, forall_eq_or_imp, forall_eq]; exact ⟨g0, g1, g2, g3, g4⟩) (by omega) (by omega)
  have e : ints (xorL [f0, f1, f2, f3, f4, f5] [p0, p1, p2, p3, p4, p5]) = [((f0 ^^^ p0 : Nat) : Int), ((f1 ^^^ p1 : Nat) : Int), ((f2 ^^^ p2 : Nat) : Int), ((f3 ^^^ p3 : Nat) : Int), ((f4 ^^^ p4 : Nat) : Int), ((f5 ^^^ p5 : Nat) : Int)] := rfl
  have en : nats [((f0 ^^^ p0 : Nat) : Int), ((f1 ^^^ p1 : Nat) : Int), ((f2 ^^^ p2 : Nat) : Int), ((f3 ^^^ p3 : Nat) : Int), ((f4 ^^^ p4 : Nat) : Int)] = xorL [f0, f1, f2, f3, f4] [p0, p1, p2, p3, p4] := rfl
  rw [e]
  simp only [readF]
  rw [en, if_neg]
  rintro ⟨a, b⟩
  have a' : f0 ^^^ p0 = 85 := by omega
  have b' : ck (xorL [f0, f1, f2, f3, f4] [p0, p1, p2, p3, p4]) 0 = f5 ^^^ p5 := Int.ofNat_inj.1 b
  rw [Nat.xor_self, b', h1'] at lin
  have c1 : p0 = 0 := by
    have : f0 ^^^ (f0 ^^^ p0) = f0 ^^^ 85 := by rw [a']
    rw [← Nat.xor_assoc, Nat.xor_self, Nat.zero_xor, h0', Nat.xor_self] at this
    exact this
  have c2 : ck [p0, p1, p2, p3, p4] 0 = p5 := by
    have : f5 ^^^ (f5 ^^^ p5) = f5 ^^^ (f5 ^^^ ck [p0, p1, p2, p3, p4] 0) := by rw [lin]
    rw [← Nat.xor_assoc, ← Nat.xor_assoc, Nat.xor_self, Nat.zero_xor, Nat.zero_xor] at this
    exact this.symm
  rw [c1] at c2
  rw [c1, c2] at hq
  simp at hq

theorem Burst_L1 (N : Nat) (hN : 10 < N) (p c : Nat) (hp : p < 41) (hc : c < 256) (f : List Nat) (hf : f.length = 6) (hb : byteN f) (h0 : f.getD 0 0 = 85) (h1 : ck (f.take 5) 0 = f.getD 5 0) :
    ∀ (m n1 : Nat) (l : List Nat), m ≤ 8 → m < n1 → l.length = 6 → byteN l → patBad (pat p c m l) = true →
    laws_FnBurst.L1 N n1 (p : Int) (c : Int) ((8 - m : Nat) : Int) (ints (xorL f l)) = some true := by
  intro m
  induction m with
  | zero =>
    intro n1 l h2 h3 h4 h5 h6
    obtain ⟨n1, rfl⟩ : ∃ j, n1 = j + 1 := ⟨n1 - 1, by omega⟩
    rw [laws_FnBurst.L1_eq]
    have hz : ¬ (((8 - 0 : Nat) : Int) < 8) := by omega
    simp only [hz, decide_false, cond_false, ReadFrame_impl N hN _ (ints_byteL (xorL_byteN hb h5)), bindO_val, readF_bad f l hf h4 hb h0 h1 h6, Bool.not_false]
  | succ m ih =>
    intro n1 l h2 h3 h4 h5 h6
    obtain ⟨n1, rfl⟩ : ∃ j, n1 = j + 1 := ⟨n1 - 1, by omega⟩
    rw [laws_FnBurst.L1_eq]
    have hz : (((8 - (m + 1) : Nat) : Int) < 8) := by omega
    have hz0 : decide ((0 : Int) ≤ ((8 - (m + 1) : Nat) : Int)) = true := by simp
    have hx : (xorL f l).length = 6 := by simp [xorL, hf, h4]
    have k7 : 8 - (m + 1) = 7 - m := by omega
    simp only [pat] at h6
    rw [k7] at hz hz0 ⊢
    have sc : c >>> (7 - m) < 256 := by rw [Nat.shiftRight_eq_div_pow]; exact Nat.lt_of_le_of_lt (Nat.div_le_self _ _) hc
    have e1 : bitAnd .i64 (shiftR .i64 (c : Int) ((7 - m : Nat) : Int)) 1 = (((c >>> (7 - m)) % 2 : Nat) : Int) := by
      rw [shiftR_nat .i64 c (7 - m) (by simp only [IntKind.bits]; omega)]
      have := bitAnd_nat (c >>> (7 - m)) 1 (by omega) (by omega)
      rw [Nat.and_one_is_mod] at this
      exact this
    have w1 : IntKind.wrap .i64 ((p : Int) + ((7 - m : Nat) : Int)) = ((p + (7 - m) : Nat) : Int) := by
      rw [wrap64 (by omega) (by omega)]; omega
    have q1 : quoI .i64 ((p + (7 - m) : Nat) : Int) 8 = (((p + (7 - m)) / 8 : Nat) : Int) := by
      unfold quoI
      rw [Int.tdiv_eq_ediv_of_nonneg (by omega), wrap64 (by omega) (by omega)]
      omega
    have t1 : Int.tmod ((p + (7 - m) : Nat) : Int) 8 = (((p + (7 - m)) % 8 : Nat) : Int) := by
      rw [Int.tmod_eq_emod_of_nonneg (by omega)]
      omega
    have hj : (p + (7 - m)) / 8 < 6 := by omega
    have w2 : IntKind.wrap .i64 (((7 - m : Nat) : Int) + 1) = ((8 - m : Nat) : Int) := by
      rw [wrap64 (by omega) (by omega)]; omega
    simp only [hz, decide_true, cond_true, hz0, e1, w1, q1, t1, w2, inRange_nat, ints_len, hx, hj, Int.toNat_natCast, ints_getD]
    have ht : decide ((0 : Int) ≤ (((p + (7 - m)) % 8 : Nat) : Int)) = true := decide_eq_true (Int.natCast_nonneg _)
    by_cases hc1 : (c >>> (7 - m)) % 2 = 1
    · rw [if_pos hc1] at h6
      have he : ((((c >>> (7 - m)) % 2 : Nat) : Int) == 1) = true := by rw [hc1]; rfl
      have s1 : shiftR .u8 128 (((p + (7 - m)) % 8 : Nat) : Int) = ((128 >>> ((p + (7 - m)) % 8) : Nat) : Int) := shiftR_nat .u8 128 _ (by simp only [IntKind.bits]; omega)
      have s2 : 128 >>> ((p + (7 - m)) % 8) < 256 := by rw [Nat.shiftRight_eq_div_pow]; exact Nat.lt_of_le_of_lt (Nat.div_le_self _ _) (by omega)
      simp only [he, cond_true, ht, s1]
      rw [bitXor8_nat _ _ (byteN_getD (xorL_byteN hb h5) _) s2, ints_set, ← xorL_set f l _ _ (by omega)]
      refine ih n1 _ (by omega) (by omega) (by simp [h4]) ?_ h6
      intro x hx
      rcases List.mem_or_eq_of_mem_set hx with hx | rfl
      · exact h5 x hx
      · exact Nat.xor_lt_two_pow (n := 8) (byteN_getD h5 _) s2
    · rw [if_neg hc1] at h6
      have he : ((((c >>> (7 - m)) % 2 : Nat) : Int) == 1) = false := by
        rw [beqI]; exact decide_eq_false (by omega)
      simp only [he, cond_false]
      exact ih n1 _ (by omega) (by omega) h4 h5 h6

theorem xorL_zero : ∀ (f : List Nat), f.length = 6 → xorL f [0, 0, 0, 0, 0, 0] = f := by
  intro f hf
  match f, hf with
  | [a, b, c, d, e, g], _ => simp [xorL]

theorem FnBurst_true (code : List Int) : laws_FnBurst.F 2000000 code = some true := by
  rw [laws_FnBurst.F_eq, laws_big.F_eq]
  by_cases hl : (code.length : Int) > 1048576
  · simp [hl]
  · have hc : code.length ≤ maxN := by unfold maxN; omega
    obtain ⟨n, en, n1, n2⟩ := MakeNumber_ok 2000000 code 126 256 hc (by omega) (by omega)
    obtain ⟨m, em, m1, m2⟩ := MakeMask_ok 2000000 code 127 hc (by omega)
    obtain ⟨a, ea, a1, a2⟩ := MakeNumber_ok 2000000 code 128 41 hc (by omega) (by omega)
    obtain ⟨v, ev, v1, v2⟩ := MakeNumber_ok 2000000 code 129 255 hc (by omega) (by omega)
    have hv : 0 ≤ n ∧ n ≤ 255 ∧ 0 ≤ m ∧ m ≤ 16777215 := by omega
    have lf : (frame n m).length = 6 := rfl
    have hb := frame_bytes hv
    obtain ⟨p, rfl⟩ := Int.eq_ofNat_of_zero_le a1
    obtain ⟨w, rfl⟩ := Int.eq_ofNat_of_zero_le v1
    have m0 : (6 : Nat) ≤ maxN := by unfold maxN; omega
    have m6 : (((6 : Nat) : Int) != 6) = false := rfl
    simp only [hl, decide_false, bindO_val, cond_false, en, em, LinkFrame_impl 2000000 (by omega), if_pos hv]
    simp only [ReadFrame_impl 2000000 (by omega) _ hb, readF_frame hv, bindO_val, Bool.not_true, cond_false]
    simp only [lf, m6, cond_false]
    simp only [if_pos hv, BEq.rfl, Bool.not_true, cond_false]
    simp only [ea, ev, bindO_val]
    simp only [List.length_nil, Nat.zero_add, m0, decide_true, cond_true, List.nil_append]
    rw [wrap64 (by omega) (by omega), show (1 : Int) + (w : Int) = ((w + 1 : Nat) : Int) by omega]
    have hf : (nats (frame n m)).length = 6 := rfl
    have en : nats (frame n m) = nats (f5 n m) ++ [ck (nats (f5 n m)) 0] := by
      unfold frame
      simp only [nats, List.map_append, List.map_cons, List.map_nil, Int.toNat_natCast]
    have l5 : (nats (f5 n m)).length = 5 := by simp [nats, f5]
    have h0 : (nats (frame n m)).getD 0 0 = 85 := by rw [en]; rfl
    have h1 : ck ((nats (frame n m)).take 5) 0 = (nats (frame n m)).getD 5 0 := by
      rw [en, List.take_left' l5, List.getD_eq_getElem?_getD, List.getElem?_append_right (by omega), l5]
      simp
    have hpb := pats_bad
    have hpb := List.all_eq_true.1 hpb p (List.mem_range.2 (by omega))
    have hpb := List.all_eq_true.1 hpb w (List.mem_range.2 (by omega))
    have := Burst_L1 2000000 (by omega) p (w + 1) (by omega) (by omega) (nats (frame n m)) hf (nats_byteN hb) h0 h1 8 2000000 [0, 0, 0, 0, 0, 0] (by omega) (by omega) rfl (by simp [byteN]) hpb
    rw [xorL_zero _ hf, ints_nats hb, show ((8 - 8 : Nat) : Int) = 0 from rfl] at this
    exact this
end Go.Kb
