/- Masks; events that follow from what is held; the checks of queues. -/
import Derived.Test.YtnoifcpgionjkaaCombinedP29
namespace Go.Kb

/-! ### masks -/
theorem andNotN (a b : Nat) (ha : a < 9223372036854775808) (hb : b < 9223372036854775808) : bitAndNot .i64 (a : Int) (b : Int) = ((a ^^^ (a &&& b) : Nat) : Int) := by
  have hx : a ^^^ (a &&& b) < 2 ^ 63 := Nat.xor_lt_two_pow (by omega) (Nat.lt_of_le_of_lt Nat.and_le_left (by omega))
  have e : ∀ n : Nat, n < 9223372036854775808 → (BitVec.ofInt 64 (n : Int)).toNat = n := by
    intro n hn
    rw [BitVec.ofInt_natCast, BitVec.toNat_ofNat]; exact Nat.mod_eq_of_lt (by omega)
  show IntKind.i64.wrap ((BitVec.ofInt 64 (a : Int) &&& ~~~(BitVec.ofInt 64 (b : Int))).toNat : Int) = _
  have h : ∀ x y : BitVec 64, x &&& ~~~y = x ^^^ (x &&& y) := by
    intro x y
    apply BitVec.eq_of_getLsbD_eq
    intro i hi
    simp only [BitVec.getLsbD_and, BitVec.getLsbD_not, BitVec.getLsbD_xor, hi, decide_true, Bool.true_and]
    cases x.getLsbD i <;> cases y.getLsbD i <;> rfl
  rw [h, BitVec.toNat_xor, BitVec.toNat_and, e a ha, e b hb, wrap64 (by omega) (by omega)]

/-- a mask without a bit -/
def clr (x k : Nat) : Nat := x ^^^ (x &&& 2 ^ k)
theorem clr_bit (x k i : Nat) : (clr x k).testBit i = (x.testBit i && !decide (k = i)) := by
  unfold clr
  simp only [Nat.testBit_xor, Nat.testBit_and, Nat.testBit_two_pow]
  cases x.testBit i <;> cases decide (k = i) <;> rfl
theorem or_bit (x k i : Nat) : (x ||| 2 ^ k).testBit i = (x.testBit i || decide (k = i)) := by
  simp only [Nat.testBit_or, Nat.testBit_two_pow]
theorem xor_bit (x k i : Nat) : (x ^^^ 2 ^ k).testBit i = (x.testBit i ^^ decide (k = i)) := by
  simp only [Nat.testBit_xor, Nat.testBit_two_pow]
theorem xor_clr {x k : Nat} (h : x.testBit k = true) : x ^^^ 2 ^ k = clr x k := by
  apply Nat.eq_of_testBit_eq; intro i
  rw [xor_bit, clr_bit]
  by_cases hk : k = i
  · subst hk; rw [h]; simp
  · simp [hk]
theorem xor_or {x k : Nat} (h : x.testBit k = false) : x ^^^ 2 ^ k = x ||| 2 ^ k := by
  apply Nat.eq_of_testBit_eq; intro i
  rw [xor_bit, or_bit]
  by_cases hk : k = i
  · subst hk; rw [h]; simp
  · simp [hk]
theorem clr_le (x k : Nat) : clr x k ≤ x := by
  by_cases h : x.testBit k = true
  · rw [← xor_clr h]
    apply Nat.le_of_testBit
    intro i hi
    rw [xor_bit] at hi
    by_cases hk : k = i
    · subst hk; exact h
    · simpa [hk] using hi
  · have : clr x k = x := by
      apply Nat.eq_of_testBit_eq; intro i
      rw [clr_bit]
      by_cases hk : k = i
      · subst hk; simp at h; rw [h]; rfl
      · simp [hk]
    omega
theorem two_pow_small {k : Nat} (h : k ≤ 31) : 2 ^ k ≤ 2147483648 := by
  have := Nat.pow_le_pow_right (show 0 < 2 by omega) h
  exact this
theorem or_lt24 {a b : Nat} (ha : a < 16777216) (hb : b < 16777216) : a ||| b < 16777216 := by
  have := Nat.or_lt_two_pow (n := 24) (x := a) (y := b) (by omega) (by omega)
  omega
theorem pow_lt24 {k : Nat} (h : k < 24) : 2 ^ k < 16777216 := by
  have : 2 ^ k < 2 ^ 24 := Nat.pow_lt_pow_right (by omega) h
  omega
theorem pow_lt32 {k : Nat} (h : k < 32) : 2 ^ k < 4294967296 := by
  have : 2 ^ k < 2 ^ 32 := Nat.pow_lt_pow_right (by omega) h
  omega
theorem bit24 {x i : Nat} (h : x < 16777216) (hi : 24 ≤ i) : x.testBit i = false := by
  apply Nat.testBit_lt_two_pow
  have : 2 ^ 24 ≤ 2 ^ i := Nat.pow_le_pow_right (by omega) hi
  omega
theorem bitK_nat {k : Nat} (h : k ≤ 31) : bitK (k : Int) = ((2 ^ k : Nat) : Int) := shl_one k h
/-- a bit of a mask, as the program reads it -/
theorem bitOf {m k : Nat} (hm : m < 4294967296) (hk : k ≤ 31) : (bitAnd .i64 (shiftR .i64 (m : Int) (k : Int)) 1 == 1) = m.testBit k := by
  have hl := shr_le m k
  have a := andI (m >>> k) 1 (by omega) (by omega)
  rw [show ((1 : Nat) : Int) = 1 from rfl, Nat.and_one_is_mod] at a
  rw [shr_nat .i64 m k (by simp only [IntKind.bits]; omega), a, Nat.testBit_eq_decide_div_mod_eq, ← Nat.shiftRight_eq_div_pow, beqI]
  by_cases h : m >>> k % 2 = 1
  · rw [decide_eq_true h, decide_eq_true (by omega)]
  · rw [decide_eq_false h, decide_eq_false (by omega)]
theorem bitOf0 {m k : Nat} (hm : m < 4294967296) (hk : k ≤ 31) : (bitAnd .i64 (shiftR .i64 (m : Int) (k : Int)) 1 == 0) = !m.testBit k := by
  have hl := shr_le m k
  have a := andI (m >>> k) 1 (by omega) (by omega)
  rw [show ((1 : Nat) : Int) = 1 from rfl, Nat.and_one_is_mod] at a
  rw [shr_nat .i64 m k (by simp only [IntKind.bits]; omega), a, Nat.testBit_eq_decide_div_mod_eq, ← Nat.shiftRight_eq_div_pow, beqI]
  by_cases h : m >>> k % 2 = 1
  · rw [decide_eq_true h, decide_eq_false (by omega)]; rfl
  · rw [decide_eq_false h, decide_eq_true (by omega)]; rfl
theorem xorI {h k : Nat} (hh : h < 4294967296) (hk : k ≤ 31) : bitXor .i64 (h : Int) (shiftL .i64 1 (k : Int)) = ((h ^^^ 2 ^ k : Nat) : Int) := by
  have p := two_pow_small hk
  rw [shl_one k hk]
  exact bitXor_nat h (2 ^ k) (by omega) (by omega)
theorem orI {h k : Nat} (hh : h < 4294967296) (hk : k ≤ 31) : bitOr .i64 (h : Int) (bitK (k : Int)) = ((h ||| 2 ^ k : Nat) : Int) := by
  have p := two_pow_small hk
  rw [bitK_nat hk]
  exact bitOr_nat h (2 ^ k) (by omega) (by omega)
theorem clrI {h k : Nat} (hh : h < 4294967296) (hk : k ≤ 31) : bitAndNot .i64 (h : Int) (bitK (k : Int)) = ((clr h k : Nat) : Int) := by
  have p := two_pow_small hk
  rw [bitK_nat hk]
  exact andNotN h (2 ^ k) (by omega) (by omega)

/-! ### events that follow from what is held -/
def fol (K : Nat) : Nat → Int → List Ev → Prop
  | _, _, [] => True
  | h, t, e :: r => t ≤ e.1 ∧ e.1 ≤ 1000000 ∧ ∃ k : Nat, k < K ∧ e.2.1 = (k : Int) ∧ e.2.2 = !(h.testBit k) ∧ fol K (h ^^^ 2 ^ k) e.1 r
def hA (h : Nat) (l : List Ev) : Nat := l.foldl (fun h e => h ^^^ 2 ^ e.2.1.toNat) h
def lT (t : Int) (l : List Ev) : Int := l.foldl (fun _ e => e.1) t

theorem fol_append (K : Nat) : ∀ (a : List Ev) (h : Nat) (t : Int) (b : List Ev), fol K h t (a ++ b) ↔ fol K h t a ∧ fol K (hA h a) (lT t a) b := by
  intro a
  induction a with
  | nil => intro h t b; simp [fol, hA, lT]
  | cons e r ih =>
    intro h t b
    simp only [List.cons_append, fol]
    constructor
    · rintro ⟨h1, h2, k, h3, h4, h5, h6⟩
      rw [ih] at h6
      refine ⟨⟨h1, h2, k, h3, h4, h5, h6.1⟩, ?_⟩
      have : hA h (e :: r) = hA (h ^^^ 2 ^ k) r := by simp only [hA, List.foldl_cons, h4, Int.toNat_natCast]
      rw [this]; exact h6.2
    · rintro ⟨⟨h1, h2, k, h3, h4, h5, h6⟩, h7⟩
      have : hA h (e :: r) = hA (h ^^^ 2 ^ k) r := by simp only [hA, List.foldl_cons, h4, Int.toNat_natCast]
      rw [this] at h7
      exact ⟨h1, h2, k, h3, h4, h5, (ih _ _ _).2 ⟨h6, h7⟩⟩
theorem fol_mono {K K' : Nat} (hK : K ≤ K') : ∀ (a : List Ev) (h : Nat) (t t' : Int), t' ≤ t → fol K h t a → fol K' h t' a := by
  intro a
  induction a with
  | nil => intro h t t' _ _; trivial
  | cons e r ih =>
    rintro h t t' ht ⟨h1, h2, k, h3, h4, h5, h6⟩
    exact ⟨by omega, h2, k, by omega, h4, h5, ih _ _ _ (by omega) h6⟩
theorem hA_append (h : Nat) (a b : List Ev) : hA h (a ++ b) = hA (hA h a) b := by simp only [hA, List.foldl_append]
theorem lT_ge (K : Nat) : ∀ (a : List Ev) (h : Nat) (t : Int), fol K h t a → t ≤ lT t a := by
  intro a
  induction a with
  | nil => intro h t _; simp [lT]
  | cons e r ih =>
    rintro h t ⟨h1, h2, k, h3, h4, h5, h6⟩
    have := ih _ _ h6
    simp only [lT, List.foldl_cons] at this ⊢
    omega
theorem fol_time (K : Nat) : ∀ (a : List Ev) (h : Nat) (t : Int), fol K h t a → ∀ e ∈ a, t ≤ e.1 ∧ e.1 ≤ lT t a ∧ e.1 ≤ 1000000 := by
  intro a
  induction a with
  | nil => intro h t _ e he; cases he
  | cons x r ih =>
    rintro h t ⟨h1, h2, k, h3, h4, h5, h6⟩ e he
    have g := lT_ge K r _ _ h6
    have e1 : lT t (x :: r) = lT x.1 r := by simp only [lT, List.foldl_cons]
    rw [e1]
    rcases List.mem_cons.1 he with rfl | he
    · exact ⟨h1, g, h2⟩
    · have := ih _ _ h6 e he
      omega
theorem fol_sw : ∀ (a : List Ev) (h : Nat) (t : Int), 0 ≤ t → fol 24 h t a → ∀ e ∈ a, isSw e = true := by
  intro a
  induction a with
  | nil => intro h t _ _ e he; cases he
  | cons x r ih =>
    rintro h t ht ⟨h1, h2, k, h3, h4, h5, h6⟩ e he
    rcases List.mem_cons.1 he with rfl | he
    · unfold isSw isEv
      rw [decide_eq_true (by omega), decide_eq_true (by omega), decide_eq_true (by omega)]; rfl
    · exact ih _ _ (by omega) h6 e he
theorem hA_lt (K : Nat) (hK : K ≤ 32) : ∀ (a : List Ev) (h : Nat) (t : Int), h < 4294967296 → fol K h t a → hA h a < 4294967296 := by
  intro a
  induction a with
  | nil => intro h t hh _; exact hh
  | cons x r ih =>
    rintro h t hh ⟨h1, h2, k, h3, h4, h5, h6⟩
    have e1 : hA h (x :: r) = hA (h ^^^ 2 ^ k) r := by simp only [hA, List.foldl_cons, h4, Int.toNat_natCast]
    rw [e1]
    refine ih _ _ ?_ h6
    have := Nat.xor_lt_two_pow (n := 32) (x := h) (y := 2 ^ k) (by omega) (by have := pow_lt32 (k := k) (by omega); omega)
    omega

/-- the program's walk over events that follow -/
theorem follow_L1 (N : Nat) (l : List Ev) (hl : l.length ≤ 1048576) : ∀ (n i : Nat) (h : Nat) (t : Int), i ≤ l.length → l.length < n + i → h < 4294967296 → 0 ≤ t → (0 < i → t = (l.getD (i - 1) (0, 0, false)).1) → fol 32 h t (l.drop i) →
    impl_follow.L1 N n l (h : Int) l (l.length : Int) (i : Int) = some ((hA h (l.drop i) : Int), true) := by
  intro n
  induction n with
  | zero => intro i h t h1 h2; omega
  | succ n ih =>
    intro i h t h1 h2 h3 h0 h4 h5
    rw [impl_follow.L1_eq]
    by_cases hi : i < l.length
    · have ws : IntKind.wrap .i64 ((i : Int) + 1) = ((i + 1 : Nat) : Int) := wrap_succ (by omega)
      obtain ⟨⟨u, m, d⟩, hx⟩ : ∃ x, l.getD i (0, 0, false) = x := ⟨_, rfl⟩
      have hd : l.drop i = (u, m, d) :: l.drop (i + 1) := by rw [drop_cons (0, 0, false) l i hi, hx]
      rw [hd] at h5
      obtain ⟨g1, g2, k, g3, g4, g5, g6⟩ := h5
      simp only [] at g1 g2 g4 g5 g6
      have hxor : h ^^^ 2 ^ k < 4294967296 := by
        have := Nat.xor_lt_two_pow (n := 32) (x := h) (y := 2 ^ k) (by omega) (by have := pow_lt32 (k := k) (by omega); omega)
        omega
      have hv : isEv u m = true := by
        unfold isEv
        rw [decide_eq_true (by omega), decide_eq_true (by omega)]; rfl
      have hb := bitOf (m := h) (k := k) h3 (by omega)
      have hi' := ih (i + 1) (h ^^^ 2 ^ k) u (by omega) (by omega) hxor (by omega) (by intro _; rw [show i + 1 - 1 = i by omega, hx]) g6
      have k0 : 0 ≤ m := by omega
      have e1 : hA h (l.drop i) = hA (h ^^^ 2 ^ k) (l.drop (i + 1)) := by rw [hd]; simp only [hA, List.foldl_cons, g4, Int.toNat_natCast]
      have hbit : (d == (bitAnd .i64 (shiftR .i64 (h : Int) m) 1 == 1)) = false := by rw [g4, hb, g5]; cases h.testBit k <;> rfl
      have hx2 : bitXor .i64 (h : Int) (shiftL .i64 1 m) = ((h ^^^ 2 ^ k : Nat) : Int) := by rw [g4]; exact xorI h3 (by omega)
      simp only [Int.ofNat_lt, hi, decide_true, condT, inRange_nat, nth_nat, ws, hx, IsEv_impl, bindV, hv, notT, condF, k0, impl_bit.F_eq, hbit, hx2, hi', e1]
      by_cases hz : (i : Int) > 0
      · have wp : IntKind.wrap .i64 ((i : Int) - 1) = ((i - 1 : Nat) : Int) := by rw [wrap64 (by omega) (by omega)]; omega
        have hp : i - 1 < l.length := by omega
        have hf := h4 (by omega)
        have hgt : ¬ (l.getD (i - 1) (0, 0, false)).1 > u := by omega
        simp only [hz, decide_true, condT, wp, inRange_nat, hp, nth_nat, hgt, decide_false, condF]
      · simp only [hz, decide_false, condF]
    · simp only [Int.ofNat_lt, hi, decide_false, condF]
      rw [List.drop_of_length_le (by omega)]
      rfl

theorem follow_eq (N : Nat) (hN : 1048576 < N) (l : List Ev) (hl : l.length ≤ 64) (h : Nat) (hh : h < 4294967296) (t : Int) (ht : 0 ≤ t) (hf : fol 32 h t l) : impl_follow.F N (l, (h : Int)) = some ((hA h l : Int), true) := by
  rw [impl_follow.F_eq]
  have h' : ¬ ((l.length : Int) > 64) := by omega
  have g := follow_L1 N l (by omega) N 0 h t (by omega) (by omega) hh ht (by omega) (by rw [List.drop_zero]; exact hf)
  rw [List.drop_zero] at g
  simp only [h', decide_false, condF]
  exact g

theorem queue_eq (N : Nat) (hN : 1048576 < N) (l : List Ev) (hl : l.length ≤ 64) (h : Nat) (hh : h < 4294967296) (t : Int) (ht : 0 ≤ t) (hf : fol 24 h t l) : impl_queueFits.F N (l, ((h : Int), 24)) = some true := by
  rw [impl_queueFits.F_eq]
  have g := follow_eq N hN l hl h hh t ht (fol_mono (by omega) l h t t (by omega) hf)
  have q := Queue_L1 N l (by omega) (h : Int) 24 _ g N 0 (by omega) (by omega)
  rw [List.drop_zero] at q
  have ha : l.all (fun x => decide (x.2.1 < 24)) = true := by
    rw [List.all_eq_true]
    intro x hx
    have := isSw_spec (fol_sw l h t ht hf x hx)
    exact decide_eq_true (by omega)
  rw [ha] at q
  exact q
end Go.Kb
