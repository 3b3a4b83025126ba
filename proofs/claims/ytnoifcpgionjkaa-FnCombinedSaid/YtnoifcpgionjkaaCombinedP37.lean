/- The draws: combos. -/
import Derived.Test.YtnoifcpgionjkaaCombinedP36
import Derived.KernelRfl
namespace Go.Kb

def tblC : List Int := [3, 5, 6, 7, 12, 24, 9, 11, 14, 15]
def mkC : Nat → List Nat → List Cb
  | _, [] => []
  | i, p :: r => (tblC.getD p 0, ((24 + i : Nat) : Int)) :: mkC (i + 1) r
def inc : Nat → List Nat → Prop
  | _, [] => True
  | a, p :: r => a ≤ p ∧ p < 10 ∧ inc (p + 1) r
def incs : Nat → Nat → List (List Nat)
  | 0, _ => [[]]
  | d + 1, a => [] :: (List.range 10).flatMap fun p => if a ≤ p then (incs d (p + 1)).map fun r => p :: r else []

theorem inc_mem : ∀ (d a : Nat) (ps : List Nat), ps.length ≤ d → inc a ps → ps ∈ incs d a := by
  intro d
  induction d with
  | zero =>
    intro a ps h _
    have : ps = [] := List.length_eq_zero_iff.1 (by omega)
    rw [this]; simp [incs]
  | succ d ih =>
    intro a ps h hi
    cases ps with
    | nil => simp [incs]
    | cons p r =>
      obtain ⟨h1, h2, h3⟩ := hi
      have := ih (p + 1) r (by simpa using h) h3
      unfold incs
      refine List.mem_cons_of_mem _ (List.mem_flatMap.2 ⟨p, List.mem_range.2 h2, ?_⟩)
      rw [if_pos h1]
      exact List.mem_map.2 ⟨r, this, rfl⟩

theorem inc_le : ∀ (ps : List Nat) (a b : Nat), b ≤ a → inc a ps → inc b ps := by
  intro ps a b hab h
  cases ps with
  | nil => trivial
  | cons p r => exact ⟨Nat.le_trans hab h.1, h.2⟩

def okLb (l : List Cb) : Bool := Nat.ble l.length 8 && (l.all (fun c => decide (0 < c.1) && (decide (c.1 < 16777216) && (decide (24 ≤ c.2) && (decide (c.2 ≤ 31) && (Nat.ble 2 (cntN 32 c.1.toNat) && Nat.ble (cntN 32 c.1.toNat) 4))))) && decide (l.Pairwise fun a b => a.1 ≠ b.1 ∧ a.2 ≠ b.2))

/-- combos that pass -/
structure okF (l : List Cb) : Prop where
  len : l.length ≤ 8
  el : ∀ c ∈ l, ∃ m : Nat, c.1 = (m : Int) ∧ m ≠ 0 ∧ m < 16777216 ∧ 24 ≤ c.2 ∧ c.2 ≤ 31 ∧ 2 ≤ cntN 32 m ∧ cntN 32 m ≤ 4
  di : l.Pairwise fun a b => a.1 ≠ b.1 ∧ a.2 ≠ b.2

theorem okF_of {l : List Cb} (h : okLb l = true) : okF l := by
  unfold okLb at h
  simp only [Bool.and_eq_true, decide_eq_true_eq, List.all_eq_true] at h
  obtain ⟨h1, h2, h3⟩ := h
  refine ⟨Nat.le_of_ble_eq_true h1, fun c hc => ?_, h3⟩
  obtain ⟨a, b, c1, d, e, f⟩ := h2 c hc
  obtain ⟨m, hm⟩ := Int.eq_ofNat_of_zero_le (show 0 ≤ c.1 by omega)
  have hm : c.1 = (m : Int) := hm
  rw [hm, Int.toNat_natCast] at e f
  exact ⟨m, hm, by omega, by omega, c1, d, Nat.le_of_ble_eq_true e, Nat.le_of_ble_eq_true f⟩

theorem okF.ok {l : List Cb} (h : okF l) : okL l := by
  refine ⟨h.len, fun c hc => ?_, h.di.imp fun h => h.2⟩
  obtain ⟨m, h1, h2, h3, h4, h5, _⟩ := h.el c hc
  exact ⟨m, h1, h2, h3, h4, h5⟩

theorem combos_L2 (N n1 : Nat) (l : List Cb) (hl : l.length ≤ 8) (i : Nat) (hi : i < l.length) (hd : l.Pairwise fun a b => a.1 ≠ b.1 ∧ a.2 ≠ b.2) : ∀ (n k : Nat), k ≤ i → i < n + k →
    impl_IsCombos.L2 N n1 n l l (l.length : Int) (i : Int) (List.take i l) (i : Int) (k : Int) (l.getD i (0, 0)).1 (l.getD i (0, 0)).2 = impl_IsCombos.L1 N n1 l l (l.length : Int) ((i + 1 : Nat) : Int) := by
  intro n
  induction n with
  | zero => intro k h1 h2; omega
  | succ n ih =>
    intro k h1 h2
    rw [impl_IsCombos.L2_eq]
    have ws : IntKind.wrap .i64 ((i : Int) + 1) = ((i + 1 : Nat) : Int) := wrap_succ (by omega)
    by_cases hk : k < i
    · have wk : IntKind.wrap .i64 ((k : Int) + 1) = ((k + 1 : Nat) : Int) := wrap_succ (by omega)
      have g1 : (List.take i l).getD k (0, 0) = l[k] := by
        rw [List.getD_eq_getElem?_getD, List.getElem?_take_of_lt hk, List.getElem?_eq_getElem (by omega)]; rfl
      have g2 : l.getD i (0, 0) = l[i] := by rw [List.getD_eq_getElem?_getD, List.getElem?_eq_getElem hi]; rfl
      have hlt : k < (List.take i l).length := by simp; omega
      rw [List.pairwise_iff_getElem] at hd
      obtain ⟨d1, d2⟩ := hd k i (by omega) hi hk
      have x1 : ((l[k]).1 == (l[i]).1) = false := by rw [beqI]; exact decide_eq_false d1
      have x2 : ((l[k]).2 == (l[i]).2) = false := by rw [beqI]; exact decide_eq_false d2
      have := ih (k + 1) (by omega) (by omega)
      rw [g2] at this
      simp only [Int.ofNat_lt, hk, decide_true, condT, inRange_nat, hlt, nth_nat, g1, g2, x1, x2, condF, wk, this]
    · simp only [Int.ofNat_lt, hk, decide_false, condF, ws]

theorem ones_of (N : Nat) (hN : 100 < N) (m : Nat) (h3 : m < 16777216) (h6 : 2 ≤ cntN 32 m) (h7 : cntN 32 m ≤ 4) : ∃ c : Int, 2 ≤ c ∧ c ≤ 4 ∧ math_bits_OnesCount.F N (IntKind.wrap .u64 (m : Int)) = some c := by
  have h0 : 0 ≤ (m : Int) ∧ (m : Int) ≤ 16777215 := by clear h6 h7; omega
  have hN' : 40 < N := by clear h6 h7; omega
  obtain ⟨c, c1, c2⟩ := Ones_eq N (m : Int) h0
  have e := Option.some.inj ((c1 N hN').symm.trans (Count_eq N m hN' h3))
  refine ⟨_, Int.ofNat_le.2 h6, Int.ofNat_le.2 h7, ?_⟩
  rw [← e]; exact c2

theorem combos_L1 (N : Nat) (hN : 100 < N) (l : List Cb) (h : okF l) : ∀ (n i : Nat), i ≤ l.length → l.length < n + i → impl_IsCombos.L1 N n l l (l.length : Int) (i : Int) = some true := by
  intro n
  have hl := h.len
  induction n with
  | zero => intro i h1 h2; omega
  | succ n ih =>
    intro i h1 h2
    rw [impl_IsCombos.L1_eq]
    by_cases hi : i < l.length
    · obtain ⟨m, a1, a2, a3, a4, a5, a6, a7⟩ := h.el _ (nth_mem (0, 0) l i hi)
      obtain ⟨c, hc1, hc2, c2⟩ := ones_of N hN m a3 a6 a7
      clear a6 a7
      have b1 : ¬ (m : Int) < 0 := by omega
      have b2 : ¬ (m : Int) > 16777215 := by omega
      have b3 : ¬ (l.getD i (0, 0)).2 < 24 := by omega
      have b4 : ¬ (l.getD i (0, 0)).2 > 31 := by omega
      have b5 : ¬ c < 2 := by omega
      have b6 : ¬ c > 4 := by omega
      have b7 : (0 : Int) ≤ (i : Int) := by omega
      have b8 : (i : Int) ≤ (l.length : Int) := by omega
      have b9 : (List.take i l).length = i := by simp; omega
      have g := combos_L2 N n l hl i hi h.di N 0 (by omega) (by omega)
      rw [a1] at g
      have g' : impl_IsCombos.L2 N n N l l (l.length : Int) (i : Int) (List.take i l) (i : Int) 0 (m : Int) (l.getD i (0, 0)).2 = _ := g
      simp only [Int.ofNat_lt, hi, decide_true, condT, inRange_nat, nth_nat, a1, b1, b2, b3, b4, decide_false, condF, c2, bindV, b5, b6, b7, b8, Bool.and_self, Int.toNat_natCast, b9, g', ih (i + 1) (by omega) (by omega)]
    · simp only [Int.ofNat_lt, hi, decide_false, condF]

theorem combos_F (N : Nat) (hN : 100 < N) (l : List Cb) (h : okF l) : impl_IsCombos.F N l = some true := by
  rw [impl_IsCombos.F_eq]
  have hl := h.len
  have a : ¬ (l.length : Int) > 8 := by omega
  have g := combos_L1 N hN l h N 0 (by omega) (by omega)
  simp only [a, decide_false, condF]
  exact g

theorem all_combos : ((incs 4 0).all fun ps => okLb (mkC 0 ps)) = true := by kernel_rfl

theorem combos_right {ps : List Nat} (h : inc 0 ps) (hl : ps.length ≤ 4) : okF (mkC 0 ps) := okF_of (List.all_eq_true.1 all_combos ps (inc_mem 4 0 ps hl h))
end Go.Kb
