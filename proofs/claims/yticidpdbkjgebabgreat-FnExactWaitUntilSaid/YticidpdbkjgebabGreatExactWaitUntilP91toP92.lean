/- Codes in order, bits of small masks: plain facts. -/
import Derived.Test.YticidpdbkjgebabGreatExactWaitUntilP15toP90
import Derived.Test.YticidpdbkjgebabGreatKd
namespace Go.Kb
theorem sorted_ext : ∀ (a b : List Int), a.Pairwise (· < ·) -> b.Pairwise (· < ·) -> (∀ x, x ∈ a ↔ x ∈ b) -> a = b := by
 intro a
 induction a with
 | nil =>
  intro b _ _ h
  cases b with
  | nil => rfl
  | cons y s => exact absurd ((h y).2 (by simp)) (by simp)
 | cons x r ih =>
  intro b ha hb h
  cases b with
  | nil => exact absurd ((h x).1 (by simp)) (by simp)
  | cons y s =>
   rw [List.pairwise_cons] at ha hb
   have hxy : x = y := by
    rcases List.mem_cons.1 ((h x).1 (by simp)) with e | e
    ·exact e
    ·rcases List.mem_cons.1 ((h y).2 (by simp)) with e' | e'
     ·exact e'.symm
     ·have := hb.1 x e; have := ha.1 y e'; omega
   subst hxy
   congr 1
   refine ih s ha.2 hb.2 fun z => ⟨fun hz => ?_, fun hz => ?_⟩
   ·have := ha.1 z hz
    rcases List.mem_cons.1 ((h z).1 (List.mem_cons_of_mem _ hz)) with e | e
    ·omega
    ·exact e
   ·have := hb.1 z hz
    rcases List.mem_cons.1 ((h z).2 (List.mem_cons_of_mem _ hz)) with e | e
    ·omega
    ·exact e
def r56 : List Int := (List.range 56).map fun (k : Nat) => (k : Int) + 1
theorem codes_r56 (l : List Int) : codes l = r56.filter fun c => l.contains c := rfl
theorem r56_sorted : r56.Pairwise (· < ·) := by
 unfold r56
 rw [List.pairwise_map]
 exact List.pairwise_lt_range.imp (fun h => by omega)
theorem mem_r56 (x : Int) : x ∈ r56 ↔ 1 <= x /\ x <= 56 := by
 unfold r56
 rw [List.mem_map]
 constructor
 ·rintro ⟨k, hk, rfl⟩; rw [List.mem_range] at hk; omega
 ·rintro ⟨h1, h2⟩; exact ⟨(x - 1).toNat, List.mem_range.2 (by omega), by omega⟩
theorem mem_codes (l : List Int) (x : Int) : x ∈ codes l ↔ (1 <= x /\ x <= 56) /\ x ∈ l := by
 rw [codes_r56, List.mem_filter, mem_r56, List.contains_iff_mem]
theorem codes_sorted (l : List Int) : (codes l).Pairwise (· < ·) := by
 rw [codes_r56]; exact r56_sorted.filter _
theorem codes_len (l : List Int) : (codes l).length <= 56 := by
 rw [codes_r56]
 refine Nat.le_trans (List.length_filter_le _ _) ?_
 simp [r56]
def dd : List Int -> List Int -> List Int
 | o, [] => o
 | o, x :: r => dd (bif !(x == 0) && !o.contains x then o ++ [x] else o) r
theorem dd_spec : ∀ (l o : List Int), l.Pairwise (· <= ·) -> o.Pairwise (· < ·) -> (∀ x ∈ o, ∀ y ∈ l, x <= y) -> (∀ x ∈ l, 0 <= x) ->
  (dd o l).Pairwise (· < ·) /\ ∀ x, x ∈ dd o l ↔ x ∈ o \/ (x ∈ l /\ x ≠ 0) := by
 intro l
 induction l with
 | nil => intro o _ h2 _ _; exact ⟨h2, fun x => by simp [dd]⟩
 | cons y r ih =>
  intro o h1 h2 h3 h4
  rw [List.pairwise_cons] at h1
  simp only [dd]
  by_cases hy : y = 0
  ·subst hy
   have e : (!((0 : Int) == 0) && !o.contains 0) = false := by simp
   rw [e, condF]
   obtain ⟨a, b⟩ := ih o h1.2 h2 (fun x hx z hz => h3 x hx z (List.mem_cons_of_mem _ hz)) (fun x hx => h4 x (List.mem_cons_of_mem _ hx))
   refine ⟨a, fun x => ?_⟩
   rw [b x, List.mem_cons]
   constructor
   ·rintro (h | ⟨h, g⟩)
    ·exact Or.inl h
    ·exact Or.inr ⟨Or.inr h, g⟩
   ·rintro (h | ⟨h | h, g⟩)
    ·exact Or.inl h
    ·exact absurd h g
    ·exact Or.inr ⟨h, g⟩
  ·by_cases hc : y ∈ o
   ·have e : (!(y == 0) && !o.contains y) = false := by simp [hc]
    rw [e, condF]
    obtain ⟨a, b⟩ := ih o h1.2 h2 (fun x hx z hz => h3 x hx z (List.mem_cons_of_mem _ hz)) (fun x hx => h4 x (List.mem_cons_of_mem _ hx))
    refine ⟨a, fun x => ?_⟩
    rw [b x, List.mem_cons]
    constructor
    ·rintro (h | ⟨h, g⟩)
     ·exact Or.inl h
     ·exact Or.inr ⟨Or.inr h, g⟩
    ·rintro (h | ⟨h | h, g⟩)
     ·exact Or.inl h
     ·subst h; exact Or.inl hc
     ·exact Or.inr ⟨h, g⟩
   ·have e : (!(y == 0) && !o.contains y) = true := by simp [hc, hy]
    rw [e, condT]
    obtain ⟨a, b⟩ := ih (o ++ [y]) h1.2
     (by
      rw [List.pairwise_append]
      refine ⟨h2, by simp, fun x hx z hz => ?_⟩
      rw [List.mem_singleton] at hz
      subst hz
      have := h3 x hx z (by simp)
      have : x ≠ z := fun e => hc (e ▸ hx)
      omega)
     (fun x hx z hz => by
      rcases List.mem_append.1 hx with hx | hx
      ·exact h3 x hx z (List.mem_cons_of_mem _ hz)
      ·rw [List.mem_singleton] at hx; subst hx; exact h1.1 z hz)
     (fun x hx => h4 x (List.mem_cons_of_mem _ hx))
    refine ⟨a, fun x => ?_⟩
    rw [b x, List.mem_cons, List.mem_append, List.mem_singleton]
    constructor
    ·rintro ((h | h) | ⟨h, g⟩)
     ·exact Or.inl h
     ·subst h; exact Or.inr ⟨Or.inl rfl, hy⟩
     ·exact Or.inr ⟨Or.inr h, g⟩
    ·rintro (h | ⟨h | h, g⟩)
     ·exact Or.inl (Or.inl h)
     ·exact Or.inl (Or.inr h)
     ·exact Or.inr ⟨h, g⟩
theorem sortI_sorted (l : List Int) : (sortI l).Pairwise (· <= ·) := by
 have := List.pairwise_mergeSort (le := fun a b : Int => decide (a <= b)) (fun a b c h1 h2 => by simp only [decide_eq_true_eq] at *; omega) (fun a b => by simp only [Bool.or_eq_true, decide_eq_true_eq]; omega) l
 exact this.imp (fun h => by simpa using h)
theorem mem_sortI (l : List Int) (x : Int) : x ∈ sortI l ↔ x ∈ l := List.mem_mergeSort
theorem dd_codes (l : List Int) (h : ∀ x ∈ l, 0 <= x /\ x <= 56) : dd [] (sortI l) = codes l := by
 obtain ⟨a, b⟩ := dd_spec (sortI l) [] (sortI_sorted l) List.Pairwise.nil (by simp) (fun x hx => (h x ((mem_sortI l x).1 hx)).1)
 refine sorted_ext _ _ a (codes_sorted l) fun x => ?_
 rw [b x, mem_codes, mem_sortI]
 constructor
 ·rintro (h' | ⟨h1, h2⟩)
  ·cases h'
  ·have := h x h1; exact ⟨by omega, h1⟩
 ·rintro ⟨h1, h2⟩; exact Or.inr ⟨h2, by omega⟩
theorem or15 {a b : Int} (ha : 0 <= a /\ a <= 15) (hb : 0 <= b /\ b <= 15) : 0 <= bitOr .i64 a b /\ bitOr .i64 a b <= 15 := by
 obtain ⟨m, rfl⟩ := Int.eq_ofNat_of_zero_le ha.1
 obtain ⟨n, rfl⟩ := Int.eq_ofNat_of_zero_le hb.1
 rw [bitOr_nat _ _ (by omega) (by omega)]
 have := Nat.or_lt_two_pow (n := 4) (x := m) (y := n) (by omega) (by omega)
 omega
theorem andNot15 {a b : Int} (ha : 0 <= a /\ a <= 15) (hb : 0 <= b /\ b <= 15) : 0 <= zBM .i64 a b /\ zBM .i64 a b <= 15 := by
 obtain ⟨m, rfl⟩ := Int.eq_ofNat_of_zero_le ha.1
 obtain ⟨n, rfl⟩ := Int.eq_ofNat_of_zero_le hb.1
 rw [andNotN _ _ (by omega) (by omega)]
 have := Nat.and_lt_two_pow (n := 4) m (y := n) (by omega)
 have := Nat.xor_lt_two_pow (n := 4) (x := m) (y := m &&& n) (by omega) (by omega)
 omega
theorem bit1_nat {k : Nat} (h : k <= 31) : bit1 (k : Int) = ((2 ^ k : Nat) : Int) := shl_one k h
theorem fx_xor {nl : Nat} (h1 : nl <= 4) {f n : Int} (hf : 0 <= f /\ f % 2 = 0 /\ f < 2 ^ nl) (hn : 1 <= n /\ n < nl) :
  0 <= zBw .i64 f (bit1 n) /\ zBw .i64 f (bit1 n) % 2 = 0 /\ zBw .i64 f (bit1 n) < 2 ^ nl := by
 obtain ⟨a, rfl⟩ := Int.eq_ofNat_of_zero_le hf.1
 obtain ⟨b, rfl⟩ := Int.eq_ofNat_of_zero_le (by omega : 0 <= n)
 have hp : (2 : Nat) ^ nl <= 16 := by have := Nat.pow_le_pow_right (n := 2) (by omega) h1; omega
 have ha : a < 2 ^ nl := by have := hf.2.2; have e : ((2 : Int) ^ nl) = ((2 ^ nl : Nat) : Int) := by simp
                            omega
 have hb : (2 : Nat) ^ b < 2 ^ nl := Nat.pow_lt_pow_right (by omega) (by omega)
 rw [bit1_nat (by omega), bitXor_nat _ _ (by omega) (by omega)]
 have hx := Nat.xor_lt_two_pow (n := nl) ha hb
 have e : ((2 : Int) ^ nl) = ((2 ^ nl : Nat) : Int) := by simp
 have hev : ∀ a < 16, ∀ b < 4, 0 < b -> a % 2 = 0 -> (a ^^^ 2 ^ b) % 2 = 0 := by decide
 have := hev a (by omega) b (by omega) (by omega) (by omega)
 omega
theorem fx_to {nl : Nat} (h1 : nl <= 4) {n : Int} (hn : 0 <= n /\ n < nl) :
  0 <= zBM .i64 (bit1 n) 1 /\ zBM .i64 (bit1 n) 1 % 2 = 0 /\ zBM .i64 (bit1 n) 1 < 2 ^ nl := by
 obtain ⟨b, rfl⟩ := Int.eq_ofNat_of_zero_le hn.1
 have hb : (2 : Nat) ^ b < 2 ^ nl := Nat.pow_lt_pow_right (by omega) (by omega)
 have hp : (2 : Nat) ^ nl <= 16 := by have := Nat.pow_le_pow_right (n := 2) (by omega) h1; omega
 have e : ((2 : Int) ^ nl) = ((2 ^ nl : Nat) : Int) := by simp
 have o : (1 : Int) = ((1 : Nat) : Int) := rfl
 rw [bit1_nat (by omega), o, andNotN _ _ (by omega) (by omega)]
 have hev : ∀ b < 4, (2 ^ b ^^^ (2 ^ b &&& 1)) % 2 = 0 /\ (2 ^ b ^^^ (2 ^ b &&& 1)) <= 2 ^ b := by decide
 have := hev b (by omega)
 omega
end Go.Kb
namespace Go.Kb
theorem bitB_nat {m k : Nat} (hm : m < 4294967296) (hk : k <= 31) : bitB (m : Int) (k : Int) = m.testBit k := bitOf hm hk
theorem isA_iff (a : Act) : isA a = true ↔ okA a := by unfold isA; exact decide_eq_true_iff
theorem laysB_get (keys nl : Int) : ∀ (ls : List (List Act)) (f : Bool), laysB keys nl f ls = true -> ∀ i, i < ls.length -> layB keys nl (f && decide (i = 0)) (ls.getD i []) = true := by
 intro ls
 induction ls with
 | nil => intro f _ i hi; exact absurd hi (by simp)
 | cons l r ih =>
  intro f h i hi
  simp only [laysB, bA] at h
  cases i with
  | zero => simpa using h.1
  | succ i =>
   have := ih false h.2 i (by simpa using hi)
   simpa using this
structure OkM (m : Mp) : Prop where
 keys : 1 <= m.1 /\ m.1 <= 32
 len : 1 <= m.2.length /\ m.2.length <= 4
 lays : laysB m.1 m.2.length true m.2 = true
theorem isM_iff (m : Mp) : isM m = true ↔ OkM m := by
 unfold isM
 rw [bA, decide_eq_true_iff]
 constructor
 ·rintro ⟨⟨a, b, c, d⟩, e⟩; exact ⟨⟨a, b⟩, ⟨c, d⟩, e⟩
 ·rintro ⟨⟨a, b⟩, ⟨c, d⟩, e⟩; exact ⟨⟨a, b, c, d⟩, e⟩
theorem OkM.row {m : Mp} (h : OkM m) {i : Nat} (hi : i < m.2.length) : ((m.2.getD i []).length : Int) = m.1 := by
 have := laysB_get _ _ _ _ h.lays i hi
 simp only [layB, bA, decide_eq_true_eq] at this
 exact this.1
theorem OkM.cell {m : Mp} (h : OkM m) {i : Nat} (hi : i < m.2.length) {key : Int} (hk : 0 <= key /\ key < m.1) : cellB m.2.length (decide (i = 0)) (cellAt m.2 i key) = true := by
 have g := laysB_get _ _ _ _ h.lays i hi
 have hr := h.row hi
 simp only [layB, bA, List.all_eq_true, Bool.true_and] at g
 exact g.2 _ (zBT _ _ _ (by omega))
theorem layN_le (ls : List (List Act)) (on key : Int) : ∀ n, layN ls on key n <= n := by
 intro n
 induction n with
 | zero => exact nR _
 | succ n ih =>
  simp only [layN]
  cases bitB on ((n + 1 : Nat) : Int) && !((cellAt ls (n + 1) key).1 == 1) with
  | true => rw [condT]; omega
  | false => rw [condF]; omega
theorem layN_pass (ls : List (List Act)) (on key : Int) : ∀ n, layN ls on key n ≠ 0 -> (cellAt ls (layN ls on key n) key).1 ≠ 1 := by
 intro n
 induction n with
 | zero => intro h; exact absurd rfl h
 | succ n ih =>
  simp only [layN]
  cases hb : bitB on ((n + 1 : Nat) : Int) && !((cellAt ls (n + 1) key).1 == 1) with
  | true =>
   rw [condT]
   intro _
   rw [bA] at hb
   simpa using hb.2
  | false => rw [condF]; exact ih
def okC2 (nl : Int) (a : Act) : Prop := okA a /\ a.1 ≠ 1 /\ (a.1 ≠ 9 -> a.2.2.2 < nl)
theorem OkM.act {m : Mp} (h : OkM m) {key : Int} (hk : 0 <= key /\ key < m.1) (on : Int) : okC2 m.2.length (actN m.2 on key) := by
 have hl := layN_le m.2 on key (m.2.length - 1)
 have h1 := h.len.1
 have hc := h.cell (i := layN m.2 on key (m.2.length - 1)) (by omega) hk
 have hp := layN_pass m.2 on key (m.2.length - 1)
 unfold actN
 revert hc hp
 generalize layN m.2 on key (m.2.length - 1) = i
 intro hc hp
 generalize cellAt m.2 i key = a at *
 simp only [cellB, bA, Bool.not_eq_true', Bool.and_eq_false_iff, decide_eq_false_iff_not, isA_iff, beq_eq_false_iff_ne, ne_eq, Bool.not_eq_false', beq_iff_eq] at hc
 refine ⟨hc.1, ?_, ?_⟩
 ·by_cases hi : i = 0
  ·rcases hc.2.1 with g | g
   ·exact absurd hi g
   ·exact g
  ·exact hp hi
 ·intro h9
  rcases hc.2.2 with g | g
  ·exact absurd g h9
  ·omega
def okH (nl : Int) (a : Act) : Prop := okA a /\ kindB a.1 = true /\ (a.1 ≠ 9 -> a.2.2.2 < nl)
theorem kindB_iff (k : Int) : kindB k = true ↔ k ≠ 1 /\ k ≠ 6 /\ k ≠ 7 := by
 simp only [kindB, Bool.not_eq_true', decide_eq_false_iff_not]; omega
theorem isTH_iff (a : Act) : isTH a = true ↔ okA a /\ (a.1 = 6 \/ a.1 = 7) := by
 simp only [isTH, bA, isA_iff, decide_eq_true_eq]
theorem tap_ok {nl : Int} (h1 : 1 <= nl) {a : Act} (h : okC2 nl a) : okH nl (tapO a) := by
 obtain ⟨k, c, m, n⟩ := a
 obtain ⟨h2, h3, h4⟩ := h
 unfold tapO
 cases ht : isTH (k, c, m, n) with
 | true =>
  rw [condT]
  have := (isTH_iff _).1 ht
  refine ⟨?_, by rw [kindB_iff]; simp, fun _ => by simp only []; omega⟩
  unfold okA at *
  dsimp only at *
  omega
 | false =>
  rw [condF]
  refine ⟨h2, ?_, h4⟩
  rw [kindB_iff]
  have : ¬ (okA (k, c, m, n) /\ (k = 6 \/ k = 7)) := fun e => by rw [(isTH_iff (k, c, m, n)).2 e] at ht; cases ht
  have h67 : ¬ (k = 6 \/ k = 7) := fun e => this ⟨h2, e⟩
  dsimp only at *
  omega
theorem hold_ok {nl : Int} (h1 : 1 <= nl) {a : Act} (h : okC2 nl a) : okH nl (holdO a) := by
 obtain ⟨k, c, m, n⟩ := a
 obtain ⟨h2, h3, h4⟩ := h
 unfold holdO
 cases ht : isTH (k, c, m, n) with
 | true =>
  rw [condT]
  have hh := (isTH_iff _).1 ht
  simp only [] at hh h4 ⊢
  by_cases h6 : k = 6
  ·have : (k == 6) = true := by rw [beqI]; exact dT h6
   rw [this, condT]
   refine ⟨?_, by rw [kindB_iff]; simp, fun _ => by simp only []; omega⟩
   unfold okA at *
   dsimp only at *
   omega
  ·have : (k == 6) = false := by rw [beqI]; exact dF h6
   rw [this, condF]
   refine ⟨?_, by rw [kindB_iff]; simp, fun _ => by simp only []; exact h4 (by omega)⟩
   unfold okA at *
   dsimp only at *
   omega
 | false =>
  rw [condF]
  refine ⟨h2, ?_, h4⟩
  rw [kindB_iff]
  have : ¬ (okA (k, c, m, n) /\ (k = 6 \/ k = 7)) := fun e => by rw [(isTH_iff (k, c, m, n)).2 e] at ht; cases ht
  have h67 : ¬ (k = 6 \/ k = 7) := fun e => this ⟨h2, e⟩
  dsimp only at *
  omega
theorem okA_facts {k c m n : Int} (h : okA (k, c, m, n)) : (0 <= m /\ m <= 15) /\ (k = 4 -> 1 <= n) /\ (k = 5 -> 0 <= n) /\ (k = 2 -> 0 <= c /\ c <= 56 /\ n = 0) := by
 unfold okA at h; dsimp only at h; omega
theorem okA_key {c m n : Int} (h0 : c ≠ 0) (hc : 0 <= c /\ c <= 56) (hn : n = 0) (hm : 0 <= m /\ m <= 15) : okA (2, c, m, n) := by
 unfold okA; dsimp only; omega
theorem bI {k j : Int} (h : k = j) : (k == j) = true := by rw [beqI]; exact dT h
theorem bN {k j : Int} (h : k ≠ j) : (k == j) = false := by rw [beqI]; exact dF h
theorem stl_ok {nl : Nat} (h1 : nl <= 4) {fx on : Int} {cp : Bool} {a : Act} (hf : 0 <= fx /\ fx % 2 = 0 /\ fx < 2 ^ nl) (ho : 0 <= on /\ on <= 15) (ha : okH nl a) :
  (0 <= (stl fx on cp a).1 /\ (stl fx on cp a).1 % 2 = 0 /\ (stl fx on cp a).1 < 2 ^ nl) /\ (0 <= (stl fx on cp a).2.1 /\ (stl fx on cp a).2.1 <= 15) /\ okH nl (stl fx on cp a).2.2.2 := by
 obtain ⟨k, c, m, n⟩ := a
 have hA := ha
 obtain ⟨h2, h3, h4⟩ := ha
 obtain ⟨g1, g2, g3, g4⟩ := okA_facts h2
 clear h2
 dsimp only at h4
 simp only [stl]
 by_cases k2 : k = 2
 ·subst k2
  obtain ⟨g4, g5, g6⟩ := g4 rfl
  rw [show ((2 : Int) == 2) = true from rfl, condT]
  by_cases c0 : c = 0
  ·rw [bI c0, condT]; exact ⟨hf, ho, hA⟩
  ·rw [bN c0, condF]
   have hm := or15 g1 ho
   dsimp only
   refine ⟨hf, ⟨Int.le_refl _, by omega⟩, okA_key c0 ⟨g4, g5⟩ g6 ?_, rfl, fun _ => h4 (by omega)⟩
   cases cp && wordB c && (decide (c <= 26) && zBM .i64 (bitOr .i64 m on) 2 == 0) with
   | true => rw [condT]; omega
   | false => rw [condF]; exact hm
 ·rw [bN k2, condF]
  by_cases k4 : k = 4
  ·rw [bI k4, condT]
   dsimp only
   have hn : 1 <= n /\ n < (nl : Int) := ⟨g2 k4, h4 (by omega)⟩
   exact ⟨fx_xor h1 hf hn, ho, hA⟩
  ·rw [bN k4, condF]
   by_cases k5 : k = 5
   ·rw [bI k5, condT]
    dsimp only
    have hn : 0 <= n /\ n < (nl : Int) := ⟨g3 k5, h4 (by omega)⟩
    exact ⟨fx_to h1 hn, ho, hA⟩
   ·rw [bN k5, condF]
    cases k == 8 with
    | true =>
     rw [condT]
     refine ⟨hf, ?_, hA⟩
     have x1 := andNot15 (a := on) (b := m) ho g1
     have x2 := or15 (a := on) (b := m) ho g1
     dsimp only
     cases zBo .i64 on m == m with
     | true => exact x1
     | false => exact x2
    | false =>
     rw [condF]
     cases k == 10 with
     | true => exact ⟨hf, ho, hA⟩
     | false => exact ⟨hf, ho, hA⟩
def hdP (s : Nat) (l : List Hd) : Prop := (∀ h ∈ l, (0 <= h.1 /\ h.1 <= 31) /\ s.testBit h.1.toNat = false /\ okA h.2 /\ kindB h.2.1 = true) /\ l.Pairwise fun a b => a.1 ≠ b.1
theorem hdGo_iff : ∀ (l : List Hd) (s : Nat), s < 4294967296 -> (hdGo (s : Int) l = true ↔ hdP s l) := by
 intro l
 induction l with
 | nil => intro s _; simp [hdGo, hdP]
 | cons h r ih =>
  intro s hs
  simp only [hdGo, bA, decide_eq_true_eq, isA_iff, Bool.not_eq_true']
  by_cases hr : 0 <= h.1 /\ h.1 <= 31
  ·obtain ⟨k, hk⟩ := Int.eq_ofNat_of_zero_le hr.1
   have e1 : bitB (s : Int) h.1 = s.testBit k := by rw [hk]; exact bitB_nat hs (by omega)
   have e2 : bitOr .i64 (s : Int) (bit1 h.1) = ((s ||| 2 ^ k : Nat) : Int) := by rw [hk]; exact orI hs (by omega)
   have e3 : h.1.toNat = k := by omega
   have hor : s ||| 2 ^ k < 4294967296 := or_lt32 hs (pow_lt32 (by omega))
   rw [e1, e2, ih _ hor]
   constructor
   ·rintro ⟨_, b, ⟨c, d⟩, f, g⟩
    refine ⟨fun x hx => ?_, ?_⟩
    ·rcases List.mem_cons.1 hx with rfl | hx
     ·exact ⟨hr, by rw [e3]; exact b, c, d⟩
     ·obtain ⟨a1, a2, a3⟩ := f x hx
      refine ⟨a1, ?_, a3⟩
      rw [or_bit] at a2
      simp only [Bool.or_eq_false_iff] at a2
      exact a2.1
    ·rw [List.pairwise_cons]
     refine ⟨fun x hx e => ?_, g⟩
     obtain ⟨a1, a2, a3⟩ := f x hx
     rw [or_bit, <- e, e3] at a2
     simp at a2
   ·rintro ⟨f, g⟩
    rw [List.pairwise_cons] at g
    obtain ⟨b1, b2, b3, b4⟩ := f h (by simp)
    rw [e3] at b2
    refine ⟨hr, b2, ⟨b3, b4⟩, fun x hx => ?_, g.2⟩
    obtain ⟨a1, a2, a3⟩ := f x (List.mem_cons_of_mem _ hx)
    refine ⟨a1, ?_, a3⟩
    rw [or_bit, a2]
    have : k ≠ x.1.toNat := fun e => g.1 x hx (by omega)
    simp [this]
  ·constructor
   ·intro ⟨a, _⟩; exact absurd a hr
   ·intro ⟨f, _⟩; exact absurd (f h (by simp)).1 hr
theorem isH_iff (l : List Hd) : isH l = true ↔ hdP 0 l := hdGo_iff l 0 (by omega)
theorem rmv_mem (l : List Hd) (key : Int) : ∀ h ∈ rmv l key, h ∈ l := by
 intro h hh
 rcases List.mem_append.1 hh with g | g
 ·exact List.mem_of_mem_take g
 ·exact List.mem_of_mem_drop g
theorem rmv_sub (l : List Hd) (key : Int) : (rmv l key).Sublist l := by
 have : (rmv l key) = l.eraseIdx (hIx l key) := (List.eraseIdx_eq_take_drop_succ _ _).symm
 rw [this]
 exact List.eraseIdx_sublist _ _
theorem rmv_cons (h : Hd) (l : List Hd) (key : Int) : rmv (h :: l) key = bif h.1 == key then l else h :: rmv l key := by
 unfold rmv hIx
 rw [List.findIdx_cons]
 cases h.1 == key with
 | true => simp
 | false => simp
theorem rmv_iff : ∀ (l : List Hd) (key : Int), (l.Pairwise fun a b => a.1 ≠ b.1) -> ∀ h, h ∈ rmv l key ↔ h ∈ l /\ h.1 ≠ key := by
 intro l key
 induction l with
 | nil => intro _ h; simp [rmv]
 | cons x r ih =>
  intro hp h
  rw [List.pairwise_cons] at hp
  rw [rmv_cons]
  by_cases e : x.1 = key
  ·have : (x.1 == key) = true := by rw [beqI]; exact dT e
   rw [this, condT, List.mem_cons]
   constructor
   ·intro g; exact ⟨Or.inr g, fun e' => hp.1 h g (by rw [e, e'])⟩
   ·rintro ⟨rfl | g, e'⟩
    ·exact absurd e e'
    ·exact g
  ·have : (x.1 == key) = false := by rw [beqI]; exact dF e
   rw [this, condF, List.mem_cons, List.mem_cons, ih hp.2 h]
   constructor
   ·rintro (rfl | ⟨g, e'⟩)
    ·exact ⟨Or.inl rfl, e⟩
    ·exact ⟨Or.inr g, e'⟩
   ·rintro ⟨rfl | g, e'⟩
    ·exact Or.inl rfl
    ·exact Or.inr ⟨g, e'⟩
structure OkE (e : Eng) : Prop where
 map : OkM e.1
 macs : e.2.1.length <= 4
 held : hdP 0 e.2.2.2.1
 once : 0 <= e.2.2.2.2.1 /\ e.2.2.2.2.1 <= 15
 mac : e.2.1.all isMc = true
 keys : ∀ h ∈ e.2.2.2.1, h.1 < e.1.1 /\ (h.2.1 ≠ 9 -> h.2.2.2.2 < e.1.2.length)
 fixed : 0 <= e.2.2.1 /\ e.2.2.1 % 2 = 0 /\ e.2.2.1 < 2 ^ e.1.2.length
theorem heldB_iff (keys nl : Int) (h : Hd) : heldB keys nl h = true ↔ h.1 < keys /\ (h.2.1 ≠ 9 -> h.2.2.2.2 < nl) := by
 simp only [heldB, bA, decide_eq_true_eq, Bool.not_eq_true', Bool.and_eq_false_iff, Bool.not_eq_false', beq_iff_eq, decide_eq_false_iff_not]
 constructor
 ·rintro ⟨a, b⟩; refine ⟨a, fun g => ?_⟩; rcases b with b | b
  ·exact absurd b g
  ·omega
 ·rintro ⟨a, b⟩; refine ⟨a, ?_⟩
  by_cases g : h.2.1 = 9
  ·exact Or.inl g
  ·have := b g; right; omega
theorem isE_iff (e : Eng) : isE e = true ↔ OkE e := by
 unfold isE
 simp only [bA, decide_eq_true_eq, isM_iff, isH_iff]
 rw [List.all_eq_true (l := e.2.2.2.1)]
 constructor
 ·rintro ⟨a, b, c, d, f, g, h⟩; exact ⟨a, b, c, d, f, fun x hx => (heldB_iff _ _ _).1 (g x hx), h⟩
 ·rintro ⟨a, b, c, d, f, g, h⟩; exact ⟨a, b, c, d, f, fun x hx => (heldB_iff _ _ _).2 (g x hx), h⟩
theorem prs_ok {e : Eng} (he : OkE e) {key : Int} (hk : 0 <= key /\ key < e.1.1) (hn : ∀ h ∈ e.2.2.2.1, h.1 ≠ key) (hold : Bool) : OkE (prs e key hold).1 := by
 have h32 := he.map.keys.2
 have h1 := he.map.len
 have ha := he.map.act hk (lyOn e.2.2.1 e.2.2.2.1)
 have hb : okH e.1.2.length (bif hold then holdO (actN e.1.2 (lyOn e.2.2.1 e.2.2.2.1) key) else tapO (actN e.1.2 (lyOn e.2.2.1 e.2.2.2.1) key)) := by
  cases hold with
  | true => exact hold_ok (by omega) ha
  | false => exact tap_ok (by omega) ha
 obtain ⟨s1, s2, s3⟩ := stl_ok (cp := e.2.2.2.2.2) h1.2 he.fixed he.once hb
 refine ⟨he.map, he.macs, ?_, s2, he.mac, ?_, s1⟩
 ·simp only [prs]
  refine ⟨fun x hx => ?_, ?_⟩
  ·rcases List.mem_append.1 hx with hx | hx
   ·exact he.held.1 x hx
   ·rw [List.mem_singleton] at hx; subst hx
    exact ⟨by simp only []; omega, by simp, s3.1, s3.2.1⟩
  ·rw [List.pairwise_append]
   refine ⟨he.held.2, by simp, fun x hx y hy => ?_⟩
   rw [List.mem_singleton] at hy; subst hy
   exact hn x hx
 ·simp only [prs]
  intro x hx
  rcases List.mem_append.1 hx with hx | hx
  ·exact he.keys x hx
  ·rw [List.mem_singleton] at hx; subst hx
   exact ⟨hk.2, s3.2.2⟩
theorem rls_ok {e : Eng} (he : OkE e) (key : Int) : OkE (rls e key).1 := by
 refine ⟨he.map, he.macs, ⟨fun x hx => he.held.1 x (rmv_mem _ _ x hx), he.held.2.sublist (rmv_sub _ _)⟩, he.once, he.mac, fun x hx => he.keys x (rmv_mem _ _ x hx), he.fixed⟩
end Go.Kb
