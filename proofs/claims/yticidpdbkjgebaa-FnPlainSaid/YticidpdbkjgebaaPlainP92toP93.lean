/- Valid engines stay valid. -/
import Derived.Test.YticidpdbkjgebaaPlainP90toP91
namespace Go.Kb
theorem bitB_nat {m k : Nat} (hm : m < 4294967296) (hk : k <= 31) : bitB (m : Int) (k : Int) = m.testBit k := bitOf hm hk
theorem isA_iff (a : Act) : isA a = true ↔ okA a := by unfold isA; exact decide_eq_true_iff
theorem laysB_get (keys nl : Int) : ∀ (ls : List (List Act)) (f : Bool), laysB keys nl f ls = true -> ∀ i, i < ls.length -> layB keys nl (f && decide (i = 0)) (ls.getD i []) = true := by
 intro ls
 induction ls with
 | nil => intro f _ i hi; exact absurd hi (by simp)
 | cons l r ih =>
  intro f h i hi
  simp only [laysB, bA] at h
  cases i with
  | zero => simpa using h.1
  | succ i =>
   have := ih false h.2 i (by simpa using hi)
   simpa using this
structure OkM (m : Mp) : Prop where
 keys : 1 <= m.1 /\ m.1 <= 32
 len : 1 <= m.2.length /\ m.2.length <= 4
 lays : laysB m.1 m.2.length true m.2 = true
theorem isM_iff (m : Mp) : isM m = true ↔ OkM m := by
 unfold isM
 rw [bA, decide_eq_true_iff]
 constructor
 ·rintro ⟨⟨a, b, c, d⟩, e⟩; exact ⟨⟨a, b⟩, ⟨c, d⟩, e⟩
 ·rintro ⟨⟨a, b⟩, ⟨c, d⟩, e⟩; exact ⟨⟨a, b, c, d⟩, e⟩
theorem OkM.row {m : Mp} (h : OkM m) {i : Nat} (hi : i < m.2.length) : ((m.2.getD i []).length : Int) = m.1 := by
 have := laysB_get _ _ _ _ h.lays i hi
 simp only [layB, bA, decide_eq_true_eq] at this
 exact this.1
theorem OkM.cell {m : Mp} (h : OkM m) {i : Nat} (hi : i < m.2.length) {key : Int} (hk : 0 <= key /\ key < m.1) : cellB m.2.length (decide (i = 0)) (cellAt m.2 i key) = true := by
 have g := laysB_get _ _ _ _ h.lays i hi
 have hr := h.row hi
 simp only [layB, bA, List.all_eq_true, Bool.true_and] at g
 exact g.2 _ (nth_mem _ _ _ (by omega))
theorem layN_le (ls : List (List Act)) (on key : Int) : ∀ n, layN ls on key n <= n := by
 intro n
 induction n with
 | zero => exact nR _
 | succ n ih =>
  simp only [layN]
  cases bitB on ((n + 1 : Nat) : Int) && !((cellAt ls (n + 1) key).1 == 1) with
  | true => rw [condT]; omega
  | false => rw [condF]; omega
theorem layN_pass (ls : List (List Act)) (on key : Int) : ∀ n, layN ls on key n ≠ 0 -> (cellAt ls (layN ls on key n) key).1 ≠ 1 := by
 intro n
 induction n with
 | zero => intro h; exact absurd rfl h
 | succ n ih =>
  simp only [layN]
  cases hb : bitB on ((n + 1 : Nat) : Int) && !((cellAt ls (n + 1) key).1 == 1) with
  | true =>
   rw [condT]
   intro _
   rw [bA] at hb
   simpa using hb.2
  | false => rw [condF]; exact ih
def okC2 (nl : Int) (a : Act) : Prop := okA a /\ a.1 ≠ 1 /\ (a.1 ≠ 9 -> a.2.2.2 < nl)
theorem OkM.act {m : Mp} (h : OkM m) {key : Int} (hk : 0 <= key /\ key < m.1) (on : Int) : okC2 m.2.length (actN m.2 on key) := by
 have hl := layN_le m.2 on key (m.2.length - 1)
 have h1 := h.len.1
 have hc := h.cell (i := layN m.2 on key (m.2.length - 1)) (by omega) hk
 have hp := layN_pass m.2 on key (m.2.length - 1)
 unfold actN
 revert hc hp
 generalize layN m.2 on key (m.2.length - 1) = i
 intro hc hp
 generalize cellAt m.2 i key = a at *
 simp only [cellB, bA, Bool.not_eq_true', Bool.and_eq_false_iff, decide_eq_false_iff_not, isA_iff, beq_eq_false_iff_ne, ne_eq, Bool.not_eq_false', beq_iff_eq] at hc
 refine ⟨hc.1, ?_, ?_⟩
 ·by_cases hi : i = 0
  ·rcases hc.2.1 with g | g
   ·exact absurd hi g
   ·exact g
  ·exact hp hi
 ·intro h9
  rcases hc.2.2 with g | g
  ·exact absurd g h9
  ·omega
def okH (nl : Int) (a : Act) : Prop := okA a /\ kindB a.1 = true /\ (a.1 ≠ 9 -> a.2.2.2 < nl)
theorem kindB_iff (k : Int) : kindB k = true ↔ k ≠ 1 /\ k ≠ 6 /\ k ≠ 7 := by
 simp only [kindB, Bool.not_eq_true', decide_eq_false_iff_not]; omega
theorem isTH_iff (a : Act) : isTH a = true ↔ okA a /\ (a.1 = 6 \/ a.1 = 7) := by
 simp only [isTH, bA, isA_iff, decide_eq_true_eq]
theorem tap_ok {nl : Int} (h1 : 1 <= nl) {a : Act} (h : okC2 nl a) : okH nl (tapO a) := by
 obtain ⟨k, c, m, n⟩ := a
 obtain ⟨h2, h3, h4⟩ := h
 unfold tapO
 cases ht : isTH (k, c, m, n) with
 | true =>
  rw [condT]
  have := (isTH_iff _).1 ht
  refine ⟨?_, by rw [kindB_iff]; simp, fun _ => by simp only []; omega⟩
  unfold okA at *
  dsimp only at *
  omega
 | false =>
  rw [condF]
  refine ⟨h2, ?_, h4⟩
  rw [kindB_iff]
  have : ¬ (okA (k, c, m, n) /\ (k = 6 \/ k = 7)) := fun e => by rw [(isTH_iff (k, c, m, n)).2 e] at ht; cases ht
  have h67 : ¬ (k = 6 \/ k = 7) := fun e => this ⟨h2, e⟩
  dsimp only at *
  omega
theorem hold_ok {nl : Int} (h1 : 1 <= nl) {a : Act} (h : okC2 nl a) : okH nl (holdO a) := by
 obtain ⟨k, c, m, n⟩ := a
 obtain ⟨h2, h3, h4⟩ := h
 unfold holdO
 cases ht : isTH (k, c, m, n) with
 | true =>
  rw [condT]
  have hh := (isTH_iff _).1 ht
  simp only [] at hh h4 ⊢
  by_cases h6 : k = 6
  ·have : (k == 6) = true := by rw [beqI]; exact dT h6
   rw [this, condT]
   refine ⟨?_, by rw [kindB_iff]; simp, fun _ => by simp only []; omega⟩
   unfold okA at *
   dsimp only at *
   omega
  ·have : (k == 6) = false := by rw [beqI]; exact dF h6
   rw [this, condF]
   refine ⟨?_, by rw [kindB_iff]; simp, fun _ => by simp only []; exact h4 (by omega)⟩
   unfold okA at *
   dsimp only at *
   omega
 | false =>
  rw [condF]
  refine ⟨h2, ?_, h4⟩
  rw [kindB_iff]
  have : ¬ (okA (k, c, m, n) /\ (k = 6 \/ k = 7)) := fun e => by rw [(isTH_iff (k, c, m, n)).2 e] at ht; cases ht
  have h67 : ¬ (k = 6 \/ k = 7) := fun e => this ⟨h2, e⟩
  dsimp only at *
  omega
theorem okA_facts {k c m n : Int} (h : okA (k, c, m, n)) : (0 <= m /\ m <= 15) /\ (k = 4 -> 1 <= n) /\ (k = 5 -> 0 <= n) /\ (k = 2 -> 0 <= c /\ c <= 56 /\ n = 0) := by
 unfold okA at h; dsimp only at h; omega
theorem okA_key {c m n : Int} (h0 : c ≠ 0) (hc : 0 <= c /\ c <= 56) (hn : n = 0) (hm : 0 <= m /\ m <= 15) : okA (2, c, m, n) := by
 unfold okA; dsimp only; omega
theorem bI {k j : Int} (h : k = j) : (k == j) = true := by rw [beqI]; exact dT h
theorem bN {k j : Int} (h : k ≠ j) : (k == j) = false := by rw [beqI]; exact dF h
theorem stl_ok {nl : Nat} (h1 : nl <= 4) {fx on : Int} {cp : Bool} {a : Act} (hf : 0 <= fx /\ fx % 2 = 0 /\ fx < 2 ^ nl) (ho : 0 <= on /\ on <= 15) (ha : okH nl a) :
  (0 <= (stl fx on cp a).1 /\ (stl fx on cp a).1 % 2 = 0 /\ (stl fx on cp a).1 < 2 ^ nl) /\ (0 <= (stl fx on cp a).2.1 /\ (stl fx on cp a).2.1 <= 15) /\ okH nl (stl fx on cp a).2.2.2 := by
 obtain ⟨k, c, m, n⟩ := a
 have hA := ha
 obtain ⟨h2, h3, h4⟩ := ha
 obtain ⟨g1, g2, g3, g4⟩ := okA_facts h2
 clear h2
 dsimp only at h4
 simp only [stl]
 by_cases k2 : k = 2
 ·subst k2
  obtain ⟨g4, g5, g6⟩ := g4 rfl
  rw [show ((2 : Int) == 2) = true from rfl, condT]
  by_cases c0 : c = 0
  ·rw [bI c0, condT]; exact ⟨hf, ho, hA⟩
  ·rw [bN c0, condF]
   have hm := or15 g1 ho
   dsimp only
   refine ⟨hf, ⟨Int.le_refl _, by omega⟩, okA_key c0 ⟨g4, g5⟩ g6 ?_, rfl, fun _ => h4 (by omega)⟩
   cases cp && wordB c && (decide (c <= 26) && zA8 .i64 (bitOr .i64 m on) 2 == 0) with
   | true => rw [condT]; omega
   | false => rw [condF]; exact hm
 ·rw [bN k2, condF]
  by_cases k4 : k = 4
  ·rw [bI k4, condT]
   dsimp only
   have hn : 1 <= n /\ n < (nl : Int) := ⟨g2 k4, h4 (by omega)⟩
   exact ⟨fx_xor h1 hf hn, ho, hA⟩
  ·rw [bN k4, condF]
   by_cases k5 : k = 5
   ·rw [bI k5, condT]
    dsimp only
    have hn : 0 <= n /\ n < (nl : Int) := ⟨g3 k5, h4 (by omega)⟩
    exact ⟨fx_to h1 hn, ho, hA⟩
   ·rw [bN k5, condF]
    cases k == 8 with
    | true =>
     rw [condT]
     refine ⟨hf, ?_, hA⟩
     have x1 := andNot15 (a := on) (b := m) ho g1
     have x2 := or15 (a := on) (b := m) ho g1
     dsimp only
     cases zBg .i64 on m == m with
     | true => exact x1
     | false => exact x2
    | false =>
     rw [condF]
     cases k == 10 with
     | true => exact ⟨hf, ho, hA⟩
     | false => exact ⟨hf, ho, hA⟩
def hdP (s : Nat) (l : List Hd) : Prop := (∀ h ∈ l, (0 <= h.1 /\ h.1 <= 31) /\ s.testBit h.1.toNat = false /\ okA h.2 /\ kindB h.2.1 = true) /\ l.Pairwise fun a b => a.1 ≠ b.1
theorem hdGo_iff : ∀ (l : List Hd) (s : Nat), s < 4294967296 -> (hdGo (s : Int) l = true ↔ hdP s l) := by
 intro l
 induction l with
 | nil => intro s _; simp [hdGo, hdP]
 | cons h r ih =>
  intro s hs
  simp only [hdGo, bA, decide_eq_true_eq, isA_iff, Bool.not_eq_true']
  by_cases hr : 0 <= h.1 /\ h.1 <= 31
  ·obtain ⟨k, hk⟩ := Int.eq_ofNat_of_zero_le hr.1
   have e1 : bitB (s : Int) h.1 = s.testBit k := by rw [hk]; exact bitB_nat hs (by omega)
   have e2 : bitOr .i64 (s : Int) (bit1 h.1) = ((s ||| 2 ^ k : Nat) : Int) := by rw [hk]; exact orI hs (by omega)
   have e3 : h.1.toNat = k := by omega
   have hor : s ||| 2 ^ k < 4294967296 := or_lt32 hs (pow_lt32 (by omega))
   rw [e1, e2, ih _ hor]
   constructor
   ·rintro ⟨_, b, ⟨c, d⟩, f, g⟩
    refine ⟨fun x hx => ?_, ?_⟩
    ·rcases List.mem_cons.1 hx with rfl | hx
     ·exact ⟨hr, by rw [e3]; exact b, c, d⟩
     ·obtain ⟨a1, a2, a3⟩ := f x hx
      refine ⟨a1, ?_, a3⟩
      rw [or_bit] at a2
      simp only [Bool.or_eq_false_iff] at a2
      exact a2.1
    ·rw [List.pairwise_cons]
     refine ⟨fun x hx e => ?_, g⟩
     obtain ⟨a1, a2, a3⟩ := f x hx
     rw [or_bit, <- e, e3] at a2
     simp at a2
   ·rintro ⟨f, g⟩
    rw [List.pairwise_cons] at g
    obtain ⟨b1, b2, b3, b4⟩ := f h (by simp)
    rw [e3] at b2
    refine ⟨hr, b2, ⟨b3, b4⟩, fun x hx => ?_, g.2⟩
    obtain ⟨a1, a2, a3⟩ := f x (List.mem_cons_of_mem _ hx)
    refine ⟨a1, ?_, a3⟩
    rw [or_bit, a2]
    have : k ≠ x.1.toNat := fun e => g.1 x hx (by omega)
    simp [this]
  ·constructor
   ·intro ⟨a, _⟩; exact absurd a hr
   ·intro ⟨f, _⟩; exact absurd (f h (by simp)).1 hr
theorem isH_iff (l : List Hd) : isH l = true ↔ hdP 0 l := hdGo_iff l 0 (by omega)
theorem rmv_mem (l : List Hd) (key : Int) : ∀ h ∈ rmv l key, h ∈ l := by
 intro h hh
 rcases List.mem_append.1 hh with g | g
 ·exact List.mem_of_mem_take g
 ·exact List.mem_of_mem_drop g
theorem rmv_sub (l : List Hd) (key : Int) : (rmv l key).Sublist l := by
 have : (rmv l key) = l.eraseIdx (hIx l key) := (List.eraseIdx_eq_take_drop_succ _ _).symm
 rw [this]
 exact List.eraseIdx_sublist _ _
theorem rmv_cons (h : Hd) (l : List Hd) (key : Int) : rmv (h :: l) key = bif h.1 == key then l else h :: rmv l key := by
 unfold rmv hIx
 rw [List.findIdx_cons]
 cases h.1 == key with
 | true => simp
 | false => simp
theorem rmv_iff : ∀ (l : List Hd) (key : Int), (l.Pairwise fun a b => a.1 ≠ b.1) -> ∀ h, h ∈ rmv l key ↔ h ∈ l /\ h.1 ≠ key := by
 intro l key
 induction l with
 | nil => intro _ h; simp [rmv]
 | cons x r ih =>
  intro hp h
  rw [List.pairwise_cons] at hp
  rw [rmv_cons]
  by_cases e : x.1 = key
  ·have : (x.1 == key) = true := by rw [beqI]; exact dT e
   rw [this, condT, List.mem_cons]
   constructor
   ·intro g; exact ⟨Or.inr g, fun e' => hp.1 h g (by rw [e, e'])⟩
   ·rintro ⟨rfl | g, e'⟩
    ·exact absurd e e'
    ·exact g
  ·have : (x.1 == key) = false := by rw [beqI]; exact dF e
   rw [this, condF, List.mem_cons, List.mem_cons, ih hp.2 h]
   constructor
   ·rintro (rfl | ⟨g, e'⟩)
    ·exact ⟨Or.inl rfl, e⟩
    ·exact ⟨Or.inr g, e'⟩
   ·rintro ⟨rfl | g, e'⟩
    ·exact Or.inl rfl
    ·exact Or.inr ⟨g, e'⟩
structure OkE (e : Eng) : Prop where
 map : OkM e.1
 macs : e.2.1.length <= 4
 held : hdP 0 e.2.2.2.1
 once : 0 <= e.2.2.2.2.1 /\ e.2.2.2.2.1 <= 15
 mac : e.2.1.all isMc = true
 keys : ∀ h ∈ e.2.2.2.1, h.1 < e.1.1 /\ (h.2.1 ≠ 9 -> h.2.2.2.2 < e.1.2.length)
 fixed : 0 <= e.2.2.1 /\ e.2.2.1 % 2 = 0 /\ e.2.2.1 < 2 ^ e.1.2.length
theorem heldB_iff (keys nl : Int) (h : Hd) : heldB keys nl h = true ↔ h.1 < keys /\ (h.2.1 ≠ 9 -> h.2.2.2.2 < nl) := by
 simp only [heldB, bA, decide_eq_true_eq, Bool.not_eq_true', Bool.and_eq_false_iff, Bool.not_eq_false', beq_iff_eq, decide_eq_false_iff_not]
 constructor
 ·rintro ⟨a, b⟩; refine ⟨a, fun g => ?_⟩; rcases b with b | b
  ·exact absurd b g
  ·omega
 ·rintro ⟨a, b⟩; refine ⟨a, ?_⟩
  by_cases g : h.2.1 = 9
  ·exact Or.inl g
  ·have := b g; right; omega
theorem isE_iff (e : Eng) : isE e = true ↔ OkE e := by
 unfold isE
 simp only [bA, decide_eq_true_eq, isM_iff, isH_iff]
 rw [List.all_eq_true (l := e.2.2.2.1)]
 constructor
 ·rintro ⟨a, b, c, d, f, g, h⟩; exact ⟨a, b, c, d, f, fun x hx => (heldB_iff _ _ _).1 (g x hx), h⟩
 ·rintro ⟨a, b, c, d, f, g, h⟩; exact ⟨a, b, c, d, f, fun x hx => (heldB_iff _ _ _).2 (g x hx), h⟩
theorem prs_ok {e : Eng} (he : OkE e) {key : Int} (hk : 0 <= key /\ key < e.1.1) (hn : ∀ h ∈ e.2.2.2.1, h.1 ≠ key) (hold : Bool) : OkE (prs e key hold).1 := by
 have h32 := he.map.keys.2
 have h1 := he.map.len
 have ha := he.map.act hk (lyOn e.2.2.1 e.2.2.2.1)
 have hb : okH e.1.2.length (bif hold then holdO (actN e.1.2 (lyOn e.2.2.1 e.2.2.2.1) key) else tapO (actN e.1.2 (lyOn e.2.2.1 e.2.2.2.1) key)) := by
  cases hold with
  | true => exact hold_ok (by omega) ha
  | false => exact tap_ok (by omega) ha
 obtain ⟨s1, s2, s3⟩ := stl_ok (cp := e.2.2.2.2.2) h1.2 he.fixed he.once hb
 refine ⟨he.map, he.macs, ?_, s2, he.mac, ?_, s1⟩
 ·simp only [prs]
  refine ⟨fun x hx => ?_, ?_⟩
  ·rcases List.mem_append.1 hx with hx | hx
   ·exact he.held.1 x hx
   ·rw [List.mem_singleton] at hx; subst hx
    exact ⟨by simp only []; omega, by simp, s3.1, s3.2.1⟩
  ·rw [List.pairwise_append]
   refine ⟨he.held.2, by simp, fun x hx y hy => ?_⟩
   rw [List.mem_singleton] at hy; subst hy
   exact hn x hx
 ·simp only [prs]
  intro x hx
  rcases List.mem_append.1 hx with hx | hx
  ·exact he.keys x hx
  ·rw [List.mem_singleton] at hx; subst hx
   exact ⟨hk.2, s3.2.2⟩
theorem rls_ok {e : Eng} (he : OkE e) (key : Int) : OkE (rls e key).1 := by
 refine ⟨he.map, he.macs, ⟨fun x hx => he.held.1 x (rmv_mem _ _ x hx), he.held.2.sublist (rmv_sub _ _)⟩, he.once, he.mac, fun x hx => he.keys x (rmv_mem _ _ x hx), he.fixed⟩
end Go.Kb
namespace Go.Kb
theorem flB_fol (keys : Nat) (hk : keys <= 32) : ∀ (l : List Ev) (h : Nat) (t : Int), h < 4294967296 -> 0 <= t -> (flB (keys : Int) (h : Int) t l = true ↔ fol keys h t l) := by
 intro l
 induction l with
 | nil => intro h t _ _; simp [flB, fol]
 | cons e r ih =>
  intro h t hh ht
  simp only [flB, fol, bA, decide_eq_true_eq, evB, isEv]
  constructor
  ·rintro ⟨⟨⟨a1, a2⟩, a3, a4⟩, ⟨b1, b2⟩, c, d⟩
   obtain ⟨k, hk'⟩ := Int.eq_ofNat_of_zero_le a3
   rw [hk'] at c d
   rw [bitB_nat hh (by omega)] at c
   have e2 : zBa .i64 (h : Int) (bit1 (k : Int)) = ((h ^^^ 2 ^ k : Nat) : Int) := xorI hh (by omega)
   rw [e2] at d
   have hxor : h ^^^ 2 ^ k < 4294967296 := by
    have := Nat.xor_lt_two_pow (n := 32) (x := h) (y := 2 ^ k) (by omega) (by have := pow_lt32 (k := k) (by omega); omega)
    omega
   refine ⟨b2, a2, k, by omega, hk', ?_, (ih _ _ hxor a1).1 d⟩
   revert c
   cases e.2.2 <;> cases h.testBit k <;> simp
  ·rintro ⟨a1, a2, k, b1, b2, b3, d⟩
   have hxor : h ^^^ 2 ^ k < 4294967296 := by
    have := Nat.xor_lt_two_pow (n := 32) (x := h) (y := 2 ^ k) (by omega) (by have := pow_lt32 (k := k) (by omega); omega)
    omega
   have e2 : zBa .i64 (h : Int) (bit1 (k : Int)) = ((h ^^^ 2 ^ k : Nat) : Int) := xorI hh (by omega)
   refine ⟨⟨⟨by omega, by omega⟩, by omega, by omega⟩, ⟨by omega, by omega⟩, ?_, ?_⟩
   ·rw [b2, bitB_nat hh (by omega), b3]; cases h.testBit k <;> simp
   ·rw [b2, e2]; exact (ih _ _ hxor (by omega)).2 d
def hmN : Nat -> List Hd -> Nat
 | s, [] => s
 | s, h :: r => hmN (s ||| 2 ^ h.1.toNat) r
theorem hmN_eq : ∀ (l : List Hd) (s : Nat), s < 4294967296 -> (∀ h ∈ l, 0 <= h.1 /\ h.1 <= 31) -> hmGo (s : Int) l = (hmN s l : Int) /\ hmN s l < 4294967296 := by
 intro l
 induction l with
 | nil => intro s hs _; exact ⟨rfl, hs⟩
 | cons h r ih =>
  intro s hs hh
  obtain ⟨k, hk⟩ := Int.eq_ofNat_of_zero_le (hh h (by simp)).1
  have hk31 := (hh h (by simp)).2
  have e2 : bitOr .i64 (s : Int) (bit1 h.1) = ((s ||| 2 ^ k : Nat) : Int) := by rw [hk]; exact orI hs (by omega)
  have e3 : h.1.toNat = k := by omega
  simp only [hmGo, hmN]
  rw [e2, e3]
  exact ih _ (or_lt32 hs (pow_lt32 (by omega))) (fun x hx => hh x (List.mem_cons_of_mem _ hx))
theorem hmN_bit : ∀ (l : List Hd) (s i : Nat), (hmN s l).testBit i = (s.testBit i || l.any fun h => h.1.toNat == i) := by
 intro l
 induction l with
 | nil => intro s i; simp [hmN]
 | cons h r ih =>
  intro s i
  simp only [hmN]
  rw [ih, or_bit, List.any_cons, Bool.or_assoc]
  congr 2
theorem any_key {l : List Hd} (hl : ∀ h ∈ l, 0 <= h.1 /\ h.1 <= 31) (k : Nat) : (l.any fun h => h.1.toNat == k) = true ↔ ∃ h ∈ l, h.1 = (k : Int) := by
 rw [List.any_eq_true]
 constructor
 ·rintro ⟨h, h1, h2⟩; have := hl h h1; exact ⟨h, h1, by rw [beq_iff_eq] at h2; omega⟩
 ·rintro ⟨h, h1, h2⟩; exact ⟨h, h1, by rw [beq_iff_eq]; omega⟩
theorem hmN_press {l : List Hd} (hl : ∀ h ∈ l, 0 <= h.1 /\ h.1 <= 31) {k : Nat} (hn : ∀ h ∈ l, h.1 ≠ (k : Int)) (a : Act) : hmN 0 (l ++ [((k : Int), a)]) = hmN 0 l ^^^ 2 ^ k := by
 refine Nat.eq_of_testBit_eq fun i => ?_
 rw [xor_bit, hmN_bit, hmN_bit, List.any_append]
 have hf : (l.any fun h => h.1.toNat == k) = false := by
  rw [Bool.eq_false_iff]
  intro h
  obtain ⟨x, x1, x2⟩ := (any_key hl k).1 h
  exact hn x x1 x2
 simp only [Nat.zero_testBit, Bool.false_or, List.any_cons, List.any_nil, Bool.or_false, Int.toNat_natCast]
 by_cases e : k = i
 ·subst e; rw [hf]; simp
 ·have e1 : (k == i) = false := by simp [e]
  rw [e1, dF e]
  simp
theorem hmN_release {l : List Hd} (hl : ∀ h ∈ l, 0 <= h.1 /\ h.1 <= 31) (hp : l.Pairwise fun a b => a.1 ≠ b.1) {k : Nat} (hn : ∃ h ∈ l, h.1 = (k : Int)) : hmN 0 (rmv l k) = hmN 0 l ^^^ 2 ^ k := by
 refine Nat.eq_of_testBit_eq fun i => ?_
 rw [xor_bit, hmN_bit, hmN_bit]
 simp only [Nat.zero_testBit, Bool.false_or]
 have hl' : ∀ h ∈ rmv l k, 0 <= h.1 /\ h.1 <= 31 := fun h hh => hl h (rmv_mem _ _ h hh)
 by_cases e : k = i
 ·subst e
  rw [(any_key hl k).2 hn, dT rfl]
  have : ((rmv l (k : Int)).any fun h => h.1.toNat == k) = false := by
   rw [Bool.eq_false_iff]
   intro h
   obtain ⟨x, x1, x2⟩ := (any_key hl' k).1 h
   exact ((rmv_iff l k hp x).1 x1).2 x2
  rw [this]; rfl
 ·rw [dF e, Bool.xor_false]
  have key : ((rmv l (k : Int)).any fun h => h.1.toNat == i) = true ↔ (l.any fun h => h.1.toNat == i) = true := by
   rw [any_key hl', any_key hl]
   constructor
   ·rintro ⟨x, x1, x2⟩; exact ⟨x, rmv_mem _ _ x x1, x2⟩
   ·rintro ⟨x, x1, x2⟩; exact ⟨x, (rmv_iff l k hp x).2 ⟨x1, by omega⟩, x2⟩
  exact Bool.eq_iff_iff.2 key
theorem isT_iff (t : Tmg) : isT t = true ↔ 1 <= t.1 /\ t.1 <= 1000 /\ 0 <= t.2.1 /\ t.2.1 <= 1000 /\ 0 <= t.2.2 /\ t.2.2 <= 2 := by unfold isT; exact decide_eq_true_iff
structure OkD (d : Dcd) : Prop where
 eng : OkE d.1
 tm : isT d.2.1 = true
 now : 0 <= d.2.2.2.1 /\ d.2.2.2.1 <= 1000000
 clock : 0 <= d.2.2.2.2.1 /\ d.2.2.2.2.1 <= d.2.2.2.1
 len : d.2.2.1.length <= 64
 f : fol d.1.1.1.toNat (hmN 0 d.1.2.2.2.1) 0 d.2.2.1
 last : lT 0 d.2.2.1 <= d.2.2.2.1
 tap : 0 <= d.2.2.2.2.2.1 /\ d.2.2.2.2.2.1 <= d.1.1.1 /\ 0 <= d.2.2.2.2.2.2 /\ d.2.2.2.2.2.2 <= d.2.2.2.1
theorem OkE.rng {e : Eng} (h : OkE e) : ∀ x ∈ e.2.2.2.1, 0 <= x.1 /\ x.1 <= 31 := fun x hx => (h.held.1 x hx).1
theorem fits_iff {e : Eng} (he : OkE e) (q : List Ev) : fits q (hmGo 0 e.2.2.2.1) e.1.1 = true ↔ q.length <= 64 /\ fol e.1.1.toNat (hmN 0 e.2.2.2.1) 0 q := by
 have hk := he.map.keys
 obtain ⟨h1, h2⟩ := hmN_eq e.2.2.2.1 0 (by omega) he.rng
 have h1 : hmGo 0 e.2.2.2.1 = _ := h1
 have e1 : e.1.1 = (e.1.1.toNat : Int) := by omega
 unfold fits
 rw [h1, bA, decide_eq_true_eq, <- flB_fol e.1.1.toNat (by omega) q _ 0 h2 (by omega), <- e1]
theorem isD_iff (d : Dcd) : isD d = true ↔ OkD d := by
 unfold isD
 simp only [bA, decide_eq_true_eq, isE_iff]
 constructor
 ·rintro ⟨a, b, ⟨c1, c2, c3, c4⟩, f, g, h⟩
  obtain ⟨f1, f2⟩ := (fits_iff a _).1 f
  exact ⟨a, b, ⟨c1, c2⟩, ⟨c3, c4⟩, f1, f2, g, h⟩
 ·rintro ⟨a, b, ⟨c1, c2⟩, ⟨c3, c4⟩, f1, f2, g, h⟩
  exact ⟨a, b, ⟨c1, c2, c3, c4⟩, (fits_iff a _).2 ⟨f1, f2⟩, g, h⟩
theorem chGo_le (fl key en now : Int) : ∀ (l : List Ev) (dn : Int), (∀ e ∈ l, e.1 <= now) -> (chGo fl key en now dn l).1 ≠ 0 -> (chGo fl key en now dn l).2 <= now := by
 intro l
 induction l with
 | nil =>
  intro dn _
  simp only [chGo]
  by_cases h : en <= now
  ·rw [dT h, condT]; intro _; exact h
  ·rw [dF h, condF]; intro g; exact absurd rfl g
 | cons e r ih =>
  intro dn h
  have he := h e (by simp)
  have hr : ∀ x ∈ r, x.1 <= now := fun x hx => h x (List.mem_cons_of_mem _ hx)
  simp only [chGo]
  cases evB e with
  | false => rw [notF, condT]; intro g; exact absurd rfl g
  | true =>
   rw [notT, condF]
   by_cases h1 : en <= e.1
   ·rw [dT h1, condT]; intro _; simp only []; omega
   ·rw [dF h1, condF]
    cases e.2.1 == key with
    | true =>
     rw [condT]
     cases e.2.2 with
     | true => rw [condT]; exact ih dn hr
     | false => rw [condF]; intro _; exact he
    | false =>
     rw [condF]
     cases e.2.2 with
     | true =>
      rw [condT]
      cases fl == 1 with
      | true => rw [condT]; intro _; exact he
      | false => rw [condF]; exact ih _ hr
     | false =>
      rw [condF]
      cases fl == 2 && bitB dn e.2.1 with
      | true => rw [condT]; intro _; exact he
      | false => rw [condF]; exact ih _ hr
theorem chc_le (t : Tmg) (key time : Int) (rest : List Ev) (now : Int) (h : ∀ e ∈ rest, e.1 <= now) (hc : (chc t key time rest now).1 ≠ 0) : (chc t key time rest now).2 <= now := by
 unfold chc at *
 cases hh : isT t && decide (0 <= time /\ time <= 1000000) with
 | true => rw [hh, condT] at hc; rw [condT]; exact chGo_le _ _ _ _ _ _ h hc
 | false => rw [hh, condF] at hc; exact absurd rfl hc
theorem maxI_le {a b c : Int} (h1 : a <= c) (h2 : b <= c) : maxI a b <= c := by unfold maxI; split <;> omega
theorem maxI_ge (a b : Int) : a <= maxI a b /\ b <= maxI a b := by unfold maxI; split <;> omega
theorem stepD_ok {d : Dcd} (h : OkD d) {l : List Rpt} {d' : Dcd} (hs : stepD d = some (l, d')) :
  OkD d' /\ d'.2.1 = d.2.1 /\ d'.2.2.2.1 = d.2.2.2.1 /\ d.2.2.2.2.1 <= d'.2.2.2.2.1 /\ d'.1.1 = d.1.1 /\ (∃ f, d.2.2.1 = f :: d'.2.2.1) /\
  (∃ f, d.2.2.1 = f :: d'.2.2.1 /\ ((f.2.2 = true /\ (∀ x ∈ d.1.2.2.2.1, x.1 ≠ f.2.1) /\ ∃ hold, d'.1 = (prs d.1 f.2.1 hold).1 /\ l = (prs d.1 f.2.1 hold).2) \/ (f.2.2 = false /\ (∃ x ∈ d.1.2.2.2.1, x.1 = f.2.1) /\ d'.1 = (rls d.1 f.2.1).1 /\ l = (rls d.1 f.2.1).2))) := by
 obtain ⟨e, tm, q, now, ck, tp, ta⟩ := d
 obtain ⟨h1, h2, h3, h4, h5, h6, h7, h8⟩ := h
 simp only [] at h1 h2 h3 h4 h5 h6 h7 h8
 cases q with
 | nil => simp [stepD] at hs
 | cons f r =>
  obtain ⟨t, key, dn⟩ := f
  obtain ⟨f1, f2, k, f3, f4, f5, f6⟩ := h6
  simp only [] at f1 f2 f4 f5 f6
  have hk := h1.map.keys
  have hle : lT 0 ((t, key, dn) :: r) = lT t r := rfl
  rw [hle] at h7
  have htl := lT_ge _ r _ _ f6
  have hev : ∀ x ∈ r, x.1 <= now := fun x hx => by have := fol_time _ r _ _ f6 x hx; omega
  have hmb := hmN_bit e.2.2.2.1 0 k
  simp only [Nat.zero_testBit, Bool.false_or] at hmb
  have f6' := fol_mono (nR _) r _ t 0 (by omega) f6
  have hlen : r.length <= 64 := by simp only [List.length_cons] at h5; omega
  have hl0 : lT 0 r <= now := by
   cases r with
   | nil => simp only [lT, List.foldl_nil]; omega
   | cons y s => exact h7
  simp only [stepD] at hs
  cases dn with
  | false =>
   have hin : ∃ x ∈ e.2.2.2.1, x.1 = key := by
    rw [f4]
    refine (any_key h1.rng k).1 ?_
    rw [<- hmb]
    revert f5
    cases (hmN 0 e.2.2.2.1).testBit k <;> simp
   rw [condF] at hs
   injection hs with hs
   injection hs with a b
   subst a; subst b
   have hin' : ∃ x ∈ e.2.2.2.1, x.1 = (k : Int) := by rw [<- f4]; exact hin
   refine ⟨⟨rls_ok h1 key, h2, h3, ⟨by have := maxI_ge ck t; simp only []; omega, maxI_le h4.2 (by simp only []; omega)⟩, hlen, ?_, hl0, ?_⟩, rfl, rfl, (maxI_ge ck t).1, rfl, ⟨_, rfl⟩, ⟨_, rfl, Or.inr ⟨rfl, hin, rfl, rfl⟩⟩⟩
   ·show fol e.1.1.toNat (hmN 0 (rmv e.2.2.2.1 key)) 0 r
    rw [f4, hmN_release h1.rng h1.held.2 hin']
    exact f6'
   ·refine ⟨h8.1, h8.2.1, ?_⟩
    simp only []
    cases tp == key + 1 with
    | true => rw [condT]; omega
    | false => rw [condF]; exact h8.2.2
  | true =>
   have hni : ∀ x ∈ e.2.2.2.1, x.1 ≠ key := by
    intro x hx hxk
    have : (e.2.2.2.1.any fun h => h.1.toNat == k) = true := (any_key h1.rng k).2 ⟨x, hx, by omega⟩
    rw [<- hmb] at this
    rw [this] at f5
    cases f5
   have hni' : ∀ x ∈ e.2.2.2.1, x.1 ≠ (k : Int) := by rw [<- f4]; exact hni
   have hfo : ∀ hold, fol e.1.1.toNat (hmN 0 (prs e key hold).1.2.2.2.1) 0 r := by
    intro hold
    show fol e.1.1.toNat (hmN 0 (e.2.2.2.1 ++ [(key, _)])) 0 r
    rw [f4, hmN_press h1.rng hni']
    exact f6'
   have hkr : 0 <= key /\ key < e.1.1 := by omega
   rw [condT] at hs
   cases hth : isTH (actN e.1.2 (lyOn e.2.2.1 e.2.2.2.1) key) with
   | true =>
    rw [hth, condT] at hs
    have hcl := chc_le tm key t r now hev
    have hwc : ((chD tm tp ta (t, key, true) r now).1 == 0) = false -> (chD tm tp ta (t, key, true) r now).2 <= now := by
     unfold chD
     cases tp == key + 1 && decide (t - ta < tm.2.1) with
     | true => rw [condT]; intro _; dsimp only; omega
     | false => rw [condF]; intro g; exact hcl (by simpa using g)
    generalize chD tm tp ta (t, key, true) r now = c at *
    cases hc : c.1 == 0 with
    | true => rw [hc, condT] at hs; cases hs
    | false =>
     rw [hc, condF] at hs
     injection hs with hs
     injection hs with a b
     subst a; subst b
     have hw := hwc hc
     have g1 := maxI_ge ck t
     have g2 := maxI_ge (maxI ck t) c.2
     have g3 := maxI_le (a := ck) (b := t) (c := now) h4.2 (by omega)
     refine ⟨⟨prs_ok h1 hkr hni _, h2, h3, ⟨by simp only []; omega, maxI_le g3 hw⟩, hlen, hfo _, hl0, ?_⟩, rfl, rfl, by simp only []; omega, rfl, ⟨_, rfl⟩, ⟨_, rfl, Or.inl ⟨rfl, hni, _, rfl, rfl⟩⟩⟩
     show 0 <= (bif c.1 == 2 then (0 : Int) else key + 1) /\ (bif c.1 == 2 then (0 : Int) else key + 1) <= e.1.1 /\ 0 <= (bif c.1 == 2 then ta else t) /\ (bif c.1 == 2 then ta else t) <= now
     cases c.1 == 2 with
     | true => rw [condT, condT]; omega
     | false => rw [condF, condF]; omega
   | false =>
    rw [hth, condF] at hs
    injection hs with hs
    injection hs with a b
    subst a; subst b
    have g1 := maxI_ge ck t
    exact ⟨⟨prs_ok h1 hkr hni _, h2, h3, ⟨by simp only []; omega, maxI_le h4.2 (by simp only []; omega)⟩, hlen, hfo _, hl0, h8⟩, rfl, rfl, g1.1, rfl, ⟨_, rfl⟩, ⟨_, rfl, Or.inl ⟨rfl, hni, _, rfl, rfl⟩⟩⟩
end Go.Kb
