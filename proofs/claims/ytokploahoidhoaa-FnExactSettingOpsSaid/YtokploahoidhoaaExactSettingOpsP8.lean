/- Rows of rows: sizes, copies, comparisons. -/
import Derived.Test.YtokploahoidhoaaExactSettingOpsP4
import Derived.Test.YtokploahoidhoaaExactSettingOpsF3
namespace Go.Kb


theorem nth_mem {α : Type} (d : α) (a : List α) (k : Nat) (h : k < a.length) : a.getD k d ∈ a := by
  rw [List.getD_eq_getElem?_getD, List.getElem?_eq_getElem h]; exact List.getElem_mem h

theorem szLoop {α : Type} (d : α) (L : Nat → List α → Int → Int → Option Int) (g : α × Int → Option Int) (P : α → Prop) (a : List α)
    (Leq : ∀ n left i, L (n + 1) a left i = bif decide (i < (List.length a : Int)) then (bif inRange i (List.length a) then bindO (g (nth d a i, left)) fun r1 => bif decide (r1 < (0 : Int)) then some (-1 : Int) else L n a r1 (IntKind.wrap .i64 (i + (1 : Int))) else none) else some left)
    (hg : ∀ x ∈ a, ∀ left, 0 ≤ left → left ≤ 1048576 → ∃ r, g (x, left) = some r ∧ -1 ≤ r ∧ r ≤ left ∧ (0 ≤ r → P x)) :
    ∀ (n k : Nat) (left : Int), a.length ≤ maxN → 0 ≤ left → left ≤ 1048576 → k ≤ a.length → a.length < n + k → ∃ r, L n a left (k : Int) = some r ∧ -1 ≤ r ∧ r ≤ left ∧ (0 ≤ r → ∀ x ∈ a.drop k, P x) := by
  intro n
  induction n with
  | zero => intro k left h1 h2 h3 h4 h5; omega
  | succ n ih =>
    intro k left h1 h2 h3 h4 h5
    rw [Leq]
    unfold maxN at h1
    by_cases hk : k < a.length
    · simp only [Int.ofNat_lt, hk, decide_true, cond_true, inRange_nat, nth_nat]
      obtain ⟨r, e, r0, r1, r2⟩ := hg _ (nth_mem d a k hk) left h2 h3
      rw [e, bindO_val]
      by_cases hr : r < 0
      · simp only [hr, decide_true, cond_true]
        exact ⟨-1, rfl, by omega, by omega, fun h => by omega⟩
      · simp only [hr, decide_false, cond_false]
        rw [wrap_succ (by omega)]
        obtain ⟨q, e', q0, q1, q2⟩ := ih (k + 1) r (by unfold maxN; omega) (by omega) (by omega) (by omega) (by omega)
        refine ⟨q, e', q0, by omega, fun h x hx => ?_⟩
        rw [drop_cons d a k hk] at hx
        rcases List.mem_cons.1 hx with rfl | hx
        · exact r2 (by omega)
        · exact q2 h x hx
    · simp only [Int.ofNat_lt, hk, decide_false, cond_false]
      refine ⟨left, rfl, by omega, by omega, fun _ x hx => ?_⟩
      rw [List.drop_of_length_le (by omega)] at hx
      cases hx

theorem toLoop {α : Type} (d : α) (L : Nat → List α → Int → List α → Option (List α)) (g : α → Option α) (a : List α)
    (Leq : ∀ n i o, L (n + 1) a i o = bif decide (i < (List.length a : Int)) then (bif inRange i (List.length a) then bindO (g (nth d a i)) fun r1 => bif inRange i (List.length o) then L n a (IntKind.wrap .i64 (i + (1 : Int))) (List.set o (Int.toNat i) r1) else none else none) else some o)
    (hg : ∀ x ∈ a, g x = some x) :
    ∀ (n k : Nat) (o : List α), a.length ≤ maxN → o.length = a.length → k ≤ a.length → a.length < n + k → o.take k = a.take k → L n a (k : Int) o = some a := by
  intro n
  induction n with
  | zero => intro k o h1 h2 h0 h3; omega
  | succ n ih =>
    intro k o h1 h2 h0 h3 h4
    rw [Leq]
    unfold maxN at h1
    by_cases hk : k < a.length
    · have hko : k < o.length := by omega
      simp only [Int.ofNat_lt, hk, decide_true, cond_true, inRange_nat, hko, nth_nat, Int.toNat_natCast]
      rw [hg _ (nth_mem d a k hk), bindO_val, wrap_succ (by omega)]
      refine ih (k + 1) _ (by unfold maxN; omega) (by simp [h2]) (by omega) (by omega) ?_
      rw [List.take_add_one, List.take_add_one, List.take_set_of_le (by omega), h4]
      simp [List.getElem?_set_self hko, List.getElem?_eq_getElem hk, List.getD_eq_getElem?_getD]
    · simp only [Int.ofNat_lt, hk, decide_false, cond_false]
      rw [List.take_of_length_le (by omega), List.take_of_length_le (by omega)] at h4
      rw [h4]

theorem eqLoop {α : Type} [DecidableEq α] (d : α) (L : Nat → List α → List α → Int → Option Bool) (g : α × α → Option Bool) (a b : List α)
    (Leq : ∀ n i, L (n + 1) a b i = bif decide (i < (List.length a : Int)) then (bif inRange i (List.length a) then (bif inRange i (List.length b) then bindO (g (nth d a i, nth d b i)) fun r1 => bif !r1 then some false else L n a b (IntKind.wrap .i64 (i + (1 : Int))) else none) else none) else some true)
    (hg : ∀ x ∈ a, ∀ y, g (x, y) = some (decide (x = y))) :
    ∀ (n k : Nat), a.length ≤ maxN → b.length = a.length → k ≤ a.length → a.length < n + k → L n a b (k : Int) = some (decide (a.drop k = b.drop k)) := by
  intro n
  induction n with
  | zero => intro k h1 h2 h0 h3; omega
  | succ n ih =>
    intro k h1 h2 h0 h3
    rw [Leq]
    unfold maxN at h1
    by_cases hk : k < a.length
    · have hkb : k < b.length := by omega
      simp only [Int.ofNat_lt, hk, decide_true, cond_true, inRange_nat, hkb, nth_nat]
      rw [hg _ (nth_mem d a k hk), bindO_val, wrap_succ (by omega), ih (k + 1) (by unfold maxN; omega) h2 (by omega) (by omega), drop_cons d a k hk, drop_cons d b k hkb]
      generalize a.getD k d = x
      generalize b.getD k d = y
      by_cases he : x = y
      · simp [he]
      · simp [he]
    · simp only [Int.ofNat_lt, hk, decide_false, cond_false]
      rw [List.drop_of_length_le (by omega), List.drop_of_length_le (by omega)]
      simp

/-- a length that a make allows -/
theorem lenOk {n : Nat} (h : n ≤ maxN) : (decide (0 ≤ (n : Int)) && decide ((n : Int) ≤ (maxN : Int))) = true := by
  simp only [Bool.and_eq_true, decide_eq_true_eq]
  omega

/-! ### rows of whole numbers -/
theorem toIntS_eq (N : Nat) (a : List Int) (h : a.length < N) (hm : a.length ≤ maxN) : laws_toIntS.F N a = some a := by
  rw [laws_toIntS.F_eq, lenOk hm, cond_true]
  exact toLoop 0 (fun n a i o => laws_toIntS.L1 N n a i o) some a (fun n i o => laws_toIntS.L1_eq N n a i o) (fun x _ => rfl) N 0 _ hm (by simp) (by omega) (by omega) (by simp)

theorem szIntS_eq (N : Nat) (a : List Int) (left : Int) (h : a.length ≤ maxLen) (h0 : 0 ≤ left) (h1 : left ≤ 1048576) : ∃ r, laws_szIntS.F N (a, left) = some r ∧ -1 ≤ r ∧ r ≤ left ∧ (0 ≤ r → a.length ≤ 1048576) := by
  rw [laws_szIntS.F_eq]
  unfold maxLen at h
  rw [wrap64 (by omega) (by omega)]
  by_cases hh : left - (a.length : Int) < 0
  · simp only [hh, decide_true, cond_true]; exact ⟨_, rfl, by omega, by omega, fun h => by omega⟩
  · simp only [hh, decide_false, cond_false]; exact ⟨_, rfl, by omega, by omega, fun h => by omega⟩

/-- rows of small rows -/
def smallSS (a : List (List Int)) : Prop := a.length ≤ 1048576 ∧ ∀ x ∈ a, x.length ≤ 1048576

theorem szIntSS_eq (N : Nat) (hN : 1048576 < N) (a : List (List Int)) (left : Int) (h : a.length ≤ maxLen ∧ ∀ x ∈ a, x.length ≤ maxLen) (h0 : 0 ≤ left) (h1 : left ≤ 1048576) : ∃ r, laws_szIntSS.F N (a, left) = some r ∧ -1 ≤ r ∧ r ≤ left ∧ (0 ≤ r → smallSS a) := by
  rw [laws_szIntSS.F_eq]
  obtain ⟨ha, hx⟩ := h
  unfold maxLen at ha
  rw [wrap64 (by omega) (by omega)]
  by_cases hh : left - (a.length : Int) < 0
  · simp only [hh, decide_true, cond_true]; exact ⟨_, rfl, by omega, by omega, fun h => by omega⟩
  · simp only [hh, decide_false, cond_false]
    obtain ⟨r, e, r0, r1, r2⟩ := szLoop [] (fun n a l i => laws_szIntSS.L1 N n a l i) (fun x => laws_szIntS.F N x) (fun x => x.length ≤ 1048576) a (fun n l i => laws_szIntSS.L1_eq N n a l i)
      (fun x hm l g0 g1 => szIntS_eq N x l (hx x hm) g0 g1) N 0 (left - (a.length : Int)) (by unfold maxN; omega) (by omega) (by omega) (by omega) (by omega)
    exact ⟨r, e, r0, by omega, fun h => ⟨by omega, r2 h⟩⟩

theorem eqIntSS_eq (N : Nat) (hN : 1048576 < N) (a b : List (List Int)) (h : smallSS a) : laws_eqIntSS.F N (a, b) = some (decide (a = b)) := by
  obtain ⟨h1, h2⟩ := h
  have hm : a.length ≤ maxN := by unfold maxN; omega
  rw [laws_eqIntSS.F_eq]
  by_cases hl : a.length = b.length
  · have : ((a.length : Int) != (b.length : Int)) = false := by simp [hl]
    rw [this, cond_false]
    have := eqLoop [] (fun n a b i => laws_eqIntSS.L1 N n a b i) (fun x => laws_eqIntS.F N x) a b (fun n i => laws_eqIntSS.L1_eq N n a b i) (fun x hx y => eqIntS_eq N x y (by have := h2 x hx; omega) (by have := h2 x hx; unfold maxN; omega)) N 0 hm hl.symm (by omega) (by omega)
    simpa using this
  · have h1 : ((a.length : Int) != (b.length : Int)) = true := by simp; omega
    have h2 : a ≠ b := fun e => hl (by rw [e])
    rw [h1, cond_true]
    simp [h2]

/-! ### the flash -/
abbrev Fl := List (List Int) × List Int
def wellF (f : Fl) : Prop := (f.1.length ≤ maxLen ∧ ∀ x ∈ f.1, x.length ≤ maxLen) ∧ f.2.length ≤ maxLen
def smallF (f : Fl) : Prop := smallSS f.1 ∧ f.2.length ≤ 1048576

theorem szFlash_eq (N : Nat) (hN : 1048576 < N) (f : Fl) (h : wellF f) : ∃ r, laws_szFlash.F N (f, 1048576) = some r ∧ (0 ≤ r → smallF f) := by
  rw [laws_szFlash.F_eq]
  obtain ⟨r, e, r0, r1, r2⟩ := szIntSS_eq N hN f.1 1048576 h.1 (by omega) (by omega)
  rw [e, bindO_val]
  by_cases hr : r < 0
  · simp only [hr, decide_true, cond_true]; exact ⟨_, rfl, fun h => by omega⟩
  · simp only [hr, decide_false, cond_false]
    obtain ⟨q, e', q0, q1, q2⟩ := szIntS_eq N f.2 r h.2 (by omega) r1
    rw [e', bindO_val]
    by_cases hq : q < 0
    · simp only [hq, decide_true, cond_true]; exact ⟨_, rfl, fun h => by omega⟩
    · simp only [hq, decide_false, cond_false]; exact ⟨_, rfl, fun h => ⟨r2 (by omega), q2 h⟩⟩

theorem eqFlash_self (N : Nat) (hN : 1048576 < N) (f : Fl) (h : smallF f) : laws_eqFlash.F N (f, f) = some true := by
  rw [laws_eqFlash.F_eq, eqIntSS_eq N hN f.1 f.1 h.1, bindO_val, eqIntS_eq N f.2 f.2 (by have := h.2; omega) (by have := h.2; unfold maxN; omega)]; simp

end Go.Kb
