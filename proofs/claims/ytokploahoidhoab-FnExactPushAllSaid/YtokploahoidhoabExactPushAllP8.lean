/- Rows of rows: sizes, copies, comparisons. -/
import Derived.Test.YtokploahoidhoabExactPushAllP4
import Derived.Test.YtokploahoidhoabExactPushAllF3
namespace Go.Kb


theorem nth_mem {α : Type} (d : α) (a : List α) (k : Nat) (h : k < a.length) : a.getD k d ∈ a := by
  rw [List.getD_eq_getElem?_getD, List.getElem?_eq_getElem h]; exact List.getElem_mem h

theorem szLoop {α : Type} (d : α) (L : Nat → List α → Int → Int → Option Int) (g : α × Int → Option Int) (P : α → Prop) (a : List α)
    (Leq : ∀ n left i, L (n + 1) a left i = bif decide (i < (List.length a : Int)) then (bif inRange i (List.length a) then bindO (g (nth d a i, left)) fun r1 => bif decide (r1 < (0 : Int)) then some (-1 : Int) else L n a r1 (IntKind.wrap .i64 (i + (1 : Int))) else none) else some left)
    (hg : ∀ x ∈ a, ∀ left, 0 ≤ left → left ≤ 1048576 → ∃ r, g (x, left) = some r ∧ -1 ≤ r ∧ r ≤ left ∧ (0 ≤ r → P x)) :
    ∀ (n k : Nat) (left : Int), a.length ≤ maxN → 0 ≤ left → left ≤ 1048576 → k ≤ a.length → a.length < n + k → ∃ r, L n a left (k : Int) = some r ∧ -1 ≤ r ∧ r ≤ left ∧ (0 ≤ r → ∀ x ∈ a.drop k, P x) := by
  intro n
  induction n with
  | zero => intro k left h1 h2 h3 h4 h5; omega
  | succ n ih =>
    intro k left h1 h2 h3 h4 h5
    rw [Leq]
    unfold maxN at h1
    by_cases hk : k < a.length
    · simp only [Int.ofNat_lt, hk, decide_true, cond_true, inRange_nat, nth_nat]
      obtain ⟨r, e, r0, r1, r2⟩ := hg _ (nth_mem d a k hk) left h2 h3
      rw [e, bindO_val]
      by_cases hr : r < 0
      · simp only [hr, decide_true, cond_true]
        exact ⟨-1, rfl, by omega, by omega, fun h => by omega⟩
      · simp only [hr, decide_false, cond_false]
        rw [wrap_succ (by omega)]
        obtain ⟨q, e', q0, q1, q2⟩ := ih (k + 1) r (by unfold maxN; omega) (by omega) (by omega) (by omega) (by omega)
        refine ⟨q, e', q0, by omega, fun h x hx => ?_⟩
        rw [drop_cons d a k hk] at hx
        rcases List.mem_cons.1 hx with rfl | hx
        · exact r2 (by omega)
        · exact q2 h x hx
    · simp only [Int.ofNat_lt, hk, decide_false, cond_false]
      refine ⟨left, rfl, by omega, by omega, fun _ x hx => ?_⟩
      rw [List.drop_of_length_le (by omega)] at hx
      cases hx

theorem toLoop {α : Type} (d : α) (L : Nat → List α → Int → List α → Option (List α)) (g : α → Option α) (a : List α)
    (Leq : ∀ n i o, L (n + 1) a i o = bif decide (i < (List.length a : Int)) then (bif inRange i (List.length a) then bindO (g (nth d a i)) fun r1 => bif inRange i (List.length o) then L n a (IntKind.wrap .i64 (i + (1 : Int))) (List.set o (Int.toNat i) r1) else none else none) else some o)
    (hg : ∀ x ∈ a, g x = some x) :
    ∀ (n k : Nat) (o : List α), a.length ≤ maxN → o.length = a.length → k ≤ a.length → a.length < n + k → o.take k = a.take k → L n a (k : Int) o = some a := by
  intro n
  induction n with
  | zero => intro k o h1 h2 h0 h3; omega
  | succ n ih =>
    intro k o h1 h2 h0 h3 h4
    rw [Leq]
    unfold maxN at h1
    by_cases hk : k < a.length
    · have hko : k < o.length := by omega
      simp only [Int.ofNat_lt, hk, decide_true, cond_true, inRange_nat, hko, nth_nat, Int.toNat_natCast]
      rw [hg _ (nth_mem d a k hk), bindO_val, wrap_succ (by omega)]
      refine ih (k + 1) _ (by unfold maxN; omega) (by simp [h2]) (by omega) (by omega) ?_
      rw [List.take_add_one, List.take_add_one, List.take_set_of_le (by omega), h4]
      simp [List.getElem?_set_self hko, List.getElem?_eq_getElem hk, List.getD_eq_getElem?_getD]
    · simp only [Int.ofNat_lt, hk, decide_false, cond_false]
      rw [List.take_of_length_le (by omega), List.take_of_length_le (by omega)] at h4
      rw [h4]

theorem eqLoop {α : Type} [DecidableEq α] (d : α) (L : Nat → List α → List α → Int → Option Bool) (g : α × α → Option Bool) (a b : List α)
    (Leq : ∀ n i, L (n + 1) a b i = bif decide (i < (List.length a : Int)) then (bif inRange i (List.length a) then (bif inRange i (List.length b) then bindO (g (nth d a i, nth d b i)) fun r1 => bif !r1 then some false else L n a b (IntKind.wrap .i64 (i + (1 : Int))) else none) else none) else some true)
    (hg : ∀ x ∈ a, ∀ y, g (x, y) = some (decide (x = y))) :
    ∀ (n k : Nat), a.length ≤ maxN → b.length = a.length → k ≤ a.length → a.length < n + k → L n a b (k : Int) = some (decide (a.drop k = b.drop k)) := by
  intro n
  induction n with
  | zero => intro k h1 h2 h0 h3; omega
  | succ n ih =>
    intro k h1 h2 h0 h3
    rw [Leq]
    unfold maxN at h1
    by_cases hk : k < a.length
    · have hkb : k < b.length := by omega
      simp only [Int.ofNat_lt, hk, decide_true, cond_true, inRange_nat, hkb, nth_nat]
      rw [hg _ (nth_mem d a k hk), bindO_val, wrap_succ (by omega), ih (k + 1) (by unfold maxN; omega) h2 (by omega) (by omega), drop_cons d a k hk, drop_cons d b k hkb]
      generalize a.getD k d = x
      generalize b.getD k d = y
      by_cases he : x = y
      · simp [he]
      · simp [he]
    · simp only [Int.ofNat_lt, hk, decide_false, cond_false]
      rw [List.drop_of_length_le (by omega), List.drop_of_length_le (by omega)]
      simp

/-- a length that a make allows -/
theorem lenOk {n : Nat} (h : n ≤ maxN) : (decide (0 ≤ (n : Int)) && decide ((n : Int) ≤ (maxN : Int))) = true := by
  simp only [Bool.and_eq_true, decide_eq_true_eq]
  omega

/-! ### rows of whole numbers -/
theorem toIntS_eq (N : Nat) (a : List Int) (h : a.length < N) (hm : a.length ≤ maxN) : laws_toIntS.F N a = some a := by
  rw [laws_toIntS.F_eq, lenOk hm, cond_true]
  exact toLoop 0 (fun n a i o => laws_toIntS.L1 N n a i o) some a (fun n i o => laws_toIntS.L1_eq N n a i o) (fun x _ => rfl) N 0 _ hm (by simp) (by omega) (by omega) (by simp)

theorem szIntS_eq (N : Nat) (a : List Int) (left : Int) (h : a.length ≤ maxLen) (h0 : 0 ≤ left) (h1 : left ≤ 1048576) : ∃ r, laws_szIntS.F N (a, left) = some r ∧ -1 ≤ r ∧ r ≤ left ∧ (0 ≤ r → a.length ≤ 1048576) := by
  rw [laws_szIntS.F_eq]
  unfold maxLen at h
  rw [wrap64 (by omega) (by omega)]
  by_cases hh : left - (a.length : Int) < 0
  · simp only [hh, decide_true, cond_true]; exact ⟨_, rfl, by omega, by omega, fun h => by omega⟩
  · simp only [hh, decide_false, cond_false]; exact ⟨_, rfl, by omega, by omega, fun h => by omega⟩

/-! ### the flash -/
end Go.Kb
