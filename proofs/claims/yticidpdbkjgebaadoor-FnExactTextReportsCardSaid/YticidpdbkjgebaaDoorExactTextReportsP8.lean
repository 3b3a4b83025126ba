/- Rows of rows: sizes, copies, comparisons. -/
import Derived.Test.YticidpdbkjgebaaDoorExactTextReportsP4
import Derived.Test.YticidpdbkjgebaaDoorExactTextReportsF3
namespace Go.Kb


theorem nth_mem {α : Type} (d : α) (a : List α) (k : Nat) (h : k < a.length) : a.getD k d ∈ a := by
  rw [List.getD_eq_getElem?_getD, List.getElem?_eq_getElem h]; exact List.getElem_mem h

theorem eqLoop {α : Type} [DecidableEq α] (d : α) (L : Nat → List α → List α → Int → Option Bool) (g : α × α → Option Bool) (a b : List α)
    (Leq : ∀ n i, L (n + 1) a b i = bif decide (i < (List.length a : Int)) then (bif inRange i (List.length a) then (bif inRange i (List.length b) then bindO (g (nth d a i, nth d b i)) fun r1 => bif !r1 then some false else L n a b (IntKind.wrap .i64 (i + (1 : Int))) else none) else none) else some true)
    (hg : ∀ x ∈ a, ∀ y, g (x, y) = some (decide (x = y))) :
    ∀ (n k : Nat), a.length ≤ maxN → b.length = a.length → k ≤ a.length → a.length < n + k → L n a b (k : Int) = some (decide (a.drop k = b.drop k)) := by
  intro n
  induction n with
  | zero => intro k h1 h2 h0 h3; omega
  | succ n ih =>
    intro k h1 h2 h0 h3
    rw [Leq]
    unfold maxN at h1
    by_cases hk : k < a.length
    · have hkb : k < b.length := by omega
      simp only [Int.ofNat_lt, hk, decide_true, cond_true, inRange_nat, hkb, nth_nat]
      rw [hg _ (nth_mem d a k hk), bindO_val, wrap_succ (by omega), ih (k + 1) (by unfold maxN; omega) h2 (by omega) (by omega), drop_cons d a k hk, drop_cons d b k hkb]
      generalize a.getD k d = x
      generalize b.getD k d = y
      by_cases he : x = y
      · simp [he]
      · simp [he]
    · simp only [Int.ofNat_lt, hk, decide_false, cond_false]
      rw [List.drop_of_length_le (by omega), List.drop_of_length_le (by omega)]
      simp

/-! ### rows of whole numbers -/
/-! ### the flash -/
end Go.Kb
