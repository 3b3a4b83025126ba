/- Rows of rows: sizes, copies, comparisons. -/
import Derived.Test.YticidpdbkjgebabGreatExactWaitUntilP0toF3
namespace Go.Kb
theorem zBT {α : Type} (d : α) (a : List α) (k : Nat) (h : k < a.length) : a.getD k d ∈ a := by
 rw [List.getD_eq_getElem?_getD, List.getElem?_eq_getElem h]; exact List.getElem_mem h
theorem szLoop {α : Type} (d : α) (L : Nat -> List α -> Int -> Int -> Option Int) (g : α × Int -> Option Int) (P : α -> Prop) (a : List α)
  (Leq : ∀ n left i, L (n + 1) a left i = bif decide (i < (List.length a : Int)) then (bif zG i (List.length a) then bindO (g (nth d a i, left)) fun r1 => bif decide (r1 < (0 : Int)) then some (-1 : Int) else L n a r1 (IntKind.wrap .i64 (i + (1 : Int))) else none) else some left)
  (hg : ∀ x ∈ a, ∀ left, 0 <= left -> left <= 1048576 -> ∃ r, g (x, left) = some r /\ -1 <= r /\ r <= left /\ (0 <= r -> P x)) :
  ∀ (n k : Nat) (left : Int), a.length <= maxN -> 0 <= left -> left <= 1048576 -> k <= a.length -> a.length < n + k -> ∃ r, L n a left (k : Int) = some r /\ -1 <= r /\ r <= left /\ (0 <= r -> ∀ x ∈ a.drop k, P x) := by
 intro n
 induction n with
 | zero => intro k left h1 h2 h3 h4 h5; omega
 | succ n ih =>
  intro k left h1 h2 h3 h4 h5
  rw [Leq]
  unfold maxN at h1
  by_cases hk : k < a.length
  ·simp only [oJ, hk, decide_true, cond_true, inRange_nat, nth_nat]
   obtain ⟨r, e, r0, r1, r2⟩ := hg _ (zBT d a k hk) left h2 h3
   rw [e, bindO_val]
   by_cases hr : r < 0
   ·simp only [hr, decide_true, cond_true]
    exact ⟨-1, rfl, by omega, by omega, fun h => by omega⟩
   ·simp only [hr, decide_false, cond_false]
    rw [yP (by omega)]
    obtain ⟨q, e', q0, q1, q2⟩ := ih (k + 1) r (by unfold maxN; omega) (by omega) (by omega) (by omega) (by omega)
    refine ⟨q, e', q0, by omega, fun h x hx => ?_⟩
    rw [zAG d a k hk] at hx
    rcases List.mem_cons.1 hx with rfl | hx
    ·exact r2 (by omega)
    ·exact q2 h x hx
  ·simp only [oJ, hk, decide_false, cond_false]
   refine ⟨left, rfl, by omega, by omega, fun _ x hx => ?_⟩
   rw [List.drop_of_length_le (by omega)] at hx
   cases hx
theorem toLoop {α : Type} (d : α) (L : Nat -> List α -> Int -> List α -> Option (List α)) (g : α -> Option α) (a : List α)
  (Leq : ∀ n i o, L (n + 1) a i o = bif decide (i < (List.length a : Int)) then (bif zG i (List.length a) then bindO (g (nth d a i)) fun r1 => bif zG i (List.length o) then L n a (IntKind.wrap .i64 (i + (1 : Int))) (List.set o (Int.toNat i) r1) else none else none) else some o)
  (hg : ∀ x ∈ a, g x = some x) :
  ∀ (n k : Nat) (o : List α), a.length <= maxN -> o.length = a.length -> k <= a.length -> a.length < n + k -> o.take k = a.take k -> L n a (k : Int) o = some a := by
 intro n
 induction n with
 | zero => intro k o h1 h2 h0 h3; omega
 | succ n ih =>
  intro k o h1 h2 h0 h3 h4
  rw [Leq]
  unfold maxN at h1
  by_cases hk : k < a.length
  ·have hko : k < o.length := by omega
   simp only [oJ, hk, decide_true, cond_true, inRange_nat, hko, nth_nat, Int.toNat_natCast]
   rw [hg _ (zBT d a k hk), bindO_val, yP (by omega)]
   refine ih (k + 1) _ (by unfold maxN; omega) (by simp [h2]) (by omega) (by omega) ?_
   rw [List.take_add_one, List.take_add_one, List.take_set_of_le (by omega), h4]
   simp [List.getElem?_set_self hko, List.getElem?_eq_getElem hk, List.getD_eq_getElem?_getD]
  ·simp only [oJ, hk, decide_false, cond_false]
   rw [List.take_of_length_le (by omega), List.take_of_length_le (by omega)] at h4
   rw [h4]
theorem eqLoop {α : Type} [DecidableEq α] (d : α) (L : Nat -> List α -> List α -> Int -> Option Bool) (g : α × α -> Option Bool) (a b : List α)
  (Leq : ∀ n i, L (n + 1) a b i = bif decide (i < (List.length a : Int)) then (bif zG i (List.length a) then (bif zG i (List.length b) then bindO (g (nth d a i, nth d b i)) fun r1 => bif !r1 then some false else L n a b (IntKind.wrap .i64 (i + (1 : Int))) else none) else none) else some true)
  (hg : ∀ x ∈ a, ∀ y, g (x, y) = some (decide (x = y))) :
  ∀ (n k : Nat), a.length <= maxN -> b.length = a.length -> k <= a.length -> a.length < n + k -> L n a b (k : Int) = some (decide (a.drop k = b.drop k)) := by
 intro n
 induction n with
 | zero => intro k h1 h2 h0 h3; omega
 | succ n ih =>
  intro k h1 h2 h0 h3
  rw [Leq]
  unfold maxN at h1
  by_cases hk : k < a.length
  ·have hkb : k < b.length := by omega
   simp only [oJ, hk, decide_true, cond_true, inRange_nat, hkb, nth_nat]
   rw [hg _ (zBT d a k hk), bindO_val, yP (by omega), ih (k + 1) (by unfold maxN; omega) h2 (by omega) (by omega), zAG d a k hk, zAG d b k hkb]
   generalize a.getD k d = x
   generalize b.getD k d = y
   by_cases he : x = y
   ·simp [he]
   ·simp [he]
  ·simp only [oJ, hk, decide_false, cond_false]
   rw [List.drop_of_length_le (by omega), List.drop_of_length_le (by omega)]
   simp
theorem lenOk {n : Nat} (h : n <= maxN) : (decide (0 <= (n : Int)) && decide ((n : Int) <= (maxN : Int))) = true := by
 simp only [bA, decide_eq_true_eq]
 omega
end Go.Kb
namespace Go.Kb
abbrev Rpt := Int × List Int
def smallR (r : Rpt) : Prop := r.2.length <= 1048576
theorem eqReport_eq (N : Nat) (hN : 1048576 < N) (a b : Rpt) (h : smallR a) : zAf.F N (a, b) = some (decide (a = b)) := by
 unfold smallR at h
 rw [zAf.F_eq, eqIntS_eq N a.2 b.2 (by omega) (by unfold maxN; omega), bindV]
 obtain ⟨x, xs⟩ := a
 obtain ⟨y, ys⟩ := b
 by_cases h1 : x = y
 ·by_cases h2 : xs = ys
  ·simp [h1, h2]
  ·simp [h1, h2]
 ·have : (x != y) = true := by rw [bneI]; simp only [h1, decide_false, notF]
  simp [this, h1]
theorem isCode_eq (N : Nat) (x : Int) : yx.F N x = some (decide (1 <= x /\ x <= 56)) := by
 rw [yx.F_eq]
 by_cases a : 1 <= x <;> by_cases b : x <= 56 <;> simp [a, b]
end Go.Kb
namespace Go.Kb
end Go.Kb
namespace Go.Kb
set_option maxRecDepth 100000
theorem hasInt_L1 (N : Nat) (x : Int) (l : List Int) (hl : l.length <= 1048576) : ∀ (n i : Nat), i <= l.length -> l.length < n + i ->
  yc.L1 N n x l (l.length : Int) (i : Int) = some ((l.drop i).contains x) := by
 intro n
 induction n with
 | zero => intro i h1 h2; omega
 | succ n ih =>
  intro i h1 h2
  rw [yc.L1_eq]
  by_cases hi : i < l.length
  ·have ws : IntKind.wrap .i64 ((i : Int) + 1) = ((i + 1 : Nat) : Int) := yP (by omega)
   have hb : (x == l.getD i 0) = (l.getD i 0 == x) := Bool.beq_comm
   rw [zAG 0 l i hi, List.contains_cons, hb]
   simp only [oJ, hi, decide_true, condT, inRange_nat, nth_nat, ws, ih (i + 1) (by omega) (by omega)]
   cases l.getD i 0 == x with
   | true => simp only [condT, Bool.true_or]
   | false => simp only [condF, Bool.false_or]
  ·rw [List.drop_eq_nil_of_le (by omega)]
   simp only [oJ, hi, decide_false, condF]
   rfl
theorem hasInt_eq (N : Nat) (hN : 1048576 < N) (l : List Int) (x : Int) (hl : l.length <= 1048576) : yc.F N (l, x) = some (l.contains x) := by
 rw [yc.F_eq]
 exact hasInt_L1 N x l hl N 0 (by omega) (by omega)
def okK : Int -> List Int -> Bool
 | _, [] => true
 | p, x :: r => decide (1 <= x /\ x <= 56) && (decide (p < x) && okK x r)
def rpB (r : Rpt) : Bool := decide (0 <= r.1 /\ r.1 <= 15) && okK 0 r.2
theorem okK_cons (p x : Int) (r : List Int) : okK p (x :: r) = (decide (1 <= x /\ x <= 56) && (decide (p < x) && okK x r)) := rfl
end Go.Kb
