/- Plain tools. -/
import Derived.Test.YticidpdbkjgebaaDoorKa
import Derived.IntWalk
namespace Go.Kb

theorem wrap64 {x : Int} (h1 : -9223372036854775808 ≤ x) (h2 : x ≤ 9223372036854775807) : IntKind.wrap .i64 x = x := by
  rw [IntKind.wrap_i64]; omega
theorem wrap_succ {k : Nat} (h : k < 9223372036854775807) : IntKind.wrap .i64 ((k : Int) + 1) = ((k + 1 : Nat) : Int) := by
  rw [wrap64 (by omega) (by omega)]; omega

theorem condT {α : Type} (a b : α) : cond true a b = a := id rfl
theorem condF {α : Type} (a b : α) : cond false a b = b := id rfl
theorem bindV {α β : Type} (a : α) (f : α → Option β) : bindO (some a) f = f a := id rfl
theorem notT : (!true) = false := id rfl
theorem notF : (!false) = true := id rfl
@[simp] theorem bindO_val {α β : Type} (a : α) (f : α → Option β) : bindO (some a) f = f a := rfl
@[simp] theorem bindO_no {α β : Type} (f : α → Option β) : bindO none f = none := rfl
@[simp] theorem inRange_nat (k n : Nat) : inRange (k : Int) n = decide (k < n) := by
  simp [inRange]
@[simp] theorem nth_nat {α : Type} (d : α) (xs : List α) (k : Nat) : nth d xs (k : Int) = xs.getD k d := by simp [nth]

theorem bneI (x y : Int) : (x != y) = !decide (x = y) := by
  by_cases h : x = y <;> simp [h]
theorem drop_cons {α : Type} (d : α) (xs : List α) (k : Nat) (h : k < xs.length) : xs.drop k = xs.getD k d :: xs.drop (k + 1) := by
  rw [List.drop_eq_getElem_cons h, List.getD_eq_getElem?_getD, List.getElem?_eq_getElem h]; rfl
end Go.Kb
