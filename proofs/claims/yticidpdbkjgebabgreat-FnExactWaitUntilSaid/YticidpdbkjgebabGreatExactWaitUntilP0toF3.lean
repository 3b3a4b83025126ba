/- Plain tools. -/
import Derived.Test.YticidpdbkjgebabGreatKa
import Derived.IntWalk
import Derived.KernelRfl
import Derived.Test.YticidpdbkjgebabGreatKc
namespace Go.Kb
theorem zBE {x : Int} (h1 : -9223372036854775808 <= x) (h2 : x <= 9223372036854775807) : IntKind.wrap .i64 x = x := by
 rw [IntKind.wrap_i64]; omega
theorem yP {k : Nat} (h : k < 9223372036854775807) : IntKind.wrap .i64 ((k : Int) + 1) = ((k + 1 : Nat) : Int) := by
 rw [zBE (by omega) (by omega)]; omega
theorem condT {α : Type} (a b : α) : cond true a b = a := id rfl
theorem condF {α : Type} (a b : α) : cond false a b = b := id rfl
theorem bindV {α β : Type} (a : α) (f : α -> Option β) : bindO (some a) f = f a := id rfl
theorem notT : (!true) = false := id rfl
theorem notF : (!false) = true := id rfl
@[simp] theorem bindO_val {α β : Type} (a : α) (f : α -> Option β) : bindO (some a) f = f a := rfl
@[simp] theorem bindO_no {α β : Type} (f : α -> Option β) : bindO none f = none := rfl
@[simp] theorem inRange_nat (k n : Nat) : zG (k : Int) n = decide (k < n) := by
 simp [zG]
@[simp] theorem nth_nat {α : Type} (d : α) (xs : List α) (k : Nat) : nth d xs (k : Int) = xs.getD k d := by simp [nth]
theorem bneI (x y : Int) : (x != y) = !decide (x = y) := by
 by_cases h : x = y <;> simp [h]
theorem beqI (x y : Int) : (x == y) = decide (x = y) := by
 by_cases h : x = y <;> simp [h]
theorem zAG {α : Type} (d : α) (xs : List α) (k : Nat) (h : k < xs.length) : xs.drop k = xs.getD k d :: xs.drop (k + 1) := by
 rw [List.drop_eq_getElem_cons h, List.getD_eq_getElem?_getD, List.getElem?_eq_getElem h]; rfl
end Go.Kb
namespace Go.Kb
def zR.x : XFunc := xF 15 0 [.val false 1, .val false 1, .val false 1] (no 3) [.tmp 6 false 1] [.imm] true (.pair (.int .i64) (.pair (.int .i64) (.int .i64))) .bool <| .seq (rG [op 6 .move [cB false]]) (.seq (rG [mv 7 0, mv 8 1, o2 9 (.bin .geq) 7 8, sX 10 [.slot 9], gM 11 0 10 true, gM 12 2 10 true, gX 13 (.bin .leq) (sl [11, 12]) [] [] 10 true, op 14 .pick [.slot 10, .slot 13, cB false], mv 6 14]) (.ret))
def zR.env (_ : Nat) : Env := envOf (tbl [] noFS)
def zR.F (N : Nat) (x : Int × Int × Int) : Option Bool := XFunc.run zR.x (zR.env N) N x
def zR.fs (N : Nat) : FS := fS zR.x true (zR.F N)
theorem zR.F_eq (N : Nat) (x_ : Int) (low : Int) (high : Int) : zR.F N (x_, low, high) =
bif decide (x_ >= low) then
some (decide (x_ <= high))
else
some false := by kernel_rfl
end Go.Kb
namespace Go.Kb
theorem zCA (N : Nat) (x l h : Int) : zR.F N (x, l, h) = some (decide (l <= x /\ x <= h)) := by
 rw [zR.F_eq]
 by_cases h1 : l <= x <;> by_cases h2 : x <= h <;> simp [h1, h2]
theorem bitXor_nat (a b : Nat) (ha : a < 9223372036854775808) (hb : b < 9223372036854775808) : zBw .i64 (a : Int) (b : Int) = ((a ^^^ b : Nat) : Int) := by
 have hx : a ^^^ b < 2 ^ 63 := Nat.xor_lt_two_pow (by omega) (by omega)
 have e : ∀ n : Nat, n < 9223372036854775808 -> (BitVec.ofInt 64 (n : Int)).toNat = n := by
  intro n hn
  rw [BitVec.ofInt_natCast, BitVec.toNat_ofNat]; exact Nat.mod_eq_of_lt (by omega)
 show IntKind.i64.wrap ((BitVec.ofInt 64 (a : Int) ^^^ BitVec.ofInt 64 (b : Int)).toNat : Int) = _
 rw [BitVec.toNat_xor, e a ha, e b hb, zBE (by omega) (by omega)]
def ckStep (c : Nat) : Nat := if 2 * c > 255 then (2 * c) ^^^ 263 else 2 * c
def ckN : Nat -> Nat -> Nat
 | 0, c => c
 | n + 1, c => ckN n (ckStep c)
def ck : List Nat -> Nat -> Nat
 | [], c => c
 | x :: r, c => ck r (ckN 8 (c ^^^ x))
end Go.Kb
namespace Go.Kb
theorem bitOr_nat (a b : Nat) (ha : a < 9223372036854775808) (hb : b < 9223372036854775808) : bitOr .i64 (a : Int) (b : Int) = ((a ||| b : Nat) : Int) := by
 have hx : a ||| b < 2 ^ 63 := Nat.or_lt_two_pow (by omega) (by omega)
 have e : ∀ n : Nat, n < 9223372036854775808 -> (BitVec.ofInt 64 (n : Int)).toNat = n := by
  intro n hn
  rw [BitVec.ofInt_natCast, BitVec.toNat_ofNat]; exact Nat.mod_eq_of_lt (by omega)
 show IntKind.i64.wrap ((BitVec.ofInt 64 (a : Int) ||| BitVec.ofInt 64 (b : Int)).toNat : Int) = _
 rw [BitVec.toNat_or, e a ha, e b hb, zBE (by omega) (by omega)]
def f5 (n m : Int) : List Int := [85, n, m % 256, m / 256 % 256, m / 65536]
end Go.Kb
namespace Go.Kb
def yb.c1 : XCode := .seq (.seq (rG [mv 11 5, mv 12 0, o1 13 .len 12, o2 14 (.bin .lss) 11 13]) (cX 14 0)) (.seq (.block 1 (.seq (.region true [mv 17 0, mv 18 5, o2 19 (.indexAddr (.int .i64)) 17 18, o1 20 (.load false 1) 19, mv 21 1, mv 22 5, o2 23 (.indexAddr (.int .i64)) 21 22, o1 24 (.load false 1) 23, o2 25 (.bin .neq) 20 24]) (rI 25 4 false))) (rG [mv 15 5, op 16 (.bin .add) [.slot 15, cI 1], mv 5 16]))
def yb.c2 : XCode := .seq (rG [op 4 .move [cB true]]) (.ret)
def yb.x : XFunc := xF 26 0 [.val false 1, .val false 1] (no 2) [.tmp 4 false 1] [.imm] true (.pair (.list (.int .i64)) (.list (.int .i64))) .bool <| .seq (rG [op 4 .move [cB false]]) (.seq (.seq (rG [mv 6 0, o1 7 .len 6, mv 8 1, o1 9 .len 8, o2 10 (.bin .neq) 7 9]) (rI 10 4 false)) (.seq (.seq (rG [op 5 .move [cI 0]]) (.block 0 (.loop [.keep [0, 1, 5], .norm] (yb.c1)))) (yb.c2)))
def yb.env (_ : Nat) : Env := envOf (tbl [] noFS)
def yb.F (N : Nat) (x : (List Int) × List Int) : Option Bool := XFunc.run yb.x (yb.env N) N x
def yb.fs (N : Nat) : FS := fS yb.x true (yb.F N)
def yb.k2 (N : Nat) : Ex -> S -> Option Bool := seqK (fun s => XCode.runK (yb.env N) N (yb.c2) s (XFunc.endK yb.x)) (XFunc.endK yb.x)
def yb.k1 (N : Nat) : Ex -> S -> Option Bool := y7 0 (yb.k2 N)
def yb.L1 (N : Nat) (n1 : Nat) (a : List Int) (b : List Int) (i : Int) : Option Bool := loopK [.keep [0, 1, 5], .norm] (rK (yb.env N) N yb.c1) n1
 { t := jK 26 [(0, .one (.sl false (.int .i64) a)), (1, .one (.sl false (.int .i64) b)), (5, .one (.int .i64 i))], h := [] }
 (yb.k1 N)
theorem yb.L1_eq (N : Nat) (n1 : Nat) (a : List Int) (b : List Int) (i : Int) : yb.L1 N (n1 + 1) a b i =
bif decide (i < (List.length a : Int)) then
bif zG i (List.length a) then
bif zG i (List.length b) then
bif (nth 0 a i) != (nth 0 b i) then
some false
else
yb.L1 N n1 a b (IntKind.wrap .i64 (i + 1))
else none
else none
else
some true := by kernel_rfl
theorem yb.F_eq (N : Nat) (a : List Int) (b : List Int) : yb.F N (a, b) =
bif (List.length a : Int) != (List.length b : Int) then
some false
else
yb.L1 N N a b 0 := by kernel_rfl
def yE.c1 : XCode := .seq (.seq (rG [mv 6 5, mv 7 0, ow 8 .len [.slot 7] [0] [], o2 9 (.bin .lss) 6 8]) (cX 9 0)) (.seq (.block 1 (.seq (rG [mv 12 0, mv 13 5, mv 14 1, ow 15 (.indexAddr (.int .i64)) (sl [12, 13]) [0] [], sT 1 15 14 0]) (rG [mv 16 1, op 17 (.bin .add) [.slot 16, cI 1], mv 1 17]))) (rG [mv 10 5, op 11 (.bin .add) [.slot 10, cI 1], mv 5 11]))
def yE.c2 : XCode := .seq (rG [mv 18 1, mv 4 18]) (.ret)
def yE.x : XFunc := xF 19 1 [.val false 1, .val false 1] [some (0, 2), none] [.tmp 4 false 1] [.imm, .back 0] false (.pair (.list (.int .i64)) (.int .i64)) (.pair (.int .i64) (.list (.int .i64))) <| .seq (rG [op 4 .move [cI 0]]) (.seq (.seq (rG [op 5 .move [cI 0]]) (.block 0 (.loop [.keep [0, 1, 5], .norm] (yE.c1)))) (yE.c2))
def yE.env (_ : Nat) : Env := envOf (tbl [] noFS)
def yE.F (N : Nat) (x : (List Int) × Int) : Option (Int × List Int) := XFunc.run yE.x (yE.env N) N x
def yE.fs (N : Nat) : FS := fS yE.x false (yE.F N)
def yE.k2 (N : Nat) : Ex -> S -> Option (Int × List Int) := seqK (fun s => XCode.runK (yE.env N) N (yE.c2) s (XFunc.endK yE.x)) (XFunc.endK yE.x)
def yE.k1 (N : Nat) : Ex -> S -> Option (Int × List Int) := y7 0 (yE.k2 N)
def yE.L1 (N : Nat) (n1 : Nat) (k_ : Int) (i : Int) (o0 : List Int) : Option (Int × List Int) := loopK [.keep [0, 1, 5], .norm] (rK (yE.env N) N yE.c1) n1
 { t := jK 19 [(0, .one (.ref 0 0 .all)), (1, .one (.int .i64 k_)), (5, .one (.int .i64 i))], h := [.row 0 true false 2 (.int .i64) o0] }
 (yE.k1 N)
theorem yE.L1_eq (N : Nat) (n1 : Nat) (k_ : Int) (i : Int) (o0 : List Int) : yE.L1 N (n1 + 1) k_ i o0 =
bif decide (i < (List.length o0 : Int)) then
bif zG i (List.length o0) then
yE.L1 N n1 (IntKind.wrap .i64 (k_ + 1)) (IntKind.wrap .i64 (i + 1)) (List.set o0 (Int.toNat i) k_)
else none
else
some (k_, o0) := by kernel_rfl
theorem yE.F_eq (N : Nat) (a : List Int) (k_ : Int) : yE.F N (a, k_) =
yE.L1 N N k_ 0 a := by kernel_rfl
def z8.c1 : XCode := .seq (.seq (rG [mv 6 5, mv 7 0, o1 8 .len 7, o2 9 (.bin .lss) 6 8]) (cX 9 0)) (.seq (.block 1 (.seq (.seq (rG [mv 12 0, mv 13 5, o2 14 (.indexAddr (.int .i64)) 12 13, o1 15 (.load false 1) 14, mv 16 1, o2 17 (.bin .neq) 15 16]) (.cond (.slot 17) (.seq (rG [op 4 .move [cI (-1)]]) (.ret)) (.skip))) (rG [mv 18 1, op 19 (.bin .add) [.slot 18, cI 1], mv 1 19]))) (rG [mv 10 5, op 11 (.bin .add) [.slot 10, cI 1], mv 5 11]))
def z8.c2 : XCode := .seq (rG [mv 20 1, mv 4 20]) (.ret)
def z8.x : XFunc := xF 21 0 [.val false 1, .val false 1] (no 2) [.tmp 4 false 1] [.imm] true (.pair (.list (.int .i64)) (.int .i64)) (.int .i64) <| .seq (rG [op 4 .move [cI 0]]) (.seq (.seq (rG [op 5 .move [cI 0]]) (.block 0 (.loop [.keep [0, 1, 5], .norm] (z8.c1)))) (z8.c2))
def z8.env (_ : Nat) : Env := envOf (tbl [] noFS)
def z8.F (N : Nat) (x : (List Int) × Int) : Option Int := XFunc.run z8.x (z8.env N) N x
def z8.fs (N : Nat) : FS := fS z8.x true (z8.F N)
def z8.k2 (N : Nat) : Ex -> S -> Option Int := seqK (fun s => XCode.runK (z8.env N) N (z8.c2) s (XFunc.endK z8.x)) (XFunc.endK z8.x)
def z8.k1 (N : Nat) : Ex -> S -> Option Int := y7 0 (z8.k2 N)
def z8.L1 (N : Nat) (n1 : Nat) (a : List Int) (k_ : Int) (i : Int) : Option Int := loopK [.keep [0, 1, 5], .norm] (rK (z8.env N) N z8.c1) n1
 { t := jK 21 [(0, .one (.sl false (.int .i64) a)), (1, .one (.int .i64 k_)), (5, .one (.int .i64 i))], h := [] }
 (z8.k1 N)
theorem z8.L1_eq (N : Nat) (n1 : Nat) (a : List Int) (k_ : Int) (i : Int) : z8.L1 N (n1 + 1) a k_ i =
bif decide (i < (List.length a : Int)) then
bif zG i (List.length a) then
bif (nth 0 a i) != k_ then
some (-1 : Int)
else
z8.L1 N n1 a (IntKind.wrap .i64 (k_ + 1)) (IntKind.wrap .i64 (i + 1))
else none
else
some k_ := by kernel_rfl
theorem z8.F_eq (N : Nat) (a : List Int) (k_ : Int) : z8.F N (a, k_) =
z8.L1 N N a k_ 0 := by kernel_rfl
end Go.Kb
namespace Go.Kb
theorem eqIntS_L1 (N : Nat) : ∀ (n k : Nat) (a b : List Int), a.length <= maxN -> b.length = a.length -> k <= a.length -> a.length < n + k -> yb.L1 N n a b (k : Int) = some (decide (a.drop k = b.drop k)) := by
 intro n
 induction n with
 | zero =>
  intro k a b h1 h2 h0 h3
  omega
 | succ n ih =>
  intro k a b h1 h2 h0 h3
  unfold maxN at h1
  rw [yb.L1_eq]
  by_cases hk : k < a.length
  ·have hkb : k < b.length := by omega
   simp only [oJ, hk, decide_true, cond_true, inRange_nat, hkb, nth_nat]
   rw [yP (by omega), ih (k + 1) a b (by unfold maxN; omega) h2 (by omega) (by omega), zAG 0 a k hk, zAG 0 b k hkb]
   generalize a.getD k 0 = x
   generalize b.getD k 0 = y
   by_cases he : x = y
   ·simp [he]
   ·simp [he, bneI]
  ·simp only [oJ, hk, decide_false, cond_false]
   rw [List.drop_of_length_le (by omega), List.drop_of_length_le (by omega)]
   simp
theorem eqIntS_eq (N : Nat) (a b : List Int) (h : a.length < N) (hm : a.length <= maxN) : yb.F N (a, b) = some (decide (a = b)) := by
 rw [yb.F_eq]
 by_cases hl : a.length = b.length
 ·have : ((a.length : Int) != (b.length : Int)) = false := by simp [hl]
  rw [this, cond_false]
  have := eqIntS_L1 N N 0 a b hm hl.symm (by omega) (by omega)
  simpa using this
 ·have h1 : ((a.length : Int) != (b.length : Int)) = true := by simp; omega
  have h2 : a ≠ b := fun e => hl (by rw [e])
  rw [h1, cond_true]
  simp [h2]
theorem marksI_L1 (N : Nat) : ∀ (n k : Nat) (c : Int) (o : List Int), o.length <= maxN -> k <= o.length -> o.length < n + k -> 0 <= c -> c + (o.length - k) <= 4611686018427387904 ->
  ∃ c' o', yE.L1 N n c (k : Int) o = some (c', o') /\ o'.length = o.length /\ (∀ j, j < k -> o'.getD j 0 = o.getD j 0) /\ c <= c' /\ c' <= c + (o.length - k : Nat) /\ z8.L1 N n o' c (k : Int) = some c' := by
 intro n
 induction n with
 | zero => intro k c o h1 h0 h2 h3 h4; omega
 | succ n ih =>
  intro k c o h1 h0 h2 h3 h4
  unfold maxN at h1
  rw [yE.L1_eq]
  by_cases hk : k < o.length
  ·simp only [oJ, hk, decide_true, cond_true, inRange_nat, Int.toNat_natCast]
   rw [yP (by omega), zBE (x := c + 1) (by omega) (by omega)]
   obtain ⟨c', o', e1, e2, e3, e4, e5, e6⟩ := ih (k + 1) (c + 1) (o.set k c) (by unfold maxN; simp; omega) (by simp; omega) (by simp; omega) (by omega) (by simp; omega)
   simp only [List.length_set] at e2 e5
   refine ⟨c', o', e1, e2, fun j hj => ?_, by omega, by omega, ?_⟩
   ·rw [e3 j (by omega)]
    simp only [List.getD_eq_getElem?_getD]
    rw [List.getElem?_set_ne (by omega)]
   ·rw [z8.L1_eq]
    have hk' : k < o'.length := by omega
    have hg : o'.getD k 0 = c := by
     rw [e3 k (by omega)]
     simp only [List.getD_eq_getElem?_getD]
     rw [List.getElem?_set_self hk]; rfl
    simp only [oJ, hk', decide_true, cond_true, inRange_nat, nth_nat, hg, bne_self_eq_false, cond_false]
    rw [yP (by omega), zBE (x := c + 1) (by omega) (by omega)]
    exact e6
  ·refine ⟨c, o, ?_, rfl, fun j _ => rfl, by omega, by omega, ?_⟩
   ·simp only [oJ, hk, decide_false, cond_false]
   ·rw [z8.L1_eq]
    simp only [oJ, hk, decide_false, cond_false]
theorem marksI_eq (N : Nat) (a : List Int) (c : Int) (h : a.length < N) (hm : a.length <= maxN) (h0 : 0 <= c) (h1 : c <= 2305843009213693952) :
  ∃ c' o', yE.F N (a, c) = some (c', o') /\ c <= c' /\ c' <= c + a.length /\ z8.F N (o', c) = some c' /\ o'.length = a.length := by
 rw [yE.F_eq]
 obtain ⟨c', o', e1, e2, e3, e4, e5, e6⟩ := marksI_L1 N N 0 c a hm (by omega) (by omega) h0 (by unfold maxN at hm; omega)
 exact ⟨c', o', e1, e4, by omega, by rw [z8.F_eq]; exact e6, e2⟩
end Go.Kb
namespace Go.Kb
end Go.Kb
namespace Go.Kb
abbrev T1_3 : Ty := .pair (.int .i64) (.list (.int .i64))
def yx.x : XFunc := xF 9 0 [.val false 1] [none] [.tmp 2 false 1] [.imm] true (.int .i64) .bool <| .seq (rG [op 2 .move [cB false]]) (.seq (rG [mv 3 0, op 4 (.bin .geq) [.slot 3, cI 1], sX 5 [.slot 4], gM 6 0 5 true, gX 7 (.bin .leq) [.slot 6, cI 56] [] [] 5 true, op 8 .pick [.slot 5, .slot 7, cB false], mv 2 8]) (.ret))
def yx.env (_ : Nat) : Env := envOf (tbl [] noFS)
def yx.F (N : Nat) (x : Int) : Option Bool := XFunc.run yx.x (yx.env N) N x
def yx.fs (N : Nat) : FS := fS yx.x true (yx.F N)
theorem yx.F_eq (N : Nat) (n_ : Int) : yx.F N n_ =
bif decide (n_ >= 1) then
some (decide (n_ <= 56))
else
some false := by kernel_rfl
def yc.c1 : XCode := .seq (rG [o2 10 (.bin .lss) 9 8]) (.seq (cX 10 0) (.seq (.block 1 (.seq (rG [o2 11 (.indexAddr (.int .i64)) 7 9, o1 12 (.load false 1) 11, mv 6 12]) (.seq (rG [mv 13 6, mv 14 1, o2 15 (.bin .eql) 13 14]) (rI 15 4 true)))) (rG [op 16 (.bin .add) [.slot 9, cI 1], mv 9 16])))
def yc.c2 : XCode := .seq (rG [op 4 .move [cB false]]) (.ret)
def yc.x : XFunc := xF 17 0 [.val false 1, .val false 1] (no 2) [.tmp 4 false 1] [.imm] true (.pair (.list (.int .i64)) (.int .i64)) .bool <| .seq (rG [op 4 .move [cB false]]) (.seq (.seq (rG [mv 7 0, o1 8 .len 7, op 9 .move [cI 0]]) (.block 0 (.loop [.keep [1, 7, 8, 9], .norm] (yc.c1)))) (yc.c2))
def yc.env (_ : Nat) : Env := envOf (tbl [] noFS)
def yc.F (N : Nat) (x : (List Int) × Int) : Option Bool := XFunc.run yc.x (yc.env N) N x
def yc.fs (N : Nat) : FS := fS yc.x true (yc.F N)
def yc.k2 (N : Nat) : Ex -> S -> Option Bool := seqK (fun s => XCode.runK (yc.env N) N (yc.c2) s (XFunc.endK yc.x)) (XFunc.endK yc.x)
def yc.k1 (N : Nat) : Ex -> S -> Option Bool := y7 0 (yc.k2 N)
def yc.L1 (N : Nat) (n1 : Nat) (n_ : Int) (t7 : List Int) (t8 : Int) (t9 : Int) : Option Bool := loopK [.keep [1, 7, 8, 9], .norm] (rK (yc.env N) N yc.c1) n1
 { t := jK 17 [(1, .one (.int .i64 n_)), (7, .one (.sl false (.int .i64) t7)), (8, .one (.int .i64 t8)), (9, .one (.int .i64 t9))], h := [] }
 (yc.k1 N)
theorem yc.L1_eq (N : Nat) (n1 : Nat) (n_ : Int) (t7 : List Int) (t8 : Int) (t9 : Int) : yc.L1 N (n1 + 1) n_ t7 t8 t9 =
bif decide (t9 < t8) then
bif zG t9 (List.length t7) then
bif (nth 0 t7 t9) == n_ then
some true
else
yc.L1 N n1 n_ t7 t8 (IntKind.wrap .i64 (t9 + 1))
else none
else
some false := by kernel_rfl
theorem yc.F_eq (N : Nat) (l_ : List Int) (n_ : Int) : yc.F N (l_, n_) =
yc.L1 N N n_ l_ (List.length l_ : Int) 0 := by kernel_rfl
def zAf.x : XFunc := xF 16 2 [.val true 2, .val true 2] (no 4) [.tmp 4 false 1] [.imm] true (.pair T1_3 T1_3) .bool <| .seq (rG [ow 2 (.box 0) [.slot 0] [0] [0], ow 3 (.box 1) [.slot 1] [1] [1], op 4 .move [cB false]]) (.seq (.seq (rG [fA 5 0 2, lN 6 5 0, fA 7 0 3, lN 8 7 1, o2 9 (.bin .neq) 6 8]) (rI 9 4 false)) (.seq (.seq (rG [fA 10 1 2, lN 11 10 0, fA 12 1 3, lN 13 12 1, o2 14 (cO 239 (vs 2) 2 true) 11 13, o1 15 .not 14]) (rI 15 4 false)) (.seq (rG [op 4 .move [cB true]]) (.ret))))
def zAf.env (N : Nat) : Env := envOf (tbl [(239, yb.fs N)] noFS)
def zAf.F (N : Nat) (x : (Int × List Int) × Int × List Int) : Option Bool := XFunc.run zAf.x (zAf.env N) N x
def zAf.fs (N : Nat) : FS := fS zAf.x true (zAf.F N)
theorem zAf.F_eq (N : Nat) (a : Int × List Int) (b : Int × List Int) : zAf.F N (a, b) =
bif a.1 != b.1 then
some false
else
bindO (yb.F N (a.2, b.2)) fun r1 =>
bif !r1 then
some false
else
some true := by kernel_rfl
def zc.c1 : XCode := .seq (.seq (rG [mv 20 5, fA 21 1 2, lN 22 21 0, o1 23 .len 22, o2 24 (.bin .lss) 20 23]) (cX 24 0)) (.seq (.block 1 (.seq (.region true [fA 27 1 2, lN 28 27 0, mv 29 5, o2 30 (.indexAddr (.int .i64)) 28 29, o1 31 (.load false 1) 30, fA 32 1 3, lN 33 32 1, mv 34 5, o2 35 (.indexAddr (.int .i64)) 33 34, o1 36 (.load false 1) 35, o2 37 (.bin .neq) 31 36]) (rI 37 4 false))) (rG [mv 25 5, op 26 (.bin .add) [.slot 25, cI 1], mv 5 26]))
def zc.c2 : XCode := .seq (rG [op 4 .move [cB true]]) (.ret)
def zc.x : XFunc := xF 38 2 [.val true 2, .val true 2] (no 4) [.tmp 4 false 1] [.imm] true (.pair T1_3 T1_3) .bool <| .seq (rG [ow 2 (.box 0) [.slot 0] [0] [0], ow 3 (.box 1) [.slot 1] [1] [1], op 4 .move [cB false]]) (.seq (.seq (rG [fA 6 0 2, lN 7 6 0, fA 8 0 3, lN 9 8 1, o2 10 (.bin .neq) 7 9, sX 11 [.slot 10], gF 12 1 2 11 false, gL 13 12 0 11 false, gX 14 .len [.slot 13] [] [] 11 false, gF 15 1 3 11 false, gL 16 15 1 11 false, gX 17 .len [.slot 16] [] [] 11 false, gX 18 (.bin .neq) (sl [14, 17]) [] [] 11 false, op 19 .pick [.slot 11, cB true, .slot 18]]) (rI 19 4 false)) (.seq (.seq (rG [op 5 .move [cI 0]]) (.block 0 (.loop [.keep [2, 3, 5], .norm] (zc.c1)))) (zc.c2)))
def zc.env (_ : Nat) : Env := envOf (tbl [] noFS)
def zc.F (N : Nat) (x : (Int × List Int) × Int × List Int) : Option Bool := XFunc.run zc.x (zc.env N) N x
def zc.fs (N : Nat) : FS := fS zc.x true (zc.F N)
def zc.k2 (N : Nat) : Ex -> S -> Option Bool := seqK (fun s => XCode.runK (zc.env N) N (zc.c2) s (XFunc.endK zc.x)) (XFunc.endK zc.x)
def zc.k1 (N : Nat) : Ex -> S -> Option Bool := y7 0 (zc.k2 N)
def zc.L1 (N : Nat) (n1 : Nat) (i : Int) (o00 : Int) (o01 : List Int) (o10 : Int) (o11 : List Int) : Option Bool := loopK [.keep [2, 3, 5], .norm] (rK (zc.env N) N zc.c1) n1
 { t := jK 38 [(2, .one (.ptr 0 0 0)), (3, .one (.ptr 1 0 0)), (5, .one (.int .i64 i))], h := [.box 0 false [.int .i64 o00, .sl false (.int .i64) o01], .box 0 false [.int .i64 o10, .sl false (.int .i64) o11]] }
 (zc.k1 N)
theorem zc.L1_eq (N : Nat) (n1 : Nat) (i : Int) (o00 : Int) (o01 : List Int) (o10 : Int) (o11 : List Int) : zc.L1 N (n1 + 1) i o00 o01 o10 o11 =
bif decide (i < (List.length o01 : Int)) then
bif zG i (List.length o01) then
bif zG i (List.length o11) then
bif (nth 0 o01 i) != (nth 0 o11 i) then
some false
else
zc.L1 N n1 (IntKind.wrap .i64 (i + 1)) o00 o01 o10 o11
else none
else none
else
some true := by kernel_rfl
theorem zc.F_eq (N : Nat) (a : Int × List Int) (b : Int × List Int) : zc.F N (a, b) =
bif a.1 != b.1 then
some false
else
bif (List.length a.2 : Int) != (List.length b.2 : Int) then
some false
else
zc.L1 N N 0 a.1 a.2 b.1 b.2 := by kernel_rfl
def yH.c1 : XCode := .seq (rG [o2 14 (.bin .lss) 13 12]) (.seq (cX 14 0) (.seq (.block 1 (.seq (rG [mv 15 13, mv 5 15]) (.seq (.region true [mv 16 0, mv 17 5, o2 18 (.indexAddr (.int .i64)) 16 17, o1 19 (.load false 1) 18, mv 20 1, mv 21 5, o2 22 (.indexAddr (.int .i64)) 20 21, o1 23 (.load false 1) 22, o2 24 (.bin .neq) 19 23]) (rI 24 4 false)))) (rG [op 25 (.bin .add) [.slot 13, cI 1], mv 13 25])))
def yH.c2 : XCode := .seq (rG [op 4 .move [cB true]]) (.ret)
def yH.x : XFunc := xF 26 0 [.val false 1, .val false 1] (no 2) [.tmp 4 false 1] [.imm] true (.pair (.list (.int .i64)) (.list (.int .i64))) .bool <| .seq (rG [op 4 .move [cB false]]) (.seq (.seq (rG [mv 6 0, o1 7 .len 6, mv 8 1, o1 9 .len 8, o2 10 (.bin .neq) 7 9]) (rI 10 4 false)) (.seq (.seq (rG [mv 11 0, o1 12 .len 11, op 13 .move [cI 0]]) (.block 0 (.loop [.keep [0, 1, 12, 13], .norm] (yH.c1)))) (yH.c2)))
def yH.env (_ : Nat) : Env := envOf (tbl [] noFS)
def yH.F (N : Nat) (x : (List Int) × List Int) : Option Bool := XFunc.run yH.x (yH.env N) N x
def yH.fs (N : Nat) : FS := fS yH.x true (yH.F N)
def yH.k2 (N : Nat) : Ex -> S -> Option Bool := seqK (fun s => XCode.runK (yH.env N) N (yH.c2) s (XFunc.endK yH.x)) (XFunc.endK yH.x)
def yH.k1 (N : Nat) : Ex -> S -> Option Bool := y7 0 (yH.k2 N)
def yH.L1 (N : Nat) (n1 : Nat) (a : List Int) (b : List Int) (t12 : Int) (t13 : Int) : Option Bool := loopK [.keep [0, 1, 12, 13], .norm] (rK (yH.env N) N yH.c1) n1
 { t := jK 26 [(0, .one (.sl false (.int .i64) a)), (1, .one (.sl false (.int .i64) b)), (12, .one (.int .i64 t12)), (13, .one (.int .i64 t13))], h := [] }
 (yH.k1 N)
theorem yH.L1_eq (N : Nat) (n1 : Nat) (a : List Int) (b : List Int) (t12 : Int) (t13 : Int) : yH.L1 N (n1 + 1) a b t12 t13 =
bif decide (t13 < t12) then
bif zG t13 (List.length a) then
bif zG t13 (List.length b) then
bif (nth 0 a t13) != (nth 0 b t13) then
some false
else
yH.L1 N n1 a b t12 (IntKind.wrap .i64 (t13 + 1))
else none
else none
else
some true := by kernel_rfl
theorem yH.F_eq (N : Nat) (a : List Int) (b : List Int) : yH.F N (a, b) =
bif (List.length a : Int) != (List.length b : Int) then
some false
else
yH.L1 N N a b (List.length a : Int) 0 := by kernel_rfl
def zAE.x : XFunc := xF 17 2 [.val true 2, .val true 2] (no 4) [.tmp 4 false 1] [.imm] true (.pair T1_3 T1_3) .bool <| .seq (rG [ow 2 (.box 0) [.slot 0] [0] [0], ow 3 (.box 1) [.slot 1] [1] [1], op 4 .move [cB false]]) (.seq (rG [fA 5 0 2, lN 6 5 0, fA 7 0 3, lN 8 7 1, o2 9 (.bin .eql) 6 8, sX 10 [.slot 9], gF 11 1 2 10 true, gL 12 11 0 10 true, gF 13 1 3 10 true, gL 14 13 1 10 true, ⟨some 15, cO 205 (vs 2) 2 true, (sl [12, 14]), [], [], some (10, true), false, .none⟩, op 16 .pick [.slot 10, .slot 15, cB false], mv 4 16]) (.ret))
def zAE.env (N : Nat) : Env := envOf (tbl [(205, yH.fs N)] noFS)
def zAE.F (N : Nat) (x : (Int × List Int) × Int × List Int) : Option Bool := XFunc.run zAE.x (zAE.env N) N x
def zAE.fs (N : Nat) : FS := fS zAE.x true (zAE.F N)
theorem zAE.F_eq (N : Nat) (a : Int × List Int) (b : Int × List Int) : zAE.F N (a, b) =
bif a.1 == b.1 then
bindO (yH.F N (a.2, b.2)) fun r1 =>
some r1
else
some false := by kernel_rfl
end Go.Kb
