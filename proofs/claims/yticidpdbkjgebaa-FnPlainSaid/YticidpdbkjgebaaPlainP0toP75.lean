/- Plain tools. -/
import Derived.Test.YticidpdbkjgebaaKa
import Derived.IntWalk
import Derived.KernelRfl
import Derived.Test.YticidpdbkjgebaaKc
namespace Go.Kb
theorem zAl {x : Int} (h1 : -9223372036854775808 <= x) (h2 : x <= 9223372036854775807) : IntKind.wrap .i64 x = x := by
 rw [IntKind.wrap_i64]; omega
theorem y0 {k : Nat} (h : k < 9223372036854775807) : IntKind.wrap .i64 ((k : Int) + 1) = ((k + 1 : Nat) : Int) := by
 rw [zAl (by omega) (by omega)]; omega
theorem condT {α : Type} (a b : α) : cond true a b = a := id rfl
theorem condF {α : Type} (a b : α) : cond false a b = b := id rfl
theorem bindV {α β : Type} (a : α) (f : α -> Option β) : bindO (some a) f = f a := id rfl
theorem notT : (!true) = false := id rfl
theorem notF : (!false) = true := id rfl
@[simp] theorem bindO_val {α β : Type} (a : α) (f : α -> Option β) : bindO (some a) f = f a := rfl
@[simp] theorem bindO_no {α β : Type} (f : α -> Option β) : bindO none f = none := rfl
@[simp] theorem inRange_nat (k n : Nat) : zu (k : Int) n = decide (k < n) := by
 simp [zu]
@[simp] theorem nth_nat {α : Type} (d : α) (xs : List α) (k : Nat) : nth d xs (k : Int) = xs.getD k d := by simp [nth]
theorem bneI (x y : Int) : (x != y) = !decide (x = y) := by
 by_cases h : x = y <;> simp [h]
theorem beqI (x y : Int) : (x == y) = decide (x = y) := by
 by_cases h : x = y <;> simp [h]
theorem zAL {α : Type} (d : α) (xs : List α) (k : Nat) (h : k < xs.length) : xs.drop k = xs.getD k d :: xs.drop (k + 1) := by
 rw [List.drop_eq_getElem_cons h, List.getD_eq_getElem?_getD, List.getElem?_eq_getElem h]; rfl
end Go.Kb
namespace Go.Kb
end Go.Kb
namespace Go.Kb
theorem bitXor_nat (a b : Nat) (ha : a < 9223372036854775808) (hb : b < 9223372036854775808) : zBa .i64 (a : Int) (b : Int) = ((a ^^^ b : Nat) : Int) := by
 have hx : a ^^^ b < 2 ^ 63 := Nat.xor_lt_two_pow (by omega) (by omega)
 have e : ∀ n : Nat, n < 9223372036854775808 -> (BitVec.ofInt 64 (n : Int)).toNat = n := by
  intro n hn
  rw [BitVec.ofInt_natCast, BitVec.toNat_ofNat]; exact Nat.mod_eq_of_lt (by omega)
 show IntKind.i64.wrap ((BitVec.ofInt 64 (a : Int) ^^^ BitVec.ofInt 64 (b : Int)).toNat : Int) = _
 rw [BitVec.toNat_xor, e a ha, e b hb, zAl (by omega) (by omega)]
def ckStep (c : Nat) : Nat := if 2 * c > 255 then (2 * c) ^^^ 263 else 2 * c
def ckN : Nat -> Nat -> Nat
 | 0, c => c
 | n + 1, c => ckN n (ckStep c)
def ck : List Nat -> Nat -> Nat
 | [], c => c
 | x :: r, c => ck r (ckN 8 (c ^^^ x))
end Go.Kb
namespace Go.Kb
theorem bitOr_nat (a b : Nat) (ha : a < 9223372036854775808) (hb : b < 9223372036854775808) : bitOr .i64 (a : Int) (b : Int) = ((a ||| b : Nat) : Int) := by
 have hx : a ||| b < 2 ^ 63 := Nat.or_lt_two_pow (by omega) (by omega)
 have e : ∀ n : Nat, n < 9223372036854775808 -> (BitVec.ofInt 64 (n : Int)).toNat = n := by
  intro n hn
  rw [BitVec.ofInt_natCast, BitVec.toNat_ofNat]; exact Nat.mod_eq_of_lt (by omega)
 show IntKind.i64.wrap ((BitVec.ofInt 64 (a : Int) ||| BitVec.ofInt 64 (b : Int)).toNat : Int) = _
 rw [BitVec.toNat_or, e a ha, e b hb, zAl (by omega) (by omega)]
def f5 (n m : Int) : List Int := [85, n, m % 256, m / 256 % 256, m / 65536]
end Go.Kb
namespace Go.Kb
abbrev T1_2 : Ty := .pair (.list (.int .u8)) (.pair (.int .i64) (.int .i64))
def zA0.x : XFunc := { nslots := 6, nobj := 0, pars := [.val false 1], rowsIn := [none], rets := [.tmp 2 false 1], outs := [.imm], fresh := true, arg := .list (.int .u8), ret := .bool, body := .seq (rG [op 2 .move [cB false]]) (.seq (rG [mv 3 0, o1 4 .len 3, op 5 (.bin .gtr) [.slot 4, cI 1048576], mv 2 5]) (.ret)) }
def zA0.env (_ : Nat) : Env := envOf (tbl [] noFS)
def zA0.F (N : Nat) (x : List Int) : Option Bool := XFunc.run zA0.x (zA0.env N) N x
def zA0.fs (N : Nat) : FS := { arg := zA0.x.arg, ret := zA0.x.ret, fresh := true, F := zA0.F N }
theorem zA0.F_eq (N : Nat) (code : List Int) : zA0.F N code =
some (decide ((List.length code : Int) > 1048576)) := by kernel_rfl
def yQ.c1 : XCode := .seq (.seq (rG [mv 8 4, mv 9 0, o1 10 .len 9, o2 11 (.bin .lss) 8 10, sX 12 [.slot 11], gX 13 .move [.slot 4] [] [] 12 true, gX 14 (.bin .lss) [.slot 13, cI 4000] [] [] 12 true, op 15 .pick [.slot 12, .slot 14, cB false]]) (.cond (.slot 15) (.skip) (.exit 0))) (.seq (.block 1 (rG [mv 18 3, op 19 (.bin .mul) [.slot 18, cI 131], mv 20 0, mv 21 4, o2 22 (.indexAddr (.int .u8)) 20 21, o1 23 (.load false 1) 22, o1 24 (.conv .i64) 23, o2 25 (.bin .add) 19 24, op 26 (.bin .add) [.slot 25, cI 7], op 27 (.bin .and) [.slot 26, cI 1073741823], mv 3 27])) (rG [mv 16 4, op 17 (.bin .add) [.slot 16, cI 1], mv 4 17]))
def yQ.c2 : XCode := .seq (rG [mv 28 0, mv 29 3, o2 30 (.build [.nil, cZ, cZ] [(0, 1), (2, 1)]) 28 29, ow 31 (.box 0) [.slot 30] [0] [0], mv 2 31]) (.ret)
def yQ.x : XFunc := { nslots := 32, nobj := 1, pars := [.val false 1], rowsIn := [none], rets := [.ptr 2 3], outs := iF 3, fresh := false, arg := .list (.int .u8), ret := .pair (.list (.int .u8)) (.pair (.int .i64) (.int .i64)), body := .seq (rG [op 2 .move [.const (.junk)]]) (.seq (rG [mv 5 0, o1 6 .len 5, op 7 (.bin .add) [cI 10729, .slot 6], mv 3 7]) (.seq (.seq (rG [op 4 .move [cI 0]]) (.block 0 (.loop [.keep [0, 3, 4], .drop 0, .norm] (yQ.c1)))) (yQ.c2))) }
def yQ.env (_ : Nat) : Env := envOf (tbl [] noFS)
def yQ.F (N : Nat) (x : List Int) : Option ((List Int) × Int × Int) := XFunc.run yQ.x (yQ.env N) N x
def yQ.fs (N : Nat) : FS := { arg := yQ.x.arg, ret := yQ.x.ret, fresh := false, F := yQ.F N }
def yQ.k2 (N : Nat) : Ex -> S -> Option ((List Int) × Int × Int) := seqK (fun s => XCode.runK (yQ.env N) N (yQ.c2) s (XFunc.endK yQ.x)) (XFunc.endK yQ.x)
def yQ.k1 (N : Nat) : Ex -> S -> Option ((List Int) × Int × Int) := zAh 0 (yQ.k2 N)
def yQ.L1 (N : Nat) (n1 : Nat) (code : List Int) (h : Int) (i : Int) : Option ((List Int) × Int × Int) := loopK [.keep [0, 3, 4], .drop 0, .norm] (fun s k => XCode.runK (yQ.env N) N yQ.c1 s k) n1
 { t := jK 32 [(0, .one (.sl false (.int .u8) code)), (3, .one (.int .i64 h)), (4, .one (.int .i64 i))], h := [.absent 0] }
 (yQ.k1 N)
theorem yQ.L1_eq (N : Nat) (n1 : Nat) (code : List Int) (h : Int) (i : Int) : yQ.L1 N (n1 + 1) code h i =
bif decide (i < (List.length code : Int)) then
bif decide (i < 4000) then
bif zu i (List.length code) then
yQ.L1 N n1 code (zBg .i64 (IntKind.wrap .i64 ((IntKind.wrap .i64 ((IntKind.wrap .i64 (h * 131)) + (IntKind.wrap .i64 (nth 0 code i)))) + 7)) 1073741823) (IntKind.wrap .i64 (i + 1))
else none
else
some (code, (0, h))
else
some (code, (0, h)) := by kernel_rfl
theorem yQ.F_eq (N : Nat) (code : List Int) : yQ.F N code =
yQ.L1 N N code (IntKind.wrap .i64 (10729 + (List.length code : Int))) 0 := by kernel_rfl
def yT.x : XFunc := { nslots := 19, nobj := 1, pars := [.val false 1, .val false 1], rowsIn := no 2, rets := [.ptr 4 3], outs := iF 3, fresh := false, arg := .pair (.list (.int .u8)) (.int .i64), ret := .pair (.list (.int .u8)) (.pair (.int .i64) (.int .i64)), body := .seq (rG [op 4 .move [.const (.junk)]]) (.seq (rG [mv 6 0, ow 7 (.call ⟨236, vs 1, no 1, [.box 0 3], ims 3, false⟩) [.slot 6] [0] [0], mv 5 7]) (.seq (rG [mv 8 5, mv 9 5, o1 10 .nilck 9, fA 11 2 10, lN 12 11 0, mv 13 1, op 14 (.bin .mul) [cI 7919, .slot 13], o2 15 (.bin .add) 12 14, o1 16 .nilck 8, fA 17 2 16, sT 1 17 15 0]) (.seq (rG [mv 18 5, mv 4 18]) (.ret)))) }
def yT.env (N : Nat) : Env := envOf (tbl [(236, yQ.fs N)] noFS)
def yT.F (N : Nat) (x : (List Int) × Int) : Option ((List Int) × Int × Int) := XFunc.run yT.x (yT.env N) N x
def yT.fs (N : Nat) : FS := { arg := yT.x.arg, ret := yT.x.ret, fresh := false, F := yT.F N }
theorem yT.F_eq (N : Nat) (code : List Int) (n_ : Int) : yT.F N (code, n_) =
bindO (yQ.F N code) fun r1 =>
some (r1.1, (r1.2.1, IntKind.wrap .i64 (r1.2.2 + (IntKind.wrap .i64 (7919 * n_))))) := by kernel_rfl
def y4.x : XFunc := { nslots := 58, nobj := 1, pars := [.box 0 3], rowsIn := no 3, rets := [.tmp 2 false 1], outs := iF 4, fresh := false, arg := .pair (.list (.int .u8)) (.pair (.int .i64) (.int .i64)), ret := .pair (.int .i64) T1_2, body := .seq (rG [op 2 .move [cI 0]]) (.seq (rG [mv 4 0, mv 5 0, o1 6 .nilck 5, fA 7 2 6, lN 8 7 0, op 9 (.bin .mul) [.slot 8, cI 6364136223846793005], op 10 (.bin .add) [.slot 9, cI 1442695040888963407], o1 11 .nilck 4, fA 12 2 11, sT 1 12 10 0]) (.seq (.region true [mv 13 0, o1 14 .nilck 13, fA 15 2 14, lN 16 15 0, op 17 (.bin .shr) [.slot 16, .const (.one (.int .u64 (33 : Int)))], mv 18 0, o1 19 .nilck 18, fA 20 2 19, lN 21 20 0, op 22 (.bin .shr) [.slot 21, .const (.one (.int .u64 (45 : Int)))], o2 23 (.bin .xor) 17 22, op 24 (.bin .and) [.slot 23, cI 255], mv 3 24]) (.seq (.seq (.region true [mv 25 0, o1 26 .nilck 25, fA 27 1 26, lN 28 27 0, mv 29 0, o1 30 .nilck 29, fA 31 0 30, lN 32 31 0, o1 33 .len 32, o2 34 (.bin .lss) 28 33]) (.cond (.slot 34) (.seq (.region true [mv 35 3, mv 36 0, o1 37 .nilck 36, fA 38 0 37, lN 39 38 0, mv 40 0, o1 41 .nilck 40, fA 42 1 41, lN 43 42 0, o2 44 (.indexAddr (.int .u8)) 39 43, o1 45 (.load false 1) 44, o1 46 (.conv .i64) 45, o2 47 (.bin .add) 35 46, op 48 (.bin .and) [.slot 47, cI 255], mv 3 48]) (rG [mv 49 0, mv 50 0, o1 51 .nilck 50, fA 52 1 51, lN 53 52 0, op 54 (.bin .add) [.slot 53, cI 1], o1 55 .nilck 49, fA 56 1 55, sT 1 56 54 0])) (.skip))) (.seq (rG [mv 57 3, mv 2 57]) (.ret))))) }
def y4.env (_ : Nat) : Env := envOf (tbl [] noFS)
def y4.F (N : Nat) (x : (List Int) × Int × Int) : Option (Int × (List Int) × Int × Int) := XFunc.run y4.x (y4.env N) N x
def y4.fs (N : Nat) : FS := { arg := y4.x.arg, ret := y4.x.ret, fresh := false, F := y4.F N }
theorem y4.F_eq (N : Nat) (c : (List Int) × Int × Int) : y4.F N c =
bif decide (c.2.1 < (List.length c.1 : Int)) then
bif zu c.2.1 (List.length c.1) then
some (zBg .i64 (IntKind.wrap .i64 ((zBg .i64 (zBa .i64 (zCA .i64 (IntKind.wrap .i64 ((IntKind.wrap .i64 (c.2.2 * 6364136223846793005)) + 1442695040888963407)) 33) (zCA .i64 (IntKind.wrap .i64 ((IntKind.wrap .i64 (c.2.2 * 6364136223846793005)) + 1442695040888963407)) 45)) 255) + (IntKind.wrap .i64 (nth 0 c.1 c.2.1)))) 255, (c.1, (IntKind.wrap .i64 (c.2.1 + 1), IntKind.wrap .i64 ((IntKind.wrap .i64 (c.2.2 * 6364136223846793005)) + 1442695040888963407))))
else none
else
some (zBg .i64 (zBa .i64 (zCA .i64 (IntKind.wrap .i64 ((IntKind.wrap .i64 (c.2.2 * 6364136223846793005)) + 1442695040888963407)) 33) (zCA .i64 (IntKind.wrap .i64 ((IntKind.wrap .i64 (c.2.2 * 6364136223846793005)) + 1442695040888963407)) 45)) 255, (c.1, (c.2.1, IntKind.wrap .i64 ((IntKind.wrap .i64 (c.2.2 * 6364136223846793005)) + 1442695040888963407)))) := by kernel_rfl
def zG.x : XFunc := { nslots := 37, nobj := 1, pars := [.box 0 3, .val false 1], rowsIn := no 4, rets := [.tmp 4 false 1], outs := iF 4, fresh := false, arg := .pair T1_2 (.int .i64), ret := .pair (.int .i64) T1_2, body := .seq (rG [op 4 .move [cI 0]]) (.seq (.seq (rG [mv 9 1, op 10 (.bin .leq) [.slot 9, cI 0]]) (.cond (.slot 10) (.seq (rG [op 4 .move [cI 0]]) (.ret)) (.skip))) (.seq (.seq (rG [mv 11 1, op 12 (.bin .leq) [.slot 11, cI 256]]) (.cond (.slot 12) (.seq (rG [mv 13 0, ow 14 (.call ⟨32, [.box 0 3], no 3, [.val false 1], ims 4, false⟩) [.slot 13] [0] [0], mv 15 1, o2 16 (.bin .rem) 14 15, mv 4 16]) (.ret)) (.skip))) (.seq (rG [mv 17 0, ow 18 (.call ⟨32, [.box 0 3], no 3, [.val false 1], ims 4, false⟩) [.slot 17] [0] [0], mv 5 18]) (.seq (rG [mv 19 0, ow 20 (.call ⟨32, [.box 0 3], no 3, [.val false 1], ims 4, false⟩) [.slot 19] [0] [0], mv 6 20]) (.seq (rG [mv 21 0, ow 22 (.call ⟨32, [.box 0 3], no 3, [.val false 1], ims 4, false⟩) [.slot 21] [0] [0], mv 7 22]) (.seq (rG [mv 23 0, ow 24 (.call ⟨32, [.box 0 3], no 3, [.val false 1], ims 4, false⟩) [.slot 23] [0] [0], mv 8 24]) (.seq (rG [mv 25 5, op 26 (.bin .mul) [.slot 25, cI 16777216], mv 27 6, op 28 (.bin .mul) [.slot 27, cI 65536], o2 29 (.bin .add) 26 28, mv 30 7, op 31 (.bin .mul) [.slot 30, cI 256], o2 32 (.bin .add) 29 31, mv 33 8, o2 34 (.bin .add) 32 33, mv 35 1, o2 36 (.bin .rem) 34 35, mv 4 36]) (.ret)))))))) }
def zG.env (N : Nat) : Env := envOf (tbl [(32, y4.fs N)] noFS)
def zG.F (N : Nat) (x : ((List Int) × Int × Int) × Int) : Option (Int × (List Int) × Int × Int) := XFunc.run zG.x (zG.env N) N x
def zG.fs (N : Nat) : FS := { arg := zG.x.arg, ret := zG.x.ret, fresh := false, F := zG.F N }
theorem zG.F_eq (N : Nat) (c : (List Int) × Int × Int) (n_ : Int) : zG.F N (c, n_) =
bif decide (n_ <= 0) then
some (0, c)
else
bif decide (n_ <= 256) then
bindO (y4.F N c) fun r1 =>
bif n_ != 0 then
some (Int.tmod r1.1 n_, r1.2)
else none
else
bindO (y4.F N c) fun r2 =>
bindO (y4.F N r2.2) fun r3 =>
bindO (y4.F N r3.2) fun r4 =>
bindO (y4.F N r4.2) fun r5 =>
bif n_ != 0 then
some (Int.tmod (IntKind.wrap .i64 ((IntKind.wrap .i64 ((IntKind.wrap .i64 ((IntKind.wrap .i64 (r2.1 * 16777216)) + (IntKind.wrap .i64 (r3.1 * 65536)))) + (IntKind.wrap .i64 (r4.1 * 256)))) + r5.1)) n_, r5.2)
else none := by kernel_rfl
def zq.x : XFunc := { nslots := 12, nobj := 1, pars := [.box 0 3, .val false 1], rowsIn := no 4, rets := [.tmp 4 false 1], outs := iF 4, fresh := false, arg := .pair T1_2 (.list (.int .i64)), ret := .pair (.int .i64) T1_2, body := .seq (rG [op 4 .move [cI 0]]) (.seq (rG [mv 5 1, mv 6 0, mv 7 1, o1 8 .len 7, ow 9 (.call ⟨33, [.box 0 3, .val false 1], no 4, [.val false 1], ims 4, false⟩) (sl [6, 8]) [0] [0], o2 10 (.indexAddr (.int .i64)) 5 9, o1 11 (.load false 1) 10, mv 4 11]) (.ret)) }
def zq.env (N : Nat) : Env := envOf (tbl [(33, zG.fs N)] noFS)
def zq.F (N : Nat) (x : ((List Int) × Int × Int) × List Int) : Option (Int × (List Int) × Int × Int) := XFunc.run zq.x (zq.env N) N x
def zq.fs (N : Nat) : FS := { arg := zq.x.arg, ret := zq.x.ret, fresh := false, F := zq.F N }
theorem zq.F_eq (N : Nat) (c : (List Int) × Int × Int) (list : List Int) : zq.F N (c, list) =
bindO (zG.F N (c, (List.length list : Int))) fun r1 =>
bif zu r1.1 (List.length list) then
some (nth 0 list r1.1, r1.2)
else none := by kernel_rfl
end Go.Kb
namespace Go.Kb
end Go.Kb
namespace Go.Kb
theorem bitAnd_range (x : Int) (m : Nat) (hm : m < 9223372036854775808) : 0 <= zBg .i64 x (m : Int) /\ zBg .i64 x (m : Int) <= m := by
 show 0 <= IntKind.i64.wrap ((BitVec.ofInt 64 x &&& BitVec.ofInt 64 (m : Int)).toNat : Int) /\ IntKind.i64.wrap ((BitVec.ofInt 64 x &&& BitVec.ofInt 64 (m : Int)).toNat : Int) <= m
 have h : (BitVec.ofInt 64 x &&& BitVec.ofInt 64 (m : Int)).toNat <= m := by
  rw [BitVec.toNat_and]
  refine Nat.le_trans Nat.and_le_right ?_
  rw [BitVec.ofInt_natCast, BitVec.toNat_ofNat]; exact Nat.mod_le _ _
 rw [zAl (by omega) (by omega)]
 omega
def okC (code : List Int) (c : List Int × Int × Int) : Prop := c.1 = code /\ 0 <= c.2.1 /\ c.2.1 <= code.length
theorem l1New_L1 (N : Nat) : ∀ (n k : Nat) (h : Int) (code : List Int), code.length <= maxN -> k <= code.length -> code.length < n + k -> ∃ h', yQ.L1 N n code h (k : Int) = some (code, (0, h')) := by
 intro n
 induction n with
 | zero => intro k h code h1 h2 h3; omega
 | succ n ih =>
  intro k h code h1 h2 h3
  rw [yQ.L1_eq]
  unfold maxN at h1
  by_cases hk : k < code.length
  ·simp only [oJ, hk, decide_true, cond_true, inRange_nat]
   by_cases h4 : (k : Int) < 4000
   ·simp only [h4, decide_true, cond_true]
    rw [y0 (by omega)]
    exact ih (k + 1) _ code (by unfold maxN; omega) (by omega) (by omega)
   ·simp only [h4, decide_false, cond_false]
    exact ⟨_, rfl⟩
  ·simp only [oJ, hk, decide_false, cond_false]
   exact ⟨_, rfl⟩
theorem l24New_ok (N : Nat) (code : List Int) (p : Int) (h1 : code.length <= maxN) (h2 : code.length < N) : ∃ c, yT.F N (code, p) = some c /\ okC code c := by
 rw [yT.F_eq, yQ.F_eq]
 obtain ⟨h', e⟩ := l1New_L1 N N 0 (IntKind.wrap .i64 ((10729 : Int) + (List.length code : Int))) code h1 (by omega) (by omega)
 rw [show ((0 : Nat) : Int) = 0 from rfl] at e
 rw [e]
 exact ⟨_, rfl, rfl, by simp, by simp⟩
theorem l1Byte_ok (N : Nat) (code : List Int) (c : List Int × Int × Int) (h : okC code c) (hm : code.length <= maxN) : ∃ v c', y4.F N c = some (v, c') /\ 0 <= v /\ v <= 255 /\ okC code c' := by
 obtain ⟨h1, h2, h3⟩ := h
 rw [y4.F_eq, h1]
 unfold maxN at hm
 have r : ∀ x : Int, 0 <= zBg .i64 x 255 /\ zBg .i64 x 255 <= 255 := fun x => bitAnd_range x 255 (by omega)
 by_cases hl : c.2.1 < (code.length : Int)
 ·obtain ⟨k, hk⟩ := Int.eq_ofNat_of_zero_le h2
  have hi : zu c.2.1 code.length = true := by rw [hk, inRange_nat]; simp; omega
  simp only [hl, decide_true, cond_true, hi]
  refine ⟨_, _, rfl, (r _).1, (r _).2, rfl, ?_, ?_⟩
  ·show 0 <= IntKind.wrap .i64 (c.2.1 + 1)
   rw [zAl (by omega) (by omega)]; omega
  ·show IntKind.wrap .i64 (c.2.1 + 1) <= _
   rw [zAl (by omega) (by omega)]; omega
 ·simp only [hl, decide_false, cond_false]
  exact ⟨_, _, rfl, (r _).1, (r _).2, rfl, h2, h3⟩
theorem tmod_range {x n : Int} (hx : 0 <= x) (hn : 0 < n) : 0 <= Int.tmod x n /\ Int.tmod x n < n := by
 rw [Int.tmod_eq_emod_of_nonneg hx]
 exact ⟨Int.emod_nonneg _ (by omega), Int.emod_lt_of_pos _ hn⟩
theorem zAP (N : Nat) (code : List Int) (c : List Int × Int × Int) (n : Int) (h : okC code c) (hm : code.length <= maxN) (hn : 0 < n) : ∃ v c', zG.F N (c, n) = some (v, c') /\ 0 <= v /\ v < n /\ okC code c' := by
 rw [zG.F_eq]
 have h0 : ¬ n <= 0 := by omega
 have hz : (n != 0) = true := by simp; omega
 obtain ⟨v1, c1, e1, a1, b1, k1⟩ := l1Byte_ok N code c h hm
 obtain ⟨v2, c2, e2, a2, b2, k2⟩ := l1Byte_ok N code c1 k1 hm
 obtain ⟨v3, c3, e3, a3, b3, k3⟩ := l1Byte_ok N code c2 k2 hm
 obtain ⟨v4, c4, e4, a4, b4, k4⟩ := l1Byte_ok N code c3 k3 hm
 simp only [h0, decide_false, cond_false, hz, cond_true, e1, e2, e3, e4, bindO_val]
 by_cases h2 : n <= 256
 ·simp only [h2, decide_true, cond_true]
  exact ⟨_, _, rfl, (tmod_range a1 hn).1, (tmod_range a1 hn).2, k1⟩
 ·simp only [h2, decide_false, cond_false]
  have e : IntKind.wrap .i64 ((IntKind.wrap .i64 ((IntKind.wrap .i64 ((IntKind.wrap .i64 (v1 * 16777216)) + (IntKind.wrap .i64 (v2 * 65536)))) + (IntKind.wrap .i64 (v3 * 256)))) + v4) = v1 * 16777216 + v2 * 65536 + v3 * 256 + v4 := by
   rw [zAl (x := v1 * 16777216) (by omega) (by omega), zAl (x := v2 * 65536) (by omega) (by omega), zAl (x := v3 * 256) (by omega) (by omega), zAl (x := v1 * 16777216 + v2 * 65536) (by omega) (by omega), zAl (x := v1 * 16777216 + v2 * 65536 + v3 * 256) (by omega) (by omega), zAl (by omega) (by omega)]
  rw [e]
  exact ⟨_, _, rfl, (tmod_range (by omega) hn).1, (tmod_range (by omega) hn).2, k4⟩
theorem l1PickInt_ok (N : Nat) (code : List Int) (c : List Int × Int × Int) (l : List Int) (h : okC code c) (hm : code.length <= maxN) (hl : 0 < l.length) : ∃ v c', zq.F N (c, l) = some (v, c') /\ v ∈ l /\ okC code c' := by
 rw [zq.F_eq]
 obtain ⟨v, c', e', a, b, k⟩ := zAP N code c l.length h hm (by omega)
 obtain ⟨i, hi⟩ := Int.eq_ofNat_of_zero_le a
 have hi' : i < l.length := by omega
 rw [e', bindO_val]
 simp only [hi, inRange_nat, hi', decide_true, cond_true, nth_nat]
 refine ⟨_, _, rfl, ?_, k⟩
 rw [List.getD_eq_getElem?_getD, List.getElem?_eq_getElem hi']; exact List.getElem_mem hi'
end Go.Kb
namespace Go.Kb
def yR.x : XFunc := { nslots := 9, nobj := 0, pars := [.val false 1], rowsIn := [none], rets := [.tmp 2 false 1], outs := [.imm], fresh := true, arg := .int .i64, ret := .bool, body := .seq (rG [op 2 .move [cB false]]) (.seq (rG [mv 3 0, op 4 (.bin .geq) [.slot 3, cI 1], sX 5 [.slot 4], gX 6 .move [.slot 0] [] [] 5 true, gX 7 (.bin .leq) [.slot 6, cI 56] [] [] 5 true, op 8 .pick [.slot 5, .slot 7, cB false], mv 2 8]) (.ret)) }
def yR.env (_ : Nat) : Env := envOf (tbl [] noFS)
def yR.F (N : Nat) (x : Int) : Option Bool := XFunc.run yR.x (yR.env N) N x
def yR.fs (N : Nat) : FS := { arg := yR.x.arg, ret := yR.x.ret, fresh := true, F := yR.F N }
theorem yR.F_eq (N : Nat) (n_ : Int) : yR.F N n_ =
bif decide (n_ >= 1) then
some (decide (n_ <= 56))
else
some false := by kernel_rfl
def z5.c1 : XCode := .seq (rG [o2 10 (.bin .lss) 9 8]) (.seq (.cond (.slot 10) (.skip) (.exit 0)) (.seq (.block 1 (.seq (rG [o2 11 (.indexAddr (.int .i64)) 7 9, o1 12 (.load false 1) 11, mv 6 12]) (.seq (rG [mv 13 6, mv 14 1, o2 15 (.bin .eql) 13 14]) (.cond (.slot 15) (.seq (rG [op 4 .move [cB true]]) (.ret)) (.skip))))) (rG [op 16 (.bin .add) [.slot 9, cI 1], mv 9 16])))
def z5.c2 : XCode := .seq (rG [op 4 .move [cB false]]) (.ret)
def z5.x : XFunc := { nslots := 17, nobj := 0, pars := [.val false 1, .val false 1], rowsIn := no 2, rets := [.tmp 4 false 1], outs := [.imm], fresh := true, arg := .pair (.list (.int .i64)) (.int .i64), ret := .bool, body := .seq (rG [op 4 .move [cB false]]) (.seq (.seq (rG [mv 7 0, o1 8 .len 7, op 9 .move [cI 0]]) (.block 0 (.loop [.keep [1, 7, 8, 9], .norm] (z5.c1)))) (z5.c2)) }
def z5.env (_ : Nat) : Env := envOf (tbl [] noFS)
def z5.F (N : Nat) (x : (List Int) × Int) : Option Bool := XFunc.run z5.x (z5.env N) N x
def z5.fs (N : Nat) : FS := { arg := z5.x.arg, ret := z5.x.ret, fresh := true, F := z5.F N }
def z5.k2 (N : Nat) : Ex -> S -> Option Bool := seqK (fun s => XCode.runK (z5.env N) N (z5.c2) s (XFunc.endK z5.x)) (XFunc.endK z5.x)
def z5.k1 (N : Nat) : Ex -> S -> Option Bool := zAh 0 (z5.k2 N)
def z5.L1 (N : Nat) (n1 : Nat) (n_ : Int) (t7 : List Int) (t8 : Int) (t9 : Int) : Option Bool := loopK [.keep [1, 7, 8, 9], .norm] (fun s k => XCode.runK (z5.env N) N z5.c1 s k) n1
 { t := jK 17 [(1, .one (.int .i64 n_)), (7, .one (.sl false (.int .i64) t7)), (8, .one (.int .i64 t8)), (9, .one (.int .i64 t9))], h := [] }
 (z5.k1 N)
theorem z5.L1_eq (N : Nat) (n1 : Nat) (n_ : Int) (t7 : List Int) (t8 : Int) (t9 : Int) : z5.L1 N (n1 + 1) n_ t7 t8 t9 =
bif decide (t9 < t8) then
bif zu t9 (List.length t7) then
bif (nth 0 t7 t9) == n_ then
some true
else
z5.L1 N n1 n_ t7 t8 (IntKind.wrap .i64 (t9 + 1))
else none
else
some false := by kernel_rfl
theorem z5.F_eq (N : Nat) (l_ : List Int) (n_ : Int) : z5.F N (l_, n_) =
z5.L1 N N n_ l_ (List.length l_ : Int) 0 := by kernel_rfl
def zg.c1 : XCode := .seq (rG [o2 14 (.bin .lss) 13 12]) (.seq (.cond (.slot 14) (.skip) (.exit 0)) (.seq (.block 1 (.seq (rG [mv 15 13, mv 5 15]) (.seq (.region true [mv 16 0, mv 17 5, o2 18 (.indexAddr (.int .i64)) 16 17, o1 19 (.load false 1) 18, mv 20 1, mv 21 5, o2 22 (.indexAddr (.int .i64)) 20 21, o1 23 (.load false 1) 22, o2 24 (.bin .neq) 19 23]) (.cond (.slot 24) (.seq (rG [op 4 .move [cB false]]) (.ret)) (.skip))))) (rG [op 25 (.bin .add) [.slot 13, cI 1], mv 13 25])))
def zg.c2 : XCode := .seq (rG [op 4 .move [cB true]]) (.ret)
def zg.x : XFunc := { nslots := 26, nobj := 0, pars := [.val false 1, .val false 1], rowsIn := no 2, rets := [.tmp 4 false 1], outs := [.imm], fresh := true, arg := .pair (.list (.int .i64)) (.list (.int .i64)), ret := .bool, body := .seq (rG [op 4 .move [cB false]]) (.seq (.seq (rG [mv 6 0, o1 7 .len 6, mv 8 1, o1 9 .len 8, o2 10 (.bin .neq) 7 9]) (.cond (.slot 10) (.seq (rG [op 4 .move [cB false]]) (.ret)) (.skip))) (.seq (.seq (rG [mv 11 0, o1 12 .len 11, op 13 .move [cI 0]]) (.block 0 (.loop [.keep [0, 1, 12, 13], .norm] (zg.c1)))) (zg.c2))) }
def zg.env (_ : Nat) : Env := envOf (tbl [] noFS)
def zg.F (N : Nat) (x : (List Int) × List Int) : Option Bool := XFunc.run zg.x (zg.env N) N x
def zg.fs (N : Nat) : FS := { arg := zg.x.arg, ret := zg.x.ret, fresh := true, F := zg.F N }
def zg.k2 (N : Nat) : Ex -> S -> Option Bool := seqK (fun s => XCode.runK (zg.env N) N (zg.c2) s (XFunc.endK zg.x)) (XFunc.endK zg.x)
def zg.k1 (N : Nat) : Ex -> S -> Option Bool := zAh 0 (zg.k2 N)
def zg.L1 (N : Nat) (n1 : Nat) (a : List Int) (b : List Int) (t12 : Int) (t13 : Int) : Option Bool := loopK [.keep [0, 1, 12, 13], .norm] (fun s k => XCode.runK (zg.env N) N zg.c1 s k) n1
 { t := jK 26 [(0, .one (.sl false (.int .i64) a)), (1, .one (.sl false (.int .i64) b)), (12, .one (.int .i64 t12)), (13, .one (.int .i64 t13))], h := [] }
 (zg.k1 N)
theorem zg.L1_eq (N : Nat) (n1 : Nat) (a : List Int) (b : List Int) (t12 : Int) (t13 : Int) : zg.L1 N (n1 + 1) a b t12 t13 =
bif decide (t13 < t12) then
bif zu t13 (List.length a) then
bif zu t13 (List.length b) then
bif (nth 0 a t13) != (nth 0 b t13) then
some false
else
zg.L1 N n1 a b t12 (IntKind.wrap .i64 (t13 + 1))
else none
else none
else
some true := by kernel_rfl
theorem zg.F_eq (N : Nat) (a : List Int) (b : List Int) : zg.F N (a, b) =
bif (List.length a : Int) != (List.length b : Int) then
some false
else
zg.L1 N N a b (List.length a : Int) 0 := by kernel_rfl
def yF.x : XFunc := { nslots := 17, nobj := 2, pars := [.val true 2, .val true 2], rowsIn := no 4, rets := [.tmp 4 false 1], outs := [.imm], fresh := true, arg := .pair (.pair (.int .i64) (.list (.int .i64))) (.pair (.int .i64) (.list (.int .i64))), ret := .bool, body := .seq (rG [ow 2 (.box 0) [.slot 0] [0] [0], ow 3 (.box 1) [.slot 1] [1] [1], op 4 .move [cB false]]) (.seq (rG [fA 5 0 2, lN 6 5 0, fA 7 0 3, lN 8 7 1, o2 9 (.bin .eql) 6 8, sX 10 [.slot 9], gX 11 (.fieldAddr 1) [.slot 2] [] [] 10 true, gX 12 (.load false 1) [.slot 11] [0] [] 10 true, gX 13 (.fieldAddr 1) [.slot 3] [] [] 10 true, gX 14 (.load false 1) [.slot 13] [1] [] 10 true, ⟨some 15, .call ⟨205, vs 2, no 2, [.val false 1], ims 1, true⟩, (sl [12, 14]), [], [], some (10, true), false, .none⟩, op 16 .pick [.slot 10, .slot 15, cB false], mv 4 16]) (.ret)) }
def yF.env (N : Nat) : Env := envOf (tbl [(205, zg.fs N)] noFS)
def yF.F (N : Nat) (x : (Int × List Int) × Int × List Int) : Option Bool := XFunc.run yF.x (yF.env N) N x
def yF.fs (N : Nat) : FS := { arg := yF.x.arg, ret := yF.x.ret, fresh := true, F := yF.F N }
theorem yF.F_eq (N : Nat) (a : Int × List Int) (b : Int × List Int) : yF.F N (a, b) =
bif a.1 == b.1 then
bindO (zg.F N (a.2, b.2)) fun r1 =>
some r1
else
some false := by kernel_rfl
end Go.Kb
namespace Go.Kb
theorem nth_mem {α : Type} (d : α) (a : List α) (k : Nat) (h : k < a.length) : a.getD k d ∈ a := by
 rw [List.getD_eq_getElem?_getD, List.getElem?_eq_getElem h]; exact List.getElem_mem h
end Go.Kb
namespace Go.Kb
abbrev Rpt := Int × List Int
theorem isCode_eq (N : Nat) (x : Int) : yR.F N x = some (decide (1 <= x /\ x <= 56)) := by
 rw [yR.F_eq]
 by_cases a : 1 <= x <;> by_cases b : x <= 56 <;> simp [a, b]
end Go.Kb
namespace Go.Kb
end Go.Kb
namespace Go.Kb
set_option maxRecDepth 100000
theorem hasInt_L1 (N : Nat) (x : Int) (l : List Int) (hl : l.length <= 1048576) : ∀ (n i : Nat), i <= l.length -> l.length < n + i ->
  z5.L1 N n x l (l.length : Int) (i : Int) = some ((l.drop i).contains x) := by
 intro n
 induction n with
 | zero => intro i h1 h2; omega
 | succ n ih =>
  intro i h1 h2
  rw [z5.L1_eq]
  by_cases hi : i < l.length
  ·have ws : IntKind.wrap .i64 ((i : Int) + 1) = ((i + 1 : Nat) : Int) := y0 (by omega)
   have hb : (x == l.getD i 0) = (l.getD i 0 == x) := Bool.beq_comm
   rw [zAL 0 l i hi, List.contains_cons, hb]
   simp only [oJ, hi, decide_true, condT, inRange_nat, nth_nat, ws, ih (i + 1) (by omega) (by omega)]
   cases l.getD i 0 == x with
   | true => simp only [condT, Bool.true_or]
   | false => simp only [condF, Bool.false_or]
  ·rw [List.drop_eq_nil_of_le (by omega)]
   simp only [oJ, hi, decide_false, condF]
   rfl
theorem hasInt_eq (N : Nat) (hN : 1048576 < N) (l : List Int) (x : Int) (hl : l.length <= 1048576) : z5.F N (l, x) = some (l.contains x) := by
 rw [z5.F_eq]
 exact hasInt_L1 N x l hl N 0 (by omega) (by omega)
def okK : Int -> List Int -> Bool
 | _, [] => true
 | p, x :: r => decide (1 <= x /\ x <= 56) && (decide (p < x) && okK x r)
def rpB (r : Rpt) : Bool := decide (0 <= r.1 /\ r.1 <= 15) && okK 0 r.2
theorem okK_cons (p x : Int) (r : List Int) : okK p (x :: r) = (decide (1 <= x /\ x <= 56) && (decide (p < x) && okK x r)) := rfl
end Go.Kb
