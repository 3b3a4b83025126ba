/- The texts of functions, printed by a program, and the equations of their runs. -/
import Derived.Test.YticidpdbkjgebaaGreatDecidedP0toP4
import Derived.Test.YticidpdbkjgebaaGreatDecidedF3toP75
import Derived.KernelRfl
namespace Go.Kb
abbrev T1_4 : Ty := .pair (.int .i64) (.pair (.int .i64) (.bool))
def yv.x : XFunc := { nslots := 11, nobj := 1, pars := [.val true 3], rowsIn := no 3, rets := [.tmp 2 false 1], outs := [.imm], fresh := true, arg := .pair (.int .i64) (.pair (.int .i64) (.bool)), ret := .bool, body := .seq (rG [ow 1 (.box 0) [.slot 0] [0] [0], op 2 .move [cB false]]) (.seq (rG [fA 3 0 1, lN 4 3 0, op 5 (.call ⟨1, vs 3, no 3, [.val false 1], ims 1, true⟩) [.slot 4, cI 0, cI 1000000], sX 6 [.slot 5], gX 7 (.fieldAddr 1) [.slot 1] [] [] 6 true, gX 8 (.load false 1) [.slot 7] [0] [] 6 true, ⟨some 9, .call ⟨1, vs 3, no 3, [.val false 1], ims 1, true⟩, [.slot 8, cI 0, cI 31], [], [], some (6, true), false, .none⟩, op 10 .pick [.slot 6, .slot 9, cB false], mv 2 10]) (.ret)) }
def yv.env (N : Nat) : Env := envOf (tbl [(1, zS.fs N)] noFS)
def yv.F (N : Nat) (x : Int × Int × Bool) : Option Bool := XFunc.run yv.x (yv.env N) N x
def yv.fs (N : Nat) : FS := { arg := yv.x.arg, ret := yv.x.ret, fresh := true, F := yv.F N }
theorem yv.F_eq (N : Nat) (e : Int × Int × Bool) : yv.F N e =
bindO (zS.F N (e.1, (0, 1000000))) fun r1 =>
bif r1 then
bindO (zS.F N (e.2.1, (0, 31))) fun r2 =>
some r2
else
some false := by kernel_rfl
def zW.c1 : XCode := .seq (.seq (rG [mv 10 9, mv 11 0, o1 12 .len 11, o2 13 (.bin .lss) 10 12]) (.cond (.slot 13) (.skip) (.exit 0))) (.seq (.block 1 (.seq (.seq (.region true [mv 16 0, mv 17 9, o2 18 (.indexAddr T1_4) 16 17, o1 19 (.load true 3) 18, o1 20 (.call ⟨40, [.val true 3], no 3, [.val false 1], ims 1, true⟩) 19, o1 21 .not 20, sX 22 [.slot 21], gX 23 .move [.slot 0] [] [] 22 false, gX 24 .move [.slot 9] [] [] 22 false, gX 25 (.indexAddr T1_4) (sl [23, 24]) [] [] 22 false, gX 26 (.fieldAddr 1) [.slot 25] [] [] 22 false, gX 27 (.load false 1) [.slot 26] [] [] 22 false, gX 28 .move [.slot 2] [] [] 22 false, gX 29 (.bin .geq) (sl [27, 28]) [] [] 22 false, op 30 .pick [.slot 22, cB true, .slot 29], sX 31 [.slot 30], gX 32 .move [.slot 0] [] [] 31 false, gX 33 .move [.slot 9] [] [] 31 false, gX 34 (.indexAddr T1_4) (sl [32, 33]) [] [] 31 false, gX 35 (.fieldAddr 0) [.slot 34] [] [] 31 false, gX 36 (.load false 1) [.slot 35] [] [] 31 false, gX 37 .move [.slot 3] [] [] 31 false, gX 38 (.bin .lss) (sl [36, 37]) [] [] 31 false, op 39 .pick [.slot 31, cB true, .slot 38], sX 40 [.slot 39], gX 41 .move [.slot 0] [] [] 40 false, gX 42 .move [.slot 9] [] [] 40 false, gX 43 (.indexAddr T1_4) (sl [41, 42]) [] [] 40 false, gX 44 (.fieldAddr 2) [.slot 43] [] [] 40 false, gX 45 (.load false 1) [.slot 44] [] [] 40 false, gX 46 .move [.slot 1] [] [] 40 false, gX 47 .move [.slot 0] [] [] 40 false, gX 48 .move [.slot 9] [] [] 40 false, gX 49 (.indexAddr T1_4) (sl [47, 48]) [] [] 40 false, gX 50 (.fieldAddr 1) [.slot 49] [] [] 40 false, gX 51 (.load false 1) [.slot 50] [] [] 40 false, gX 52 (.bin .shr) (sl [46, 51]) [] [] 40 false, gX 53 (.bin .and) [.slot 52, cI 1] [] [] 40 false, gX 54 (.bin .eql) [.slot 53, cI 1] [] [] 40 false, gX 55 (.eqBool false) (sl [45, 54]) [] [] 40 false, op 56 .pick [.slot 40, cB true, .slot 55]]) (.cond (.slot 56) (.seq (rG [op 8 .move [cB false]]) (.ret)) (.skip))) (.seq (rG [mv 57 0, mv 58 9, o2 59 (.indexAddr T1_4) 57 58, fA 60 0 59, o1 61 (.load false 1) 60, mv 3 61]) (rG [mv 62 1, mv 63 0, mv 64 9, o2 65 (.indexAddr T1_4) 63 64, fA 66 1 65, o1 67 (.load false 1) 66, op 68 (.bin .shl) [cI 1, .slot 67], o2 69 (.bin .xor) 62 68, mv 1 69])))) (rG [mv 14 9, op 15 (.bin .add) [.slot 14, cI 1], mv 9 15]))
def zW.c2 : XCode := .seq (rG [mv 70 0, o1 71 .len 70, op 72 (.bin .leq) [.slot 71, cI 64], mv 8 72]) (.ret)
def zW.x : XFunc := { nslots := 73, nobj := 0, pars := [.val false 1, .val false 1, .val false 1, .val false 1], rowsIn := no 4, rets := [.tmp 8 false 1], outs := [.imm], fresh := true, arg := .pair (.list T1_4) (.pair (.int .i64) (.pair (.int .i64) (.int .i64))), ret := .bool, body := .seq (rG [op 8 .move [cB false]]) (.seq (.seq (rG [op 9 .move [cI 0]]) (.block 0 (.loop [.keep [0, 1, 2, 3, 9], .norm] (zW.c1)))) (zW.c2)) }
def zW.env (N : Nat) : Env := envOf (tbl [(40, yv.fs N)] noFS)
def zW.F (N : Nat) (x : (List (Int × Int × Bool)) × Int × Int × Int) : Option Bool := XFunc.run zW.x (zW.env N) N x
def zW.fs (N : Nat) : FS := { arg := zW.x.arg, ret := zW.x.ret, fresh := true, F := zW.F N }
def zW.k2 (N : Nat) : Ex -> S -> Option Bool := seqK (fun s => XCode.runK (zW.env N) N (zW.c2) s (XFunc.endK zW.x)) (XFunc.endK zW.x)
def zW.k1 (N : Nat) : Ex -> S -> Option Bool := y2 0 (zW.k2 N)
def zW.L1 (N : Nat) (n1 : Nat) (l_ : List (Int × Int × Bool)) (held : Int) (keys : Int) (from_ : Int) (i : Int) : Option Bool := loopK [.keep [0, 1, 2, 3, 9], .norm] (fun s k => XCode.runK (zW.env N) N zW.c1 s k) n1
 { t := jK 73 [(0, .one (.sl false T1_4 l_)), (1, .one (.int .i64 held)), (2, .one (.int .i64 keys)), (3, .one (.int .i64 from_)), (9, .one (.int .i64 i))], h := [] }
 (zW.k1 N)
theorem zW.L1_eq (N : Nat) (n1 : Nat) (l_ : List (Int × Int × Bool)) (held : Int) (keys : Int) (from_ : Int) (i : Int) : zW.L1 N (n1 + 1) l_ held keys from_ i =
bif decide (i < (l_.length : Int)) then
bif zP i (l_.length) then
bindO (yv.F N ((nth (0, (0, false)) l_ i).1, ((nth (0, (0, false)) l_ i).2))) fun r1 =>
bif !r1 then
some false
else
bif zP i (l_.length) then
bif decide ((((nth (0, (0, false)) l_ i).2).1) >= keys) then
some false
else
bif zP i (l_.length) then
bif decide (((nth (0, (0, false)) l_ i).1) < from_) then
some false
else
bif zP i (l_.length) then
bif zP i (l_.length) then
bif decide (0 <= ((nth (0, (0, false)) l_ i).2).1) then
bif (((nth (0, (0, false)) l_ i).2).2) == ((zAe .i64 (zAs .i64 held (((nth (0, (0, false)) l_ i).2).1)) 1) == 1) then
some false
else
bif zP i (l_.length) then
bif zP i (l_.length) then
bif decide (0 <= ((nth (0, (0, false)) l_ i).2).1) then
zW.L1 N n1 l_ (zAn .i64 held (zAb .i64 1 (((nth (0, (0, false)) l_ i).2).1))) keys ((nth (0, (0, false)) l_ i).1) (IntKind.wrap .i64 (i + 1))
else none
else none
else none
else none
else none
else none
else none
else none
else none
else
some (decide ((l_.length : Int) <= 64)) := by kernel_rfl
theorem zW.F_eq (N : Nat) (l_ : List (Int × Int × Bool)) (held : Int) (keys : Int) (from_ : Int) : zW.F N (l_, held, keys, from_) =
zW.L1 N N l_ held keys from_ 0 := by kernel_rfl
def zAG.x : XFunc := { nslots := 9, nobj := 0, pars := [.val false 1, .val false 1], rowsIn := no 2, rets := [.tmp 4 false 1], outs := [.imm], fresh := true, arg := .pair (.int .i64) (.int .i64), ret := .int .i64, body := .seq (rG [op 4 .move [cI 0]]) (.seq (rG [mv 5 0, mv 6 1, o2 7 (.bin .shr) 5 6, op 8 (.bin .and) [.slot 7, cI 1], mv 4 8]) (.ret)) }
def zAG.env (_ : Nat) : Env := envOf (tbl [] noFS)
def zAG.F (N : Nat) (x : Int × Int) : Option Int := XFunc.run zAG.x (zAG.env N) N x
def zAG.fs (N : Nat) : FS := { arg := zAG.x.arg, ret := zAG.x.ret, fresh := true, F := zAG.F N }
theorem zAG.F_eq (N : Nat) (mask : Int) (k_ : Int) : zAG.F N (mask, k_) =
bif decide (0 <= k_) then
some (zAe .i64 (zAs .i64 mask k_) 1)
else none := by kernel_rfl
def yw.x : XFunc := { nslots := 21, nobj := 1, pars := [.val true 3], rowsIn := no 3, rets := [.tmp 2 false 1], outs := [.imm], fresh := true, arg := .pair (.int .i64) (.pair (.int .i64) (.bool)), ret := .bool, body := .seq (rG [ow 1 (.box 0) [.slot 0] [0] [0], op 2 .move [cB false]]) (.seq (rG [fA 3 0 1, lN 4 3 0, op 5 (.bin .geq) [.slot 4, cI 0], sX 6 [.slot 5], gX 7 (.fieldAddr 0) [.slot 1] [] [] 6 true, gX 8 (.load false 1) [.slot 7] [0] [] 6 true, gX 9 (.bin .leq) [.slot 8, cI 1000000] [] [] 6 true, op 10 .pick [.slot 6, .slot 9, cB false], sX 11 [.slot 10], gX 12 (.fieldAddr 1) [.slot 1] [] [] 11 true, gX 13 (.load false 1) [.slot 12] [0] [] 11 true, gX 14 (.bin .geq) [.slot 13, cI 0] [] [] 11 true, op 15 .pick [.slot 11, .slot 14, cB false], sX 16 [.slot 15], gX 17 (.fieldAddr 1) [.slot 1] [] [] 16 true, gX 18 (.load false 1) [.slot 17] [0] [] 16 true, gX 19 (.bin .leq) [.slot 18, cI 31] [] [] 16 true, op 20 .pick [.slot 16, .slot 19, cB false], mv 2 20]) (.ret)) }
def yw.env (_ : Nat) : Env := envOf (tbl [] noFS)
def yw.F (N : Nat) (x : Int × Int × Bool) : Option Bool := XFunc.run yw.x (yw.env N) N x
def yw.fs (N : Nat) : FS := { arg := yw.x.arg, ret := yw.x.ret, fresh := true, F := yw.F N }
theorem yw.F_eq (N : Nat) (e : Int × Int × Bool) : yw.F N e =
bif decide (e.1 >= 0) then
bif decide (e.1 <= 1000000) then
bif decide (e.2.1 >= 0) then
some (decide (e.2.1 <= 31))
else
some false
else
some false
else
some false := by kernel_rfl
def z8.c1 : XCode := .seq (rG [o2 14 (.bin .lss) 13 12]) (.seq (.cond (.slot 14) (.skip) (.exit 0)) (.seq (.block 1 (.seq (rG [mv 15 13, o2 16 (.indexAddr T1_4) 11 13, o1 17 (.load true 3) 16, ow 7 (.alloc 0 [cZ, cZ, .bool false]) [] [0] [0], mv 6 15, sT 3 7 17 0]) (.seq (.seq (.region true [lU 18 3 7 0, o1 19 (.call ⟨68, [.val true 3], no 3, [.val false 1], ims 1, true⟩) 18, o1 20 .not 19, sX 21 [.slot 20], gX 22 .move [.slot 6] [] [] 21 false, gX 23 (.bin .gtr) [.slot 22, cI 0] [] [] 21 false, ⟨some 24, .move, [.slot 23], [], [], some (21, false), true, .none⟩, gX 25 .move [.slot 0] [] [] 24 true, gX 26 .move [.slot 6] [] [] 24 true, gX 27 (.bin .sub) [.slot 26, cI 1] [] [] 24 true, gX 28 (.indexAddr T1_4) (sl [25, 27]) [] [] 24 true, gX 29 (.fieldAddr 0) [.slot 28] [] [] 24 true, gX 30 (.load false 1) [.slot 29] [] [] 24 true, gX 31 (.fieldAddr 0) [.slot 7] [] [] 24 true, gX 32 (.load false 1) [.slot 31] [0] [] 24 true, gX 33 (.bin .gtr) (sl [30, 32]) [] [] 24 true, gX 34 .pick [.slot 24, .slot 33, cB false] [] [] 21 false, op 35 .pick [.slot 21, cB true, .slot 34], sX 36 [.slot 35], gX 37 (.fieldAddr 2) [.slot 7] [] [] 36 false, gX 38 (.load false 1) [.slot 37] [0] [] 36 false, gX 39 .move [.slot 1] [] [] 36 false, gX 40 (.fieldAddr 1) [.slot 7] [] [] 36 false, gX 41 (.load false 1) [.slot 40] [0] [] 36 false, ⟨some 42, .call ⟨65, vs 2, no 2, [.val false 1], ims 1, true⟩, (sl [39, 41]), [], [], some (36, false), false, .none⟩, gX 43 (.bin .eql) [.slot 42, cI 1] [] [] 36 false, gX 44 (.eqBool false) (sl [38, 43]) [] [] 36 false, op 45 .pick [.slot 36, cB true, .slot 44]]) (.cond (.slot 45) (.seq (rG [op 4 .move [cI 0], op 5 .move [cB false]]) (.ret)) (.skip))) (rG [mv 46 1, fA 47 1 7, lN 48 47 0, op 49 (.bin .shl) [cI 1, .slot 48], o2 50 (.bin .xor) 46 49, mv 1 50])))) (rG [op 51 (.bin .add) [.slot 13, cI 1], mv 13 51])))
def z8.c2 : XCode := .seq (rG [mv 52 1, mv 4 52, op 5 .move [cB true]]) (.ret)
def z8.x : XFunc := { nslots := 53, nobj := 1, pars := [.val false 1, .val false 1], rowsIn := no 2, rets := [.tmp 4 false 1, .tmp 5 false 1], outs := iF 2, fresh := true, arg := .pair (.list T1_4) (.int .i64), ret := .pair (.int .i64) (.bool), body := .seq (rG [op 4 .move [cI 0], op 5 .move [cB false]]) (.seq (.seq (rG [mv 8 0, o1 9 .len 8, op 10 (.bin .gtr) [.slot 9, cI 64]]) (.cond (.slot 10) (.seq (rG [op 4 .move [cI 0], op 5 .move [cB false]]) (.ret)) (.skip))) (.seq (.seq (rG [mv 11 0, o1 12 .len 11, op 13 .move [cI 0]]) (.block 0 (.loop [.keep [0, 1, 11, 12, 13], .drop 0, .norm] (z8.c1)))) (z8.c2))) }
def z8.env (N : Nat) : Env := envOf (tbl [(68, yw.fs N), (65, zAG.fs N)] noFS)
def z8.F (N : Nat) (x : (List (Int × Int × Bool)) × Int) : Option (Int × Bool) := XFunc.run z8.x (z8.env N) N x
def z8.fs (N : Nat) : FS := { arg := z8.x.arg, ret := z8.x.ret, fresh := true, F := z8.F N }
def z8.k2 (N : Nat) : Ex -> S -> Option (Int × Bool) := seqK (fun s => XCode.runK (z8.env N) N (z8.c2) s (XFunc.endK z8.x)) (XFunc.endK z8.x)
def z8.k1 (N : Nat) : Ex -> S -> Option (Int × Bool) := y2 0 (z8.k2 N)
def z8.L1 (N : Nat) (n1 : Nat) (l_ : List (Int × Int × Bool)) (down : Int) (t11 : List (Int × Int × Bool)) (t12 : Int) (t13 : Int) : Option (Int × Bool) := loopK [.keep [0, 1, 11, 12, 13], .drop 0, .norm] (fun s k => XCode.runK (z8.env N) N z8.c1 s k) n1
 { t := jK 53 [(0, .one (.sl false T1_4 l_)), (1, .one (.int .i64 down)), (11, .one (.sl false T1_4 t11)), (12, .one (.int .i64 t12)), (13, .one (.int .i64 t13))], h := [.absent 0] }
 (z8.k1 N)
theorem z8.L1_eq (N : Nat) (n1 : Nat) (l_ : List (Int × Int × Bool)) (down : Int) (t11 : List (Int × Int × Bool)) (t12 : Int) (t13 : Int) : z8.L1 N (n1 + 1) l_ down t11 t12 t13 =
bif decide (t13 < t12) then
bif zP t13 (t11.length) then
bindO (yw.F N ((nth (0, (0, false)) t11 t13).1, ((nth (0, (0, false)) t11 t13).2))) fun r1 =>
bif !r1 then
some (0, false)
else
bif decide (t13 > 0) then
bif zP (IntKind.wrap .i64 (t13 - 1)) (l_.length) then
bif decide (((nth (0, (0, false)) l_ (IntKind.wrap .i64 (t13 - 1))).1) > ((nth (0, (0, false)) t11 t13).1)) then
some (0, false)
else
bindO (zAG.F N (down, ((nth (0, (0, false)) t11 t13).2).1)) fun r2 =>
bif (((nth (0, (0, false)) t11 t13).2).2) == (r2 == 1) then
some (0, false)
else
bif decide (0 <= ((nth (0, (0, false)) t11 t13).2).1) then
z8.L1 N n1 l_ (zAn .i64 down (zAb .i64 1 (((nth (0, (0, false)) t11 t13).2).1))) t11 t12 (IntKind.wrap .i64 (t13 + 1))
else none
else none
else
bindO (zAG.F N (down, ((nth (0, (0, false)) t11 t13).2).1)) fun r3 =>
bif (((nth (0, (0, false)) t11 t13).2).2) == (r3 == 1) then
some (0, false)
else
bif decide (0 <= ((nth (0, (0, false)) t11 t13).2).1) then
z8.L1 N n1 l_ (zAn .i64 down (zAb .i64 1 (((nth (0, (0, false)) t11 t13).2).1))) t11 t12 (IntKind.wrap .i64 (t13 + 1))
else none
else none
else
some (down, true) := by kernel_rfl
theorem z8.F_eq (N : Nat) (l_ : List (Int × Int × Bool)) (down : Int) : z8.F N (l_, down) =
bif decide ((l_.length : Int) > 64) then
some (0, false)
else
z8.L1 N N l_ down l_ (l_.length : Int) 0 := by kernel_rfl
def za.c1 : XCode := .seq (rG [o2 14 (.bin .lss) 13 12]) (.seq (.cond (.slot 14) (.skip) (.exit 0)) (.seq (.block 1 (.seq (rG [o2 15 (.indexAddr T1_4) 11 13, o1 16 (.load true 3) 15, ow 8 (.alloc 0 [cZ, cZ, .bool false]) [] [0] [0], sT 3 8 16 0]) (.seq (rG [fA 17 1 8, lN 18 17 0, mv 19 2, o2 20 (.bin .geq) 18 19]) (.cond (.slot 20) (.seq (rG [op 6 .move [cB false]]) (.ret)) (.skip))))) (rG [op 21 (.bin .add) [.slot 13, cI 1], mv 13 21])))
def za.c2 : XCode := .seq (rG [mv 23 0, mv 24 1, o2 25 (.call ⟨69, vs 2, no 2, (rB 2), ims 2, true⟩) 23 24, mv 22 25, eX 26 0 22, eX 27 1 22, mv 9 26, mv 10 27]) (.seq (rG [mv 28 10, mv 6 28]) (.ret))
def za.x : XFunc := { nslots := 29, nobj := 1, pars := [.val false 1, .val false 1, .val false 1], rowsIn := no 3, rets := [.tmp 6 false 1], outs := [.imm], fresh := true, arg := .pair (.list T1_4) (.pair (.int .i64) (.int .i64)), ret := .bool, body := .seq (rG [op 6 .move [cB false]]) (.seq (.seq (rG [mv 11 0, o1 12 .len 11, op 13 .move [cI 0]]) (.block 0 (.loop [.keep [0, 1, 2, 11, 12, 13], .drop 0, .norm] (za.c1)))) (za.c2)) }
def za.env (N : Nat) : Env := envOf (tbl [(69, z8.fs N)] noFS)
def za.F (N : Nat) (x : (List (Int × Int × Bool)) × Int × Int) : Option Bool := XFunc.run za.x (za.env N) N x
def za.fs (N : Nat) : FS := { arg := za.x.arg, ret := za.x.ret, fresh := true, F := za.F N }
def za.k2 (N : Nat) : Ex -> S -> Option Bool := seqK (fun s => XCode.runK (za.env N) N (za.c2) s (XFunc.endK za.x)) (XFunc.endK za.x)
def za.k1 (N : Nat) : Ex -> S -> Option Bool := y2 0 (za.k2 N)
def za.L1 (N : Nat) (n1 : Nat) (queue : List (Int × Int × Bool)) (down : Int) (keys : Int) (t11 : List (Int × Int × Bool)) (t12 : Int) (t13 : Int) : Option Bool := loopK [.keep [0, 1, 2, 11, 12, 13], .drop 0, .norm] (fun s k => XCode.runK (za.env N) N za.c1 s k) n1
 { t := jK 29 [(0, .one (.sl false T1_4 queue)), (1, .one (.int .i64 down)), (2, .one (.int .i64 keys)), (11, .one (.sl false T1_4 t11)), (12, .one (.int .i64 t12)), (13, .one (.int .i64 t13))], h := [.absent 0] }
 (za.k1 N)
theorem za.L1_eq (N : Nat) (n1 : Nat) (queue : List (Int × Int × Bool)) (down : Int) (keys : Int) (t11 : List (Int × Int × Bool)) (t12 : Int) (t13 : Int) : za.L1 N (n1 + 1) queue down keys t11 t12 t13 =
bif decide (t13 < t12) then
bif zP t13 (t11.length) then
bif decide ((((nth (0, (0, false)) t11 t13).2).1) >= keys) then
some false
else
za.L1 N n1 queue down keys t11 t12 (IntKind.wrap .i64 (t13 + 1))
else none
else
bindO (z8.F N (queue, down)) fun r1 =>
some r1.2 := by kernel_rfl
theorem za.F_eq (N : Nat) (queue : List (Int × Int × Bool)) (down : Int) (keys : Int) : za.F N (queue, down, keys) =
za.L1 N N queue down keys queue (queue.length : Int) 0 := by kernel_rfl
def yS.x : XFunc := { nslots := 19, nobj := 0, pars := [.val false 1, .val false 1], rowsIn := no 2, rets := [.tmp 4 false 1], outs := [.imm], fresh := true, arg := .pair (.list T1_4) (.int .i64), ret := .bool, body := .seq (rG [op 4 .move [cB false]]) (.seq (rG [mv 5 0, o1 6 .len 5, op 7 (.bin .eql) [.slot 6, cI 0], sX 8 [.slot 7], gX 9 .move [.slot 0] [] [] 8 false, gX 10 .move [.slot 0] [] [] 8 false, gX 11 .len [.slot 10] [] [] 8 false, gX 12 (.bin .sub) [.slot 11, cI 1] [] [] 8 false, gX 13 (.indexAddr T1_4) (sl [9, 12]) [] [] 8 false, gX 14 (.fieldAddr 0) [.slot 13] [] [] 8 false, gX 15 (.load false 1) [.slot 14] [] [] 8 false, gX 16 .move [.slot 1] [] [] 8 false, gX 17 (.bin .leq) (sl [15, 16]) [] [] 8 false, op 18 .pick [.slot 8, cB true, .slot 17], mv 4 18]) (.ret)) }
def yS.env (_ : Nat) : Env := envOf (tbl [] noFS)
def yS.F (N : Nat) (x : (List (Int × Int × Bool)) × Int) : Option Bool := XFunc.run yS.x (yS.env N) N x
def yS.fs (N : Nat) : FS := { arg := yS.x.arg, ret := yS.x.ret, fresh := true, F := yS.F N }
theorem yS.F_eq (N : Nat) (l_ : List (Int × Int × Bool)) (time : Int) : yS.F N (l_, time) =
bif (l_.length : Int) == 0 then
some true
else
bif zP (IntKind.wrap .i64 ((l_.length : Int) - 1)) (l_.length) then
some (decide (((nth (0, (0, false)) l_ (IntKind.wrap .i64 ((l_.length : Int) - 1))).1) <= time))
else none := by kernel_rfl
end Go.Kb
namespace Go.Kb
theorem shr_nat (k : IntKind) (a j : Nat) (hj : j <= k.bits) : zAs k (a : Int) (j : Int) = ((a >>> j : Nat) : Int) := by
 simp only [zAs, Int.toNat_natCast, Nat.min_eq_left hj]
 rw [Int.fdiv_eq_ediv_of_nonneg _ (by exact Int.le_of_lt (Int.pow_pos (by omega)))]
 rw [Nat.shiftRight_eq_div_pow]
 simp
theorem andI (a b : Nat) (ha : a < 9223372036854775808) (hb : b < 9223372036854775808) : zAe .i64 (a : Int) (b : Int) = ((a &&& b : Nat) : Int) := by
 have hx : a &&& b <= b := Nat.and_le_right
 have e : ∀ n : Nat, n < 9223372036854775808 -> (BitVec.ofInt 64 (n : Int)).toNat = n := by
  intro n hn
  rw [BitVec.ofInt_natCast, BitVec.toNat_ofNat]; exact Nat.mod_eq_of_lt (by omega)
 show IntKind.i64.wrap ((BitVec.ofInt 64 (a : Int) &&& BitVec.ofInt 64 (b : Int)).toNat : Int) = _
 rw [BitVec.toNat_and, e a ha, e b hb, zAF (by omega) (by omega)]
def n1 (x : Nat) : Nat := ((x >>> 1) &&& 6148914691236517205) + (x &&& 6148914691236517205)
def n2 (x : Nat) : Nat := ((x >>> 2) &&& 3689348814741910323) + (x &&& 3689348814741910323)
def n3 (x : Nat) : Nat := ((x >>> 4) + x) &&& 1085102592571150095
def n4 (x : Nat) : Nat := x + (x >>> 8)
theorem shr_le (x k : Nat) : x >>> k <= x := by rw [Nat.shiftRight_eq_div_pow]; exact Nat.div_le_self _ _
def cntN : Nat -> Nat -> Nat
 | 0, _ => 0
 | m + 1, x => x % 2 + cntN m (x / 2)
def t1 (b : Nat) : Nat := ((b / 2) &&& 85) + (b &&& 85)
def t2 (b : Nat) : Nat := ((b / 4) &&& 51) + (b &&& 51)
def t3 (b : Nat) : Nat := (b / 16 + b) &&& 15
theorem f1 : ∀ b, b < 256 -> ∀ e, e < 2 -> (b / 2 + 128 * e) &&& 85 = (b / 2) &&& 85 := by decide +kernel
theorem f2 : ∀ b, b < 256 -> ∀ e, e < 4 -> (b / 4 + 64 * e) &&& 51 = (b / 4) &&& 51 := by decide +kernel
theorem f3 : ∀ b, b < 256 -> t2 (t1 b) % 16 <= 4 /\ t2 (t1 b) <= 68 := by decide +kernel
theorem f4 : ∀ b, b < 256 -> ∀ e, e < 5 -> (t2 (t1 b) / 16 + 16 * e + t2 (t1 b)) &&& 15 = t3 (t2 (t1 b)) := by decide +kernel
theorem f6 : ∀ b, b < 256 -> cntN 8 b <= 8 := by decide +kernel
end Go.Kb
namespace Go.Kb
abbrev Cb := Int × Int
end Go.Kb
namespace Go.Kb
abbrev Cm := List Cb × Int × List (Int × Int × Bool) × Int × Int × Int × List (Int × Int × Bool)
def idle (l : List Cb) (t : Int) : Cm := (l, t, [], 0, 0, 0, [])
end Go.Kb
namespace Go.Kb
end Go.Kb
namespace Go.Kb
end Go.Kb
namespace Go.Kb
abbrev Ev := Int × Int × Bool
end Go.Kb
namespace Go.Kb
theorem shl_one (o : Nat) (h : o <= 31) : zAb .i64 1 (o : Int) = ((2 ^ o : Nat) : Int) := by
 have h2 : 2 ^ o <= 2 ^ 31 := Nat.pow_le_pow_right (by omega) h
 simp only [zAb, IntKind.bits, Int.toNat_natCast]
 rw [Nat.min_eq_left (by omega), Int.one_mul]
 have e : (2 : Int) ^ o = ((2 ^ o : Nat) : Int) := by simp
 rw [e]
 generalize 2 ^ o = p at h2 ⊢
 exact zAF (by omega) (by omega)
section
variable (N : Nat) (q1 : List Cb) (q2 : Int) (q3 : List Ev) (q4 q5 q6 : Int) (a : List Ev)
end
end Go.Kb
namespace Go.Kb
def isEv (t k : Int) : Bool := decide (0 <= t /\ t <= 1000000) && decide (0 <= k /\ k <= 31)
theorem IsEv_spec (N : Nat) (t : Int) (kv : Int × Bool) : yv.F N (t, kv) = some (isEv t kv.1) := by
 rw [yv.F_eq]
 simp only [zBU, bindV]
 unfold isEv
 cases decide (0 <= t /\ t <= 1000000) with
 | true => simp only [condT, Bool.true_and]
 | false => simp only [condF, Bool.false_and]
theorem IsEv_impl (N : Nat) (t : Int) (kv : Int × Bool) : yw.F N (t, kv) = some (isEv t kv.1) := by
 rw [yw.F_eq]
 unfold isEv
 by_cases a : 0 <= t <;> by_cases b : t <= 1000000 <;> by_cases c : 0 <= kv.1 <;> by_cases d : kv.1 <= 31 <;> simp [a, b, c, d]
end Go.Kb
namespace Go.Kb
structure smallC (c : Cm) : Prop where
 a : c.1.length <= 1048576
 b : c.2.2.1.length <= 1048576
 d : c.2.2.2.2.2.2.length <= 1048576
structure wellC (c : Cm) : Prop where
 a : c.1.length <= maxLen
 b : c.2.2.1.length <= maxLen
 d : c.2.2.2.2.2.2.length <= maxLen
 m : ∀ x ∈ c.2.2.2.2.2.2, x.2.1 <= 9223372036854775807
end Go.Kb
namespace Go.Kb
abbrev T1_6 : Ty := .pair (.int .i64) (.pair (.int .i64) (.bool))
def zd.c1 : XCode := .seq (.seq (rG [mv 11 5, mv 12 0, o1 13 .len 12, o2 14 (.bin .lss) 11 13]) (.cond (.slot 14) (.skip) (.exit 0))) (.seq (.block 1 (.seq (.region true [mv 17 0, mv 18 5, o2 19 (.indexAddr T1_6) 17 18, o1 20 (.load true 3) 19, mv 21 1, mv 22 5, o2 23 (.indexAddr T1_6) 21 22, o1 24 (.load true 3) 23, o2 25 (.eqAgg true T1_6) 20 24]) (.cond (.slot 25) (.seq (rG [op 4 .move [cB false]]) (.ret)) (.skip)))) (rG [mv 15 5, op 16 (.bin .add) [.slot 15, cI 1], mv 5 16]))
def zd.c2 : XCode := .seq (rG [op 4 .move [cB true]]) (.ret)
def zd.x : XFunc := { nslots := 26, nobj := 0, pars := [.val false 1, .val false 1], rowsIn := no 2, rets := [.tmp 4 false 1], outs := [.imm], fresh := true, arg := .pair (.list T1_6) (.list T1_6), ret := .bool, body := .seq (rG [op 4 .move [cB false]]) (.seq (.seq (rG [mv 6 0, o1 7 .len 6, mv 8 1, o1 9 .len 8, o2 10 (.bin .neq) 7 9]) (.cond (.slot 10) (.seq (rG [op 4 .move [cB false]]) (.ret)) (.skip))) (.seq (.seq (rG [op 5 .move [cI 0]]) (.block 0 (.loop [.keep [0, 1, 5], .norm] (zd.c1)))) (zd.c2))) }
def zd.env (_ : Nat) : Env := envOf (tbl [] noFS)
def zd.F (N : Nat) (x : (List (Int × Int × Bool)) × List (Int × Int × Bool)) : Option Bool := XFunc.run zd.x (zd.env N) N x
def zd.fs (N : Nat) : FS := { arg := zd.x.arg, ret := zd.x.ret, fresh := true, F := zd.F N }
def zd.k2 (N : Nat) : Ex -> S -> Option Bool := seqK (fun s => XCode.runK (zd.env N) N (zd.c2) s (XFunc.endK zd.x)) (XFunc.endK zd.x)
def zd.k1 (N : Nat) : Ex -> S -> Option Bool := y2 0 (zd.k2 N)
def zd.L1 (N : Nat) (n1 : Nat) (a : List (Int × Int × Bool)) (b : List (Int × Int × Bool)) (i : Int) : Option Bool := loopK [.keep [0, 1, 5], .norm] (fun s k => XCode.runK (zd.env N) N zd.c1 s k) n1
 { t := jK 26 [(0, .one (.sl false T1_6 a)), (1, .one (.sl false T1_6 b)), (5, .one (.int .i64 i))], h := [] }
 (zd.k1 N)
theorem zd.L1_eq (N : Nat) (n1 : Nat) (a : List (Int × Int × Bool)) (b : List (Int × Int × Bool)) (i : Int) : zd.L1 N (n1 + 1) a b i =
bif decide (i < (a.length : Int)) then
bif zP i (a.length) then
bif zP i (b.length) then
bif !((((nth (0, (0, false)) a i).1) == ((nth (0, (0, false)) b i).1)) && (((((nth (0, (0, false)) a i).2).1) == (((nth (0, (0, false)) b i).2).1)) && ((((nth (0, (0, false)) a i).2).2) == (((nth (0, (0, false)) b i).2).2)))) then
some false
else
zd.L1 N n1 a b (IntKind.wrap .i64 (i + 1))
else none
else none
else
some true := by kernel_rfl
theorem zd.F_eq (N : Nat) (a : List (Int × Int × Bool)) (b : List (Int × Int × Bool)) : zd.F N (a, b) =
bif (a.length : Int) != (b.length : Int) then
some false
else
zd.L1 N N a b 0 := by kernel_rfl
end Go.Kb
namespace Go.Kb
end Go.Kb
namespace Go.Kb
end Go.Kb
namespace Go.Kb
def bitK (k : Int) : Int := zAb .i64 1 k
structure Sc where
 q : List Ev
 ck : Int
 dn : Int
 ac : List Ev
end Go.Kb
namespace Go.Kb
end Go.Kb
namespace Go.Kb
def Sc.cm (s : Sc) (l : List Cb) (term now : Int) : Cm := (l, (term, (s.q, (now, (s.ck, (s.dn, s.ac))))))
end Go.Kb
namespace Go.Kb
def zAA.x : XFunc := { nslots := 16, nobj := 0, pars := [.val false 1, .val false 1], rowsIn := no 2, rets := [.tmp 4 false 1], outs := [.imm], fresh := true, arg := .pair (.list (.pair (.int .i64) (.pair (.int .i64) (.bool)))) (.int .i64), ret := .int .i64, body := .seq (rG [op 4 .move [cI 0]]) (.seq (.seq (rG [mv 5 0, o1 6 .len 5, op 7 (.bin .eql) [.slot 6, cI 0]]) (.cond (.slot 7) (.seq (rG [mv 8 1, mv 4 8]) (.ret)) (.skip))) (.seq (rG [mv 9 0, mv 10 0, o1 11 .len 10, op 12 (.bin .sub) [.slot 11, cI 1], o2 13 (.indexAddr (.pair (.int .i64) (.pair (.int .i64) (.bool)))) 9 12, fA 14 0 13, o1 15 (.load false 1) 14, mv 4 15]) (.ret))) }
def zAA.env (_ : Nat) : Env := envOf (tbl [] noFS)
def zAA.F (N : Nat) (x : (List (Int × Int × Bool)) × Int) : Option Int := XFunc.run zAA.x (zAA.env N) N x
def zAA.fs (N : Nat) : FS := { arg := zAA.x.arg, ret := zAA.x.ret, fresh := true, F := zAA.F N }
theorem zAA.F_eq (N : Nat) (l_ : List (Int × Int × Bool)) (time : Int) : zAA.F N (l_, time) =
bif (l_.length : Int) == 0 then
some time
else
bif zP (IntKind.wrap .i64 ((l_.length : Int) - 1)) (l_.length) then
some ((nth (0, (0, false)) l_ (IntKind.wrap .i64 ((l_.length : Int) - 1))).1)
else none := by kernel_rfl
def y6.x : XFunc := { nslots := 8, nobj := 0, pars := [.val false 1], rowsIn := [none], rets := [.tmp 2 false 1], outs := [.imm], fresh := true, arg := .int .i64, ret := .int .i64, body := .seq (rG [op 2 .move [cI 0]]) (.seq (.seq (rG [mv 3 0, op 4 (.call ⟨1, vs 3, no 3, [.val false 1], ims 1, true⟩) [.slot 3, cI 0, cI 31], o1 5 .not 4]) (.cond (.slot 5) (.seq (rG [op 2 .move [cI 0]]) (.ret)) (.skip))) (.seq (rG [mv 6 0, op 7 (.bin .shl) [cI 1, .slot 6], mv 2 7]) (.ret))) }
def y6.env (N : Nat) : Env := envOf (tbl [(1, zS.fs N)] noFS)
def y6.F (N : Nat) (x : Int) : Option Int := XFunc.run y6.x (y6.env N) N x
def y6.fs (N : Nat) : FS := { arg := y6.x.arg, ret := y6.x.ret, fresh := true, F := y6.F N }
theorem y6.F_eq (N : Nat) (key : Int) : y6.F N key =
bindO (zS.F N (key, (0, 31))) fun r1 =>
bif !r1 then
some 0
else
bif decide (0 <= key) then
some (zAb .i64 1 key)
else none := by kernel_rfl
end Go.Kb
namespace Go.Kb
end Go.Kb
namespace Go.Kb
structure outC (r : Cm × List Ev × Bool) : Prop where
 a : r.1.1.length <= 1048576
 b : r.1.2.2.1.length <= 64
 d : r.1.2.2.2.2.2.2.length <= 1048640
 e : r.2.1.length <= 64
end Go.Kb
