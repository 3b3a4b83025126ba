/- The texts of functions, printed by a program, and the equations of their runs. -/
import Derived.Test.YticidpdbkjgebabGreatExactWaitUntilP0toF3
import Derived.KernelRfl
namespace Go.Kb
abbrev T1_4 : Ty := .pair (.int .i64) (.pair (.int .i64) (.bool))
def zAQ.x : XFunc := xF 11 1 [.val true 3] (no 3) [.tmp 2 false 1] [.imm] true (.pair (.int .i64) (.pair (.int .i64) (.bool))) .bool <| .seq (rG [ow 1 (.box 0) [.slot 0] [0] [0], op 2 .move [cB false]]) (.seq (rG [fA 3 0 1, lN 4 3 0, op 5 (cO 1 (vs 3) 3 true) [.slot 4, cI 0, cI 1000000], sX 6 [.slot 5], gF 7 1 1 6 true, gL 8 7 0 6 true, ⟨some 9, cO 1 (vs 3) 3 true, [.slot 8, cI 0, cI 31], [], [], some (6, true), false, .none⟩, op 10 .pick [.slot 6, .slot 9, cB false], mv 2 10]) (.ret))
def zAQ.env (N : Nat) : Env := envOf (tbl [(1, zR.fs N)] noFS)
def zAQ.F (N : Nat) (x : Int × Int × Bool) : Option Bool := XFunc.run zAQ.x (zAQ.env N) N x
def zAQ.fs (N : Nat) : FS := fS zAQ.x true (zAQ.F N)
theorem zAQ.F_eq (N : Nat) (e : Int × Int × Bool) : zAQ.F N e =
bindO (zR.F N (e.1, (0, 1000000))) fun r1 =>
bif r1 then
bindO (zR.F N (e.2.1, (0, 31))) fun r2 =>
some r2
else
some false := by kernel_rfl
def zU.c1 : XCode := .seq (.seq (rG [mv 10 9, mv 11 0, o1 12 .len 11, o2 13 (.bin .lss) 10 12]) (cX 13 0)) (.seq (.block 1 (.seq (.seq (.region true [mv 16 0, mv 17 9, o2 18 (.indexAddr T1_4) 16 17, o1 19 (.load true 3) 18, o1 20 (cO 40 [.val true 3] 3 true) 19, o1 21 .not 20, sX 22 [.slot 21], gM 23 0 22 false, gM 24 9 22 false, gX 25 (.indexAddr T1_4) (sl [23, 24]) [] [] 22 false, gF 26 1 25 22 false, gX 27 (.load false 1) [.slot 26] [] [] 22 false, gM 28 2 22 false, gX 29 (.bin .geq) (sl [27, 28]) [] [] 22 false, op 30 .pick [.slot 22, cB true, .slot 29], sX 31 [.slot 30], gM 32 0 31 false, gM 33 9 31 false, gX 34 (.indexAddr T1_4) (sl [32, 33]) [] [] 31 false, gF 35 0 34 31 false, gX 36 (.load false 1) [.slot 35] [] [] 31 false, gM 37 3 31 false, gX 38 (.bin .lss) (sl [36, 37]) [] [] 31 false, op 39 .pick [.slot 31, cB true, .slot 38], sX 40 [.slot 39], gM 41 0 40 false, gM 42 9 40 false, gX 43 (.indexAddr T1_4) (sl [41, 42]) [] [] 40 false, gF 44 2 43 40 false, gX 45 (.load false 1) [.slot 44] [] [] 40 false, gM 46 1 40 false, gM 47 0 40 false, gM 48 9 40 false, gX 49 (.indexAddr T1_4) (sl [47, 48]) [] [] 40 false, gF 50 1 49 40 false, gX 51 (.load false 1) [.slot 50] [] [] 40 false, gX 52 (.bin .shr) (sl [46, 51]) [] [] 40 false, gX 53 (.bin .and) [.slot 52, cI 1] [] [] 40 false, gX 54 (.bin .eql) [.slot 53, cI 1] [] [] 40 false, gX 55 (.eqBool false) (sl [45, 54]) [] [] 40 false, op 56 .pick [.slot 40, cB true, .slot 55]]) (rI 56 8 false)) (.seq (rG [mv 57 0, mv 58 9, o2 59 (.indexAddr T1_4) 57 58, fA 60 0 59, o1 61 (.load false 1) 60, mv 3 61]) (rG [mv 62 1, mv 63 0, mv 64 9, o2 65 (.indexAddr T1_4) 63 64, fA 66 1 65, o1 67 (.load false 1) 66, op 68 (.bin .shl) [cI 1, .slot 67], o2 69 (.bin .xor) 62 68, mv 1 69])))) (rG [mv 14 9, op 15 (.bin .add) [.slot 14, cI 1], mv 9 15]))
def zU.c2 : XCode := .seq (rG [mv 70 0, o1 71 .len 70, op 72 (.bin .leq) [.slot 71, cI 64], mv 8 72]) (.ret)
def zU.x : XFunc := xF 73 0 [.val false 1, .val false 1, .val false 1, .val false 1] (no 4) [.tmp 8 false 1] [.imm] true (.pair (.list T1_4) (.pair (.int .i64) (.pair (.int .i64) (.int .i64)))) .bool <| .seq (rG [op 8 .move [cB false]]) (.seq (.seq (rG [op 9 .move [cI 0]]) (.block 0 (.loop [.keep [0, 1, 2, 3, 9], .norm] (zU.c1)))) (zU.c2))
def zU.env (N : Nat) : Env := envOf (tbl [(40, zAQ.fs N)] noFS)
def zU.F (N : Nat) (x : (List (Int × Int × Bool)) × Int × Int × Int) : Option Bool := XFunc.run zU.x (zU.env N) N x
def zU.fs (N : Nat) : FS := fS zU.x true (zU.F N)
def zU.k2 (N : Nat) : Ex -> S -> Option Bool := seqK (fun s => XCode.runK (zU.env N) N (zU.c2) s (XFunc.endK zU.x)) (XFunc.endK zU.x)
def zU.k1 (N : Nat) : Ex -> S -> Option Bool := y7 0 (zU.k2 N)
def zU.L1 (N : Nat) (n1 : Nat) (l_ : List (Int × Int × Bool)) (held : Int) (keys : Int) (from_ : Int) (i : Int) : Option Bool := loopK [.keep [0, 1, 2, 3, 9], .norm] (rK (zU.env N) N zU.c1) n1
 { t := jK 73 [(0, .one (.sl false T1_4 l_)), (1, .one (.int .i64 held)), (2, .one (.int .i64 keys)), (3, .one (.int .i64 from_)), (9, .one (.int .i64 i))], h := [] }
 (zU.k1 N)
theorem zU.L1_eq (N : Nat) (n1 : Nat) (l_ : List (Int × Int × Bool)) (held : Int) (keys : Int) (from_ : Int) (i : Int) : zU.L1 N (n1 + 1) l_ held keys from_ i =
bif decide (i < (l_.length : Int)) then
bif zG i (l_.length) then
bindO (zAQ.F N ((nth (0, (0, false)) l_ i).1, ((nth (0, (0, false)) l_ i).2))) fun r1 =>
bif !r1 then
some false
else
bif zG i (l_.length) then
bif decide ((((nth (0, (0, false)) l_ i).2).1) >= keys) then
some false
else
bif zG i (l_.length) then
bif decide (((nth (0, (0, false)) l_ i).1) < from_) then
some false
else
bif zG i (l_.length) then
bif zG i (l_.length) then
bif decide (0 <= ((nth (0, (0, false)) l_ i).2).1) then
bif (((nth (0, (0, false)) l_ i).2).2) == ((zBo .i64 (zBy .i64 held (((nth (0, (0, false)) l_ i).2).1)) 1) == 1) then
some false
else
bif zG i (l_.length) then
bif zG i (l_.length) then
bif decide (0 <= ((nth (0, (0, false)) l_ i).2).1) then
zU.L1 N n1 l_ (zBw .i64 held (zBS .i64 1 (((nth (0, (0, false)) l_ i).2).1))) keys ((nth (0, (0, false)) l_ i).1) (IntKind.wrap .i64 (i + 1))
else none
else none
else none
else none
else none
else none
else none
else none
else none
else
some (decide ((l_.length : Int) <= 64)) := by kernel_rfl
theorem zU.F_eq (N : Nat) (l_ : List (Int × Int × Bool)) (held : Int) (keys : Int) (from_ : Int) : zU.F N (l_, held, keys, from_) =
zU.L1 N N l_ held keys from_ 0 := by kernel_rfl
def zAx.x : XFunc := xF 9 0 [.val false 1, .val false 1] (no 2) [.tmp 4 false 1] [.imm] true (.pair (.int .i64) (.int .i64)) (.int .i64) <| .seq (rG [op 4 .move [cI 0]]) (.seq (rG [mv 5 0, mv 6 1, o2 7 (.bin .shr) 5 6, op 8 (.bin .and) [.slot 7, cI 1], mv 4 8]) (.ret))
def zAx.env (_ : Nat) : Env := envOf (tbl [] noFS)
def zAx.F (N : Nat) (x : Int × Int) : Option Int := XFunc.run zAx.x (zAx.env N) N x
def zAx.fs (N : Nat) : FS := fS zAx.x true (zAx.F N)
theorem zAx.F_eq (N : Nat) (mask : Int) (k_ : Int) : zAx.F N (mask, k_) =
bif decide (0 <= k_) then
some (zBo .i64 (zBy .i64 mask k_) 1)
else none := by kernel_rfl
def zAR.x : XFunc := xF 21 1 [.val true 3] (no 3) [.tmp 2 false 1] [.imm] true (.pair (.int .i64) (.pair (.int .i64) (.bool))) .bool <| .seq (rG [ow 1 (.box 0) [.slot 0] [0] [0], op 2 .move [cB false]]) (.seq (rG [fA 3 0 1, lN 4 3 0, op 5 (.bin .geq) [.slot 4, cI 0], sX 6 [.slot 5], gF 7 0 1 6 true, gL 8 7 0 6 true, gX 9 (.bin .leq) [.slot 8, cI 1000000] [] [] 6 true, op 10 .pick [.slot 6, .slot 9, cB false], sX 11 [.slot 10], gF 12 1 1 11 true, gL 13 12 0 11 true, gX 14 (.bin .geq) [.slot 13, cI 0] [] [] 11 true, op 15 .pick [.slot 11, .slot 14, cB false], sX 16 [.slot 15], gF 17 1 1 16 true, gL 18 17 0 16 true, gX 19 (.bin .leq) [.slot 18, cI 31] [] [] 16 true, op 20 .pick [.slot 16, .slot 19, cB false], mv 2 20]) (.ret))
def zAR.env (_ : Nat) : Env := envOf (tbl [] noFS)
def zAR.F (N : Nat) (x : Int × Int × Bool) : Option Bool := XFunc.run zAR.x (zAR.env N) N x
def zAR.fs (N : Nat) : FS := fS zAR.x true (zAR.F N)
theorem zAR.F_eq (N : Nat) (e : Int × Int × Bool) : zAR.F N e =
bif decide (e.1 >= 0) then
bif decide (e.1 <= 1000000) then
bif decide (e.2.1 >= 0) then
some (decide (e.2.1 <= 31))
else
some false
else
some false
else
some false := by kernel_rfl
def yX.c1 : XCode := .seq (rG [o2 14 (.bin .lss) 13 12]) (.seq (cX 14 0) (.seq (.block 1 (.seq (rG [mv 15 13, o2 16 (.indexAddr T1_4) 11 13, o1 17 (.load true 3) 16, ow 7 (.alloc 0 [cZ, cZ, .bool false]) [] [0] [0], mv 6 15, sT 3 7 17 0]) (.seq (.seq (.region true [lU 18 3 7 0, o1 19 (cO 68 [.val true 3] 3 true) 18, o1 20 .not 19, sX 21 [.slot 20], gM 22 6 21 false, gX 23 (.bin .gtr) [.slot 22, cI 0] [] [] 21 false, ⟨some 24, .move, [.slot 23], [], [], some (21, false), true, .none⟩, gM 25 0 24 true, gM 26 6 24 true, gX 27 (.bin .sub) [.slot 26, cI 1] [] [] 24 true, gX 28 (.indexAddr T1_4) (sl [25, 27]) [] [] 24 true, gF 29 0 28 24 true, gX 30 (.load false 1) [.slot 29] [] [] 24 true, gF 31 0 7 24 true, gL 32 31 0 24 true, gX 33 (.bin .gtr) (sl [30, 32]) [] [] 24 true, gX 34 .pick [.slot 24, .slot 33, cB false] [] [] 21 false, op 35 .pick [.slot 21, cB true, .slot 34], sX 36 [.slot 35], gF 37 2 7 36 false, gL 38 37 0 36 false, gM 39 1 36 false, gF 40 1 7 36 false, gL 41 40 0 36 false, ⟨some 42, cO 65 (vs 2) 2 true, (sl [39, 41]), [], [], some (36, false), false, .none⟩, gX 43 (.bin .eql) [.slot 42, cI 1] [] [] 36 false, gX 44 (.eqBool false) (sl [38, 43]) [] [] 36 false, op 45 .pick [.slot 36, cB true, .slot 44]]) (.cond (.slot 45) (.seq (rG [op 4 .move [cI 0], op 5 .move [cB false]]) (.ret)) (.skip))) (rG [mv 46 1, fA 47 1 7, lN 48 47 0, op 49 (.bin .shl) [cI 1, .slot 48], o2 50 (.bin .xor) 46 49, mv 1 50])))) (rG [op 51 (.bin .add) [.slot 13, cI 1], mv 13 51])))
def yX.c2 : XCode := .seq (rG [mv 52 1, mv 4 52, op 5 .move [cB true]]) (.ret)
def yX.x : XFunc := xF 53 1 [.val false 1, .val false 1] (no 2) [.tmp 4 false 1, .tmp 5 false 1] (iF 2) true (.pair (.list T1_4) (.int .i64)) (.pair (.int .i64) (.bool)) <| .seq (rG [op 4 .move [cI 0], op 5 .move [cB false]]) (.seq (.seq (rG [mv 8 0, o1 9 .len 8, op 10 (.bin .gtr) [.slot 9, cI 64]]) (.cond (.slot 10) (.seq (rG [op 4 .move [cI 0], op 5 .move [cB false]]) (.ret)) (.skip))) (.seq (.seq (rG [mv 11 0, o1 12 .len 11, op 13 .move [cI 0]]) (.block 0 (.loop [.keep [0, 1, 11, 12, 13], .drop 0, .norm] (yX.c1)))) (yX.c2)))
def yX.env (N : Nat) : Env := envOf (tbl [(68, zAR.fs N), (65, zAx.fs N)] noFS)
def yX.F (N : Nat) (x : (List (Int × Int × Bool)) × Int) : Option (Int × Bool) := XFunc.run yX.x (yX.env N) N x
def yX.fs (N : Nat) : FS := fS yX.x true (yX.F N)
def yX.k2 (N : Nat) : Ex -> S -> Option (Int × Bool) := seqK (fun s => XCode.runK (yX.env N) N (yX.c2) s (XFunc.endK yX.x)) (XFunc.endK yX.x)
def yX.k1 (N : Nat) : Ex -> S -> Option (Int × Bool) := y7 0 (yX.k2 N)
def yX.L1 (N : Nat) (n1 : Nat) (l_ : List (Int × Int × Bool)) (down : Int) (t11 : List (Int × Int × Bool)) (t12 : Int) (t13 : Int) : Option (Int × Bool) := loopK [.keep [0, 1, 11, 12, 13], .drop 0, .norm] (rK (yX.env N) N yX.c1) n1
 { t := jK 53 [(0, .one (.sl false T1_4 l_)), (1, .one (.int .i64 down)), (11, .one (.sl false T1_4 t11)), (12, .one (.int .i64 t12)), (13, .one (.int .i64 t13))], h := [.absent 0] }
 (yX.k1 N)
theorem yX.L1_eq (N : Nat) (n1 : Nat) (l_ : List (Int × Int × Bool)) (down : Int) (t11 : List (Int × Int × Bool)) (t12 : Int) (t13 : Int) : yX.L1 N (n1 + 1) l_ down t11 t12 t13 =
bif decide (t13 < t12) then
bif zG t13 (t11.length) then
bindO (zAR.F N ((nth (0, (0, false)) t11 t13).1, ((nth (0, (0, false)) t11 t13).2))) fun r1 =>
bif !r1 then
some (0, false)
else
bif decide (t13 > 0) then
bif zG (IntKind.wrap .i64 (t13 - 1)) (l_.length) then
bif decide (((nth (0, (0, false)) l_ (IntKind.wrap .i64 (t13 - 1))).1) > ((nth (0, (0, false)) t11 t13).1)) then
some (0, false)
else
bindO (zAx.F N (down, ((nth (0, (0, false)) t11 t13).2).1)) fun r2 =>
bif (((nth (0, (0, false)) t11 t13).2).2) == (r2 == 1) then
some (0, false)
else
bif decide (0 <= ((nth (0, (0, false)) t11 t13).2).1) then
yX.L1 N n1 l_ (zBw .i64 down (zBS .i64 1 (((nth (0, (0, false)) t11 t13).2).1))) t11 t12 (IntKind.wrap .i64 (t13 + 1))
else none
else none
else
bindO (zAx.F N (down, ((nth (0, (0, false)) t11 t13).2).1)) fun r3 =>
bif (((nth (0, (0, false)) t11 t13).2).2) == (r3 == 1) then
some (0, false)
else
bif decide (0 <= ((nth (0, (0, false)) t11 t13).2).1) then
yX.L1 N n1 l_ (zBw .i64 down (zBS .i64 1 (((nth (0, (0, false)) t11 t13).2).1))) t11 t12 (IntKind.wrap .i64 (t13 + 1))
else none
else none
else
some (down, true) := by kernel_rfl
theorem yX.F_eq (N : Nat) (l_ : List (Int × Int × Bool)) (down : Int) : yX.F N (l_, down) =
bif decide ((l_.length : Int) > 64) then
some (0, false)
else
yX.L1 N N l_ down l_ (l_.length : Int) 0 := by kernel_rfl
def zh.c1 : XCode := .seq (rG [o2 14 (.bin .lss) 13 12]) (.seq (cX 14 0) (.seq (.block 1 (.seq (rG [o2 15 (.indexAddr T1_4) 11 13, o1 16 (.load true 3) 15, ow 8 (.alloc 0 [cZ, cZ, .bool false]) [] [0] [0], sT 3 8 16 0]) (.seq (rG [fA 17 1 8, lN 18 17 0, mv 19 2, o2 20 (.bin .geq) 18 19]) (rI 20 6 false)))) (rG [op 21 (.bin .add) [.slot 13, cI 1], mv 13 21])))
def zh.c2 : XCode := .seq (rG [mv 23 0, mv 24 1, o2 25 (.call ⟨69, vs 2, no 2, (rB 2), ims 2, true⟩) 23 24, mv 22 25, eX 26 0 22, eX 27 1 22, mv 9 26, mv 10 27]) (.seq (rG [mv 28 10, mv 6 28]) (.ret))
def zh.x : XFunc := xF 29 1 [.val false 1, .val false 1, .val false 1] (no 3) [.tmp 6 false 1] [.imm] true (.pair (.list T1_4) (.pair (.int .i64) (.int .i64))) .bool <| .seq (rG [op 6 .move [cB false]]) (.seq (.seq (rG [mv 11 0, o1 12 .len 11, op 13 .move [cI 0]]) (.block 0 (.loop [.keep [0, 1, 2, 11, 12, 13], .drop 0, .norm] (zh.c1)))) (zh.c2))
def zh.env (N : Nat) : Env := envOf (tbl [(69, yX.fs N)] noFS)
def zh.F (N : Nat) (x : (List (Int × Int × Bool)) × Int × Int) : Option Bool := XFunc.run zh.x (zh.env N) N x
def zh.fs (N : Nat) : FS := fS zh.x true (zh.F N)
def zh.k2 (N : Nat) : Ex -> S -> Option Bool := seqK (fun s => XCode.runK (zh.env N) N (zh.c2) s (XFunc.endK zh.x)) (XFunc.endK zh.x)
def zh.k1 (N : Nat) : Ex -> S -> Option Bool := y7 0 (zh.k2 N)
def zh.L1 (N : Nat) (n1 : Nat) (queue : List (Int × Int × Bool)) (down : Int) (keys : Int) (t11 : List (Int × Int × Bool)) (t12 : Int) (t13 : Int) : Option Bool := loopK [.keep [0, 1, 2, 11, 12, 13], .drop 0, .norm] (rK (zh.env N) N zh.c1) n1
 { t := jK 29 [(0, .one (.sl false T1_4 queue)), (1, .one (.int .i64 down)), (2, .one (.int .i64 keys)), (11, .one (.sl false T1_4 t11)), (12, .one (.int .i64 t12)), (13, .one (.int .i64 t13))], h := [.absent 0] }
 (zh.k1 N)
theorem zh.L1_eq (N : Nat) (n1 : Nat) (queue : List (Int × Int × Bool)) (down : Int) (keys : Int) (t11 : List (Int × Int × Bool)) (t12 : Int) (t13 : Int) : zh.L1 N (n1 + 1) queue down keys t11 t12 t13 =
bif decide (t13 < t12) then
bif zG t13 (t11.length) then
bif decide ((((nth (0, (0, false)) t11 t13).2).1) >= keys) then
some false
else
zh.L1 N n1 queue down keys t11 t12 (IntKind.wrap .i64 (t13 + 1))
else none
else
bindO (yX.F N (queue, down)) fun r1 =>
some r1.2 := by kernel_rfl
theorem zh.F_eq (N : Nat) (queue : List (Int × Int × Bool)) (down : Int) (keys : Int) : zh.F N (queue, down, keys) =
zh.L1 N N queue down keys queue (queue.length : Int) 0 := by kernel_rfl
def yt.x : XFunc := xF 19 0 [.val false 1, .val false 1] (no 2) [.tmp 4 false 1] [.imm] true (.pair (.list T1_4) (.int .i64)) .bool <| .seq (rG [op 4 .move [cB false]]) (.seq (rG [mv 5 0, o1 6 .len 5, op 7 (.bin .eql) [.slot 6, cI 0], sX 8 [.slot 7], gM 9 0 8 false, gM 10 0 8 false, gX 11 .len [.slot 10] [] [] 8 false, gX 12 (.bin .sub) [.slot 11, cI 1] [] [] 8 false, gX 13 (.indexAddr T1_4) (sl [9, 12]) [] [] 8 false, gF 14 0 13 8 false, gX 15 (.load false 1) [.slot 14] [] [] 8 false, gM 16 1 8 false, gX 17 (.bin .leq) (sl [15, 16]) [] [] 8 false, op 18 .pick [.slot 8, cB true, .slot 17], mv 4 18]) (.ret))
def yt.env (_ : Nat) : Env := envOf (tbl [] noFS)
def yt.F (N : Nat) (x : (List (Int × Int × Bool)) × Int) : Option Bool := XFunc.run yt.x (yt.env N) N x
def yt.fs (N : Nat) : FS := fS yt.x true (yt.F N)
theorem yt.F_eq (N : Nat) (l_ : List (Int × Int × Bool)) (time : Int) : yt.F N (l_, time) =
bif (l_.length : Int) == 0 then
some true
else
bif zG (IntKind.wrap .i64 ((l_.length : Int) - 1)) (l_.length) then
some (decide (((nth (0, (0, false)) l_ (IntKind.wrap .i64 ((l_.length : Int) - 1))).1) <= time))
else none := by kernel_rfl
def zAv.x : XFunc := xF 20 2 [.val true 3, .val true 3] (no 6) [.tmp 4 false 1] [.imm] true (.pair T1_4 T1_4) .bool <| .seq (rG [ow 2 (.box 0) [.slot 0] [0] [0], ow 3 (.box 1) [.slot 1] [1] [1], op 4 .move [cB false]]) (.seq (.seq (rG [fA 5 0 2, lN 6 5 0, fA 7 0 3, lN 8 7 1, o2 9 (.bin .neq) 6 8]) (rI 9 4 false)) (.seq (.seq (rG [fA 10 1 2, lN 11 10 0, fA 12 1 3, lN 13 12 1, o2 14 (.bin .neq) 11 13]) (rI 14 4 false)) (.seq (.seq (rG [fA 15 2 2, lN 16 15 0, fA 17 2 3, lN 18 17 1, o2 19 (.eqBool true) 16 18]) (rI 19 4 false)) (.seq (rG [op 4 .move [cB true]]) (.ret)))))
def zAv.env (_ : Nat) : Env := envOf (tbl [] noFS)
def zAv.F (N : Nat) (x : (Int × Int × Bool) × Int × Int × Bool) : Option Bool := XFunc.run zAv.x (zAv.env N) N x
def zAv.fs (N : Nat) : FS := fS zAv.x true (zAv.F N)
theorem zAv.F_eq (N : Nat) (a : Int × Int × Bool) (b : Int × Int × Bool) : zAv.F N (a, b) =
bif a.1 != b.1 then
some false
else
bif a.2.1 != b.2.1 then
some false
else
bif a.2.2 != b.2.2 then
some false
else
some true := by kernel_rfl
def yG.c1 : XCode := .seq (.seq (rG [mv 11 5, mv 12 0, o1 13 .len 12, o2 14 (.bin .lss) 11 13]) (cX 14 0)) (.seq (.block 1 (.seq (.region true [mv 17 0, mv 18 5, o2 19 (.indexAddr T1_4) 17 18, o1 20 (.load true 3) 19, mv 21 1, mv 22 5, o2 23 (.indexAddr T1_4) 21 22, o1 24 (.load true 3) 23, o2 25 (cO 135 [.val true 3, .val true 3] 6 true) 20 24, o1 26 .not 25]) (rI 26 4 false))) (rG [mv 15 5, op 16 (.bin .add) [.slot 15, cI 1], mv 5 16]))
def yG.c2 : XCode := .seq (rG [op 4 .move [cB true]]) (.ret)
def yG.x : XFunc := xF 27 0 [.val false 1, .val false 1] (no 2) [.tmp 4 false 1] [.imm] true (.pair (.list T1_4) (.list T1_4)) .bool <| .seq (rG [op 4 .move [cB false]]) (.seq (.seq (rG [mv 6 0, o1 7 .len 6, mv 8 1, o1 9 .len 8, o2 10 (.bin .neq) 7 9]) (rI 10 4 false)) (.seq (.seq (rG [op 5 .move [cI 0]]) (.block 0 (.loop [.keep [0, 1, 5], .norm] (yG.c1)))) (yG.c2)))
def yG.env (N : Nat) : Env := envOf (tbl [(135, zAv.fs N)] noFS)
def yG.F (N : Nat) (x : (List (Int × Int × Bool)) × List (Int × Int × Bool)) : Option Bool := XFunc.run yG.x (yG.env N) N x
def yG.fs (N : Nat) : FS := fS yG.x true (yG.F N)
def yG.k2 (N : Nat) : Ex -> S -> Option Bool := seqK (fun s => XCode.runK (yG.env N) N (yG.c2) s (XFunc.endK yG.x)) (XFunc.endK yG.x)
def yG.k1 (N : Nat) : Ex -> S -> Option Bool := y7 0 (yG.k2 N)
def yG.L1 (N : Nat) (n1 : Nat) (a : List (Int × Int × Bool)) (b : List (Int × Int × Bool)) (i : Int) : Option Bool := loopK [.keep [0, 1, 5], .norm] (rK (yG.env N) N yG.c1) n1
 { t := jK 27 [(0, .one (.sl false T1_4 a)), (1, .one (.sl false T1_4 b)), (5, .one (.int .i64 i))], h := [] }
 (yG.k1 N)
theorem yG.L1_eq (N : Nat) (n1 : Nat) (a : List (Int × Int × Bool)) (b : List (Int × Int × Bool)) (i : Int) : yG.L1 N (n1 + 1) a b i =
bif decide (i < (a.length : Int)) then
bif zG i (a.length) then
bif zG i (b.length) then
bindO (zAv.F N (((nth (0, (0, false)) a i).1, ((nth (0, (0, false)) a i).2)), ((nth (0, (0, false)) b i).1, ((nth (0, (0, false)) b i).2)))) fun r1 =>
bif !r1 then
some false
else
yG.L1 N n1 a b (IntKind.wrap .i64 (i + 1))
else none
else none
else
some true := by kernel_rfl
theorem yG.F_eq (N : Nat) (a : List (Int × Int × Bool)) (b : List (Int × Int × Bool)) : yG.F N (a, b) =
bif (a.length : Int) != (b.length : Int) then
some false
else
yG.L1 N N a b 0 := by kernel_rfl
def zm.c1 : XCode := .seq (.seq (rG [mv 6 5, mv 7 0, ow 8 .len [.slot 7] [0] [], o2 9 (.bin .lss) 6 8]) (cX 9 0)) (.seq (.block 1 (.seq (rG [mv 12 0, mv 13 5, mv 14 1, ow 15 (.indexAddr T1_4) (sl [12, 13]) [0] [], fA 16 0 15, sT 1 16 14 0]) (.seq (rG [mv 17 1, op 18 (.bin .add) [.slot 17, cI 1], mv 1 18]) (.seq (rG [mv 19 0, mv 20 5, mv 21 1, ow 22 (.indexAddr T1_4) (sl [19, 20]) [0] [], fA 23 1 22, sT 1 23 21 0]) (.seq (rG [mv 24 1, op 25 (.bin .add) [.slot 24, cI 1], mv 1 25]) (.seq (rG [mv 26 0, mv 27 5, mv 28 1, op 29 (.bin .rem) [.slot 28, cI 3], op 30 (.bin .eql) [.slot 29, cI 0], ow 31 (.indexAddr T1_4) (sl [26, 27]) [0] [], fA 32 2 31, sT 1 32 30 0]) (rG [mv 33 1, op 34 (.bin .add) [.slot 33, cI 1], mv 1 34]))))))) (rG [mv 10 5, op 11 (.bin .add) [.slot 10, cI 1], mv 5 11]))
def zm.c2 : XCode := .seq (rG [mv 35 1, mv 4 35]) (.ret)
def zm.x : XFunc := xF 36 1 [.val false 1, .val false 1] [some (0, 4), none] [.tmp 4 false 1] [.imm, .back 0] false (.pair (.list T1_4) (.int .i64)) (.pair (.int .i64) (.list T1_4)) <| .seq (rG [op 4 .move [cI 0]]) (.seq (.seq (rG [op 5 .move [cI 0]]) (.block 0 (.loop [.keep [0, 1, 5], .norm] (zm.c1)))) (zm.c2))
def zm.env (_ : Nat) : Env := envOf (tbl [] noFS)
def zm.F (N : Nat) (x : (List (Int × Int × Bool)) × Int) : Option (Int × List (Int × Int × Bool)) := XFunc.run zm.x (zm.env N) N x
def zm.fs (N : Nat) : FS := fS zm.x false (zm.F N)
def zm.k2 (N : Nat) : Ex -> S -> Option (Int × List (Int × Int × Bool)) := seqK (fun s => XCode.runK (zm.env N) N (zm.c2) s (XFunc.endK zm.x)) (XFunc.endK zm.x)
def zm.k1 (N : Nat) : Ex -> S -> Option (Int × List (Int × Int × Bool)) := y7 0 (zm.k2 N)
def zm.L1 (N : Nat) (n1 : Nat) (k_ : Int) (i : Int) (o0 : List (Int × Int × Bool)) : Option (Int × List (Int × Int × Bool)) := loopK [.keep [0, 1, 5], .norm] (rK (zm.env N) N zm.c1) n1
 { t := jK 36 [(0, .one (.ref 0 0 .all)), (1, .one (.int .i64 k_)), (5, .one (.int .i64 i))], h := [.row 0 true false 4 T1_4 o0] }
 (zm.k1 N)
theorem zm.L1_eq (N : Nat) (n1 : Nat) (k_ : Int) (i : Int) (o0 : List (Int × Int × Bool)) : zm.L1 N (n1 + 1) k_ i o0 =
bif decide (i < (o0.length : Int)) then
bif zG i (o0.length) then
bif zG i (List.length (List.set o0 (Int.toNat i) (k_, ((List.getD o0 (Int.toNat i) (0, (0, false))).2)))) then
bif zG i (List.length (List.set (List.set o0 (Int.toNat i) (k_, ((List.getD o0 (Int.toNat i) (0, (0, false))).2))) (Int.toNat i) ((List.getD (List.set o0 (Int.toNat i) (k_, ((List.getD o0 (Int.toNat i) (0, (0, false))).2))) (Int.toNat i) (0, (0, false))).1, (IntKind.wrap .i64 (k_ + 1), ((List.getD (List.set o0 (Int.toNat i) (k_, ((List.getD o0 (Int.toNat i) (0, (0, false))).2))) (Int.toNat i) (0, (0, false))).2).2)))) then
zm.L1 N n1 (IntKind.wrap .i64 ((IntKind.wrap .i64 ((IntKind.wrap .i64 (k_ + 1)) + 1)) + 1)) (IntKind.wrap .i64 (i + 1)) (List.set (List.set (List.set o0 (Int.toNat i) (k_, ((List.getD o0 (Int.toNat i) (0, (0, false))).2))) (Int.toNat i) ((List.getD (List.set o0 (Int.toNat i) (k_, ((List.getD o0 (Int.toNat i) (0, (0, false))).2))) (Int.toNat i) (0, (0, false))).1, (IntKind.wrap .i64 (k_ + 1), ((List.getD (List.set o0 (Int.toNat i) (k_, ((List.getD o0 (Int.toNat i) (0, (0, false))).2))) (Int.toNat i) (0, (0, false))).2).2))) (Int.toNat i) ((List.getD (List.set (List.set o0 (Int.toNat i) (k_, ((List.getD o0 (Int.toNat i) (0, (0, false))).2))) (Int.toNat i) ((List.getD (List.set o0 (Int.toNat i) (k_, ((List.getD o0 (Int.toNat i) (0, (0, false))).2))) (Int.toNat i) (0, (0, false))).1, (IntKind.wrap .i64 (k_ + 1), ((List.getD (List.set o0 (Int.toNat i) (k_, ((List.getD o0 (Int.toNat i) (0, (0, false))).2))) (Int.toNat i) (0, (0, false))).2).2))) (Int.toNat i) (0, (0, false))).1, (((List.getD (List.set (List.set o0 (Int.toNat i) (k_, ((List.getD o0 (Int.toNat i) (0, (0, false))).2))) (Int.toNat i) ((List.getD (List.set o0 (Int.toNat i) (k_, ((List.getD o0 (Int.toNat i) (0, (0, false))).2))) (Int.toNat i) (0, (0, false))).1, (IntKind.wrap .i64 (k_ + 1), ((List.getD (List.set o0 (Int.toNat i) (k_, ((List.getD o0 (Int.toNat i) (0, (0, false))).2))) (Int.toNat i) (0, (0, false))).2).2))) (Int.toNat i) (0, (0, false))).2).1, (Int.tmod (IntKind.wrap .i64 ((IntKind.wrap .i64 (k_ + 1)) + 1)) 3) == 0)))
else none
else none
else none
else
some (k_, o0) := by kernel_rfl
theorem zm.F_eq (N : Nat) (a : List (Int × Int × Bool)) (k_ : Int) : zm.F N (a, k_) =
zm.L1 N N k_ 0 a := by kernel_rfl
def zf.c1 : XCode := .seq (.seq (rG [mv 6 5, mv 7 0, o1 8 .len 7, o2 9 (.bin .lss) 6 8]) (cX 9 0)) (.seq (.block 1 (.seq (.seq (rG [mv 12 0, mv 13 5, o2 14 (.indexAddr T1_4) 12 13, fA 15 0 14, o1 16 (.load false 1) 15, mv 17 1, o2 18 (.bin .neq) 16 17]) (.cond (.slot 18) (.seq (rG [op 4 .move [cI (-1)]]) (.ret)) (.skip))) (.seq (rG [mv 19 1, op 20 (.bin .add) [.slot 19, cI 1], mv 1 20]) (.seq (.seq (rG [mv 21 0, mv 22 5, o2 23 (.indexAddr T1_4) 21 22, fA 24 1 23, o1 25 (.load false 1) 24, mv 26 1, o2 27 (.bin .neq) 25 26]) (.cond (.slot 27) (.seq (rG [op 4 .move [cI (-1)]]) (.ret)) (.skip))) (.seq (rG [mv 28 1, op 29 (.bin .add) [.slot 28, cI 1], mv 1 29]) (.seq (.seq (rG [mv 30 0, mv 31 5, o2 32 (.indexAddr T1_4) 30 31, fA 33 2 32, o1 34 (.load false 1) 33, mv 35 1, op 36 (.bin .rem) [.slot 35, cI 3], op 37 (.bin .eql) [.slot 36, cI 0], o2 38 (.eqBool true) 34 37]) (.cond (.slot 38) (.seq (rG [op 4 .move [cI (-1)]]) (.ret)) (.skip))) (rG [mv 39 1, op 40 (.bin .add) [.slot 39, cI 1], mv 1 40]))))))) (rG [mv 10 5, op 11 (.bin .add) [.slot 10, cI 1], mv 5 11]))
def zf.c2 : XCode := .seq (rG [mv 41 1, mv 4 41]) (.ret)
def zf.x : XFunc := xF 42 0 [.val false 1, .val false 1] (no 2) [.tmp 4 false 1] [.imm] true (.pair (.list T1_4) (.int .i64)) (.int .i64) <| .seq (rG [op 4 .move [cI 0]]) (.seq (.seq (rG [op 5 .move [cI 0]]) (.block 0 (.loop [.keep [0, 1, 5], .norm] (zf.c1)))) (zf.c2))
def zf.env (_ : Nat) : Env := envOf (tbl [] noFS)
def zf.F (N : Nat) (x : (List (Int × Int × Bool)) × Int) : Option Int := XFunc.run zf.x (zf.env N) N x
def zf.fs (N : Nat) : FS := fS zf.x true (zf.F N)
def zf.k2 (N : Nat) : Ex -> S -> Option Int := seqK (fun s => XCode.runK (zf.env N) N (zf.c2) s (XFunc.endK zf.x)) (XFunc.endK zf.x)
def zf.k1 (N : Nat) : Ex -> S -> Option Int := y7 0 (zf.k2 N)
def zf.L1 (N : Nat) (n1 : Nat) (a : List (Int × Int × Bool)) (k_ : Int) (i : Int) : Option Int := loopK [.keep [0, 1, 5], .norm] (rK (zf.env N) N zf.c1) n1
 { t := jK 42 [(0, .one (.sl false T1_4 a)), (1, .one (.int .i64 k_)), (5, .one (.int .i64 i))], h := [] }
 (zf.k1 N)
theorem zf.L1_eq (N : Nat) (n1 : Nat) (a : List (Int × Int × Bool)) (k_ : Int) (i : Int) : zf.L1 N (n1 + 1) a k_ i =
bif decide (i < (a.length : Int)) then
bif zG i (a.length) then
bif ((nth (0, (0, false)) a i).1) != k_ then
some (-1 : Int)
else
bif zG i (a.length) then
bif (((nth (0, (0, false)) a i).2).1) != (IntKind.wrap .i64 (k_ + 1)) then
some (-1 : Int)
else
bif zG i (a.length) then
bif (((nth (0, (0, false)) a i).2).2) != ((Int.tmod (IntKind.wrap .i64 ((IntKind.wrap .i64 (k_ + 1)) + 1)) 3) == 0) then
some (-1 : Int)
else
zf.L1 N n1 a (IntKind.wrap .i64 ((IntKind.wrap .i64 ((IntKind.wrap .i64 (k_ + 1)) + 1)) + 1)) (IntKind.wrap .i64 (i + 1))
else none
else none
else none
else
some k_ := by kernel_rfl
theorem zf.F_eq (N : Nat) (a : List (Int × Int × Bool)) (k_ : Int) : zf.F N (a, k_) =
zf.L1 N N a k_ 0 := by kernel_rfl
end Go.Kb
