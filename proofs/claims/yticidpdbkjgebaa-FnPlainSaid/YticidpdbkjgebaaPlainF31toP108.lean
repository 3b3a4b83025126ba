/- The texts of functions, printed by a program, and the equations of their runs. -/
import Derived.Test.YticidpdbkjgebaaPlainP0toP75
import Derived.Test.YticidpdbkjgebaaPlainF4toP31
import Derived.Test.YticidpdbkjgebaaPlainP94toF8
import Derived.Test.YticidpdbkjgebaaPlainF30
import Derived.KernelRfl
import Derived.Test.YticidpdbkjgebaaPlainP61toP107
namespace Go.Kb
abbrev zAX : Ty := .pair (.int .i64) (.pair (.int .i64) (.pair (.int .i64) (.int .i64)))
abbrev T3_F31F31 : Ty := .pair (.int .i64) (.pair (.int .i64) (.list (.int .i64)))
abbrev T4_F31F31 : Ty := .pair (.pair (.int .i64) (.list (.list zAX))) (.pair (.list (.list (.pair (.int .i64) (.pair (.int .i64) (.int .i64))))) (.pair (.int .i64) (.pair (.list (.pair (.int .i64) zAX)) (.pair (.int .i64) (.bool)))))
abbrev D6_F31F31 : Type := (Int × List (List (Int × Int × Int × Int))) × (List (List (Int × Int × Int))) × Int × (List (Int × Int × Int × Int × Int)) × Int × Bool
abbrev zBD : Type := List (Int × Int × Int × Int)
def zh.c1 : XCode := .seq (rG [o2 14 (.bin .lss) 13 12]) (.seq (.cond (.slot 14) (.skip) (.exit 0)) (.seq (.block 1 (.seq (rG [mv 15 13, mv 5 15]) (.seq (.region true [mv 16 0, mv 17 5, o2 18 (.indexAddr T3_F31F31) 16 17, fA 19 0 18, o1 20 (.load false 1) 19, mv 21 1, mv 22 5, o2 23 (.indexAddr T3_F31F31) 21 22, fA 24 0 23, o1 25 (.load false 1) 24, o2 26 (.bin .neq) 20 25, sX 27 [.slot 26], gX 28 .move [.slot 0] [] [] 27 false, gX 29 .move [.slot 5] [] [] 27 false, gX 30 (.indexAddr T3_F31F31) (sl [28, 29]) [] [] 27 false, gX 31 (.fieldAddr 1) [.slot 30] [] [] 27 false, gX 32 (.load true 2) [.slot 31] [] [] 27 false, gX 33 .move [.slot 1] [] [] 27 false, gX 34 .move [.slot 5] [] [] 27 false, gX 35 (.indexAddr T3_F31F31) (sl [33, 34]) [] [] 27 false, gX 36 (.fieldAddr 1) [.slot 35] [] [] 27 false, gX 37 (.load true 2) [.slot 36] [] [] 27 false, ⟨some 38, .call ⟨206, [.val true 2, .val true 2], no 4, [.val false 1], ims 1, true⟩, (sl [32, 37]), [], [], some (27, false), false, .none⟩, gX 39 .not [.slot 38] [] [] 27 false, op 40 .pick [.slot 27, cB true, .slot 39]]) (.cond (.slot 40) (.seq (rG [op 4 .move [cB false]]) (.ret)) (.skip))))) (rG [op 41 (.bin .add) [.slot 13, cI 1], mv 13 41])))
def zh.c2 : XCode := .seq (rG [op 4 .move [cB true]]) (.ret)
def zh.x : XFunc := { nslots := 42, nobj := 0, pars := [.val false 1, .val false 1], rowsIn := no 2, rets := [.tmp 4 false 1], outs := [.imm], fresh := true, arg := .pair (.list T3_F31F31) (.list T3_F31F31), ret := .bool, body := .seq (rG [op 4 .move [cB false]]) (.seq (.seq (rG [mv 6 0, o1 7 .len 6, mv 8 1, o1 9 .len 8, o2 10 (.bin .neq) 7 9]) (.cond (.slot 10) (.seq (rG [op 4 .move [cB false]]) (.ret)) (.skip))) (.seq (.seq (rG [mv 11 0, o1 12 .len 11, op 13 .move [cI 0]]) (.block 0 (.loop [.keep [0, 1, 12, 13], .norm] (zh.c1)))) (zh.c2))) }
def zh.env (N : Nat) : Env := envOf (tbl [(206, yF.fs N)] noFS)
def zh.F (N : Nat) (x : (List (Int × Int × List Int)) × List (Int × Int × List Int)) : Option Bool := XFunc.run zh.x (zh.env N) N x
def zh.fs (N : Nat) : FS := { arg := zh.x.arg, ret := zh.x.ret, fresh := true, F := zh.F N }
def zh.k2 (N : Nat) : Ex -> S -> Option Bool := seqK (fun s => XCode.runK (zh.env N) N (zh.c2) s (XFunc.endK zh.x)) (XFunc.endK zh.x)
def zh.k1 (N : Nat) : Ex -> S -> Option Bool := zAh 0 (zh.k2 N)
def zh.L1 (N : Nat) (n1 : Nat) (a : List (Int × Int × List Int)) (b : List (Int × Int × List Int)) (t12 : Int) (t13 : Int) : Option Bool := loopK [.keep [0, 1, 12, 13], .norm] (fun s k => XCode.runK (zh.env N) N zh.c1 s k) n1
 { t := jK 42 [(0, .one (.sl false T3_F31F31 a)), (1, .one (.sl false T3_F31F31 b)), (12, .one (.int .i64 t12)), (13, .one (.int .i64 t13))], h := [] }
 (zh.k1 N)
theorem zh.L1_eq (N : Nat) (n1 : Nat) (a : List (Int × Int × List Int)) (b : List (Int × Int × List Int)) (t12 : Int) (t13 : Int) : zh.L1 N (n1 + 1) a b t12 t13 =
bif decide (t13 < t12) then
bif zu t13 (a.length) then
bif zu t13 (b.length) then
bif ((nth (0, (0, ([] : List Int))) a t13).1) != ((nth (0, (0, ([] : List Int))) b t13).1) then
some false
else
bif zu t13 (a.length) then
bif zu t13 (b.length) then
bindO (yF.F N (((nth (0, (0, ([] : List Int))) a t13).2), ((nth (0, (0, ([] : List Int))) b t13).2))) fun r1 =>
bif !r1 then
some false
else
zh.L1 N n1 a b t12 (IntKind.wrap .i64 (t13 + 1))
else none
else none
else none
else none
else
some true := by kernel_rfl
theorem zh.F_eq (N : Nat) (a : List (Int × Int × List Int)) (b : List (Int × Int × List Int)) : zh.F N (a, b) =
bif (a.length : Int) != (b.length : Int) then
some false
else
zh.L1 N N a b (a.length : Int) 0 := by kernel_rfl
def zK.c1 : XCode := .seq (.seq (rG [mv 41 6, fA 42 1 2, lN 43 42 0, mv 44 5, o2 45 (.indexAddr (.list zAX)) 43 44, o1 46 (.load false 1) 45, o1 47 .len 46, o2 48 (.bin .lss) 41 47]) (.cond (.slot 48) (.skip) (.exit 2))) (.seq (.block 3 (.seq (.region true [fA 51 1 2, lN 52 51 0, mv 53 5, o2 54 (.indexAddr (.list zAX)) 52 53, o1 55 (.load false 1) 54, mv 56 6, o2 57 (.indexAddr zAX) 55 56, o1 58 (.load true 4) 57, fA 59 1 3, lN 60 59 1, mv 61 5, o2 62 (.indexAddr (.list zAX)) 60 61, o1 63 (.load false 1) 62, mv 64 6, o2 65 (.indexAddr zAX) 63 64, o1 66 (.load true 4) 65, o2 67 (.eqAgg true zAX) 58 66]) (.cond (.slot 67) (.seq (rG [op 4 .move [cB false]]) (.ret)) (.skip)))) (rG [mv 49 6, op 50 (.bin .add) [.slot 49, cI 1], mv 6 50]))
def zK.c2 : XCode := rG [mv 26 5, op 27 (.bin .add) [.slot 26, cI 1], mv 5 27]
def zK.c3 : XCode := .seq (.seq (rG [mv 21 5, fA 22 1 2, lN 23 22 0, o1 24 .len 23, o2 25 (.bin .lss) 21 24]) (.cond (.slot 25) (.skip) (.exit 0))) (.seq (.block 1 (.seq (.seq (.region true [fA 28 1 2, lN 29 28 0, mv 30 5, o2 31 (.indexAddr (.list zAX)) 29 30, o1 32 (.load false 1) 31, o1 33 .len 32, fA 34 1 3, lN 35 34 1, mv 36 5, o2 37 (.indexAddr (.list zAX)) 35 36, o1 38 (.load false 1) 37, o1 39 .len 38, o2 40 (.bin .neq) 33 39]) (.cond (.slot 40) (.seq (rG [op 4 .move [cB false]]) (.ret)) (.skip))) (.seq (rG [op 6 .move [cI 0]]) (.block 2 (.loop [.keep [2, 3, 5, 6], .norm] (zK.c1)))))) (zK.c2))
def zK.c4 : XCode := .seq (rG [op 4 .move [cB true]]) (.ret)
def zK.x : XFunc := { nslots := 68, nobj := 2, pars := [.val true 2, .val true 2], rowsIn := no 4, rets := [.tmp 4 false 1], outs := [.imm], fresh := true, arg := .pair (.pair (.int .i64) (.list (.list zAX))) (.pair (.int .i64) (.list (.list zAX))), ret := .bool, body := .seq (rG [ow 2 (.box 0) [.slot 0] [0] [0], ow 3 (.box 1) [.slot 1] [1] [1], op 4 .move [cB false]]) (.seq (.seq (rG [fA 7 0 2, lN 8 7 0, fA 9 0 3, lN 10 9 1, o2 11 (.bin .neq) 8 10, sX 12 [.slot 11], gX 13 (.fieldAddr 1) [.slot 2] [] [] 12 false, gX 14 (.load false 1) [.slot 13] [0] [] 12 false, gX 15 .len [.slot 14] [] [] 12 false, gX 16 (.fieldAddr 1) [.slot 3] [] [] 12 false, gX 17 (.load false 1) [.slot 16] [1] [] 12 false, gX 18 .len [.slot 17] [] [] 12 false, gX 19 (.bin .neq) (sl [15, 18]) [] [] 12 false, op 20 .pick [.slot 12, cB true, .slot 19]]) (.cond (.slot 20) (.seq (rG [op 4 .move [cB false]]) (.ret)) (.skip))) (.seq (.seq (rG [op 5 .move [cI 0]]) (.block 0 (.loop [.keep [2, 3, 5], .norm] (zK.c3)))) (zK.c4))) }
def zK.env (_ : Nat) : Env := envOf (tbl [] noFS)
def zK.F (N : Nat) (x : (Int × List zBD) × Int × List zBD) : Option Bool := XFunc.run zK.x (zK.env N) N x
def zK.fs (N : Nat) : FS := { arg := zK.x.arg, ret := zK.x.ret, fresh := true, F := zK.F N }
def zK.k2 (N : Nat) : Ex -> S -> Option Bool := seqK (fun s => XCode.runK (zK.env N) N (zK.c4) s (XFunc.endK zK.x)) (XFunc.endK zK.x)
def zK.k1 (N : Nat) : Ex -> S -> Option Bool := zAh 0 (zK.k2 N)
def zK.k6 (N : Nat) (n1 : Nat) : Ex -> S -> Option Bool := seqK (fun s => bindO (S.ghosts s [.keep [2, 3, 5], .norm]) fun s1 => loopK [.keep [2, 3, 5], .norm] (fun s k => XCode.runK (zK.env N) N zK.c3 s k) n1 s1 (zK.k1 N)) (zK.k1 N)
def zK.k5 (N : Nat) (n1 : Nat) : Ex -> S -> Option Bool := seqK (fun s => XCode.runK (zK.env N) N (zK.c2) s (zK.k6 N n1)) (zK.k6 N n1)
def zK.k4 (N : Nat) (n1 : Nat) : Ex -> S -> Option Bool := zAh 1 (zK.k5 N n1)
def zK.k3 (N : Nat) (n1 : Nat) : Ex -> S -> Option Bool := zAh 2 (zK.k4 N n1)
def zK.L1 (N : Nat) (n1 : Nat) (i : Int) (o00 : Int) (o01 : List zBD) (o10 : Int) (o11 : List zBD) : Option Bool := loopK [.keep [2, 3, 5], .norm] (fun s k => XCode.runK (zK.env N) N zK.c3 s k) n1
 { t := jK 68 [(2, .one (.ptr 0 0 0)), (3, .one (.ptr 1 0 0)), (5, .one (.int .i64 i))], h := [.box 0 false [.int .i64 o00, .sl false (.list zAX) o01], .box 0 false [.int .i64 o10, .sl false (.list zAX) o11]] }
 (zK.k1 N)
def zK.L2 (N : Nat) (n1 : Nat) (n2 : Nat) (i : Int) (k_ : Int) (o00 : Int) (o01 : List zBD) (o10 : Int) (o11 : List zBD) : Option Bool := loopK [.keep [2, 3, 5, 6], .norm] (fun s k => XCode.runK (zK.env N) N zK.c1 s k) n2
 { t := jK 68 [(2, .one (.ptr 0 0 0)), (3, .one (.ptr 1 0 0)), (5, .one (.int .i64 i)), (6, .one (.int .i64 k_))], h := [.box 0 false [.int .i64 o00, .sl false (.list zAX) o01], .box 0 false [.int .i64 o10, .sl false (.list zAX) o11]] }
 (zK.k3 N n1)
theorem zK.L1_eq (N : Nat) (n1 : Nat) (i : Int) (o00 : Int) (o01 : List zBD) (o10 : Int) (o11 : List zBD) : zK.L1 N (n1 + 1) i o00 o01 o10 o11 =
bif decide (i < (o01.length : Int)) then
bif zu i (o01.length) then
bif zu i (o11.length) then
bif (List.length (nth ([] : List (Int × Int × Int × Int)) o01 i) : Int) != (List.length (nth ([] : List (Int × Int × Int × Int)) o11 i) : Int) then
some false
else
zK.L2 N n1 N i 0 o00 o01 o10 o11
else none
else none
else
some true := by kernel_rfl
theorem zK.L2_eq (N : Nat) (n1 : Nat) (n2 : Nat) (i : Int) (k_ : Int) (o00 : Int) (o01 : List zBD) (o10 : Int) (o11 : List zBD) : zK.L2 N n1 (n2 + 1) i k_ o00 o01 o10 o11 =
bif zu i (o01.length) then
bif decide (k_ < (List.length (nth ([] : List (Int × Int × Int × Int)) o01 i) : Int)) then
bif zu i (o01.length) then
bif zu k_ (List.length (nth ([] : List (Int × Int × Int × Int)) o01 i)) then
bif zu i (o11.length) then
bif zu k_ (List.length (nth ([] : List (Int × Int × Int × Int)) o11 i)) then
bif !((((nth (0, (0, (0, 0))) (nth ([] : List (Int × Int × Int × Int)) o01 i) k_).1) == ((nth (0, (0, (0, 0))) (nth ([] : List (Int × Int × Int × Int)) o11 i) k_).1)) && (((((nth (0, (0, (0, 0))) (nth ([] : List (Int × Int × Int × Int)) o01 i) k_).2).1) == (((nth (0, (0, (0, 0))) (nth ([] : List (Int × Int × Int × Int)) o11 i) k_).2).1)) && ((((((nth (0, (0, (0, 0))) (nth ([] : List (Int × Int × Int × Int)) o01 i) k_).2).2).1) == ((((nth (0, (0, (0, 0))) (nth ([] : List (Int × Int × Int × Int)) o11 i) k_).2).2).1)) && (((((nth (0, (0, (0, 0))) (nth ([] : List (Int × Int × Int × Int)) o01 i) k_).2).2).2) == ((((nth (0, (0, (0, 0))) (nth ([] : List (Int × Int × Int × Int)) o11 i) k_).2).2).2))))) then
some false
else
zK.L2 N n1 n2 i (IntKind.wrap .i64 (k_ + 1)) o00 o01 o10 o11
else none
else none
else none
else none
else
zK.L1 N n1 (IntKind.wrap .i64 (i + 1)) o00 o01 o10 o11
else none := by kernel_rfl
theorem zK.F_eq (N : Nat) (a : Int × List zBD) (b : Int × List zBD) : zK.F N (a, b) =
bif a.1 != b.1 then
some false
else
bif (List.length a.2 : Int) != (List.length b.2 : Int) then
some false
else
zK.L1 N N 0 a.1 a.2 b.1 b.2 := by kernel_rfl
def zf.c1 : XCode := .seq (.seq (rG [mv 11 5, mv 12 0, o1 13 .len 12, o2 14 (.bin .lss) 11 13]) (.cond (.slot 14) (.skip) (.exit 0))) (.seq (.block 1 (.seq (.region true [mv 17 0, mv 18 5, o2 19 (.indexAddr (.pair (.int .i64) zAX)) 17 18, o1 20 (.load true 5) 19, mv 21 1, mv 22 5, o2 23 (.indexAddr (.pair (.int .i64) zAX)) 21 22, o1 24 (.load true 5) 23, o2 25 (.eqAgg true (.pair (.int .i64) zAX)) 20 24]) (.cond (.slot 25) (.seq (rG [op 4 .move [cB false]]) (.ret)) (.skip)))) (rG [mv 15 5, op 16 (.bin .add) [.slot 15, cI 1], mv 5 16]))
def zf.c2 : XCode := .seq (rG [op 4 .move [cB true]]) (.ret)
def zf.x : XFunc := { nslots := 26, nobj := 0, pars := [.val false 1, .val false 1], rowsIn := no 2, rets := [.tmp 4 false 1], outs := [.imm], fresh := true, arg := .pair (.list (.pair (.int .i64) zAX)) (.list (.pair (.int .i64) zAX)), ret := .bool, body := .seq (rG [op 4 .move [cB false]]) (.seq (.seq (rG [mv 6 0, o1 7 .len 6, mv 8 1, o1 9 .len 8, o2 10 (.bin .neq) 7 9]) (.cond (.slot 10) (.seq (rG [op 4 .move [cB false]]) (.ret)) (.skip))) (.seq (.seq (rG [op 5 .move [cI 0]]) (.block 0 (.loop [.keep [0, 1, 5], .norm] (zf.c1)))) (zf.c2))) }
def zf.env (_ : Nat) : Env := envOf (tbl [] noFS)
def zf.F (N : Nat) (x : (List (Int × Int × Int × Int × Int)) × List (Int × Int × Int × Int × Int)) : Option Bool := XFunc.run zf.x (zf.env N) N x
def zf.fs (N : Nat) : FS := { arg := zf.x.arg, ret := zf.x.ret, fresh := true, F := zf.F N }
def zf.k2 (N : Nat) : Ex -> S -> Option Bool := seqK (fun s => XCode.runK (zf.env N) N (zf.c2) s (XFunc.endK zf.x)) (XFunc.endK zf.x)
def zf.k1 (N : Nat) : Ex -> S -> Option Bool := zAh 0 (zf.k2 N)
def zf.L1 (N : Nat) (n1 : Nat) (a : List (Int × Int × Int × Int × Int)) (b : List (Int × Int × Int × Int × Int)) (i : Int) : Option Bool := loopK [.keep [0, 1, 5], .norm] (fun s k => XCode.runK (zf.env N) N zf.c1 s k) n1
 { t := jK 26 [(0, .one (.sl false (.pair (.int .i64) zAX) a)), (1, .one (.sl false (.pair (.int .i64) zAX) b)), (5, .one (.int .i64 i))], h := [] }
 (zf.k1 N)
theorem zf.L1_eq (N : Nat) (n1 : Nat) (a : List (Int × Int × Int × Int × Int)) (b : List (Int × Int × Int × Int × Int)) (i : Int) : zf.L1 N (n1 + 1) a b i =
bif decide (i < (a.length : Int)) then
bif zu i (a.length) then
bif zu i (b.length) then
bif !((((nth (0, (0, (0, (0, 0)))) a i).1) == ((nth (0, (0, (0, (0, 0)))) b i).1)) && (((((nth (0, (0, (0, (0, 0)))) a i).2).1) == (((nth (0, (0, (0, (0, 0)))) b i).2).1)) && ((((((nth (0, (0, (0, (0, 0)))) a i).2).2).1) == ((((nth (0, (0, (0, (0, 0)))) b i).2).2).1)) && (((((((nth (0, (0, (0, (0, 0)))) a i).2).2).2).1) == (((((nth (0, (0, (0, (0, 0)))) b i).2).2).2).1)) && ((((((nth (0, (0, (0, (0, 0)))) a i).2).2).2).2) == (((((nth (0, (0, (0, (0, 0)))) b i).2).2).2).2)))))) then
some false
else
zf.L1 N n1 a b (IntKind.wrap .i64 (i + 1))
else none
else none
else
some true := by kernel_rfl
theorem zf.F_eq (N : Nat) (a : List (Int × Int × Int × Int × Int)) (b : List (Int × Int × Int × Int × Int)) : zf.F N (a, b) =
bif (a.length : Int) != (b.length : Int) then
some false
else
zf.L1 N N a b 0 := by kernel_rfl
def yY.x : XFunc := { nslots := 47, nobj := 2, pars := [.val true 7, .val true 7], rowsIn := no 14, rets := [.tmp 4 false 1], outs := [.imm], fresh := true, arg := .pair T4_F31F31 T4_F31F31, ret := .bool, body := .seq (rG [ow 2 (.box 0) [.slot 0] [0] [0], ow 3 (.box 1) [.slot 1] [1] [1], op 4 .move [cB false]]) (.seq (rG [fA 5 0 2, lU 6 2 5 0, fA 7 0 3, lU 8 2 7 1, o2 9 (.call ⟨226, [.val true 2, .val true 2], no 4, [.val false 1], ims 1, true⟩) 6 8, sX 10 [.slot 9], gX 11 (.fieldAddr 2) [.slot 2] [] [] 10 true, gX 12 (.load false 1) [.slot 11] [0] [] 10 true, gX 13 .len [.slot 12] [] [] 10 true, gX 14 (.fieldAddr 2) [.slot 3] [] [] 10 true, gX 15 (.load false 1) [.slot 14] [1] [] 10 true, gX 16 .len [.slot 15] [] [] 10 true, gX 17 (.bin .eql) (sl [13, 16]) [] [] 10 true, op 18 .pick [.slot 10, .slot 17, cB false], sX 19 [.slot 18], gX 20 (.fieldAddr 3) [.slot 2] [] [] 19 true, gX 21 (.load false 1) [.slot 20] [0] [] 19 true, gX 22 (.fieldAddr 3) [.slot 3] [] [] 19 true, gX 23 (.load false 1) [.slot 22] [1] [] 19 true, gX 24 (.bin .eql) (sl [21, 23]) [] [] 19 true, op 25 .pick [.slot 19, .slot 24, cB false], sX 26 [.slot 25], gX 27 (.fieldAddr 5) [.slot 2] [] [] 26 true, gX 28 (.load false 1) [.slot 27] [0] [] 26 true, gX 29 (.fieldAddr 5) [.slot 3] [] [] 26 true, gX 30 (.load false 1) [.slot 29] [1] [] 26 true, gX 31 (.bin .eql) (sl [28, 30]) [] [] 26 true, op 32 .pick [.slot 26, .slot 31, cB false], sX 33 [.slot 32], gX 34 (.fieldAddr 6) [.slot 2] [] [] 33 true, gX 35 (.load false 1) [.slot 34] [0] [] 33 true, gX 36 (.fieldAddr 6) [.slot 3] [] [] 33 true, gX 37 (.load false 1) [.slot 36] [1] [] 33 true, gX 38 (.eqBool false) (sl [35, 37]) [] [] 33 true, op 39 .pick [.slot 33, .slot 38, cB false], sX 40 [.slot 39], gX 41 (.fieldAddr 4) [.slot 2] [] [] 40 true, gX 42 (.load false 1) [.slot 41] [0] [] 40 true, gX 43 (.fieldAddr 4) [.slot 3] [] [] 40 true, gX 44 (.load false 1) [.slot 43] [1] [] 40 true, ⟨some 45, .call ⟨227, vs 2, no 2, [.val false 1], ims 1, true⟩, (sl [42, 44]), [], [], some (40, true), false, .none⟩, op 46 .pick [.slot 40, .slot 45, cB false], mv 4 46]) (.ret)) }
def yY.env (N : Nat) : Env := envOf (tbl [(227, zf.fs N), (226, zK.fs N)] noFS)
def yY.F (N : Nat) (x : D6_F31F31 × (Int × List zBD) × (List (List (Int × Int × Int))) × Int × (List (Int × Int × Int × Int × Int)) × Int × Bool) : Option Bool := XFunc.run yY.x (yY.env N) N x
def yY.fs (N : Nat) : FS := { arg := yY.x.arg, ret := yY.x.ret, fresh := true, F := yY.F N }
theorem yY.F_eq (N : Nat) (a : (Int × List zBD) × (List (List (Int × Int × Int))) × Int × (List (Int × Int × Int × Int × Int)) × Int × Bool) (b : (Int × List zBD) × (List (List (Int × Int × Int))) × Int × (List (Int × Int × Int × Int × Int)) × Int × Bool) : yY.F N (a, b) =
bindO (zK.F N (a.1, b.1)) fun r1 =>
bif r1 then
bif (List.length a.2.1 : Int) == (List.length b.2.1 : Int) then
bif a.2.2.1 == b.2.2.1 then
bif a.2.2.2.2.1 == b.2.2.2.2.1 then
bif a.2.2.2.2.2 == b.2.2.2.2.2 then
bindO (zf.F N (a.2.2.2.1, b.2.2.2.1)) fun r2 =>
some r2
else
some false
else
some false
else
some false
else
some false
else
some false := by kernel_rfl
end Go.Kb
namespace Go.Kb
set_option maxRecDepth 100000
theorem sameH2 (N : Nat) (hN : 1048576 < N) (a : List Hd) (ha : a.length <= 1048576) : zf.F N (a, a) = some true := by
 have gl : ∀ (n i : Nat), i <= a.length -> a.length < n + i -> zf.L1 N n a a (i : Int) = some true := by
  intro n
  induction n with
  | zero => intro i h1 h2; omega
  | succ n ih =>
   intro i h1 h2
   rw [zf.L1_eq]
   by_cases hi : i < a.length
   ·have ws : IntKind.wrap .i64 ((i : Int) + 1) = ((i + 1 : Nat) : Int) := y0 (by omega)
    simp only [oJ, hi, decide_true, condT, inRange_nat, ws, ih (i + 1) (by omega) (by omega), beq_self_eq_true, Bool.and_self, notT, condF]
   ·simp only [oJ, hi, decide_false, condF]
 rw [zf.F_eq, bneI, dT rfl, notT, condF]
 exact gl N 0 (by omega) (by omega)
theorem sameM2 (N : Nat) (hN : 1048576 < N) (m : Mp) (hm : smallM m) : zK.F N (m, m) = some true := by
 obtain ⟨k, ls⟩ := m
 have h0 : ls.length <= 1048576 := hm.1
 have g2 : ∀ (n1 i : Nat), i < ls.length -> ∀ (n j : Nat), j <= (ls.getD i []).length -> (ls.getD i []).length < n + j -> zK.L2 N n1 n (i : Int) (j : Int) k ls k ls = zK.L1 N n1 ((i + 1 : Nat) : Int) k ls k ls := by
  intro n1 i hi n
  have hl : (ls.getD i []).length <= 1048576 := hm.2 _ (nth_mem [] ls i hi)
  induction n with
  | zero => intro j h1 h2; omega
  | succ n ih =>
   intro j h1 h2
   rw [zK.L2_eq]
   by_cases hj : j < (ls.getD i []).length
   ·have ws : IntKind.wrap .i64 ((j : Int) + 1) = ((j + 1 : Nat) : Int) := y0 (by omega)
    simp only [inRange_nat, hi, nth_nat, oJ, hj, decide_true, condT, ws, ih (j + 1) (by omega) (by omega), beq_self_eq_true, Bool.and_self, notT, condF]
   ·have wi : IntKind.wrap .i64 ((i : Int) + 1) = ((i + 1 : Nat) : Int) := y0 (by omega)
    simp only [inRange_nat, hi, nth_nat, oJ, hj, decide_true, decide_false, condT, condF, wi]
 have g1 : ∀ (n i : Nat), i <= ls.length -> ls.length < n + i -> zK.L1 N n (i : Int) k ls k ls = some true := by
  intro n
  induction n with
  | zero => intro i h1 h2; omega
  | succ n ih =>
   intro i h1 h2
   rw [zK.L1_eq]
   by_cases hi : i < ls.length
   ·have hl : (ls.getD i []).length <= 1048576 := hm.2 _ (nth_mem [] ls i hi)
    have g := g2 n i hi N 0 (by omega) (by omega)
    have g : zK.L2 N n N (i : Int) 0 k ls k ls = _ := g
    simp only [oJ, hi, decide_true, condT, inRange_nat, nth_nat]
    rw [bneI, dT rfl, notT, condF, g, ih (i + 1) (by omega) (by omega)]
   ·simp only [oJ, hi, decide_false, condF]
 rw [zK.F_eq]
 dsimp only
 rw [bneI, dT rfl, notT, condF, bneI, dT rfl, notT, condF]
 exact g1 N 0 (by omega) (by omega)
theorem sameE2 (N : Nat) (hN : 1048576 < N) (e : Eng) (he : smallE e) : yY.F N (e, e) = some true := by
 rw [yY.F_eq]
 rw [sameM2 N hN e.1 he.1, bindV, condT, sameH2 N hN e.2.2.2.1 he.2.2, bindV]
 simp only [beq_self_eq_true, condT]
theorem sameS2 (N : Nat) (hN : 1048576 < N) (a : List Snt) (ha : a.length <= 1048576) (hs : ∀ s ∈ a, s.2.2.length <= 1048576) : zh.F N (a, a) = some true := by
 have gl : ∀ (n i : Nat), i <= a.length -> a.length < n + i -> zh.L1 N n a a (a.length : Int) (i : Int) = some true := by
  intro n
  induction n with
  | zero => intro i h1 h2; omega
  | succ n ih =>
   intro i h1 h2
   rw [zh.L1_eq]
   by_cases hi : i < a.length
   ·have ws : IntKind.wrap .i64 ((i : Int) + 1) = ((i + 1 : Nat) : Int) := y0 (by omega)
    have hx := hs _ (nth_mem (0, 0, []) a i hi)
    have hr := same_impl N hN (a.getD i (0, 0, [])).2 (a.getD i (0, 0, [])).2 hx
    rw [dT (Int.ofNat_lt.2 hi), condT, inRange_nat, dT hi]
    simp only [condT, nth_nat]
    rw [bneI, dT rfl, notT, condF, hr, bindV, dT rfl, notT, condF, ws, ih (i + 1) (by omega) (by omega)]
   ·rw [dF (by omega), condF]
 rw [zh.F_eq, bneI, dT rfl, notT, condF]
 exact gl N 0 (by omega) (by omega)
theorem OkP.cut {d : Dcd} {l1 l2 : List Ev} {en : Int} (h : OkP d (l1 ++ l2) en) {n : Int} (h1 : d.2.2.2.1 <= n) (h2 : lT 0 l1 <= n) (h4 : n <= en) : OkP d l1 n := by
 have hf := h.f
 rw [<- List.append_assoc, fol_append] at hf
 have hlen := h.len
 rw [<- List.append_assoc, lA] at hlen
 have hen := h.en_
 refine ⟨h.dk, ⟨h1, by omega⟩, ?_, h2, by omega, hf.1⟩
 have := h.hd
 cases l1 with
 | nil => rfl
 | cons x r => exact this
theorem OkP.order {d : Dcd} {l1 l2 : List Ev} {en : Int} (h : OkP d (l1 ++ l2) en) : (∀ e ∈ l1 ++ l2, d.2.2.2.1 <= e.1 /\ e.1 <= en) /\ (l1 ≠ [] -> d.2.2.2.1 <= lT 0 l1 /\ lT 0 l1 <= en /\ ∀ e ∈ l2, lT 0 l1 <= e.1) := by
 have hlat := h.later
 have hf := h.f
 rw [fol_append] at hf
 have hf2 := hf.2
 have hft := fol_time _ _ _ _ hf2
 have htm := h.tm
 have hall : ∀ e ∈ l1 ++ l2, d.2.2.2.1 <= e.1 /\ e.1 <= en := by
  intro e he
  refine ⟨(hlat e he).1, ?_⟩
  have h1 := (hft e he).2.1
  have hne : l1 ++ l2 ≠ [] := fun hn => by rw [hn] at he; cases he
  rw [lT_app_ne hne _ 0] at h1
  omega
 refine ⟨hall, fun hne => ?_⟩
 rw [fol_append] at hf2
 have e1 : lT (lT 0 d.2.2.1) l1 = lT 0 l1 := lT_app_ne hne _ _
 rw [e1] at hf2
 have hlast : ∃ e ∈ l1, e.1 = lT 0 l1 := by
  have hp : 0 < l1.length := List.length_pos_iff.2 hne
  exact ⟨_, nth_mem dE l1 (l1.length - 1) (by omega), lT_last l1 0 hp⟩
 obtain ⟨e, he, ee⟩ := hlast
 have h3 := hall e (List.mem_append_left _ he)
 exact ⟨by omega, by omega, fun x hx => (fol_time _ _ _ _ hf2.2 x hx).1⟩
def upTo (d : Dcd) (l : List Ev) (n : Int) : Dcd × List Snt := runQ (ext l n d)
structure UpTo (d : Dcd) (l : List Ev) (n : Int) : Prop where
 ok : OkD (upTo d l n).1
 now : (upTo d l n).1.2.2.2.1 = n
 sm : smallD (upTo d l n).1
 len : (upTo d l n).2.length <= 1088
 rep : ∀ s ∈ (upTo d l n).2, s.2.2.length <= 56
theorem OkP.upTo {d : Dcd} {l : List Ev} {n : Int} (h : OkP d l n) : UpTo d l n := by
 have hx := h.ext
 have hq := hx.len
 obtain ⟨r1, r2, r3, r4, r5, r6, r7⟩ := run_sent _ (Kb.ext l n d) (nR _) hx
 have hsl := runQ_sent_len _ (Kb.ext l n d) (nR _) hx
 exact ⟨r1, r5, ⟨r1.eng.small, by have := r1.len; unfold Kb.upTo; omega⟩, by unfold Kb.upTo; omega, fun s hs => rpB_small (r3 s hs).2.2⟩
end Go.Kb
