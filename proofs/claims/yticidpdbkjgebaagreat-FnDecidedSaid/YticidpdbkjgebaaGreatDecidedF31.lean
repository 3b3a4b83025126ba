/- The texts of functions, printed by a program, and the equations of their runs. -/
import Derived.Test.YticidpdbkjgebaaGreatDecidedP0toP4
import Derived.Test.YticidpdbkjgebaaGreatDecidedF3toP75
import Derived.Test.YticidpdbkjgebaaGreatDecidedF4toP29
import Derived.Test.YticidpdbkjgebaaGreatDecidedP94toF8
import Derived.Test.YticidpdbkjgebaaGreatDecidedF30
import Derived.KernelRfl
namespace Go.Kb
abbrev T1_31 : Ty := .pair (.pair (.pair (.int .i64) (.list (.list (.pair (.int .i64) (.pair (.int .i64) (.pair (.int .i64) (.int .i64))))))) (.pair (.list (.list (.pair (.int .i64) (.pair (.int .i64) (.int .i64))))) (.pair (.int .i64) (.pair (.list (.pair (.int .i64) (.pair (.int .i64) (.pair (.int .i64) (.pair (.int .i64) (.int .i64)))))) (.pair (.int .i64) (.bool)))))) (.pair (.pair (.int .i64) (.pair (.int .i64) (.int .i64))) (.pair (.list (.pair (.int .i64) (.pair (.int .i64) (.bool)))) (.pair (.int .i64) (.pair (.int .i64) (.pair (.int .i64) (.int .i64))))))
abbrev zA7 : Ty := .pair (.int .i64) (.pair (.int .i64) (.pair (.int .i64) (.int .i64)))
abbrev T3_31 : Ty := .pair (.int .i64) (.pair (.int .i64) (.list (.int .i64)))
abbrev T4_31 : Ty := .pair (.pair (.int .i64) (.list (.list zA7))) (.pair (.list (.list (.pair (.int .i64) (.pair (.int .i64) (.int .i64))))) (.pair (.int .i64) (.pair (.list (.pair (.int .i64) zA7)) (.pair (.int .i64) (.bool)))))
abbrev T5_31 : Ty := .pair (.int .i64) (.pair (.int .i64) (.bool))
abbrev D6_31 : Type := (Int × List (List (Int × Int × Int × Int))) × (List (List (Int × Int × Int))) × Int × (List (Int × Int × Int × Int × Int)) × Int × Bool
abbrev zBm : Type := List (Int × Int × Int × Int)
abbrev D8_31 : Type := D6_31 × (Int × Int × Int) × (List (Int × Int × Bool)) × Int × Int × Int × Int
def yu.x : XFunc := { nslots := 13, nobj := 2, pars := [.val true 15, .val false 1], rowsIn := no 16, rets := [.var 4 true 15, .tmp 5 false 1, .tmp 6 false 1], outs := iF 17, fresh := false, arg := .pair T1_31 (.int .i64), ret := .pair T1_31 (.pair (.list T3_31) (.bool)), body := .seq (rG [ow 2 (.box 0) [.slot 0] [0] [0], ow 4 (.alloc 1 [cZ, .nil, .nil, cZ, .nil, cZ, .bool false, cZ, cZ, cZ, .nil, cZ, cZ, cZ, cZ]) [] [1] [1], op 5 .move [.const (.one (.nil))], op 6 .move [cB false]]) (.seq (rG [lU 7 15 2 0, mv 8 1, op 9 (.call ⟨222, [.val true 15, .val false 1, .val false 1], no 17, [.val true 15, .val false 1, .val false 1], ims 17, false⟩) [.slot 7, .const (.one (.nil)), .slot 8], eX 10 0 9, eX 11 1 9, eX 12 2 9, sT 15 4 10 1, mv 5 11, mv 6 12]) (.ret)) }
def yu.env (N : Nat) : Env := envOf (tbl [(222, zM.fs N)] noFS)
def yu.F (N : Nat) (x : D8_31 × Int) : Option (D8_31 × (List (Int × Int × List Int)) × Bool) := XFunc.run yu.x (yu.env N) N x
def yu.fs (N : Nat) : FS := { arg := yu.x.arg, ret := yu.x.ret, fresh := false, F := yu.F N }
theorem yu.F_eq (N : Nat) (d : D8_31) (time : Int) : yu.F N (d, time) =
bindO (zM.F N (d, (([] : List (Int × Int × Bool)), time))) fun r1 =>
some r1 := by kernel_rfl
def yz.x : XFunc := { nslots := 16, nobj := 4, pars := [.val true 15, .val true 3], rowsIn := no 18, rets := [.var 4 true 15, .tmp 5 false 1, .tmp 6 false 1], outs := iF 17, fresh := false, arg := .pair T1_31 T5_31, ret := .pair T1_31 (.pair (.list T3_31) (.bool)), body := .seq (rG [ow 2 (.box 0) [.slot 0] [0] [0], ow 3 (.box 1) [.slot 1] [1] [1], ow 4 (.alloc 2 [cZ, .nil, .nil, cZ, .nil, cZ, .bool false, cZ, cZ, cZ, .nil, cZ, cZ, cZ, cZ]) [] [2] [2], op 5 .move [.const (.one (.nil))], op 6 .move [cB false]]) (.seq (rG [lU 7 15 2 0, lU 8 3 3 1, o1 9 (.buildSlice true 3 4 T5_31 1 [(0, 3)] [cZ, cZ, .bool false]) 8, fA 10 0 3, lN 11 10 1, op 12 (.call ⟨222, [.val true 15, .val false 1, .val false 1], no 17, [.val true 15, .val false 1, .val false 1], ims 17, false⟩) (sl [7, 9, 11]), eX 13 0 12, eX 14 1 12, eX 15 2 12, sT 15 4 13 2, mv 5 14, mv 6 15]) (.ret)) }
def yz.env (N : Nat) : Env := envOf (tbl [(222, zM.fs N)] noFS)
def yz.F (N : Nat) (x : D8_31 × Int × Int × Bool) : Option (D8_31 × (List (Int × Int × List Int)) × Bool) := XFunc.run yz.x (yz.env N) N x
def yz.fs (N : Nat) : FS := { arg := yz.x.arg, ret := yz.x.ret, fresh := false, F := yz.F N }
theorem yz.F_eq (N : Nat) (d : D8_31) (e : Int × Int × Bool) : yz.F N (d, e) =
bindO (zM.F N (d, (([e] : List (Int × Int × Bool)), e.1))) fun r1 =>
some r1 := by kernel_rfl
def zw.c1 : XCode := .seq (rG [o2 14 (.bin .lss) 13 12]) (.seq (.cond (.slot 14) (.skip) (.exit 0)) (.seq (.block 1 (.seq (rG [mv 15 13, mv 5 15]) (.seq (.region true [mv 16 0, mv 17 5, o2 18 (.indexAddr T3_31) 16 17, fA 19 0 18, o1 20 (.load false 1) 19, mv 21 1, mv 22 5, o2 23 (.indexAddr T3_31) 21 22, fA 24 0 23, o1 25 (.load false 1) 24, o2 26 (.bin .neq) 20 25, sX 27 [.slot 26], gX 28 .move [.slot 0] [] [] 27 false, gX 29 .move [.slot 5] [] [] 27 false, gX 30 (.indexAddr T3_31) (sl [28, 29]) [] [] 27 false, gX 31 (.fieldAddr 1) [.slot 30] [] [] 27 false, gX 32 (.load true 2) [.slot 31] [] [] 27 false, gX 33 .move [.slot 1] [] [] 27 false, gX 34 .move [.slot 5] [] [] 27 false, gX 35 (.indexAddr T3_31) (sl [33, 34]) [] [] 27 false, gX 36 (.fieldAddr 1) [.slot 35] [] [] 27 false, gX 37 (.load true 2) [.slot 36] [] [] 27 false, ⟨some 38, .call ⟨206, [.val true 2, .val true 2], no 4, [.val false 1], ims 1, true⟩, (sl [32, 37]), [], [], some (27, false), false, .none⟩, gX 39 .not [.slot 38] [] [] 27 false, op 40 .pick [.slot 27, cB true, .slot 39]]) (.cond (.slot 40) (.seq (rG [op 4 .move [cB false]]) (.ret)) (.skip))))) (rG [op 41 (.bin .add) [.slot 13, cI 1], mv 13 41])))
def zw.c2 : XCode := .seq (rG [op 4 .move [cB true]]) (.ret)
def zw.x : XFunc := { nslots := 42, nobj := 0, pars := [.val false 1, .val false 1], rowsIn := no 2, rets := [.tmp 4 false 1], outs := [.imm], fresh := true, arg := .pair (.list T3_31) (.list T3_31), ret := .bool, body := .seq (rG [op 4 .move [cB false]]) (.seq (.seq (rG [mv 6 0, o1 7 .len 6, mv 8 1, o1 9 .len 8, o2 10 (.bin .neq) 7 9]) (.cond (.slot 10) (.seq (rG [op 4 .move [cB false]]) (.ret)) (.skip))) (.seq (.seq (rG [mv 11 0, o1 12 .len 11, op 13 .move [cI 0]]) (.block 0 (.loop [.keep [0, 1, 12, 13], .norm] (zw.c1)))) (zw.c2))) }
def zw.env (N : Nat) : Env := envOf (tbl [(206, yQ.fs N)] noFS)
def zw.F (N : Nat) (x : (List (Int × Int × List Int)) × List (Int × Int × List Int)) : Option Bool := XFunc.run zw.x (zw.env N) N x
def zw.fs (N : Nat) : FS := { arg := zw.x.arg, ret := zw.x.ret, fresh := true, F := zw.F N }
def zw.k2 (N : Nat) : Ex -> S -> Option Bool := seqK (fun s => XCode.runK (zw.env N) N (zw.c2) s (XFunc.endK zw.x)) (XFunc.endK zw.x)
def zw.k1 (N : Nat) : Ex -> S -> Option Bool := y2 0 (zw.k2 N)
def zw.L1 (N : Nat) (n1 : Nat) (a : List (Int × Int × List Int)) (b : List (Int × Int × List Int)) (t12 : Int) (t13 : Int) : Option Bool := loopK [.keep [0, 1, 12, 13], .norm] (fun s k => XCode.runK (zw.env N) N zw.c1 s k) n1
 { t := jK 42 [(0, .one (.sl false T3_31 a)), (1, .one (.sl false T3_31 b)), (12, .one (.int .i64 t12)), (13, .one (.int .i64 t13))], h := [] }
 (zw.k1 N)
theorem zw.L1_eq (N : Nat) (n1 : Nat) (a : List (Int × Int × List Int)) (b : List (Int × Int × List Int)) (t12 : Int) (t13 : Int) : zw.L1 N (n1 + 1) a b t12 t13 =
bif decide (t13 < t12) then
bif zP t13 (a.length) then
bif zP t13 (b.length) then
bif ((nth (0, (0, ([] : List Int))) a t13).1) != ((nth (0, (0, ([] : List Int))) b t13).1) then
some false
else
bif zP t13 (a.length) then
bif zP t13 (b.length) then
bindO (yQ.F N (((nth (0, (0, ([] : List Int))) a t13).2), ((nth (0, (0, ([] : List Int))) b t13).2))) fun r1 =>
bif !r1 then
some false
else
zw.L1 N n1 a b t12 (IntKind.wrap .i64 (t13 + 1))
else none
else none
else none
else none
else
some true := by kernel_rfl
theorem zw.F_eq (N : Nat) (a : List (Int × Int × List Int)) (b : List (Int × Int × List Int)) : zw.F N (a, b) =
bif (a.length : Int) != (b.length : Int) then
some false
else
zw.L1 N N a b (a.length : Int) 0 := by kernel_rfl
def zO.c1 : XCode := .seq (.seq (rG [mv 41 6, fA 42 1 2, lN 43 42 0, mv 44 5, o2 45 (.indexAddr (.list zA7)) 43 44, o1 46 (.load false 1) 45, o1 47 .len 46, o2 48 (.bin .lss) 41 47]) (.cond (.slot 48) (.skip) (.exit 2))) (.seq (.block 3 (.seq (.region true [fA 51 1 2, lN 52 51 0, mv 53 5, o2 54 (.indexAddr (.list zA7)) 52 53, o1 55 (.load false 1) 54, mv 56 6, o2 57 (.indexAddr zA7) 55 56, o1 58 (.load true 4) 57, fA 59 1 3, lN 60 59 1, mv 61 5, o2 62 (.indexAddr (.list zA7)) 60 61, o1 63 (.load false 1) 62, mv 64 6, o2 65 (.indexAddr zA7) 63 64, o1 66 (.load true 4) 65, o2 67 (.eqAgg true zA7) 58 66]) (.cond (.slot 67) (.seq (rG [op 4 .move [cB false]]) (.ret)) (.skip)))) (rG [mv 49 6, op 50 (.bin .add) [.slot 49, cI 1], mv 6 50]))
def zO.c2 : XCode := rG [mv 26 5, op 27 (.bin .add) [.slot 26, cI 1], mv 5 27]
def zO.c3 : XCode := .seq (.seq (rG [mv 21 5, fA 22 1 2, lN 23 22 0, o1 24 .len 23, o2 25 (.bin .lss) 21 24]) (.cond (.slot 25) (.skip) (.exit 0))) (.seq (.block 1 (.seq (.seq (.region true [fA 28 1 2, lN 29 28 0, mv 30 5, o2 31 (.indexAddr (.list zA7)) 29 30, o1 32 (.load false 1) 31, o1 33 .len 32, fA 34 1 3, lN 35 34 1, mv 36 5, o2 37 (.indexAddr (.list zA7)) 35 36, o1 38 (.load false 1) 37, o1 39 .len 38, o2 40 (.bin .neq) 33 39]) (.cond (.slot 40) (.seq (rG [op 4 .move [cB false]]) (.ret)) (.skip))) (.seq (rG [op 6 .move [cI 0]]) (.block 2 (.loop [.keep [2, 3, 5, 6], .norm] (zO.c1)))))) (zO.c2))
def zO.c4 : XCode := .seq (rG [op 4 .move [cB true]]) (.ret)
def zO.x : XFunc := { nslots := 68, nobj := 2, pars := [.val true 2, .val true 2], rowsIn := no 4, rets := [.tmp 4 false 1], outs := [.imm], fresh := true, arg := .pair (.pair (.int .i64) (.list (.list zA7))) (.pair (.int .i64) (.list (.list zA7))), ret := .bool, body := .seq (rG [ow 2 (.box 0) [.slot 0] [0] [0], ow 3 (.box 1) [.slot 1] [1] [1], op 4 .move [cB false]]) (.seq (.seq (rG [fA 7 0 2, lN 8 7 0, fA 9 0 3, lN 10 9 1, o2 11 (.bin .neq) 8 10, sX 12 [.slot 11], gX 13 (.fieldAddr 1) [.slot 2] [] [] 12 false, gX 14 (.load false 1) [.slot 13] [0] [] 12 false, gX 15 .len [.slot 14] [] [] 12 false, gX 16 (.fieldAddr 1) [.slot 3] [] [] 12 false, gX 17 (.load false 1) [.slot 16] [1] [] 12 false, gX 18 .len [.slot 17] [] [] 12 false, gX 19 (.bin .neq) (sl [15, 18]) [] [] 12 false, op 20 .pick [.slot 12, cB true, .slot 19]]) (.cond (.slot 20) (.seq (rG [op 4 .move [cB false]]) (.ret)) (.skip))) (.seq (.seq (rG [op 5 .move [cI 0]]) (.block 0 (.loop [.keep [2, 3, 5], .norm] (zO.c3)))) (zO.c4))) }
def zO.env (_ : Nat) : Env := envOf (tbl [] noFS)
def zO.F (N : Nat) (x : (Int × List zBm) × Int × List zBm) : Option Bool := XFunc.run zO.x (zO.env N) N x
def zO.fs (N : Nat) : FS := { arg := zO.x.arg, ret := zO.x.ret, fresh := true, F := zO.F N }
def zO.k2 (N : Nat) : Ex -> S -> Option Bool := seqK (fun s => XCode.runK (zO.env N) N (zO.c4) s (XFunc.endK zO.x)) (XFunc.endK zO.x)
def zO.k1 (N : Nat) : Ex -> S -> Option Bool := y2 0 (zO.k2 N)
def zO.k6 (N : Nat) (n1 : Nat) : Ex -> S -> Option Bool := seqK (fun s => bindO (S.ghosts s [.keep [2, 3, 5], .norm]) fun s1 => loopK [.keep [2, 3, 5], .norm] (fun s k => XCode.runK (zO.env N) N zO.c3 s k) n1 s1 (zO.k1 N)) (zO.k1 N)
def zO.k5 (N : Nat) (n1 : Nat) : Ex -> S -> Option Bool := seqK (fun s => XCode.runK (zO.env N) N (zO.c2) s (zO.k6 N n1)) (zO.k6 N n1)
def zO.k4 (N : Nat) (n1 : Nat) : Ex -> S -> Option Bool := y2 1 (zO.k5 N n1)
def zO.k3 (N : Nat) (n1 : Nat) : Ex -> S -> Option Bool := y2 2 (zO.k4 N n1)
def zO.L1 (N : Nat) (n1 : Nat) (i : Int) (o00 : Int) (o01 : List zBm) (o10 : Int) (o11 : List zBm) : Option Bool := loopK [.keep [2, 3, 5], .norm] (fun s k => XCode.runK (zO.env N) N zO.c3 s k) n1
 { t := jK 68 [(2, .one (.ptr 0 0 0)), (3, .one (.ptr 1 0 0)), (5, .one (.int .i64 i))], h := [.box 0 false [.int .i64 o00, .sl false (.list zA7) o01], .box 0 false [.int .i64 o10, .sl false (.list zA7) o11]] }
 (zO.k1 N)
def zO.L2 (N : Nat) (n1 : Nat) (n2 : Nat) (i : Int) (k_ : Int) (o00 : Int) (o01 : List zBm) (o10 : Int) (o11 : List zBm) : Option Bool := loopK [.keep [2, 3, 5, 6], .norm] (fun s k => XCode.runK (zO.env N) N zO.c1 s k) n2
 { t := jK 68 [(2, .one (.ptr 0 0 0)), (3, .one (.ptr 1 0 0)), (5, .one (.int .i64 i)), (6, .one (.int .i64 k_))], h := [.box 0 false [.int .i64 o00, .sl false (.list zA7) o01], .box 0 false [.int .i64 o10, .sl false (.list zA7) o11]] }
 (zO.k3 N n1)
theorem zO.L1_eq (N : Nat) (n1 : Nat) (i : Int) (o00 : Int) (o01 : List zBm) (o10 : Int) (o11 : List zBm) : zO.L1 N (n1 + 1) i o00 o01 o10 o11 =
bif decide (i < (o01.length : Int)) then
bif zP i (o01.length) then
bif zP i (o11.length) then
bif (List.length (nth ([] : List (Int × Int × Int × Int)) o01 i) : Int) != (List.length (nth ([] : List (Int × Int × Int × Int)) o11 i) : Int) then
some false
else
zO.L2 N n1 N i 0 o00 o01 o10 o11
else none
else none
else
some true := by kernel_rfl
theorem zO.L2_eq (N : Nat) (n1 : Nat) (n2 : Nat) (i : Int) (k_ : Int) (o00 : Int) (o01 : List zBm) (o10 : Int) (o11 : List zBm) : zO.L2 N n1 (n2 + 1) i k_ o00 o01 o10 o11 =
bif zP i (o01.length) then
bif decide (k_ < (List.length (nth ([] : List (Int × Int × Int × Int)) o01 i) : Int)) then
bif zP i (o01.length) then
bif zP k_ (List.length (nth ([] : List (Int × Int × Int × Int)) o01 i)) then
bif zP i (o11.length) then
bif zP k_ (List.length (nth ([] : List (Int × Int × Int × Int)) o11 i)) then
bif !((((nth (0, (0, (0, 0))) (nth ([] : List (Int × Int × Int × Int)) o01 i) k_).1) == ((nth (0, (0, (0, 0))) (nth ([] : List (Int × Int × Int × Int)) o11 i) k_).1)) && (((((nth (0, (0, (0, 0))) (nth ([] : List (Int × Int × Int × Int)) o01 i) k_).2).1) == (((nth (0, (0, (0, 0))) (nth ([] : List (Int × Int × Int × Int)) o11 i) k_).2).1)) && ((((((nth (0, (0, (0, 0))) (nth ([] : List (Int × Int × Int × Int)) o01 i) k_).2).2).1) == ((((nth (0, (0, (0, 0))) (nth ([] : List (Int × Int × Int × Int)) o11 i) k_).2).2).1)) && (((((nth (0, (0, (0, 0))) (nth ([] : List (Int × Int × Int × Int)) o01 i) k_).2).2).2) == ((((nth (0, (0, (0, 0))) (nth ([] : List (Int × Int × Int × Int)) o11 i) k_).2).2).2))))) then
some false
else
zO.L2 N n1 n2 i (IntKind.wrap .i64 (k_ + 1)) o00 o01 o10 o11
else none
else none
else none
else none
else
zO.L1 N n1 (IntKind.wrap .i64 (i + 1)) o00 o01 o10 o11
else none := by kernel_rfl
theorem zO.F_eq (N : Nat) (a : Int × List zBm) (b : Int × List zBm) : zO.F N (a, b) =
bif a.1 != b.1 then
some false
else
bif (List.length a.2 : Int) != (List.length b.2 : Int) then
some false
else
zO.L1 N N 0 a.1 a.2 b.1 b.2 := by kernel_rfl
def zu.c1 : XCode := .seq (.seq (rG [mv 11 5, mv 12 0, o1 13 .len 12, o2 14 (.bin .lss) 11 13]) (.cond (.slot 14) (.skip) (.exit 0))) (.seq (.block 1 (.seq (.region true [mv 17 0, mv 18 5, o2 19 (.indexAddr (.pair (.int .i64) zA7)) 17 18, o1 20 (.load true 5) 19, mv 21 1, mv 22 5, o2 23 (.indexAddr (.pair (.int .i64) zA7)) 21 22, o1 24 (.load true 5) 23, o2 25 (.eqAgg true (.pair (.int .i64) zA7)) 20 24]) (.cond (.slot 25) (.seq (rG [op 4 .move [cB false]]) (.ret)) (.skip)))) (rG [mv 15 5, op 16 (.bin .add) [.slot 15, cI 1], mv 5 16]))
def zu.c2 : XCode := .seq (rG [op 4 .move [cB true]]) (.ret)
def zu.x : XFunc := { nslots := 26, nobj := 0, pars := [.val false 1, .val false 1], rowsIn := no 2, rets := [.tmp 4 false 1], outs := [.imm], fresh := true, arg := .pair (.list (.pair (.int .i64) zA7)) (.list (.pair (.int .i64) zA7)), ret := .bool, body := .seq (rG [op 4 .move [cB false]]) (.seq (.seq (rG [mv 6 0, o1 7 .len 6, mv 8 1, o1 9 .len 8, o2 10 (.bin .neq) 7 9]) (.cond (.slot 10) (.seq (rG [op 4 .move [cB false]]) (.ret)) (.skip))) (.seq (.seq (rG [op 5 .move [cI 0]]) (.block 0 (.loop [.keep [0, 1, 5], .norm] (zu.c1)))) (zu.c2))) }
def zu.env (_ : Nat) : Env := envOf (tbl [] noFS)
def zu.F (N : Nat) (x : (List (Int × Int × Int × Int × Int)) × List (Int × Int × Int × Int × Int)) : Option Bool := XFunc.run zu.x (zu.env N) N x
def zu.fs (N : Nat) : FS := { arg := zu.x.arg, ret := zu.x.ret, fresh := true, F := zu.F N }
def zu.k2 (N : Nat) : Ex -> S -> Option Bool := seqK (fun s => XCode.runK (zu.env N) N (zu.c2) s (XFunc.endK zu.x)) (XFunc.endK zu.x)
def zu.k1 (N : Nat) : Ex -> S -> Option Bool := y2 0 (zu.k2 N)
def zu.L1 (N : Nat) (n1 : Nat) (a : List (Int × Int × Int × Int × Int)) (b : List (Int × Int × Int × Int × Int)) (i : Int) : Option Bool := loopK [.keep [0, 1, 5], .norm] (fun s k => XCode.runK (zu.env N) N zu.c1 s k) n1
 { t := jK 26 [(0, .one (.sl false (.pair (.int .i64) zA7) a)), (1, .one (.sl false (.pair (.int .i64) zA7) b)), (5, .one (.int .i64 i))], h := [] }
 (zu.k1 N)
theorem zu.L1_eq (N : Nat) (n1 : Nat) (a : List (Int × Int × Int × Int × Int)) (b : List (Int × Int × Int × Int × Int)) (i : Int) : zu.L1 N (n1 + 1) a b i =
bif decide (i < (a.length : Int)) then
bif zP i (a.length) then
bif zP i (b.length) then
bif !((((nth (0, (0, (0, (0, 0)))) a i).1) == ((nth (0, (0, (0, (0, 0)))) b i).1)) && (((((nth (0, (0, (0, (0, 0)))) a i).2).1) == (((nth (0, (0, (0, (0, 0)))) b i).2).1)) && ((((((nth (0, (0, (0, (0, 0)))) a i).2).2).1) == ((((nth (0, (0, (0, (0, 0)))) b i).2).2).1)) && (((((((nth (0, (0, (0, (0, 0)))) a i).2).2).2).1) == (((((nth (0, (0, (0, (0, 0)))) b i).2).2).2).1)) && ((((((nth (0, (0, (0, (0, 0)))) a i).2).2).2).2) == (((((nth (0, (0, (0, (0, 0)))) b i).2).2).2).2)))))) then
some false
else
zu.L1 N n1 a b (IntKind.wrap .i64 (i + 1))
else none
else none
else
some true := by kernel_rfl
theorem zu.F_eq (N : Nat) (a : List (Int × Int × Int × Int × Int)) (b : List (Int × Int × Int × Int × Int)) : zu.F N (a, b) =
bif (a.length : Int) != (b.length : Int) then
some false
else
zu.L1 N N a b 0 := by kernel_rfl
def yk.x : XFunc := { nslots := 47, nobj := 2, pars := [.val true 7, .val true 7], rowsIn := no 14, rets := [.tmp 4 false 1], outs := [.imm], fresh := true, arg := .pair T4_31 T4_31, ret := .bool, body := .seq (rG [ow 2 (.box 0) [.slot 0] [0] [0], ow 3 (.box 1) [.slot 1] [1] [1], op 4 .move [cB false]]) (.seq (rG [fA 5 0 2, lU 6 2 5 0, fA 7 0 3, lU 8 2 7 1, o2 9 (.call ⟨226, [.val true 2, .val true 2], no 4, [.val false 1], ims 1, true⟩) 6 8, sX 10 [.slot 9], gX 11 (.fieldAddr 2) [.slot 2] [] [] 10 true, gX 12 (.load false 1) [.slot 11] [0] [] 10 true, gX 13 .len [.slot 12] [] [] 10 true, gX 14 (.fieldAddr 2) [.slot 3] [] [] 10 true, gX 15 (.load false 1) [.slot 14] [1] [] 10 true, gX 16 .len [.slot 15] [] [] 10 true, gX 17 (.bin .eql) (sl [13, 16]) [] [] 10 true, op 18 .pick [.slot 10, .slot 17, cB false], sX 19 [.slot 18], gX 20 (.fieldAddr 3) [.slot 2] [] [] 19 true, gX 21 (.load false 1) [.slot 20] [0] [] 19 true, gX 22 (.fieldAddr 3) [.slot 3] [] [] 19 true, gX 23 (.load false 1) [.slot 22] [1] [] 19 true, gX 24 (.bin .eql) (sl [21, 23]) [] [] 19 true, op 25 .pick [.slot 19, .slot 24, cB false], sX 26 [.slot 25], gX 27 (.fieldAddr 5) [.slot 2] [] [] 26 true, gX 28 (.load false 1) [.slot 27] [0] [] 26 true, gX 29 (.fieldAddr 5) [.slot 3] [] [] 26 true, gX 30 (.load false 1) [.slot 29] [1] [] 26 true, gX 31 (.bin .eql) (sl [28, 30]) [] [] 26 true, op 32 .pick [.slot 26, .slot 31, cB false], sX 33 [.slot 32], gX 34 (.fieldAddr 6) [.slot 2] [] [] 33 true, gX 35 (.load false 1) [.slot 34] [0] [] 33 true, gX 36 (.fieldAddr 6) [.slot 3] [] [] 33 true, gX 37 (.load false 1) [.slot 36] [1] [] 33 true, gX 38 (.eqBool false) (sl [35, 37]) [] [] 33 true, op 39 .pick [.slot 33, .slot 38, cB false], sX 40 [.slot 39], gX 41 (.fieldAddr 4) [.slot 2] [] [] 40 true, gX 42 (.load false 1) [.slot 41] [0] [] 40 true, gX 43 (.fieldAddr 4) [.slot 3] [] [] 40 true, gX 44 (.load false 1) [.slot 43] [1] [] 40 true, ⟨some 45, .call ⟨227, vs 2, no 2, [.val false 1], ims 1, true⟩, (sl [42, 44]), [], [], some (40, true), false, .none⟩, op 46 .pick [.slot 40, .slot 45, cB false], mv 4 46]) (.ret)) }
def yk.env (N : Nat) : Env := envOf (tbl [(227, zu.fs N), (226, zO.fs N)] noFS)
def yk.F (N : Nat) (x : D6_31 × (Int × List zBm) × (List (List (Int × Int × Int))) × Int × (List (Int × Int × Int × Int × Int)) × Int × Bool) : Option Bool := XFunc.run yk.x (yk.env N) N x
def yk.fs (N : Nat) : FS := { arg := yk.x.arg, ret := yk.x.ret, fresh := true, F := yk.F N }
theorem yk.F_eq (N : Nat) (a : (Int × List zBm) × (List (List (Int × Int × Int))) × Int × (List (Int × Int × Int × Int × Int)) × Int × Bool) (b : (Int × List zBm) × (List (List (Int × Int × Int))) × Int × (List (Int × Int × Int × Int × Int)) × Int × Bool) : yk.F N (a, b) =
bindO (zO.F N (a.1, b.1)) fun r1 =>
bif r1 then
bif (List.length a.2.1 : Int) == (List.length b.2.1 : Int) then
bif a.2.2.1 == b.2.2.1 then
bif a.2.2.2.2.1 == b.2.2.2.2.1 then
bif a.2.2.2.2.2 == b.2.2.2.2.2 then
bindO (zu.F N (a.2.2.2.1, b.2.2.2.1)) fun r2 =>
some r2
else
some false
else
some false
else
some false
else
some false
else
some false := by kernel_rfl
def yb.x : XFunc := { nslots := 52, nobj := 2, pars := [.val true 15, .val true 15], rowsIn := no 30, rets := [.tmp 4 false 1], outs := [.imm], fresh := true, arg := .pair T1_31 T1_31, ret := .bool, body := .seq (rG [ow 2 (.box 0) [.slot 0] [0] [0], ow 3 (.box 1) [.slot 1] [1] [1], op 4 .move [cB false]]) (.seq (rG [fA 5 0 2, lU 6 7 5 0, fA 7 0 3, lU 8 7 7 1, o2 9 (.call ⟨228, [.val true 7, .val true 7], no 14, [.val false 1], ims 1, true⟩) 6 8, sX 10 [.slot 9], gX 11 (.fieldAddr 7) [.slot 2] [] [] 10 true, gX 12 (.load true 3) [.slot 11] [0] [] 10 true, gX 13 (.fieldAddr 7) [.slot 3] [] [] 10 true, gX 14 (.load true 3) [.slot 13] [1] [] 10 true, gX 15 (.eqAgg false (.pair (.int .i64) (.pair (.int .i64) (.int .i64)))) (sl [12, 14]) [] [] 10 true, op 16 .pick [.slot 10, .slot 15, cB false], sX 17 [.slot 16], gX 18 (.fieldAddr 10) [.slot 2] [] [] 17 true, gX 19 (.load false 1) [.slot 18] [0] [] 17 true, gX 20 (.fieldAddr 10) [.slot 3] [] [] 17 true, gX 21 (.load false 1) [.slot 20] [1] [] 17 true, ⟨some 22, .call ⟨84, vs 2, no 2, [.val false 1], ims 1, true⟩, (sl [19, 21]), [], [], some (17, true), false, .none⟩, op 23 .pick [.slot 17, .slot 22, cB false], sX 24 [.slot 23], gX 25 (.fieldAddr 11) [.slot 2] [] [] 24 true, gX 26 (.load false 1) [.slot 25] [0] [] 24 true, gX 27 (.fieldAddr 11) [.slot 3] [] [] 24 true, gX 28 (.load false 1) [.slot 27] [1] [] 24 true, gX 29 (.bin .eql) (sl [26, 28]) [] [] 24 true, op 30 .pick [.slot 24, .slot 29, cB false], sX 31 [.slot 30], gX 32 (.fieldAddr 12) [.slot 2] [] [] 31 true, gX 33 (.load false 1) [.slot 32] [0] [] 31 true, gX 34 (.fieldAddr 12) [.slot 3] [] [] 31 true, gX 35 (.load false 1) [.slot 34] [1] [] 31 true, gX 36 (.bin .eql) (sl [33, 35]) [] [] 31 true, op 37 .pick [.slot 31, .slot 36, cB false], sX 38 [.slot 37], gX 39 (.fieldAddr 13) [.slot 2] [] [] 38 true, gX 40 (.load false 1) [.slot 39] [0] [] 38 true, gX 41 (.fieldAddr 13) [.slot 3] [] [] 38 true, gX 42 (.load false 1) [.slot 41] [1] [] 38 true, gX 43 (.bin .eql) (sl [40, 42]) [] [] 38 true, op 44 .pick [.slot 38, .slot 43, cB false], sX 45 [.slot 44], gX 46 (.fieldAddr 14) [.slot 2] [] [] 45 true, gX 47 (.load false 1) [.slot 46] [0] [] 45 true, gX 48 (.fieldAddr 14) [.slot 3] [] [] 45 true, gX 49 (.load false 1) [.slot 48] [1] [] 45 true, gX 50 (.bin .eql) (sl [47, 49]) [] [] 45 true, op 51 .pick [.slot 45, .slot 50, cB false], mv 4 51]) (.ret)) }
def yb.env (N : Nat) : Env := envOf (tbl [(228, yk.fs N), (84, zd.fs N)] noFS)
def yb.F (N : Nat) (x : D8_31 × D6_31 × (Int × Int × Int) × (List (Int × Int × Bool)) × Int × Int × Int × Int) : Option Bool := XFunc.run yb.x (yb.env N) N x
def yb.fs (N : Nat) : FS := { arg := yb.x.arg, ret := yb.x.ret, fresh := true, F := yb.F N }
theorem yb.F_eq (N : Nat) (a : D8_31) (b : D8_31) : yb.F N (a, b) =
bindO (yk.F N (a.1, b.1)) fun r1 =>
bif r1 then
bif (a.2.1.1 == b.2.1.1) && ((a.2.1.2.1 == b.2.1.2.1) && (a.2.1.2.2 == b.2.1.2.2)) then
bindO (zd.F N (a.2.2.1, b.2.2.1)) fun r2 =>
bif r2 then
bif a.2.2.2.1 == b.2.2.2.1 then
bif a.2.2.2.2.1 == b.2.2.2.2.1 then
bif a.2.2.2.2.2.1 == b.2.2.2.2.2.1 then
some (a.2.2.2.2.2.2 == b.2.2.2.2.2.2)
else
some false
else
some false
else
some false
else
some false
else
some false
else
some false := by kernel_rfl
def laws_FnDecided.c1 : XCode := .seq (.seq (rG [mv 47 11, mv 48 4, o1 49 .len 48, o2 50 (.bin .lss) 47 49]) (.cond (.slot 50) (.skip) (.exit 0))) (.seq (.block 1 (.seq (.region true [fA 53 11 9, lN 54 53 2, mv 55 0, mv 56 11, op 57 (.bin .add) [cI 20, .slot 56], mv 58 4, mv 59 11, o2 60 (.indexAddr T5_31) 58 59, fA 61 0 60, o1 62 (.load false 1) 61, fA 63 11 9, lN 64 63 2, o2 65 (.bin .sub) 62 64, op 66 (.bin .add) [.slot 65, cI 1], op 67 (.call ⟨81, vs 3, no 3, [.val false 1], ims 1, true⟩) (sl [55, 57, 66]), o2 68 (.bin .add) 54 67, mv 12 68]) (.seq (rG [lU 70 15 9 2, mv 71 12, o2 72 (.call ⟨343, [.val true 15, .val false 1], no 16, [.val true 15, .val false 1, .val false 1], ims 17, false⟩) 70 71, mv 69 72, eX 73 0 69, eX 74 1 69, eX 75 2 69, ow 13 (.alloc 4 [cZ, .nil, .nil, cZ, .nil, cZ, .bool false, cZ, cZ, cZ, .nil, cZ, cZ, cZ, cZ]) [] [4] [4], sT 15 13 73 4, mv 14 74, mv 15 75]) (.seq (.region true [lU 77 15 13 4, mv 78 4, mv 79 11, o2 80 (.indexAddr T5_31) 78 79, o1 81 (.load true 3) 80, o2 82 (.call ⟨344, [.val true 15, .val true 3], no 18, [.val true 15, .val false 1, .val false 1], ims 17, false⟩) 77 81, mv 76 82, eX 83 0 76, eX 84 1 76, eX 85 2 76, ow 16 (.alloc 5 [cZ, .nil, .nil, cZ, .nil, cZ, .bool false, cZ, cZ, cZ, .nil, cZ, cZ, cZ, cZ]) [] [5] [5], sT 15 16 83 5, mv 17 84, mv 18 85]) (.seq (.seq (rG [mv 86 15, o1 87 .not 86, sX 88 [.slot 87], gX 89 .move [.slot 18] [] [] 88 false, gX 90 .not [.slot 89] [] [] 88 false, op 91 .pick [.slot 88, cB true, .slot 90]]) (.cond (.slot 91) (.seq (rG [op 2 .move [cB false]]) (.ret)) (.skip))) (.seq (rG [mv 92 10, mv 93 14, ow 94 (.append false 3 13 T3_31) (sl [92, 93]) [3] [3], mv 95 17, ow 96 (.append false 3 13 T3_31) (sl [94, 95]) [3] [3], mv 10 96]) (rG [lU 97 15 16 5, sT 15 9 97 2]))))))) (rG [mv 51 11, op 52 (.bin .add) [.slot 51, cI 1], mv 11 52]))
def laws_FnDecided.c2 : XCode := .seq (rG [lU 99 15 9 2, mv 100 5, o2 101 (.call ⟨343, [.val true 15, .val false 1], no 16, [.val true 15, .val false 1, .val false 1], ims 17, false⟩) 99 100, mv 98 101, eX 102 0 98, eX 103 1 98, eX 104 2 98, ow 19 (.alloc 6 [cZ, .nil, .nil, cZ, .nil, cZ, .bool false, cZ, cZ, cZ, .nil, cZ, cZ, cZ, cZ]) [] [6] [6], sT 15 19 102 6, mv 20 103, mv 21 104]) (.seq (rG [mv 105 10, mv 106 20, ow 107 (.append false 3 13 T3_31) (sl [105, 106]) [3] [3], mv 10 107]) (.seq (rG [mv 108 21, sX 109 [.slot 108], gX 110 .move [.slot 10] [] [] 109 true, gX 111 .move [.slot 7] [] [] 109 true, ⟨some 112, .call ⟨225, vs 2, no 2, [.val false 1], ims 1, true⟩, (sl [110, 111]), [3], [], some (109, true), false, .none⟩, op 113 .pick [.slot 109, .slot 112, cB false], sX 114 [.slot 113], gX 115 (.load true 15) [.slot 19] [6] [] 114 true, gX 116 (.load true 15) [.slot 6] [1] [] 114 true, ⟨some 117, .call ⟨345, [.val true 15, .val true 15], no 30, [.val false 1], ims 1, true⟩, (sl [115, 116]), [], [], some (114, true), false, .none⟩, op 118 .pick [.slot 114, .slot 117, cB false], mv 2 118]) (.ret)))
def laws_FnDecided.x : XFunc := { nslots := 119, nobj := 7, pars := [.val false 1], rowsIn := [none], rets := [.tmp 2 false 1], outs := [.imm], fresh := true, arg := .list (.int .u8), ret := .bool, body := .seq (rG [op 2 .move [cB false]]) (.seq (.seq (rG [mv 22 0, o1 23 (.call ⟨31, vs 1, no 1, [.val false 1], ims 1, true⟩) 22]) (.cond (.slot 23) (.seq (rG [op 2 .move [cB true]]) (.ret)) (.skip))) (.seq (rG [mv 25 0, o1 26 (.call ⟨323, vs 1, no 1, [.val true 15, .val false 1, .val false 1], ims 17, false⟩) 25, mv 24 26, eX 27 0 24, eX 28 1 24, eX 29 2 24, ow 3 (.alloc 0 [cZ, .nil, .nil, cZ, .nil, cZ, .bool false, cZ, cZ, cZ, .nil, cZ, cZ, cZ, cZ]) [] [0] [0], sT 15 3 27 0, mv 4 28, mv 5 29]) (.seq (rG [lU 31 15 3 0, mv 32 4, mv 33 5, op 34 (.call ⟨222, [.val true 15, .val false 1, .val false 1], no 17, [.val true 15, .val false 1, .val false 1], ims 17, false⟩) (sl [31, 32, 33]), mv 30 34, eX 35 0 30, eX 36 1 30, eX 37 2 30, ow 6 (.alloc 1 [cZ, .nil, .nil, cZ, .nil, cZ, .bool false, cZ, cZ, cZ, .nil, cZ, cZ, cZ, cZ]) [] [1] [1], sT 15 6 35 1, mv 7 36, mv 8 37]) (.seq (.seq (rG [mv 38 8, o1 39 .not 38, sX 40 [.slot 39], gX 41 (.load true 15) [.slot 6] [1] [] 40 false, ⟨some 42, .call ⟨174, [.val true 15], no 15, [.val false 1], ims 1, true⟩, [.slot 41], [], [], some (40, false), false, .none⟩, gX 43 .not [.slot 42] [] [] 40 false, op 44 .pick [.slot 40, cB true, .slot 43]]) (.cond (.slot 44) (.seq (rG [op 2 .move [cB false]]) (.ret)) (.skip))) (.seq (rG [lU 45 15 3 0, ow 9 (.alloc 2 [cZ, .nil, .nil, cZ, .nil, cZ, .bool false, cZ, cZ, cZ, .nil, cZ, cZ, cZ, cZ]) [] [2] [2], sT 15 9 45 2]) (.seq (rG [ow 46 (.buildSlice false 3 13 T3_31 0 [] [cZ, cZ, .nil]) [] [3] [3], mv 10 46]) (.seq (.seq (rG [op 11 .move [cI 0]]) (.block 0 (.loop [.keep [0, 4, 5, 6, 7, 9, 10, 11], .drop 0, .drop 4, .drop 5, .drop 6, .weak, .norm] (laws_FnDecided.c1)))) (laws_FnDecided.c2)))))))) }
def laws_FnDecided.env (N : Nat) : Env := envOf (tbl [(344, yz.fs N), (174, yc.fs N), (222, zM.fs N), (225, zw.fs N), (343, yu.fs N), (31, zAl.fs N), (345, yb.fs N), (323, ya.fs N), (81, yi.fs N)] noFS)
def laws_FnDecided.F (N : Nat) (x : List Int) : Option Bool := XFunc.run laws_FnDecided.x (laws_FnDecided.env N) N x
def laws_FnDecided.fs (N : Nat) : FS := { arg := laws_FnDecided.x.arg, ret := laws_FnDecided.x.ret, fresh := true, F := laws_FnDecided.F N }
def laws_FnDecided.k2 (N : Nat) : Ex -> S -> Option Bool := seqK (fun s => XCode.runK (laws_FnDecided.env N) N (laws_FnDecided.c2) s (XFunc.endK laws_FnDecided.x)) (XFunc.endK laws_FnDecided.x)
def laws_FnDecided.k1 (N : Nat) : Ex -> S -> Option Bool := y2 0 (laws_FnDecided.k2 N)
def laws_FnDecided.L1 (N : Nat) (n1 : Nat) (code : List Int) (l_ : List (Int × Int × Bool)) (end_ : Int) (all : List (Int × Int × List Int)) (i : Int) (o10 : Int) (o11 : List zBm) (o12 : List (List (Int × Int × Int))) (o13 : Int) (o14 : List (Int × Int × Int × Int × Int)) (o15 : Int) (o16 : Bool) (o17 : Int) (o18 : Int) (o19 : Int) (o110 : List (Int × Int × Bool)) (o111 : Int) (o112 : Int) (o113 : Int) (o114 : Int) (o20 : Int) (o21 : List zBm) (o22 : List (List (Int × Int × Int))) (o23 : Int) (o24 : List (Int × Int × Int × Int × Int)) (o25 : Int) (o26 : Bool) (o27 : Int) (o28 : Int) (o29 : Int) (o210 : List (Int × Int × Bool)) (o211 : Int) (o212 : Int) (o213 : Int) (o214 : Int) (o3 : List (Int × Int × List Int)) : Option Bool := loopK [.keep [0, 4, 5, 6, 7, 9, 10, 11], .drop 0, .drop 4, .drop 5, .drop 6, .weak, .norm] (fun s k => XCode.runK (laws_FnDecided.env N) N laws_FnDecided.c1 s k) n1
 { t := jK 119 [(0, .one (.sl false (.int .u8) code)), (4, .one (.sl false T5_31 l_)), (5, .one (.int .i64 end_)), (6, .one (.ptr 1 0 0)), (7, .one (.sl false T3_31 all)), (9, .one (.ptr 2 0 0)), (10, .one (.ref 3 0 .all)), (11, .one (.int .i64 i))], h := [.absent 0, .box 0 false [.int .i64 o10, .sl false (.list zA7) o11, .sl false (.list (.pair (.int .i64) (.pair (.int .i64) (.int .i64)))) o12, .int .i64 o13, .sl false (.pair (.int .i64) zA7) o14, .int .i64 o15, .bool o16, .int .i64 o17, .int .i64 o18, .int .i64 o19, .sl false T5_31 o110, .int .i64 o111, .int .i64 o112, .int .i64 o113, .int .i64 o114], .box 0 false [.int .i64 o20, .sl false (.list zA7) o21, .sl false (.list (.pair (.int .i64) (.pair (.int .i64) (.int .i64)))) o22, .int .i64 o23, .sl false (.pair (.int .i64) zA7) o24, .int .i64 o25, .bool o26, .int .i64 o27, .int .i64 o28, .int .i64 o29, .sl false T5_31 o210, .int .i64 o211, .int .i64 o212, .int .i64 o213, .int .i64 o214], .row 0 false false 13 T3_31 o3, .absent 0, .absent 0, .absent 0] }
 (laws_FnDecided.k1 N)
theorem laws_FnDecided.L1_eq (N : Nat) (n1 : Nat) (code : List Int) (l_ : List (Int × Int × Bool)) (end_ : Int) (all : List (Int × Int × List Int)) (i : Int) (o10 : Int) (o11 : List zBm) (o12 : List (List (Int × Int × Int))) (o13 : Int) (o14 : List (Int × Int × Int × Int × Int)) (o15 : Int) (o16 : Bool) (o17 : Int) (o18 : Int) (o19 : Int) (o110 : List (Int × Int × Bool)) (o111 : Int) (o112 : Int) (o113 : Int) (o114 : Int) (o20 : Int) (o21 : List zBm) (o22 : List (List (Int × Int × Int))) (o23 : Int) (o24 : List (Int × Int × Int × Int × Int)) (o25 : Int) (o26 : Bool) (o27 : Int) (o28 : Int) (o29 : Int) (o210 : List (Int × Int × Bool)) (o211 : Int) (o212 : Int) (o213 : Int) (o214 : Int) (o3 : List (Int × Int × List Int)) : laws_FnDecided.L1 N (n1 + 1) code l_ end_ all i o10 o11 o12 o13 o14 o15 o16 o17 o18 o19 o110 o111 o112 o113 o114 o20 o21 o22 o23 o24 o25 o26 o27 o28 o29 o210 o211 o212 o213 o214 o3 =
bif decide (i < (l_.length : Int)) then
bif zP i (l_.length) then
bindO (yi.F N (code, (IntKind.wrap .i64 (20 + i), IntKind.wrap .i64 ((IntKind.wrap .i64 (((nth (0, (0, false)) l_ i).1) - o211)) + 1)))) fun r5 =>
bindO (yu.F N ((((o20, o21), (o22, (o23, (o24, (o25, o26))))), ((o27, (o28, o29)), (o210, (o211, (o212, (o213, o214)))))), IntKind.wrap .i64 (o211 + r5))) fun r6 =>
bif zP i (l_.length) then
bindO (yz.F N (r6.1, ((nth (0, (0, false)) l_ i).1, ((nth (0, (0, false)) l_ i).2)))) fun r7 =>
bif !r6.2.2 then
some false
else
bif !r7.2.2 then
some false
else
bif decide (o3.length + List.length r6.2.1 <= maxN) then
bif decide (List.length (o3 ++ r6.2.1) + List.length r7.2.1 <= maxN) then
laws_FnDecided.L1 N n1 code l_ end_ all (IntKind.wrap .i64 (i + 1)) o10 o11 o12 o13 o14 o15 o16 o17 o18 o19 o110 o111 o112 o113 o114 r7.1.1.1.1 r7.1.1.1.2 r7.1.1.2.1 r7.1.1.2.2.1 r7.1.1.2.2.2.1 r7.1.1.2.2.2.2.1 r7.1.1.2.2.2.2.2 r7.1.2.1.1 r7.1.2.1.2.1 r7.1.2.1.2.2 r7.1.2.2.1 r7.1.2.2.2.1 r7.1.2.2.2.2.1 r7.1.2.2.2.2.2.1 r7.1.2.2.2.2.2.2 ((o3 ++ r6.2.1) ++ r7.2.1)
else none
else none
else none
else none
else
bindO (yu.F N ((((o20, o21), (o22, (o23, (o24, (o25, o26))))), ((o27, (o28, o29)), (o210, (o211, (o212, (o213, o214)))))), end_)) fun r8 =>
bif decide (o3.length + List.length r8.2.1 <= maxN) then
bif r8.2.2 then
bindO (zw.F N (o3 ++ r8.2.1, all)) fun r9 =>
bif r9 then
bindO (yb.F N (r8.1, (((o10, o11), (o12, (o13, (o14, (o15, o16))))), ((o17, (o18, o19)), (o110, (o111, (o112, (o113, o114)))))))) fun r10 =>
some r10
else
some false
else
some false
else none := by kernel_rfl
theorem laws_FnDecided.F_eq (N : Nat) (code : List Int) : laws_FnDecided.F N code =
bindO (zAl.F N code) fun r1 =>
bif r1 then
some true
else
bindO (ya.F N code) fun r2 =>
bindO (zM.F N r2) fun r3 =>
bif !r3.2.2 then
some false
else
bindO (yc.F N r3.1) fun r4 =>
bif !r4 then
some false
else
laws_FnDecided.L1 N N code r2.2.1 r2.2.2 r3.2.1 0 r3.1.1.1.1 r3.1.1.1.2 r3.1.1.2.1 r3.1.1.2.2.1 r3.1.1.2.2.2.1 r3.1.1.2.2.2.2.1 r3.1.1.2.2.2.2.2 r3.1.2.1.1 r3.1.2.1.2.1 r3.1.2.1.2.2 r3.1.2.2.1 r3.1.2.2.2.1 r3.1.2.2.2.2.1 r3.1.2.2.2.2.2.1 r3.1.2.2.2.2.2.2 r2.1.1.1.1 r2.1.1.1.2 r2.1.1.2.1 r2.1.1.2.2.1 r2.1.1.2.2.2.1 r2.1.1.2.2.2.2.1 r2.1.1.2.2.2.2.2 r2.1.2.1.1 r2.1.2.1.2.1 r2.1.2.1.2.2 r2.1.2.2.1 r2.1.2.2.2.1 r2.1.2.2.2.2.1 r2.1.2.2.2.2.2.1 r2.1.2.2.2.2.2.2 ([] : List (Int × Int × List Int)) := by kernel_rfl
end Go.Kb
