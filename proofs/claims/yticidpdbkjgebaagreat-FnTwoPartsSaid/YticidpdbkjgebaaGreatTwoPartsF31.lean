/- The texts of functions, printed by a program, and the equations of their runs. -/
import Derived.Test.YticidpdbkjgebaaGreatTwoPartsP0toP4
import Derived.Test.YticidpdbkjgebaaGreatTwoPartsF3toP75
import Derived.Test.YticidpdbkjgebaaGreatTwoPartsF4toP29
import Derived.Test.YticidpdbkjgebaaGreatTwoPartsP94toF8
import Derived.Test.YticidpdbkjgebaaGreatTwoPartsF30
import Derived.KernelRfl
namespace Go.Kb
abbrev T1_31 : Ty := .pair (.pair (.pair (.int .i64) (.list (.list (.pair (.int .i64) (.pair (.int .i64) (.pair (.int .i64) (.int .i64))))))) (.pair (.list (.list (.pair (.int .i64) (.pair (.int .i64) (.int .i64))))) (.pair (.int .i64) (.pair (.list (.pair (.int .i64) (.pair (.int .i64) (.pair (.int .i64) (.pair (.int .i64) (.int .i64)))))) (.pair (.int .i64) (.bool)))))) (.pair (.pair (.int .i64) (.pair (.int .i64) (.int .i64))) (.pair (.list (.pair (.int .i64) (.pair (.int .i64) (.bool)))) (.pair (.int .i64) (.pair (.int .i64) (.pair (.int .i64) (.int .i64))))))
abbrev zBH : Ty := .pair (.int .i64) (.pair (.int .i64) (.pair (.int .i64) (.int .i64)))
abbrev T3_31 : Ty := .pair (.int .i64) (.pair (.int .i64) (.list (.int .i64)))
abbrev T4_31 : Ty := .pair (.pair (.int .i64) (.list (.list zBH))) (.pair (.list (.list (.pair (.int .i64) (.pair (.int .i64) (.int .i64))))) (.pair (.int .i64) (.pair (.list (.pair (.int .i64) zBH)) (.pair (.int .i64) (.bool)))))
abbrev T5_31 : Ty := .pair (.int .i64) (.pair (.int .i64) (.bool))
abbrev D6_31 : Type := (Int × List (List (Int × Int × Int × Int))) × (List (List (Int × Int × Int))) × Int × (List (Int × Int × Int × Int × Int)) × Int × Bool
abbrev D7_31 : Type := List (Int × Int × Int × Int)
abbrev D8_31 : Type := D6_31 × (Int × Int × Int) × (List (Int × Int × Bool)) × Int × Int × Int × Int
def zo.c1 : XCode := .seq (rG [o2 14 (.bin .lss) 13 12]) (.seq (.cond (.slot 14) (.skip) (.exit 0)) (.seq (.block 1 (.seq (rG [mv 15 13, mv 5 15]) (.seq (.region true [mv 16 0, mv 17 5, o2 18 (.indexAddr T3_31) 16 17, fA 19 0 18, o1 20 (.load false 1) 19, mv 21 1, mv 22 5, o2 23 (.indexAddr T3_31) 21 22, fA 24 0 23, o1 25 (.load false 1) 24, o2 26 (.bin .neq) 20 25, sX 27 [.slot 26], gX 28 .move [.slot 0] [] [] 27 false, gX 29 .move [.slot 5] [] [] 27 false, gX 30 (.indexAddr T3_31) (sl [28, 29]) [] [] 27 false, gX 31 (.fieldAddr 1) [.slot 30] [] [] 27 false, gX 32 (.load true 2) [.slot 31] [] [] 27 false, gX 33 .move [.slot 1] [] [] 27 false, gX 34 .move [.slot 5] [] [] 27 false, gX 35 (.indexAddr T3_31) (sl [33, 34]) [] [] 27 false, gX 36 (.fieldAddr 1) [.slot 35] [] [] 27 false, gX 37 (.load true 2) [.slot 36] [] [] 27 false, ⟨some 38, .call ⟨206, [.val true 2, .val true 2], no 4, [.val false 1], ims 1, true⟩, (sl [32, 37]), [], [], some (27, false), false, .none⟩, gX 39 .not [.slot 38] [] [] 27 false, op 40 .pick [.slot 27, cB true, .slot 39]]) (.cond (.slot 40) (.seq (rG [op 4 .move [cB false]]) (.ret)) (.skip))))) (rG [op 41 (.bin .add) [.slot 13, cI 1], mv 13 41])))
def zo.c2 : XCode := .seq (rG [op 4 .move [cB true]]) (.ret)
def zo.x : XFunc := { nslots := 42, nobj := 0, pars := [.val false 1, .val false 1], rowsIn := no 2, rets := [.tmp 4 false 1], outs := [.imm], fresh := true, arg := .pair (.list T3_31) (.list T3_31), ret := .bool, body := .seq (rG [op 4 .move [cB false]]) (.seq (.seq (rG [mv 6 0, o1 7 .len 6, mv 8 1, o1 9 .len 8, o2 10 (.bin .neq) 7 9]) (.cond (.slot 10) (.seq (rG [op 4 .move [cB false]]) (.ret)) (.skip))) (.seq (.seq (rG [mv 11 0, o1 12 .len 11, op 13 .move [cI 0]]) (.block 0 (.loop [.keep [0, 1, 12, 13], .norm] (zo.c1)))) (zo.c2))) }
def zo.env (N : Nat) : Env := envOf (tbl [(206, yR.fs N)] noFS)
def zo.F (N : Nat) (x : (List (Int × Int × List Int)) × List (Int × Int × List Int)) : Option Bool := XFunc.run zo.x (zo.env N) N x
def zo.fs (N : Nat) : FS := { arg := zo.x.arg, ret := zo.x.ret, fresh := true, F := zo.F N }
def zo.k2 (N : Nat) : Ex -> S -> Option Bool := seqK (fun s => XCode.runK (zo.env N) N (zo.c2) s (XFunc.endK zo.x)) (XFunc.endK zo.x)
def zo.k1 (N : Nat) : Ex -> S -> Option Bool := y0 0 (zo.k2 N)
def zo.L1 (N : Nat) (n1 : Nat) (a : List (Int × Int × List Int)) (b : List (Int × Int × List Int)) (t12 : Int) (t13 : Int) : Option Bool := loopK [.keep [0, 1, 12, 13], .norm] (fun s k => XCode.runK (zo.env N) N zo.c1 s k) n1
 { t := jK 42 [(0, .one (.sl false T3_31 a)), (1, .one (.sl false T3_31 b)), (12, .one (.int .i64 t12)), (13, .one (.int .i64 t13))], h := [] }
 (zo.k1 N)
theorem zo.L1_eq (N : Nat) (n1 : Nat) (a : List (Int × Int × List Int)) (b : List (Int × Int × List Int)) (t12 : Int) (t13 : Int) : zo.L1 N (n1 + 1) a b t12 t13 =
bif decide (t13 < t12) then
bif zP t13 (a.length) then
bif zP t13 (b.length) then
bif ((nth (0, (0, ([] : List Int))) a t13).1) != ((nth (0, (0, ([] : List Int))) b t13).1) then
some false
else
bif zP t13 (a.length) then
bif zP t13 (b.length) then
bindO (yR.F N (((nth (0, (0, ([] : List Int))) a t13).2), ((nth (0, (0, ([] : List Int))) b t13).2))) fun r1 =>
bif !r1 then
some false
else
zo.L1 N n1 a b t12 (IntKind.wrap .i64 (t13 + 1))
else none
else none
else none
else none
else
some true := by kernel_rfl
theorem zo.F_eq (N : Nat) (a : List (Int × Int × List Int)) (b : List (Int × Int × List Int)) : zo.F N (a, b) =
bif (a.length : Int) != (b.length : Int) then
some false
else
zo.L1 N N a b (a.length : Int) 0 := by kernel_rfl
def zO.c1 : XCode := .seq (.seq (rG [mv 41 6, fA 42 1 2, lN 43 42 0, mv 44 5, o2 45 (.indexAddr (.list zBH)) 43 44, o1 46 (.load false 1) 45, o1 47 .len 46, o2 48 (.bin .lss) 41 47]) (.cond (.slot 48) (.skip) (.exit 2))) (.seq (.block 3 (.seq (.region true [fA 51 1 2, lN 52 51 0, mv 53 5, o2 54 (.indexAddr (.list zBH)) 52 53, o1 55 (.load false 1) 54, mv 56 6, o2 57 (.indexAddr zBH) 55 56, o1 58 (.load true 4) 57, fA 59 1 3, lN 60 59 1, mv 61 5, o2 62 (.indexAddr (.list zBH)) 60 61, o1 63 (.load false 1) 62, mv 64 6, o2 65 (.indexAddr zBH) 63 64, o1 66 (.load true 4) 65, o2 67 (.eqAgg true zBH) 58 66]) (.cond (.slot 67) (.seq (rG [op 4 .move [cB false]]) (.ret)) (.skip)))) (rG [mv 49 6, op 50 (.bin .add) [.slot 49, cI 1], mv 6 50]))
def zO.c2 : XCode := rG [mv 26 5, op 27 (.bin .add) [.slot 26, cI 1], mv 5 27]
def zO.c3 : XCode := .seq (.seq (rG [mv 21 5, fA 22 1 2, lN 23 22 0, o1 24 .len 23, o2 25 (.bin .lss) 21 24]) (.cond (.slot 25) (.skip) (.exit 0))) (.seq (.block 1 (.seq (.seq (.region true [fA 28 1 2, lN 29 28 0, mv 30 5, o2 31 (.indexAddr (.list zBH)) 29 30, o1 32 (.load false 1) 31, o1 33 .len 32, fA 34 1 3, lN 35 34 1, mv 36 5, o2 37 (.indexAddr (.list zBH)) 35 36, o1 38 (.load false 1) 37, o1 39 .len 38, o2 40 (.bin .neq) 33 39]) (.cond (.slot 40) (.seq (rG [op 4 .move [cB false]]) (.ret)) (.skip))) (.seq (rG [op 6 .move [cI 0]]) (.block 2 (.loop [.keep [2, 3, 5, 6], .norm] (zO.c1)))))) (zO.c2))
def zO.c4 : XCode := .seq (rG [op 4 .move [cB true]]) (.ret)
def zO.x : XFunc := { nslots := 68, nobj := 2, pars := [.val true 2, .val true 2], rowsIn := no 4, rets := [.tmp 4 false 1], outs := [.imm], fresh := true, arg := .pair (.pair (.int .i64) (.list (.list zBH))) (.pair (.int .i64) (.list (.list zBH))), ret := .bool, body := .seq (rG [ow 2 (.box 0) [.slot 0] [0] [0], ow 3 (.box 1) [.slot 1] [1] [1], op 4 .move [cB false]]) (.seq (.seq (rG [fA 7 0 2, lN 8 7 0, fA 9 0 3, lN 10 9 1, o2 11 (.bin .neq) 8 10, sX 12 [.slot 11], gX 13 (.fieldAddr 1) [.slot 2] [] [] 12 false, gX 14 (.load false 1) [.slot 13] [0] [] 12 false, gX 15 .len [.slot 14] [] [] 12 false, gX 16 (.fieldAddr 1) [.slot 3] [] [] 12 false, gX 17 (.load false 1) [.slot 16] [1] [] 12 false, gX 18 .len [.slot 17] [] [] 12 false, gX 19 (.bin .neq) (sl [15, 18]) [] [] 12 false, op 20 .pick [.slot 12, cB true, .slot 19]]) (.cond (.slot 20) (.seq (rG [op 4 .move [cB false]]) (.ret)) (.skip))) (.seq (.seq (rG [op 5 .move [cI 0]]) (.block 0 (.loop [.keep [2, 3, 5], .norm] (zO.c3)))) (zO.c4))) }
def zO.env (_ : Nat) : Env := envOf (tbl [] noFS)
def zO.F (N : Nat) (x : (Int × List D7_31) × Int × List D7_31) : Option Bool := XFunc.run zO.x (zO.env N) N x
def zO.fs (N : Nat) : FS := { arg := zO.x.arg, ret := zO.x.ret, fresh := true, F := zO.F N }
def zO.k2 (N : Nat) : Ex -> S -> Option Bool := seqK (fun s => XCode.runK (zO.env N) N (zO.c4) s (XFunc.endK zO.x)) (XFunc.endK zO.x)
def zO.k1 (N : Nat) : Ex -> S -> Option Bool := y0 0 (zO.k2 N)
def zO.k6 (N : Nat) (n1 : Nat) : Ex -> S -> Option Bool := seqK (fun s => bindO (S.ghosts s [.keep [2, 3, 5], .norm]) fun s1 => loopK [.keep [2, 3, 5], .norm] (fun s k => XCode.runK (zO.env N) N zO.c3 s k) n1 s1 (zO.k1 N)) (zO.k1 N)
def zO.k5 (N : Nat) (n1 : Nat) : Ex -> S -> Option Bool := seqK (fun s => XCode.runK (zO.env N) N (zO.c2) s (zO.k6 N n1)) (zO.k6 N n1)
def zO.k4 (N : Nat) (n1 : Nat) : Ex -> S -> Option Bool := y0 1 (zO.k5 N n1)
def zO.k3 (N : Nat) (n1 : Nat) : Ex -> S -> Option Bool := y0 2 (zO.k4 N n1)
def zO.L1 (N : Nat) (n1 : Nat) (i : Int) (o00 : Int) (o01 : List D7_31) (o10 : Int) (o11 : List D7_31) : Option Bool := loopK [.keep [2, 3, 5], .norm] (fun s k => XCode.runK (zO.env N) N zO.c3 s k) n1
 { t := jK 68 [(2, .one (.ptr 0 0 0)), (3, .one (.ptr 1 0 0)), (5, .one (.int .i64 i))], h := [.box 0 false [.int .i64 o00, .sl false (.list zBH) o01], .box 0 false [.int .i64 o10, .sl false (.list zBH) o11]] }
 (zO.k1 N)
def zO.L2 (N : Nat) (n1 : Nat) (n2 : Nat) (i : Int) (k_ : Int) (o00 : Int) (o01 : List D7_31) (o10 : Int) (o11 : List D7_31) : Option Bool := loopK [.keep [2, 3, 5, 6], .norm] (fun s k => XCode.runK (zO.env N) N zO.c1 s k) n2
 { t := jK 68 [(2, .one (.ptr 0 0 0)), (3, .one (.ptr 1 0 0)), (5, .one (.int .i64 i)), (6, .one (.int .i64 k_))], h := [.box 0 false [.int .i64 o00, .sl false (.list zBH) o01], .box 0 false [.int .i64 o10, .sl false (.list zBH) o11]] }
 (zO.k3 N n1)
theorem zO.L1_eq (N : Nat) (n1 : Nat) (i : Int) (o00 : Int) (o01 : List D7_31) (o10 : Int) (o11 : List D7_31) : zO.L1 N (n1 + 1) i o00 o01 o10 o11 =
bif decide (i < (o01.length : Int)) then
bif zP i (o01.length) then
bif zP i (o11.length) then
bif (List.length (nth ([] : List (Int × Int × Int × Int)) o01 i) : Int) != (List.length (nth ([] : List (Int × Int × Int × Int)) o11 i) : Int) then
some false
else
zO.L2 N n1 N i 0 o00 o01 o10 o11
else none
else none
else
some true := by kernel_rfl
theorem zO.L2_eq (N : Nat) (n1 : Nat) (n2 : Nat) (i : Int) (k_ : Int) (o00 : Int) (o01 : List D7_31) (o10 : Int) (o11 : List D7_31) : zO.L2 N n1 (n2 + 1) i k_ o00 o01 o10 o11 =
bif zP i (o01.length) then
bif decide (k_ < (List.length (nth ([] : List (Int × Int × Int × Int)) o01 i) : Int)) then
bif zP i (o01.length) then
bif zP k_ (List.length (nth ([] : List (Int × Int × Int × Int)) o01 i)) then
bif zP i (o11.length) then
bif zP k_ (List.length (nth ([] : List (Int × Int × Int × Int)) o11 i)) then
bif !((((nth (0, (0, (0, 0))) (nth ([] : List (Int × Int × Int × Int)) o01 i) k_).1) == ((nth (0, (0, (0, 0))) (nth ([] : List (Int × Int × Int × Int)) o11 i) k_).1)) && (((((nth (0, (0, (0, 0))) (nth ([] : List (Int × Int × Int × Int)) o01 i) k_).2).1) == (((nth (0, (0, (0, 0))) (nth ([] : List (Int × Int × Int × Int)) o11 i) k_).2).1)) && ((((((nth (0, (0, (0, 0))) (nth ([] : List (Int × Int × Int × Int)) o01 i) k_).2).2).1) == ((((nth (0, (0, (0, 0))) (nth ([] : List (Int × Int × Int × Int)) o11 i) k_).2).2).1)) && (((((nth (0, (0, (0, 0))) (nth ([] : List (Int × Int × Int × Int)) o01 i) k_).2).2).2) == ((((nth (0, (0, (0, 0))) (nth ([] : List (Int × Int × Int × Int)) o11 i) k_).2).2).2))))) then
some false
else
zO.L2 N n1 n2 i (IntKind.wrap .i64 (k_ + 1)) o00 o01 o10 o11
else none
else none
else none
else none
else
zO.L1 N n1 (IntKind.wrap .i64 (i + 1)) o00 o01 o10 o11
else none := by kernel_rfl
theorem zO.F_eq (N : Nat) (a : Int × List D7_31) (b : Int × List D7_31) : zO.F N (a, b) =
bif a.1 != b.1 then
some false
else
bif (List.length a.2 : Int) != (List.length b.2 : Int) then
some false
else
zO.L1 N N 0 a.1 a.2 b.1 b.2 := by kernel_rfl
def zv.c1 : XCode := .seq (.seq (rG [mv 11 5, mv 12 0, o1 13 .len 12, o2 14 (.bin .lss) 11 13]) (.cond (.slot 14) (.skip) (.exit 0))) (.seq (.block 1 (.seq (.region true [mv 17 0, mv 18 5, o2 19 (.indexAddr (.pair (.int .i64) zBH)) 17 18, o1 20 (.load true 5) 19, mv 21 1, mv 22 5, o2 23 (.indexAddr (.pair (.int .i64) zBH)) 21 22, o1 24 (.load true 5) 23, o2 25 (.eqAgg true (.pair (.int .i64) zBH)) 20 24]) (.cond (.slot 25) (.seq (rG [op 4 .move [cB false]]) (.ret)) (.skip)))) (rG [mv 15 5, op 16 (.bin .add) [.slot 15, cI 1], mv 5 16]))
def zv.c2 : XCode := .seq (rG [op 4 .move [cB true]]) (.ret)
def zv.x : XFunc := { nslots := 26, nobj := 0, pars := [.val false 1, .val false 1], rowsIn := no 2, rets := [.tmp 4 false 1], outs := [.imm], fresh := true, arg := .pair (.list (.pair (.int .i64) zBH)) (.list (.pair (.int .i64) zBH)), ret := .bool, body := .seq (rG [op 4 .move [cB false]]) (.seq (.seq (rG [mv 6 0, o1 7 .len 6, mv 8 1, o1 9 .len 8, o2 10 (.bin .neq) 7 9]) (.cond (.slot 10) (.seq (rG [op 4 .move [cB false]]) (.ret)) (.skip))) (.seq (.seq (rG [op 5 .move [cI 0]]) (.block 0 (.loop [.keep [0, 1, 5], .norm] (zv.c1)))) (zv.c2))) }
def zv.env (_ : Nat) : Env := envOf (tbl [] noFS)
def zv.F (N : Nat) (x : (List (Int × Int × Int × Int × Int)) × List (Int × Int × Int × Int × Int)) : Option Bool := XFunc.run zv.x (zv.env N) N x
def zv.fs (N : Nat) : FS := { arg := zv.x.arg, ret := zv.x.ret, fresh := true, F := zv.F N }
def zv.k2 (N : Nat) : Ex -> S -> Option Bool := seqK (fun s => XCode.runK (zv.env N) N (zv.c2) s (XFunc.endK zv.x)) (XFunc.endK zv.x)
def zv.k1 (N : Nat) : Ex -> S -> Option Bool := y0 0 (zv.k2 N)
def zv.L1 (N : Nat) (n1 : Nat) (a : List (Int × Int × Int × Int × Int)) (b : List (Int × Int × Int × Int × Int)) (i : Int) : Option Bool := loopK [.keep [0, 1, 5], .norm] (fun s k => XCode.runK (zv.env N) N zv.c1 s k) n1
 { t := jK 26 [(0, .one (.sl false (.pair (.int .i64) zBH) a)), (1, .one (.sl false (.pair (.int .i64) zBH) b)), (5, .one (.int .i64 i))], h := [] }
 (zv.k1 N)
theorem zv.L1_eq (N : Nat) (n1 : Nat) (a : List (Int × Int × Int × Int × Int)) (b : List (Int × Int × Int × Int × Int)) (i : Int) : zv.L1 N (n1 + 1) a b i =
bif decide (i < (a.length : Int)) then
bif zP i (a.length) then
bif zP i (b.length) then
bif !((((nth (0, (0, (0, (0, 0)))) a i).1) == ((nth (0, (0, (0, (0, 0)))) b i).1)) && (((((nth (0, (0, (0, (0, 0)))) a i).2).1) == (((nth (0, (0, (0, (0, 0)))) b i).2).1)) && ((((((nth (0, (0, (0, (0, 0)))) a i).2).2).1) == ((((nth (0, (0, (0, (0, 0)))) b i).2).2).1)) && (((((((nth (0, (0, (0, (0, 0)))) a i).2).2).2).1) == (((((nth (0, (0, (0, (0, 0)))) b i).2).2).2).1)) && ((((((nth (0, (0, (0, (0, 0)))) a i).2).2).2).2) == (((((nth (0, (0, (0, (0, 0)))) b i).2).2).2).2)))))) then
some false
else
zv.L1 N n1 a b (IntKind.wrap .i64 (i + 1))
else none
else none
else
some true := by kernel_rfl
theorem zv.F_eq (N : Nat) (a : List (Int × Int × Int × Int × Int)) (b : List (Int × Int × Int × Int × Int)) : zv.F N (a, b) =
bif (a.length : Int) != (b.length : Int) then
some false
else
zv.L1 N N a b 0 := by kernel_rfl
def yj.x : XFunc := { nslots := 47, nobj := 2, pars := [.val true 7, .val true 7], rowsIn := no 14, rets := [.tmp 4 false 1], outs := [.imm], fresh := true, arg := .pair T4_31 T4_31, ret := .bool, body := .seq (rG [ow 2 (.box 0) [.slot 0] [0] [0], ow 3 (.box 1) [.slot 1] [1] [1], op 4 .move [cB false]]) (.seq (rG [fA 5 0 2, lU 6 2 5 0, fA 7 0 3, lU 8 2 7 1, o2 9 (.call ⟨226, [.val true 2, .val true 2], no 4, [.val false 1], ims 1, true⟩) 6 8, sX 10 [.slot 9], gX 11 (.fieldAddr 2) [.slot 2] [] [] 10 true, gX 12 (.load false 1) [.slot 11] [0] [] 10 true, gX 13 .len [.slot 12] [] [] 10 true, gX 14 (.fieldAddr 2) [.slot 3] [] [] 10 true, gX 15 (.load false 1) [.slot 14] [1] [] 10 true, gX 16 .len [.slot 15] [] [] 10 true, gX 17 (.bin .eql) (sl [13, 16]) [] [] 10 true, op 18 .pick [.slot 10, .slot 17, cB false], sX 19 [.slot 18], gX 20 (.fieldAddr 3) [.slot 2] [] [] 19 true, gX 21 (.load false 1) [.slot 20] [0] [] 19 true, gX 22 (.fieldAddr 3) [.slot 3] [] [] 19 true, gX 23 (.load false 1) [.slot 22] [1] [] 19 true, gX 24 (.bin .eql) (sl [21, 23]) [] [] 19 true, op 25 .pick [.slot 19, .slot 24, cB false], sX 26 [.slot 25], gX 27 (.fieldAddr 5) [.slot 2] [] [] 26 true, gX 28 (.load false 1) [.slot 27] [0] [] 26 true, gX 29 (.fieldAddr 5) [.slot 3] [] [] 26 true, gX 30 (.load false 1) [.slot 29] [1] [] 26 true, gX 31 (.bin .eql) (sl [28, 30]) [] [] 26 true, op 32 .pick [.slot 26, .slot 31, cB false], sX 33 [.slot 32], gX 34 (.fieldAddr 6) [.slot 2] [] [] 33 true, gX 35 (.load false 1) [.slot 34] [0] [] 33 true, gX 36 (.fieldAddr 6) [.slot 3] [] [] 33 true, gX 37 (.load false 1) [.slot 36] [1] [] 33 true, gX 38 (.eqBool false) (sl [35, 37]) [] [] 33 true, op 39 .pick [.slot 33, .slot 38, cB false], sX 40 [.slot 39], gX 41 (.fieldAddr 4) [.slot 2] [] [] 40 true, gX 42 (.load false 1) [.slot 41] [0] [] 40 true, gX 43 (.fieldAddr 4) [.slot 3] [] [] 40 true, gX 44 (.load false 1) [.slot 43] [1] [] 40 true, ⟨some 45, .call ⟨227, vs 2, no 2, [.val false 1], ims 1, true⟩, (sl [42, 44]), [], [], some (40, true), false, .none⟩, op 46 .pick [.slot 40, .slot 45, cB false], mv 4 46]) (.ret)) }
def yj.env (N : Nat) : Env := envOf (tbl [(227, zv.fs N), (226, zO.fs N)] noFS)
def yj.F (N : Nat) (x : D6_31 × (Int × List D7_31) × (List (List (Int × Int × Int))) × Int × (List (Int × Int × Int × Int × Int)) × Int × Bool) : Option Bool := XFunc.run yj.x (yj.env N) N x
def yj.fs (N : Nat) : FS := { arg := yj.x.arg, ret := yj.x.ret, fresh := true, F := yj.F N }
theorem yj.F_eq (N : Nat) (a : (Int × List D7_31) × (List (List (Int × Int × Int))) × Int × (List (Int × Int × Int × Int × Int)) × Int × Bool) (b : (Int × List D7_31) × (List (List (Int × Int × Int))) × Int × (List (Int × Int × Int × Int × Int)) × Int × Bool) : yj.F N (a, b) =
bindO (zO.F N (a.1, b.1)) fun r1 =>
bif r1 then
bif (List.length a.2.1 : Int) == (List.length b.2.1 : Int) then
bif a.2.2.1 == b.2.2.1 then
bif a.2.2.2.2.1 == b.2.2.2.2.1 then
bif a.2.2.2.2.2 == b.2.2.2.2.2 then
bindO (zv.F N (a.2.2.2.1, b.2.2.2.1)) fun r2 =>
some r2
else
some false
else
some false
else
some false
else
some false
else
some false := by kernel_rfl
def yP.x : XFunc := { nslots := 52, nobj := 2, pars := [.val true 15, .val true 15], rowsIn := no 30, rets := [.tmp 4 false 1], outs := [.imm], fresh := true, arg := .pair T1_31 T1_31, ret := .bool, body := .seq (rG [ow 2 (.box 0) [.slot 0] [0] [0], ow 3 (.box 1) [.slot 1] [1] [1], op 4 .move [cB false]]) (.seq (rG [fA 5 0 2, lU 6 7 5 0, fA 7 0 3, lU 8 7 7 1, o2 9 (.call ⟨228, [.val true 7, .val true 7], no 14, [.val false 1], ims 1, true⟩) 6 8, sX 10 [.slot 9], gX 11 (.fieldAddr 7) [.slot 2] [] [] 10 true, gX 12 (.load true 3) [.slot 11] [0] [] 10 true, gX 13 (.fieldAddr 7) [.slot 3] [] [] 10 true, gX 14 (.load true 3) [.slot 13] [1] [] 10 true, gX 15 (.eqAgg false (.pair (.int .i64) (.pair (.int .i64) (.int .i64)))) (sl [12, 14]) [] [] 10 true, op 16 .pick [.slot 10, .slot 15, cB false], sX 17 [.slot 16], gX 18 (.fieldAddr 10) [.slot 2] [] [] 17 true, gX 19 (.load false 1) [.slot 18] [0] [] 17 true, gX 20 (.fieldAddr 10) [.slot 3] [] [] 17 true, gX 21 (.load false 1) [.slot 20] [1] [] 17 true, ⟨some 22, .call ⟨84, vs 2, no 2, [.val false 1], ims 1, true⟩, (sl [19, 21]), [], [], some (17, true), false, .none⟩, op 23 .pick [.slot 17, .slot 22, cB false], sX 24 [.slot 23], gX 25 (.fieldAddr 11) [.slot 2] [] [] 24 true, gX 26 (.load false 1) [.slot 25] [0] [] 24 true, gX 27 (.fieldAddr 11) [.slot 3] [] [] 24 true, gX 28 (.load false 1) [.slot 27] [1] [] 24 true, gX 29 (.bin .eql) (sl [26, 28]) [] [] 24 true, op 30 .pick [.slot 24, .slot 29, cB false], sX 31 [.slot 30], gX 32 (.fieldAddr 12) [.slot 2] [] [] 31 true, gX 33 (.load false 1) [.slot 32] [0] [] 31 true, gX 34 (.fieldAddr 12) [.slot 3] [] [] 31 true, gX 35 (.load false 1) [.slot 34] [1] [] 31 true, gX 36 (.bin .eql) (sl [33, 35]) [] [] 31 true, op 37 .pick [.slot 31, .slot 36, cB false], sX 38 [.slot 37], gX 39 (.fieldAddr 13) [.slot 2] [] [] 38 true, gX 40 (.load false 1) [.slot 39] [0] [] 38 true, gX 41 (.fieldAddr 13) [.slot 3] [] [] 38 true, gX 42 (.load false 1) [.slot 41] [1] [] 38 true, gX 43 (.bin .eql) (sl [40, 42]) [] [] 38 true, op 44 .pick [.slot 38, .slot 43, cB false], sX 45 [.slot 44], gX 46 (.fieldAddr 14) [.slot 2] [] [] 45 true, gX 47 (.load false 1) [.slot 46] [0] [] 45 true, gX 48 (.fieldAddr 14) [.slot 3] [] [] 45 true, gX 49 (.load false 1) [.slot 48] [1] [] 45 true, gX 50 (.bin .eql) (sl [47, 49]) [] [] 45 true, op 51 .pick [.slot 45, .slot 50, cB false], mv 4 51]) (.ret)) }
def yP.env (N : Nat) : Env := envOf (tbl [(228, yj.fs N), (84, zd.fs N)] noFS)
def yP.F (N : Nat) (x : D8_31 × D6_31 × (Int × Int × Int) × (List (Int × Int × Bool)) × Int × Int × Int × Int) : Option Bool := XFunc.run yP.x (yP.env N) N x
def yP.fs (N : Nat) : FS := { arg := yP.x.arg, ret := yP.x.ret, fresh := true, F := yP.F N }
theorem yP.F_eq (N : Nat) (a : D8_31) (b : D8_31) : yP.F N (a, b) =
bindO (yj.F N (a.1, b.1)) fun r1 =>
bif r1 then
bif (a.2.1.1 == b.2.1.1) && ((a.2.1.2.1 == b.2.1.2.1) && (a.2.1.2.2 == b.2.1.2.2)) then
bindO (zd.F N (a.2.2.1, b.2.2.1)) fun r2 =>
bif r2 then
bif a.2.2.2.1 == b.2.2.2.1 then
bif a.2.2.2.2.1 == b.2.2.2.2.1 then
bif a.2.2.2.2.2.1 == b.2.2.2.2.2.1 then
some (a.2.2.2.2.2.2 == b.2.2.2.2.2.2)
else
some false
else
some false
else
some false
else
some false
else
some false
else
some false := by kernel_rfl
def laws_FnTwoParts.x : XFunc := { nslots := 89, nobj := 5, pars := [.val false 1], rowsIn := [none], rets := [.tmp 2 false 1], outs := [.imm], fresh := true, arg := .list (.int .u8), ret := .bool, body := .seq (rG [op 2 .move [cB false]]) (.seq (.seq (rG [mv 17 0, o1 18 (.call ⟨31, vs 1, no 1, [.val false 1], ims 1, true⟩) 17]) (.cond (.slot 18) (.seq (rG [op 2 .move [cB true]]) (.ret)) (.skip))) (.seq (rG [mv 20 0, o1 21 (.call ⟨323, vs 1, no 1, [.val true 15, .val false 1, .val false 1], ims 17, false⟩) 20, mv 19 21, eX 22 0 19, eX 23 1 19, eX 24 2 19, ow 3 (.alloc 0 [cZ, .nil, .nil, cZ, .nil, cZ, .bool false, cZ, cZ, cZ, .nil, cZ, cZ, cZ, cZ]) [] [0] [0], sT 15 3 22 0, mv 4 23, mv 5 24]) (.seq (rG [mv 25 0, mv 26 4, o1 27 .len 26, op 28 (.bin .add) [.slot 27, cI 1], op 29 (.call ⟨81, vs 3, no 3, [.val false 1], ims 1, true⟩) [.slot 25, cI 19, .slot 28], mv 6 29]) (.seq (rG [lU 31 15 3 0, mv 32 4, mv 33 5, op 34 (.call ⟨222, [.val true 15, .val false 1, .val false 1], no 17, [.val true 15, .val false 1, .val false 1], ims 17, false⟩) (sl [31, 32, 33]), mv 30 34, eX 35 0 30, eX 36 1 30, eX 37 2 30, ow 7 (.alloc 1 [cZ, .nil, .nil, cZ, .nil, cZ, .bool false, cZ, cZ, cZ, .nil, cZ, cZ, cZ, cZ]) [] [1] [1], sT 15 7 35 1, mv 8 36, mv 9 37]) (.seq (rG [fA 38 11 3, lN 39 38 0, mv 10 39]) (.seq (.seq (rG [mv 40 6, op 41 (.bin .gtr) [.slot 40, cI 0]]) (.cond (.slot 41) (rG [mv 42 4, mv 43 6, op 44 (.bin .sub) [.slot 43, cI 1], o2 45 (.indexAddr T5_31) 42 44, fA 46 0 45, o1 47 (.load false 1) 46, mv 10 47]) (.skip))) (.seq (.region true [lU 49 15 3 0, mv 50 4, mv 51 6, o2 52 (.slice T5_31 false true) 50 51, mv 53 10, op 54 (.call ⟨222, [.val true 15, .val false 1, .val false 1], no 17, [.val true 15, .val false 1, .val false 1], ims 17, false⟩) (sl [49, 52, 53]), mv 48 54, eX 55 0 48, eX 56 1 48, eX 57 2 48, ow 11 (.alloc 2 [cZ, .nil, .nil, cZ, .nil, cZ, .bool false, cZ, cZ, cZ, .nil, cZ, cZ, cZ, cZ]) [] [2] [2], sT 15 11 55 2, mv 12 56, mv 13 57]) (.seq (.region true [lU 59 15 11 2, mv 60 4, mv 61 6, o2 62 (.slice T5_31 true false) 60 61, mv 63 5, op 64 (.call ⟨222, [.val true 15, .val false 1, .val false 1], no 17, [.val true 15, .val false 1, .val false 1], ims 17, false⟩) (sl [59, 62, 63]), mv 58 64, eX 65 0 58, eX 66 1 58, eX 67 2 58, ow 14 (.alloc 3 [cZ, .nil, .nil, cZ, .nil, cZ, .bool false, cZ, cZ, cZ, .nil, cZ, cZ, cZ, cZ]) [] [3] [3], sT 15 14 65 3, mv 15 66, mv 16 67]) (.seq (rG [mv 68 9, sX 69 [.slot 68], gX 70 .move [.slot 13] [] [] 69 true, op 71 .pick [.slot 69, .slot 70, cB false], sX 72 [.slot 71], gX 73 .move [.slot 16] [] [] 72 true, op 74 .pick [.slot 72, .slot 73, cB false], sX 75 [.slot 74], ⟨some 76, .buildSlice false 4 13 T3_31 0 [] [cZ, cZ, .nil], [], [4], [4], some (75, true), false, .none⟩, gX 77 .move [.slot 12] [] [] 75 true, gX 78 (.append false 4 13 T3_31) (sl [76, 77]) [4] [4] 75 true, gX 79 .move [.slot 15] [] [] 75 true, gX 80 (.append false 4 13 T3_31) (sl [78, 79]) [4] [4] 75 true, gX 81 .move [.slot 8] [] [] 75 true, ⟨some 82, .call ⟨225, vs 2, no 2, [.val false 1], ims 1, true⟩, (sl [80, 81]), [4], [], some (75, true), false, .none⟩, op 83 .pick [.slot 75, .slot 82, cB false], sX 84 [.slot 83], gX 85 (.load true 15) [.slot 14] [3] [] 84 true, gX 86 (.load true 15) [.slot 7] [1] [] 84 true, ⟨some 87, .call ⟨345, [.val true 15, .val true 15], no 30, [.val false 1], ims 1, true⟩, (sl [85, 86]), [], [], some (84, true), false, .none⟩, op 88 .pick [.slot 84, .slot 87, cB false], mv 2 88]) (.ret)))))))))) }
def laws_FnTwoParts.env (N : Nat) : Env := envOf (tbl [(222, zM.fs N), (225, zo.fs N), (31, zAj.fs N), (345, yP.fs N), (323, yb.fs N), (81, yh.fs N)] noFS)
def laws_FnTwoParts.F (N : Nat) (x : List Int) : Option Bool := XFunc.run laws_FnTwoParts.x (laws_FnTwoParts.env N) N x
def laws_FnTwoParts.fs (N : Nat) : FS := { arg := laws_FnTwoParts.x.arg, ret := laws_FnTwoParts.x.ret, fresh := true, F := laws_FnTwoParts.F N }
theorem laws_FnTwoParts.F_eq (N : Nat) (code : List Int) : laws_FnTwoParts.F N code =
bindO (zAj.F N code) fun r1 =>
bif r1 then
some true
else
bindO (yb.F N code) fun r2 =>
bindO (yh.F N (code, (19, IntKind.wrap .i64 ((List.length r2.2.1 : Int) + 1)))) fun r3 =>
bindO (zM.F N r2) fun r4 =>
bif decide (r3 > 0) then
bif zP (IntKind.wrap .i64 (r3 - 1)) (List.length r2.2.1) then
bif decide (0 <= r3) && decide (r3 <= (List.length r2.2.1 : Int)) then
bindO (zM.F N (r2.1, (List.take (Int.toNat r3) r2.2.1, (nth (0, (0, false)) r2.2.1 (IntKind.wrap .i64 (r3 - 1))).1))) fun r5 =>
bif decide (0 <= r3) && decide (r3 <= (List.length r2.2.1 : Int)) then
bindO (zM.F N (r5.1, (List.drop (Int.toNat r3) r2.2.1, r2.2.2))) fun r6 =>
bif r4.2.2 then
bif r5.2.2 then
bif r6.2.2 then
bif decide (List.length ([] : List (Int × Int × List Int)) + List.length r5.2.1 <= maxN) then
bif decide (List.length (([] : List (Int × Int × List Int)) ++ r5.2.1) + List.length r6.2.1 <= maxN) then
bindO (zo.F N ((([] : List (Int × Int × List Int)) ++ r5.2.1) ++ r6.2.1, r4.2.1)) fun r7 =>
bif r7 then
bindO (yP.F N (r6.1, r4.1)) fun r8 =>
some r8
else
some false
else none
else none
else
some false
else
some false
else
some false
else none
else none
else none
else
bif decide (0 <= r3) && decide (r3 <= (List.length r2.2.1 : Int)) then
bindO (zM.F N (r2.1, (List.take (Int.toNat r3) r2.2.1, r2.1.2.2.2.1))) fun r9 =>
bif decide (0 <= r3) && decide (r3 <= (List.length r2.2.1 : Int)) then
bindO (zM.F N (r9.1, (List.drop (Int.toNat r3) r2.2.1, r2.2.2))) fun r10 =>
bif r4.2.2 then
bif r9.2.2 then
bif r10.2.2 then
bif decide (List.length ([] : List (Int × Int × List Int)) + List.length r9.2.1 <= maxN) then
bif decide (List.length (([] : List (Int × Int × List Int)) ++ r9.2.1) + List.length r10.2.1 <= maxN) then
bindO (zo.F N ((([] : List (Int × Int × List Int)) ++ r9.2.1) ++ r10.2.1, r4.2.1)) fun r11 =>
bif r11 then
bindO (yP.F N (r10.1, r4.1)) fun r12 =>
some r12
else
some false
else none
else none
else
some false
else
some false
else
some false
else none
else none := by kernel_rfl
end Go.Kb
