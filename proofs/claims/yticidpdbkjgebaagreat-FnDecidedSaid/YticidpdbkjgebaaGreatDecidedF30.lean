/- The texts of functions, printed by a program, and the equations of their runs. -/
import Derived.Test.YticidpdbkjgebaaGreatDecidedF30a
import Derived.KernelRfl
namespace Go.Kb
def yf.x : XFunc := { nslots := 79, nobj := 6, pars := [.val true 15, .val false 1, .val false 1], rowsIn := no 17, rets := [.var 6 true 15, .tmp 7 false 1, .tmp 8 false 1], outs := iF 17, fresh := false, arg := .pair (.pair zAk zBl) T14_30, ret := .pair (.pair zAk zBl) (.pair (.list zBE) (.bool)), body := .seq (rG [ow 3 (.box 0) [.slot 0] [0] [0], ow 6 (.alloc 1 [cZ, .nil, .nil, cZ, .nil, cZ, .bool false, cZ, cZ, cZ, .nil, cZ, cZ, cZ, cZ]) [] [1] [1], op 7 .move [.const (.one (.nil))], op 8 .move [cB false]]) (.seq (rG [ow 12 (.buildSlice false 2 4 zAd 0 [] [cZ, cZ, .bool false]) [] [2] [2], fA 13 10 3, lN 14 13 0, ow 15 (.append false 2 4 zAd) (sl [12, 14]) [2] [2], mv 16 1, ow 17 (.append false 2 4 zAd) (sl [15, 16]) [2] [2], mv 9 17]) (.seq (.seq (.region true [lU 18 15 3 0, o1 19 (.call ⟨298, [.val true 15], no 15, [.val false 1], ims 1, true⟩) 18, o1 20 .not 19, sX 21 [.slot 20], gX 22 .move [.slot 2] [] [] 21 false, gX 23 (.fieldAddr 11) [.slot 3] [] [] 21 false, gX 24 (.load false 1) [.slot 23] [0] [] 21 false, ⟨some 25, .call ⟨1, vs 3, no 3, [.val false 1], ims 1, true⟩, [.slot 22, .slot 24, cI 1000000], [], [], some (21, false), false, .none⟩, gX 26 .not [.slot 25] [] [] 21 false, op 27 .pick [.slot 21, cB true, .slot 26], sX 28 [.slot 27], gX 29 .move [.slot 9] [] [] 28 false, gX 30 (.fieldAddr 0) [.slot 3] [] [] 28 false, gX 31 (.load true 7) [.slot 30] [0] [] 28 false, ⟨some 32, .call ⟨297, [.val true 7], no 7, [.val false 1], ims 1, true⟩, [.slot 31], [], [], some (28, false), false, .none⟩, gX 33 (.fieldAddr 0) [.slot 3] [] [] 28 false, gX 34 (.fieldAddr 0) [.slot 33] [] [] 28 false, gX 35 (.fieldAddr 0) [.slot 34] [] [] 28 false, gX 36 (.load false 1) [.slot 35] [0] [] 28 false, ⟨some 37, .call ⟨41, vs 4, no 4, [.val false 1], ims 1, true⟩, [.slot 29, .slot 32, .slot 36, cI 0], [2], [], some (28, false), false, .none⟩, gX 38 .not [.slot 37] [] [] 28 false, op 39 .pick [.slot 28, cB true, .slot 38]]) (.cond (.slot 39) (.seq (rG [op 40 (.build [cZ, .nil, .nil, cZ, .nil, cZ, .bool false, cZ, cZ, cZ, .nil, cZ, cZ, cZ, cZ] []) [], ow 41 (.buildSlice false 3 13 zBE 0 [] [cZ, cZ, .nil]) [] [3] [3], sT 15 6 40 1, mv 7 41, op 8 .move [cB false]]) (.ret)) (.skip))) (.seq (.seq (.region true [mv 42 1, o1 43 .len 42, op 44 (.bin .gtr) [.slot 43, cI 0], sX 45 [.slot 44], gX 46 .move [.slot 1] [] [] 45 true, gX 47 (.indexAddr zAd) [.slot 46, cI 0] [] [] 45 true, gX 48 (.fieldAddr 0) [.slot 47] [] [] 45 true, gX 49 (.load false 1) [.slot 48] [] [] 45 true, gX 50 (.fieldAddr 11) [.slot 3] [] [] 45 true, gX 51 (.load false 1) [.slot 50] [0] [] 45 true, gX 52 (.bin .lss) (sl [49, 51]) [] [] 45 true, ⟨some 53, .move, [.slot 52], [], [], some (45, true), true, .none⟩, gX 54 .move [.slot 1] [] [] 53 false, gX 55 .move [.slot 1] [] [] 53 false, gX 56 .len [.slot 55] [] [] 53 false, gX 57 (.bin .sub) [.slot 56, cI 1] [] [] 53 false, gX 58 (.indexAddr zAd) (sl [54, 57]) [] [] 53 false, gX 59 (.fieldAddr 0) [.slot 58] [] [] 53 false, gX 60 (.load false 1) [.slot 59] [] [] 53 false, gX 61 .move [.slot 2] [] [] 53 false, gX 62 (.bin .gtr) (sl [60, 61]) [] [] 53 false, gX 63 .pick [.slot 53, cB true, .slot 62] [] [] 45 true, op 64 .pick [.slot 45, .slot 63, cB false]]) (.cond (.slot 64) (.seq (rG [op 65 (.build [cZ, .nil, .nil, cZ, .nil, cZ, .bool false, cZ, cZ, cZ, .nil, cZ, cZ, cZ, cZ] []) [], ow 66 (.buildSlice false 4 13 zBE 0 [] [cZ, cZ, .nil]) [] [4] [4], sT 15 6 65 1, mv 7 66, op 8 .move [cB false]]) (.ret)) (.skip))) (.seq (rG [lU 67 15 3 0, ow 10 (.alloc 5 [cZ, .nil, .nil, cZ, .nil, cZ, .bool false, cZ, cZ, cZ, .nil, cZ, cZ, cZ, cZ]) [] [5] [5], sT 15 10 67 5]) (.seq (rG [fA 68 0 3, lU 69 7 68 0, o1 70 (.call ⟨293, [.val true 7], no 7, [.val true 7], ims 7, true⟩) 69, fA 71 0 10, sT 7 71 70 5]) (.seq (rG [mv 72 9, fA 73 10 10, sT 1 73 72 5]) (.seq (rG [mv 74 2, fA 75 11 10, sT 1 75 74 5]) (.seq (.adj [.freeze 2] (rG [ow 76 (.call ⟨319, [.box 5 15], no 15, [.val false 1], ims 16, false⟩) [.slot 10] [5] [5], mv 11 76])) (.seq (rG [lU 77 15 10 5, mv 78 11, sT 15 6 77 1, mv 7 78, op 8 .move [cB true]]) (.ret)))))))))) }
def yf.env (N : Nat) : Env := envOf (tbl [(298, yU.fs N), (41, zW.fs N), (297, zm.fs N), (319, zR.fs N), (1, zS.fs N), (293, zn.fs N)] noFS)
def yf.F (N : Nat) (x : zBK × zAQ × Int) : Option (zBK × zA9 × Bool) := XFunc.run yf.x (yf.env N) N x
def yf.fs (N : Nat) : FS := { arg := yf.x.arg, ret := yf.x.ret, fresh := false, F := yf.F N }
theorem yf.F_eq (N : Nat) (d : zAW × (Int × Int × Int) × zAQ × Int × Int × Int × Int) (l_ : zAQ) (end_ : Int) : yf.F N (d, l_, end_) =
bif decide (List.length ([] : List (Int × Int × Bool)) + List.length d.2.2.1 <= maxN) then
bif decide (List.length (([] : List (Int × Int × Bool)) ++ d.2.2.1) + l_.length <= maxN) then
bindO (yU.F N d) fun r1 =>
bif !r1 then
some ((((0, ([] : List zU)), (([] : List zp), (0, (([] : List (Int × Int × Int × Int × Int)), (0, false))))), ((0, (0, 0)), (([] : List (Int × Int × Bool)), (0, (0, (0, 0)))))), (([] : List (Int × Int × List Int)), false))
else
bindO (zS.F N (end_, (d.2.2.2.1, 1000000))) fun r2 =>
bif !r2 then
some ((((0, ([] : List zU)), (([] : List zp), (0, (([] : List (Int × Int × Int × Int × Int)), (0, false))))), ((0, (0, 0)), (([] : List (Int × Int × Bool)), (0, (0, (0, 0)))))), (([] : List (Int × Int × List Int)), false))
else
bindO (zm.F N d.1) fun r3 =>
bindO (zW.F N ((([] : List (Int × Int × Bool)) ++ d.2.2.1) ++ l_, (r3, (d.1.1.1, 0)))) fun r4 =>
bif !r4 then
some ((((0, ([] : List zU)), (([] : List zp), (0, (([] : List (Int × Int × Int × Int × Int)), (0, false))))), ((0, (0, 0)), (([] : List (Int × Int × Bool)), (0, (0, (0, 0)))))), (([] : List (Int × Int × List Int)), false))
else
bif decide ((l_.length : Int) > 0) then
bif zP 0 (l_.length) then
bif decide (((nth (0, (0, false)) l_ 0).1) < d.2.2.2.1) then
some ((((0, ([] : List zU)), (([] : List zp), (0, (([] : List (Int × Int × Int × Int × Int)), (0, false))))), ((0, (0, 0)), (([] : List (Int × Int × Bool)), (0, (0, (0, 0)))))), (([] : List (Int × Int × List Int)), false))
else
bif zP (IntKind.wrap .i64 ((l_.length : Int) - 1)) (l_.length) then
bif decide (((nth (0, (0, false)) l_ (IntKind.wrap .i64 ((l_.length : Int) - 1))).1) > end_) then
some ((((0, ([] : List zU)), (([] : List zp), (0, (([] : List (Int × Int × Int × Int × Int)), (0, false))))), ((0, (0, 0)), (([] : List (Int × Int × Bool)), (0, (0, (0, 0)))))), (([] : List (Int × Int × List Int)), false))
else
bindO (zn.F N d.1) fun r5 =>
bindO (zR.F N (r5, (d.2.1, ((([] : List (Int × Int × Bool)) ++ d.2.2.1) ++ l_, (end_, d.2.2.2.2))))) fun r6 =>
some (r6.2, (r6.1, true))
else none
else none
else
bindO (zn.F N d.1) fun r7 =>
bindO (zR.F N (r7, (d.2.1, ((([] : List (Int × Int × Bool)) ++ d.2.2.1) ++ l_, (end_, d.2.2.2.2))))) fun r8 =>
some (r8.2, (r8.1, true))
else none
else none := by kernel_rfl
def zAB.x : XFunc := { nslots := 39, nobj := 3, pars := [.box 0 3, .val false 1], rowsIn := no 4, rets := [.var 4 true 15], outs := iF 18, fresh := false, arg := .pair zBF (.int .i64), ret := .pair (.pair zAk zBl) zBF, body := .seq (rG [ow 4 (.alloc 1 [cZ, .nil, .nil, cZ, .nil, cZ, .bool false, cZ, cZ, cZ, .nil, cZ, cZ, cZ, cZ]) [] [1] [1]]) (.seq (rG [mv 8 0, mv 9 1, ow 10 (.callH false ⟨300, [.box 0 3, .val false 1], no 4, [.val true 15], ims 18, false⟩) (sl [8, 9]) [0, 100] [0, 100], ow 5 (.alloc 2 [cZ, .nil, .nil, cZ, .nil, cZ, .bool false, cZ, cZ, cZ, .nil, cZ, cZ, cZ, cZ]) [] [2] [2], sT 15 5 10 2]) (.seq (rG [mv 11 0, mv 12 1, fA 13 7 5, fA 14 0 13, lN 15 14 2, ow 16 (.call ⟨176, [.box 0 3, .val false 1, .val false 1, .val false 1], no 6, [.val false 1], ims 4, false⟩) [.slot 11, .slot 12, cI 6, .slot 15] [0] [0], mv 6 16]) (.seq (rG [op 7 .move [cI 0]]) (.seq (.seq (rG [mv 17 6, o1 18 .len 17, op 19 (.bin .gtr) [.slot 18, cI 0]]) (.cond (.slot 19) (rG [mv 20 6, mv 21 6, o1 22 .len 21, op 23 (.bin .sub) [.slot 22, cI 1], o2 24 (.indexAddr zAd) 20 23, fA 25 0 24, o1 26 (.load false 1) 25, mv 7 26]) (.skip))) (.seq (.region true [lU 28 15 5 2, mv 29 6, mv 30 7, mv 31 0, ow 32 (.call ⟨33, [.box 0 3, .val false 1], no 4, [.val false 1], ims 4, false⟩) [.slot 31, cI 4] [0] [0], o2 33 (.bin .add) 30 32, op 34 (.call ⟨320, [.val true 15, .val false 1, .val false 1], no 17, [.val true 15, .val false 1, .val false 1], ims 17, false⟩) (sl [28, 29, 33]), mv 27 34, eX 35 0 27, eX 36 1 27, eX 37 2 27, sT 15 5 35 2]) (.seq (rG [lU 38 15 5 2, sT 15 4 38 1]) (.ret))))))) }
def zAB.env (N : Nat) : Env := envOf (tbl [(320, yf.fs N), (300, yF.fs N), (33, zC.fs N), (176, yE.fs N)] noFS)
def zAB.F (N : Nat) (x : ((List Int) × Int × Int) × Int) : Option (zBK × (List Int) × Int × Int) := XFunc.run zAB.x (zAB.env N) N x
def zAB.fs (N : Nat) : FS := { arg := zAB.x.arg, ret := zAB.x.ret, fresh := false, F := zAB.F N }
theorem zAB.F_eq (N : Nat) (c : (List Int) × Int × Int) (keys : Int) : zAB.F N (c, keys) =
bindO (yF.H N (c, keys) (hhide ([] : List HRow))) fun r1 =>
bindO (yE.F N (r1.1.2, (keys, (6, r1.1.1.2.1.1)))) fun r2 =>
bif decide ((List.length r2.1 : Int) > 0) then
bif zP (IntKind.wrap .i64 ((List.length r2.1 : Int) - 1)) (List.length r2.1) then
bindO (zC.F N (r2.2, 4)) fun r3 =>
bindO (yf.F N (r1.1.1, (r2.1, IntKind.wrap .i64 (((nth (0, (0, false)) r2.1 (IntKind.wrap .i64 ((List.length r2.1 : Int) - 1))).1) + r3.1)))) fun r4 =>
some (r4.1, r3.2)
else none
else
bindO (zC.F N (r2.2, 4)) fun r5 =>
bindO (yf.F N (r1.1.1, (r2.1, IntKind.wrap .i64 (0 + r5.1)))) fun r6 =>
some (r6.1, r5.2) := by kernel_rfl
def zT.c1 : XCode := .seq (.seq (rG [mv 16 8, fA 17 10 4, lN 18 17 1, o1 19 .len 18, o2 20 (.bin .lss) 16 19]) (.cond (.slot 20) (.skip) (.exit 0))) (.seq (.block 1 (rG [mv 23 7, fA 24 10 4, lN 25 24 1, mv 26 8, o2 27 (.indexAddr zAd) 25 26, fA 28 1 27, o1 29 (.load false 1) 28, o1 30 (.call ⟨57, vs 1, no 1, [.val false 1], ims 1, true⟩) 29, o2 31 (.bin .xor) 23 30, mv 7 31])) (rG [mv 21 8, op 22 (.bin .add) [.slot 21, cI 1], mv 8 22]))
def zT.c2 : XCode := .seq (.seq (rG [mv 39 11, op 40 (.bin .gtr) [.slot 39, cI 0]]) (.cond (.slot 40) (.skip) (.exit 2))) (.seq (.block 3 (.seq (rG [mv 43 10, mv 44 0, fA 45 7 4, fA 46 0 45, lN 47 46 1, op 48 (.bin .quo) [.slot 47, cI 2], fA 49 7 4, fA 50 0 49, lN 51 50 1, op 52 (.bin .sub) [.slot 51, cI 1], fA 53 7 4, fA 54 0 53, lN 55 54 1, fA 56 7 4, fA 57 0 56, lN 58 57 1, op 59 (.bin .add) [.slot 58, cI 1], op 60 (.buildSlice true 3 2 (.int .i64) 9 [(0, 1), (1, 1), (2, 1), (3, 1), (4, 1), (5, 1), (6, 1), (7, 1), (8, 1)] [cZ]) [cI 0, cI 0, cI 1, cI 1, cI 2, .slot 48, .slot 52, .slot 55, .slot 59], ow 61 (.call ⟨46, [.box 0 3, .val false 1], no 4, [.val false 1], ims 4, false⟩) (sl [44, 60]) [0] [0], o2 62 (.bin .add) 43 61, mv 10 62]) (.seq (rG [mv 63 0, fA 64 0 4, fA 65 0 64, fA 66 0 65, lN 67 66 1, ow 68 (.call ⟨33, [.box 0 3, .val false 1], no 4, [.val false 1], ims 4, false⟩) (sl [63, 67]) [0] [0], mv 12 68]) (.seq (rG [mv 69 7, mv 70 12, op 71 (.bin .shl) [cI 1, .slot 70], o2 72 (.bin .xor) 69 71, mv 7 72]) (rG [mv 73 9, mv 74 10, mv 75 12, mv 76 7, mv 77 12, o2 78 (.bin .shr) 76 77, op 79 (.bin .and) [.slot 78, cI 1], op 80 (.bin .eql) [.slot 79, cI 1], op 81 (.build [cZ, cZ, .bool false] [(0, 1), (1, 1), (2, 1)]) (sl [74, 75, 80]), ow 82 (.buildSlice false 4 4 zAd 1 [(0, 3)] [cZ, cZ, .bool false]) [.slot 81] [4] [4], ow 83 (.append false 2 4 zAd) (sl [73, 82]) [2, 4] [2], mv 9 83]))))) (rG [mv 41 11, op 42 (.bin .sub) [.slot 41, cI 1], mv 11 42]))
def zT.c3 : XCode := .seq (rG [mv 84 9, mv 6 84]) (.ret)
def zT.c4 : XCode := .seq (rG [ow 32 (.buildSlice false 2 4 zAd 0 [] [cZ, cZ, .bool false]) [] [2] [2], mv 9 32]) (.seq (rG [fA 33 11 4, lN 34 33 1, mv 10 34]) (.seq (.seq (rG [mv 35 0, mv 36 2, op 37 (.bin .add) [.slot 36, cI 1], ow 38 (.call ⟨33, [.box 0 3, .val false 1], no 4, [.val false 1], ims 4, false⟩) (sl [35, 37]) [0] [0], mv 11 38]) (.block 2 (.loop [.keep [0, 4, 7, 9, 10, 11], .drop 3, .drop 4, .norm] (zT.c2)))) (zT.c3)))
def zT.x : XFunc := { nslots := 85, nobj := 5, pars := [.box 0 3, .val true 15, .val false 1], rowsIn := no 19, rets := [.tmp 6 false 1], outs := [.own 4, .imm, .imm, .imm], fresh := false, arg := .pair zBF (.pair (.pair zAk zBl) (.int .i64)), ret := .pair (.list zAd) zBF, body := .seq (rG [ow 4 (.box 1) [.slot 1] [1] [1], op 6 .move [.const (.one (.nil))]]) (.seq (rG [fA 13 0 4, lU 14 7 13 1, o1 15 (.call ⟨297, [.val true 7], no 7, [.val false 1], ims 1, true⟩) 14, mv 7 15]) (.seq (.seq (rG [op 8 .move [cI 0]]) (.block 0 (.loop [.keep [0, 2, 4, 7, 8], .drop 2, .drop 3, .drop 4, .norm] (zT.c1)))) (zT.c4))) }
def zT.env (N : Nat) : Env := envOf (tbl [(57, y6.fs N), (297, zm.fs N), (33, zC.fs N), (46, zx.fs N)] noFS)
def zT.F (N : Nat) (x : ((List Int) × Int × Int) × zBK × Int) : Option D25_30 := XFunc.run zT.x (zT.env N) N x
def zT.fs (N : Nat) : FS := { arg := zT.x.arg, ret := zT.x.ret, fresh := false, F := zT.F N }
def zT.k2 (N : Nat) : Ex -> S -> Option D25_30 := seqK (fun s => XCode.runK (zT.env N) N (zT.c4) s (XFunc.endK zT.x)) (XFunc.endK zT.x)
def zT.k1 (N : Nat) : Ex -> S -> Option D25_30 := y2 0 (zT.k2 N)
def zT.k4 (N : Nat) : Ex -> S -> Option D25_30 := seqK (fun s => XCode.runK (zT.env N) N (zT.c3) s (XFunc.endK zT.x)) (XFunc.endK zT.x)
def zT.k3 (N : Nat) : Ex -> S -> Option D25_30 := y2 2 (zT.k4 N)
def zT.L1 (N : Nat) (n1 : Nat) (most : Int) (held : Int) (i : Int) (c0 : List Int) (c1 : Int) (c2 : Int) (o10 : Int) (o11 : List zU) (o12 : List zp) (o13 : Int) (o14 : zk) (o15 : Int) (o16 : Bool) (o17 : Int) (o18 : Int) (o19 : Int) (o110 : zAQ) (o111 : Int) (o112 : Int) (o113 : Int) (o114 : Int) : Option D25_30 := loopK [.keep [0, 2, 4, 7, 8], .drop 2, .drop 3, .drop 4, .norm] (fun s k => XCode.runK (zT.env N) N zT.c1 s k) n1
 { t := jK 85 [(0, .one (.ptr 0 0 0)), (2, .one (.int .i64 most)), (4, .one (.ptr 1 0 0)), (7, .one (.int .i64 held)), (8, .one (.int .i64 i))], h := [.box 0 true [.sl false (.int .u8) c0, .int .i64 c1, .int .i64 c2], .box 0 false [.int .i64 o10, .sl false (.list yM) o11, .sl false (.list yW) o12, .int .i64 o13, .sl false yZ o14, .int .i64 o15, .bool o16, .int .i64 o17, .int .i64 o18, .int .i64 o19, .sl false zAd o110, .int .i64 o111, .int .i64 o112, .int .i64 o113, .int .i64 o114], .absent 0, .absent 0, .absent 0] }
 (zT.k1 N)
def zT.L2 (N : Nat) (n2 : Nat) (held : Int) (time : Int) (n_ : Int) (c0 : List Int) (c1 : Int) (c2 : Int) (o10 : Int) (o11 : List zU) (o12 : List zp) (o13 : Int) (o14 : zk) (o15 : Int) (o16 : Bool) (o17 : Int) (o18 : Int) (o19 : Int) (o110 : zAQ) (o111 : Int) (o112 : Int) (o113 : Int) (o114 : Int) (o2 : zAQ) : Option D25_30 := loopK [.keep [0, 4, 7, 9, 10, 11], .drop 3, .drop 4, .norm] (fun s k => XCode.runK (zT.env N) N zT.c2 s k) n2
 { t := jK 85 [(0, .one (.ptr 0 0 0)), (4, .one (.ptr 1 0 0)), (7, .one (.int .i64 held)), (9, .one (.ref 2 0 .all)), (10, .one (.int .i64 time)), (11, .one (.int .i64 n_))], h := [.box 0 true [.sl false (.int .u8) c0, .int .i64 c1, .int .i64 c2], .box 0 false [.int .i64 o10, .sl false (.list yM) o11, .sl false (.list yW) o12, .int .i64 o13, .sl false yZ o14, .int .i64 o15, .bool o16, .int .i64 o17, .int .i64 o18, .int .i64 o19, .sl false zAd o110, .int .i64 o111, .int .i64 o112, .int .i64 o113, .int .i64 o114], .row 0 false true 4 zAd o2, .absent 0, .absent 0] }
 (zT.k3 N)
theorem zT.L1_eq (N : Nat) (n1 : Nat) (most : Int) (held : Int) (i : Int) (c0 : List Int) (c1 : Int) (c2 : Int) (o10 : Int) (o11 : List zU) (o12 : List zp) (o13 : Int) (o14 : zk) (o15 : Int) (o16 : Bool) (o17 : Int) (o18 : Int) (o19 : Int) (o110 : zAQ) (o111 : Int) (o112 : Int) (o113 : Int) (o114 : Int) : zT.L1 N (n1 + 1) most held i c0 c1 c2 o10 o11 o12 o13 o14 o15 o16 o17 o18 o19 o110 o111 o112 o113 o114 =
bif decide (i < (o110.length : Int)) then
bif zP i (o110.length) then
bindO (y6.F N (((nth (0, (0, false)) o110 i).2).1)) fun r2 =>
zT.L1 N n1 most (zAn .i64 held r2) (IntKind.wrap .i64 (i + 1)) c0 c1 c2 o10 o11 o12 o13 o14 o15 o16 o17 o18 o19 o110 o111 o112 o113 o114
else none
else
bindO (zC.F N ((c0, (c1, c2)), IntKind.wrap .i64 (most + 1))) fun r3 =>
zT.L2 N N held o111 r3.1 r3.2.1 r3.2.2.1 r3.2.2.2 o10 o11 o12 o13 o14 o15 o16 o17 o18 o19 o110 o111 o112 o113 o114 ([] : List (Int × Int × Bool)) := by kernel_rfl
theorem zT.L2_eq (N : Nat) (n2 : Nat) (held : Int) (time : Int) (n_ : Int) (c0 : List Int) (c1 : Int) (c2 : Int) (o10 : Int) (o11 : List zU) (o12 : List zp) (o13 : Int) (o14 : zk) (o15 : Int) (o16 : Bool) (o17 : Int) (o18 : Int) (o19 : Int) (o110 : zAQ) (o111 : Int) (o112 : Int) (o113 : Int) (o114 : Int) (o2 : zAQ) : zT.L2 N (n2 + 1) held time n_ c0 c1 c2 o10 o11 o12 o13 o14 o15 o16 o17 o18 o19 o110 o111 o112 o113 o114 o2 =
bif decide (n_ > 0) then
bindO (zx.F N ((c0, (c1, c2)), ([0, 0, 1, 1, 2, quoI .i64 o17 2, IntKind.wrap .i64 (o17 - 1), o17, IntKind.wrap .i64 (o17 + 1)] : List Int))) fun r4 =>
bindO (zC.F N (r4.2, o10)) fun r5 =>
bif decide (0 <= r5.1) then
bif decide (0 <= r5.1) then
bif decide (o2.length + List.length ([(IntKind.wrap .i64 (time + r4.1), (r5.1, (zAe .i64 (zAs .i64 (zAn .i64 held (zAb .i64 1 r5.1)) r5.1) 1) == 1))] : List (Int × Int × Bool)) <= maxN) then
zT.L2 N n2 (zAn .i64 held (zAb .i64 1 r5.1)) (IntKind.wrap .i64 (time + r4.1)) (IntKind.wrap .i64 (n_ - 1)) r5.2.1 r5.2.2.1 r5.2.2.2 o10 o11 o12 o13 o14 o15 o16 o17 o18 o19 o110 o111 o112 o113 o114 (o2 ++ ([(IntKind.wrap .i64 (time + r4.1), (r5.1, (zAe .i64 (zAs .i64 (zAn .i64 held (zAb .i64 1 r5.1)) r5.1) 1) == 1))] : List (Int × Int × Bool)))
else none
else none
else none
else
some (o2, (c0, (c1, c2))) := by kernel_rfl
theorem zT.F_eq (N : Nat) (c : (List Int) × Int × Int) (d : zAW × (Int × Int × Int) × zAQ × Int × Int × Int × Int) (most : Int) : zT.F N (c, d, most) =
bindO (zm.F N d.1) fun r1 =>
zT.L1 N N most r1 0 c.1 c.2.1 c.2.2 d.1.1.1 d.1.1.2 d.1.2.1 d.1.2.2.1 d.1.2.2.2.1 d.1.2.2.2.2.1 d.1.2.2.2.2.2 d.2.1.1 d.2.1.2.1 d.2.1.2.2 d.2.2.1 d.2.2.2.1 d.2.2.2.2.1 d.2.2.2.2.2.1 d.2.2.2.2.2.2 := by kernel_rfl
def ya.x : XFunc := { nslots := 27, nobj := 3, pars := [.val false 1], rowsIn := [none], rets := [.var 2 true 15, .tmp 3 false 1, .tmp 4 false 1], outs := iF 17, fresh := false, arg := .list (.int .u8), ret := .pair (.pair zAk zBl) T14_30, body := .seq (rG [ow 2 (.alloc 0 [cZ, .nil, .nil, cZ, .nil, cZ, .bool false, cZ, cZ, cZ, .nil, cZ, cZ, cZ, cZ]) [] [0] [0], op 3 .move [.const (.one (.nil))], op 4 .move [cI 0]]) (.seq (rG [mv 8 0, ow 9 (.call ⟨237, vs 2, no 2, [.box 1 3], ims 3, false⟩) [.slot 8, cI 8] [1] [1], mv 5 9]) (.seq (rG [mv 10 5, mv 11 5, ow 12 (.call ⟨33, [.box 1 3, .val false 1], no 4, [.val false 1], ims 4, false⟩) [.slot 11, cI 4] [1] [1], op 13 (.bin .add) [cI 1, .slot 12], ow 14 (.call ⟨321, [.box 1 3, .val false 1], no 4, [.val true 15], ims 18, false⟩) (sl [10, 13]) [1] [1], ow 6 (.alloc 2 [cZ, .nil, .nil, cZ, .nil, cZ, .bool false, cZ, cZ, cZ, .nil, cZ, cZ, cZ, cZ]) [] [2] [2], sT 15 6 14 2]) (.seq (rG [mv 15 5, lU 16 15 6 2, ow 17 (.call ⟨322, [.box 1 3, .val true 15, .val false 1], no 19, [.val false 1], ims 4, false⟩) [.slot 15, .slot 16, cI 9] [1] [1], mv 7 17]) (.seq (.region true [lU 18 15 6 2, mv 19 7, mv 20 7, fA 21 11 6, lN 22 21 2, o2 23 (.call ⟨48, vs 2, no 2, [.val false 1], ims 1, true⟩) 20 22, mv 24 5, ow 25 (.call ⟨33, [.box 1 3, .val false 1], no 4, [.val false 1], ims 4, false⟩) [.slot 24, cI 12] [1] [1], o2 26 (.bin .add) 23 25, sT 15 2 18 0, mv 3 19, mv 4 26]) (.ret))))) }
def ya.env (N : Nat) : Env := envOf (tbl [(321, zAB.fs N), (322, zT.fs N), (48, zAA.fs N), (33, zC.fs N), (237, y4.fs N)] noFS)
def ya.F (N : Nat) (x : List Int) : Option (zBK × zAQ × Int) := XFunc.run ya.x (ya.env N) N x
def ya.fs (N : Nat) : FS := { arg := ya.x.arg, ret := ya.x.ret, fresh := false, F := ya.F N }
theorem ya.F_eq (N : Nat) (code : List Int) : ya.F N code =
bindO (y4.F N (code, 8)) fun r1 =>
bindO (zC.F N (r1, 4)) fun r2 =>
bindO (zAB.F N (r2.2, IntKind.wrap .i64 (1 + r2.1))) fun r3 =>
bindO (zT.F N (r3.2, (r3.1, 9))) fun r4 =>
bindO (zAA.F N (r4.1, r3.1.2.2.2.1)) fun r5 =>
bindO (zC.F N (r4.2, 12)) fun r6 =>
some (r3.1, (r4.1, IntKind.wrap .i64 (r5 + r6.1))) := by kernel_rfl
def yR.x : XFunc := { nslots := 9, nobj := 0, pars := [.val false 1], rowsIn := [none], rets := [.tmp 2 false 1], outs := [.imm], fresh := true, arg := .int .i64, ret := .bool, body := .seq (rG [op 2 .move [cB false]]) (.seq (rG [mv 3 0, op 4 (.bin .geq) [.slot 3, cI 1], sX 5 [.slot 4], gX 6 .move [.slot 0] [] [] 5 true, gX 7 (.bin .leq) [.slot 6, cI 15] [] [] 5 true, op 8 .pick [.slot 5, .slot 7, cB false], mv 2 8]) (.ret)) }
def yR.env (_ : Nat) : Env := envOf (tbl [] noFS)
def yR.F (N : Nat) (x : Int) : Option Bool := XFunc.run yR.x (yR.env N) N x
def yR.fs (N : Nat) : FS := { arg := yR.x.arg, ret := yR.x.ret, fresh := true, F := yR.F N }
theorem yR.F_eq (N : Nat) (n_ : Int) : yR.F N n_ =
bif decide (n_ >= 1) then
some (decide (n_ <= 15))
else
some false := by kernel_rfl
def yV.x : XFunc := { nslots := 9, nobj := 0, pars := [.val false 1], rowsIn := [none], rets := [.tmp 2 false 1], outs := [.imm], fresh := true, arg := .int .i64, ret := .bool, body := .seq (rG [op 2 .move [cB false]]) (.seq (rG [mv 3 0, op 4 (.bin .geq) [.slot 3, cI 1], sX 5 [.slot 4], gX 6 .move [.slot 0] [] [] 5 true, gX 7 (.bin .leq) [.slot 6, cI 3] [] [] 5 true, op 8 .pick [.slot 5, .slot 7, cB false], mv 2 8]) (.ret)) }
def yV.env (_ : Nat) : Env := envOf (tbl [] noFS)
def yV.F (N : Nat) (x : Int) : Option Bool := XFunc.run yV.x (yV.env N) N x
def yV.fs (N : Nat) : FS := { arg := yV.x.arg, ret := yV.x.ret, fresh := true, F := yV.F N }
theorem yV.F_eq (N : Nat) (n_ : Int) : yV.F N n_ =
bif decide (n_ >= 1) then
some (decide (n_ <= 3))
else
some false := by kernel_rfl
def yK.x : XFunc := { nslots := 158, nobj := 1, pars := [.val true 4], rowsIn := no 4, rets := [.tmp 2 false 1], outs := [.imm], fresh := true, arg := .pair (.int .i64) yW, ret := .bool, body := .seq (rG [ow 1 (.box 0) [.slot 0] [0] [0], op 2 .move [cB false]]) (.seq (.seq (rG [fA 3 0 1, lN 4 3 0]) (.block 0 (.seq (.seq (rG [op 6 (.bin .eql) [.slot 4, cI 0], mv 5 6]) (.cond (.slot 5) (.skip) (.seq (rG [op 7 (.bin .eql) [.slot 4, cI 1], mv 5 7]) (.cond (.slot 5) (.skip) (rG [op 8 (.bin .eql) [.slot 4, cI 10], mv 5 8]))))) (.cond (.slot 5) (.seq (rG [fA 9 1 1, lN 10 9 0, op 11 (.bin .eql) [.slot 10, cI 0], sX 12 [.slot 11], gX 13 (.fieldAddr 2) [.slot 1] [] [] 12 true, gX 14 (.load false 1) [.slot 13] [0] [] 12 true, gX 15 (.bin .eql) [.slot 14, cI 0] [] [] 12 true, op 16 .pick [.slot 12, .slot 15, cB false], sX 17 [.slot 16], gX 18 (.fieldAddr 3) [.slot 1] [] [] 17 true, gX 19 (.load false 1) [.slot 18] [0] [] 17 true, gX 20 (.bin .eql) [.slot 19, cI 0] [] [] 17 true, op 21 .pick [.slot 17, .slot 20, cB false], mv 2 21]) (.ret)) (.seq (rG [op 23 (.bin .eql) [.slot 4, cI 2], mv 22 23]) (.cond (.slot 22) (.seq (rG [fA 24 3 1, lN 25 24 0, op 26 (.bin .eql) [.slot 25, cI 0], sX 27 [.slot 26], gX 28 (.fieldAddr 1) [.slot 1] [] [] 27 true, gX 29 (.load false 1) [.slot 28] [0] [] 27 true, gX 30 (.bin .eql) [.slot 29, cI 0] [] [] 27 true, ⟨some 31, .move, [.slot 30], [], [], some (27, true), true, .none⟩, gX 32 (.fieldAddr 1) [.slot 1] [] [] 31 false, gX 33 (.load false 1) [.slot 32] [0] [] 31 false, ⟨some 34, .call ⟨153, vs 1, no 1, [.val false 1], ims 1, true⟩, [.slot 33], [], [], some (31, false), false, .none⟩, gX 35 .pick [.slot 31, cB true, .slot 34] [] [] 27 true, op 36 .pick [.slot 27, .slot 35, cB false], sX 37 [.slot 36], gX 38 (.fieldAddr 2) [.slot 1] [] [] 37 true, gX 39 (.load false 1) [.slot 38] [0] [] 37 true, gX 40 (.bin .eql) [.slot 39, cI 0] [] [] 37 true, ⟨some 41, .move, [.slot 40], [], [], some (37, true), true, .none⟩, gX 42 (.fieldAddr 2) [.slot 1] [] [] 41 false, gX 43 (.load false 1) [.slot 42] [0] [] 41 false, ⟨some 44, .call ⟨154, vs 1, no 1, [.val false 1], ims 1, true⟩, [.slot 43], [], [], some (41, false), false, .none⟩, gX 45 .pick [.slot 41, cB true, .slot 44] [] [] 37 true, op 46 .pick [.slot 37, .slot 45, cB false], sX 47 [.slot 46], gX 48 (.fieldAddr 1) [.slot 1] [] [] 47 true, gX 49 (.load false 1) [.slot 48] [0] [] 47 true, gX 50 (.bin .neq) [.slot 49, cI 0] [] [] 47 true, ⟨some 51, .move, [.slot 50], [], [], some (47, true), true, .none⟩, gX 52 (.fieldAddr 2) [.slot 1] [] [] 51 false, gX 53 (.load false 1) [.slot 52] [0] [] 51 false, gX 54 (.bin .neq) [.slot 53, cI 0] [] [] 51 false, gX 55 .pick [.slot 51, cB true, .slot 54] [] [] 47 true, op 56 .pick [.slot 47, .slot 55, cB false], mv 2 56]) (.ret)) (.seq (.seq (rG [op 58 (.bin .eql) [.slot 4, cI 3], mv 57 58]) (.cond (.slot 57) (.skip) (rG [op 59 (.bin .eql) [.slot 4, cI 4], mv 57 59]))) (.cond (.slot 57) (.seq (rG [fA 60 1 1, lN 61 60 0, op 62 (.bin .eql) [.slot 61, cI 0], sX 63 [.slot 62], gX 64 (.fieldAddr 2) [.slot 1] [] [] 63 true, gX 65 (.load false 1) [.slot 64] [0] [] 63 true, gX 66 (.bin .eql) [.slot 65, cI 0] [] [] 63 true, op 67 .pick [.slot 63, .slot 66, cB false], sX 68 [.slot 67], gX 69 (.fieldAddr 3) [.slot 1] [] [] 68 true, gX 70 (.load false 1) [.slot 69] [0] [] 68 true, ⟨some 71, .call ⟨155, vs 1, no 1, [.val false 1], ims 1, true⟩, [.slot 70], [], [], some (68, true), false, .none⟩, op 72 .pick [.slot 68, .slot 71, cB false], mv 2 72]) (.ret)) (.seq (rG [op 74 (.bin .eql) [.slot 4, cI 5], mv 73 74]) (.cond (.slot 73) (.seq (rG [fA 75 1 1, lN 76 75 0, op 77 (.bin .eql) [.slot 76, cI 0], sX 78 [.slot 77], gX 79 (.fieldAddr 2) [.slot 1] [] [] 78 true, gX 80 (.load false 1) [.slot 79] [0] [] 78 true, gX 81 (.bin .eql) [.slot 80, cI 0] [] [] 78 true, op 82 .pick [.slot 78, .slot 81, cB false], sX 83 [.slot 82], gX 84 (.fieldAddr 3) [.slot 1] [] [] 83 true, gX 85 (.load false 1) [.slot 84] [0] [] 83 true, gX 86 (.bin .geq) [.slot 85, cI 0] [] [] 83 true, op 87 .pick [.slot 83, .slot 86, cB false], sX 88 [.slot 87], gX 89 (.fieldAddr 3) [.slot 1] [] [] 88 true, gX 90 (.load false 1) [.slot 89] [0] [] 88 true, gX 91 (.bin .leq) [.slot 90, cI 3] [] [] 88 true, op 92 .pick [.slot 88, .slot 91, cB false], mv 2 92]) (.ret)) (.seq (rG [op 94 (.bin .eql) [.slot 4, cI 9], mv 93 94]) (.cond (.slot 93) (.seq (rG [fA 95 1 1, lN 96 95 0, op 97 (.bin .eql) [.slot 96, cI 0], sX 98 [.slot 97], gX 99 (.fieldAddr 2) [.slot 1] [] [] 98 true, gX 100 (.load false 1) [.slot 99] [0] [] 98 true, gX 101 (.bin .eql) [.slot 100, cI 0] [] [] 98 true, op 102 .pick [.slot 98, .slot 101, cB false], sX 103 [.slot 102], gX 104 (.fieldAddr 3) [.slot 1] [] [] 103 true, gX 105 (.load false 1) [.slot 104] [0] [] 103 true, gX 106 (.bin .geq) [.slot 105, cI 0] [] [] 103 true, op 107 .pick [.slot 103, .slot 106, cB false], sX 108 [.slot 107], gX 109 (.fieldAddr 3) [.slot 1] [] [] 108 true, gX 110 (.load false 1) [.slot 109] [0] [] 108 true, gX 111 (.bin .leq) [.slot 110, cI 3] [] [] 108 true, op 112 .pick [.slot 108, .slot 111, cB false], mv 2 112]) (.ret)) (.seq (rG [op 114 (.bin .eql) [.slot 4, cI 6], mv 113 114]) (.cond (.slot 113) (.seq (rG [fA 115 1 1, lN 116 115 0, o1 117 (.call ⟨153, vs 1, no 1, [.val false 1], ims 1, true⟩) 116, sX 118 [.slot 117], gX 119 (.fieldAddr 2) [.slot 1] [] [] 118 true, gX 120 (.load false 1) [.slot 119] [0] [] 118 true, ⟨some 121, .call ⟨154, vs 1, no 1, [.val false 1], ims 1, true⟩, [.slot 120], [], [], some (118, true), false, .none⟩, op 122 .pick [.slot 118, .slot 121, cB false], sX 123 [.slot 122], gX 124 (.fieldAddr 3) [.slot 1] [] [] 123 true, gX 125 (.load false 1) [.slot 124] [0] [] 123 true, gX 126 (.bin .eql) [.slot 125, cI 0] [] [] 123 true, op 127 .pick [.slot 123, .slot 126, cB false], mv 2 127]) (.ret)) (.seq (rG [op 129 (.bin .eql) [.slot 4, cI 7], mv 128 129]) (.cond (.slot 128) (.seq (rG [fA 130 1 1, lN 131 130 0, o1 132 (.call ⟨153, vs 1, no 1, [.val false 1], ims 1, true⟩) 131, sX 133 [.slot 132], gX 134 (.fieldAddr 2) [.slot 1] [] [] 133 true, gX 135 (.load false 1) [.slot 134] [0] [] 133 true, gX 136 (.bin .eql) [.slot 135, cI 0] [] [] 133 true, op 137 .pick [.slot 133, .slot 136, cB false], sX 138 [.slot 137], gX 139 (.fieldAddr 3) [.slot 1] [] [] 138 true, gX 140 (.load false 1) [.slot 139] [0] [] 138 true, ⟨some 141, .call ⟨155, vs 1, no 1, [.val false 1], ims 1, true⟩, [.slot 140], [], [], some (138, true), false, .none⟩, op 142 .pick [.slot 138, .slot 141, cB false], mv 2 142]) (.ret)) (.seq (rG [op 144 (.bin .eql) [.slot 4, cI 8], mv 143 144]) (.cond (.slot 143) (.seq (rG [fA 145 1 1, lN 146 145 0, op 147 (.bin .eql) [.slot 146, cI 0], sX 148 [.slot 147], gX 149 (.fieldAddr 2) [.slot 1] [] [] 148 true, gX 150 (.load false 1) [.slot 149] [0] [] 148 true, ⟨some 151, .call ⟨154, vs 1, no 1, [.val false 1], ims 1, true⟩, [.slot 150], [], [], some (148, true), false, .none⟩, op 152 .pick [.slot 148, .slot 151, cB false], sX 153 [.slot 152], gX 154 (.fieldAddr 3) [.slot 1] [] [] 153 true, gX 155 (.load false 1) [.slot 154] [0] [] 153 true, gX 156 (.bin .eql) [.slot 155, cI 0] [] [] 153 true, op 157 .pick [.slot 153, .slot 156, cB false], mv 2 157]) (.ret)) (.skip))))))))))))))))))) (.seq (rG [op 2 .move [cB false]]) (.ret))) }
def yK.env (N : Nat) : Env := envOf (tbl [(153, yd.fs N), (154, yR.fs N), (155, yV.fs N)] noFS)
def yK.F (N : Nat) (x : Int × Int × Int × Int) : Option Bool := XFunc.run yK.x (yK.env N) N x
def yK.fs (N : Nat) : FS := { arg := yK.x.arg, ret := yK.x.ret, fresh := true, F := yK.F N }
theorem yK.F_eq (N : Nat) (a : Int × Int × Int × Int) : yK.F N a =
bif a.1 == 0 then
bif a.1 == 0 then
bif a.2.1 == 0 then
bif a.2.2.1 == 0 then
some (a.2.2.2 == 0)
else
some false
else
some false
else
bif a.1 == 2 then
bif a.2.2.2 == 0 then
bif a.2.1 == 0 then
bif a.2.2.1 == 0 then
bif a.2.1 != 0 then
some true
else
some (a.2.2.1 != 0)
else
bindO (yR.F N a.2.2.1) fun r1 =>
bif r1 then
bif a.2.1 != 0 then
some true
else
some (a.2.2.1 != 0)
else
some false
else
bindO (yd.F N a.2.1) fun r2 =>
bif r2 then
bif a.2.2.1 == 0 then
bif a.2.1 != 0 then
some true
else
some (a.2.2.1 != 0)
else
bindO (yR.F N a.2.2.1) fun r3 =>
bif r3 then
bif a.2.1 != 0 then
some true
else
some (a.2.2.1 != 0)
else
some false
else
some false
else
some false
else
bif a.1 == 3 then
bif a.1 == 3 then
bif a.2.1 == 0 then
bif a.2.2.1 == 0 then
bindO (yV.F N a.2.2.2) fun r4 =>
some r4
else
some false
else
some false
else
bif a.1 == 5 then
bif a.2.1 == 0 then
bif a.2.2.1 == 0 then
bif decide (a.2.2.2 >= 0) then
some (decide (a.2.2.2 <= 3))
else
some false
else
some false
else
some false
else
bif a.1 == 9 then
bif a.2.1 == 0 then
bif a.2.2.1 == 0 then
bif decide (a.2.2.2 >= 0) then
some (decide (a.2.2.2 <= 3))
else
some false
else
some false
else
some false
else
bif a.1 == 6 then
bindO (yd.F N a.2.1) fun r5 =>
bif r5 then
bindO (yR.F N a.2.2.1) fun r6 =>
bif r6 then
some (a.2.2.2 == 0)
else
some false
else
some false
else
bif a.1 == 7 then
bindO (yd.F N a.2.1) fun r7 =>
bif r7 then
bif a.2.2.1 == 0 then
bindO (yV.F N a.2.2.2) fun r8 =>
some r8
else
some false
else
some false
else
bif a.1 == 8 then
bif a.2.1 == 0 then
bindO (yR.F N a.2.2.1) fun r9 =>
bif r9 then
some (a.2.2.2 == 0)
else
some false
else
some false
else
some false
else
bif a.1 == 4 then
bif a.2.1 == 0 then
bif a.2.2.1 == 0 then
bindO (yV.F N a.2.2.2) fun r10 =>
some r10
else
some false
else
some false
else
bif a.1 == 5 then
bif a.2.1 == 0 then
bif a.2.2.1 == 0 then
bif decide (a.2.2.2 >= 0) then
some (decide (a.2.2.2 <= 3))
else
some false
else
some false
else
some false
else
bif a.1 == 9 then
bif a.2.1 == 0 then
bif a.2.2.1 == 0 then
bif decide (a.2.2.2 >= 0) then
some (decide (a.2.2.2 <= 3))
else
some false
else
some false
else
some false
else
bif a.1 == 6 then
bindO (yd.F N a.2.1) fun r11 =>
bif r11 then
bindO (yR.F N a.2.2.1) fun r12 =>
bif r12 then
some (a.2.2.2 == 0)
else
some false
else
some false
else
bif a.1 == 7 then
bindO (yd.F N a.2.1) fun r13 =>
bif r13 then
bif a.2.2.1 == 0 then
bindO (yV.F N a.2.2.2) fun r14 =>
some r14
else
some false
else
some false
else
bif a.1 == 8 then
bif a.2.1 == 0 then
bindO (yR.F N a.2.2.1) fun r15 =>
bif r15 then
some (a.2.2.2 == 0)
else
some false
else
some false
else
some false
else
bif a.1 == 1 then
bif a.1 == 1 then
bif a.2.1 == 0 then
bif a.2.2.1 == 0 then
some (a.2.2.2 == 0)
else
some false
else
some false
else
bif a.1 == 2 then
bif a.2.2.2 == 0 then
bif a.2.1 == 0 then
bif a.2.2.1 == 0 then
bif a.2.1 != 0 then
some true
else
some (a.2.2.1 != 0)
else
bindO (yR.F N a.2.2.1) fun r16 =>
bif r16 then
bif a.2.1 != 0 then
some true
else
some (a.2.2.1 != 0)
else
some false
else
bindO (yd.F N a.2.1) fun r17 =>
bif r17 then
bif a.2.2.1 == 0 then
bif a.2.1 != 0 then
some true
else
some (a.2.2.1 != 0)
else
bindO (yR.F N a.2.2.1) fun r18 =>
bif r18 then
bif a.2.1 != 0 then
some true
else
some (a.2.2.1 != 0)
else
some false
else
some false
else
some false
else
bif a.1 == 3 then
bif a.1 == 3 then
bif a.2.1 == 0 then
bif a.2.2.1 == 0 then
bindO (yV.F N a.2.2.2) fun r19 =>
some r19
else
some false
else
some false
else
bif a.1 == 5 then
bif a.2.1 == 0 then
bif a.2.2.1 == 0 then
bif decide (a.2.2.2 >= 0) then
some (decide (a.2.2.2 <= 3))
else
some false
else
some false
else
some false
else
bif a.1 == 9 then
bif a.2.1 == 0 then
bif a.2.2.1 == 0 then
bif decide (a.2.2.2 >= 0) then
some (decide (a.2.2.2 <= 3))
else
some false
else
some false
else
some false
else
bif a.1 == 6 then
bindO (yd.F N a.2.1) fun r20 =>
bif r20 then
bindO (yR.F N a.2.2.1) fun r21 =>
bif r21 then
some (a.2.2.2 == 0)
else
some false
else
some false
else
bif a.1 == 7 then
bindO (yd.F N a.2.1) fun r22 =>
bif r22 then
bif a.2.2.1 == 0 then
bindO (yV.F N a.2.2.2) fun r23 =>
some r23
else
some false
else
some false
else
bif a.1 == 8 then
bif a.2.1 == 0 then
bindO (yR.F N a.2.2.1) fun r24 =>
bif r24 then
some (a.2.2.2 == 0)
else
some false
else
some false
else
some false
else
bif a.1 == 4 then
bif a.2.1 == 0 then
bif a.2.2.1 == 0 then
bindO (yV.F N a.2.2.2) fun r25 =>
some r25
else
some false
else
some false
else
bif a.1 == 5 then
bif a.2.1 == 0 then
bif a.2.2.1 == 0 then
bif decide (a.2.2.2 >= 0) then
some (decide (a.2.2.2 <= 3))
else
some false
else
some false
else
some false
else
bif a.1 == 9 then
bif a.2.1 == 0 then
bif a.2.2.1 == 0 then
bif decide (a.2.2.2 >= 0) then
some (decide (a.2.2.2 <= 3))
else
some false
else
some false
else
some false
else
bif a.1 == 6 then
bindO (yd.F N a.2.1) fun r26 =>
bif r26 then
bindO (yR.F N a.2.2.1) fun r27 =>
bif r27 then
some (a.2.2.2 == 0)
else
some false
else
some false
else
bif a.1 == 7 then
bindO (yd.F N a.2.1) fun r28 =>
bif r28 then
bif a.2.2.1 == 0 then
bindO (yV.F N a.2.2.2) fun r29 =>
some r29
else
some false
else
some false
else
bif a.1 == 8 then
bif a.2.1 == 0 then
bindO (yR.F N a.2.2.1) fun r30 =>
bif r30 then
some (a.2.2.2 == 0)
else
some false
else
some false
else
some false
else
bif a.1 == 10 then
bif a.2.1 == 0 then
bif a.2.2.1 == 0 then
some (a.2.2.2 == 0)
else
some false
else
some false
else
bif a.1 == 2 then
bif a.2.2.2 == 0 then
bif a.2.1 == 0 then
bif a.2.2.1 == 0 then
bif a.2.1 != 0 then
some true
else
some (a.2.2.1 != 0)
else
bindO (yR.F N a.2.2.1) fun r31 =>
bif r31 then
bif a.2.1 != 0 then
some true
else
some (a.2.2.1 != 0)
else
some false
else
bindO (yd.F N a.2.1) fun r32 =>
bif r32 then
bif a.2.2.1 == 0 then
bif a.2.1 != 0 then
some true
else
some (a.2.2.1 != 0)
else
bindO (yR.F N a.2.2.1) fun r33 =>
bif r33 then
bif a.2.1 != 0 then
some true
else
some (a.2.2.1 != 0)
else
some false
else
some false
else
some false
else
bif a.1 == 3 then
bif a.1 == 3 then
bif a.2.1 == 0 then
bif a.2.2.1 == 0 then
bindO (yV.F N a.2.2.2) fun r34 =>
some r34
else
some false
else
some false
else
bif a.1 == 5 then
bif a.2.1 == 0 then
bif a.2.2.1 == 0 then
bif decide (a.2.2.2 >= 0) then
some (decide (a.2.2.2 <= 3))
else
some false
else
some false
else
some false
else
bif a.1 == 9 then
bif a.2.1 == 0 then
bif a.2.2.1 == 0 then
bif decide (a.2.2.2 >= 0) then
some (decide (a.2.2.2 <= 3))
else
some false
else
some false
else
some false
else
bif a.1 == 6 then
bindO (yd.F N a.2.1) fun r35 =>
bif r35 then
bindO (yR.F N a.2.2.1) fun r36 =>
bif r36 then
some (a.2.2.2 == 0)
else
some false
else
some false
else
bif a.1 == 7 then
bindO (yd.F N a.2.1) fun r37 =>
bif r37 then
bif a.2.2.1 == 0 then
bindO (yV.F N a.2.2.2) fun r38 =>
some r38
else
some false
else
some false
else
bif a.1 == 8 then
bif a.2.1 == 0 then
bindO (yR.F N a.2.2.1) fun r39 =>
bif r39 then
some (a.2.2.2 == 0)
else
some false
else
some false
else
some false
else
bif a.1 == 4 then
bif a.2.1 == 0 then
bif a.2.2.1 == 0 then
bindO (yV.F N a.2.2.2) fun r40 =>
some r40
else
some false
else
some false
else
bif a.1 == 5 then
bif a.2.1 == 0 then
bif a.2.2.1 == 0 then
bif decide (a.2.2.2 >= 0) then
some (decide (a.2.2.2 <= 3))
else
some false
else
some false
else
some false
else
bif a.1 == 9 then
bif a.2.1 == 0 then
bif a.2.2.1 == 0 then
bif decide (a.2.2.2 >= 0) then
some (decide (a.2.2.2 <= 3))
else
some false
else
some false
else
some false
else
bif a.1 == 6 then
bindO (yd.F N a.2.1) fun r41 =>
bif r41 then
bindO (yR.F N a.2.2.1) fun r42 =>
bif r42 then
some (a.2.2.2 == 0)
else
some false
else
some false
else
bif a.1 == 7 then
bindO (yd.F N a.2.1) fun r43 =>
bif r43 then
bif a.2.2.1 == 0 then
bindO (yV.F N a.2.2.2) fun r44 =>
some r44
else
some false
else
some false
else
bif a.1 == 8 then
bif a.2.1 == 0 then
bindO (yR.F N a.2.2.1) fun r45 =>
bif r45 then
some (a.2.2.2 == 0)
else
some false
else
some false
else
some false := by kernel_rfl
def zF.c1 : XCode := .seq (rG [o2 43 (.bin .lss) 42 41]) (.seq (.cond (.slot 43) (.skip) (.exit 2)) (.seq (.block 3 (.seq (rG [o2 44 (.indexAddr yM) 40 42, o1 45 (.load true 4) 44, ow 6 (.alloc 1 [cZ, cZ, cZ, cZ]) [] [1] [1], sT 4 6 45 1]) (.seq (rG [lU 46 4 6 1, o1 47 (.call ⟨156, [.val true 4], no 4, [.val false 1], ims 1, true⟩) 46, o1 48 .not 47, sX 49 [.slot 48], gX 50 .move [.slot 3] [] [] 49 false, gX 51 (.bin .eql) [.slot 50, cI 0] [] [] 49 false, ⟨some 52, .move, [.slot 51], [], [], some (49, false), true, .none⟩, gX 53 (.fieldAddr 0) [.slot 6] [] [] 52 true, gX 54 (.load false 1) [.slot 53] [1] [] 52 true, gX 55 (.bin .eql) [.slot 54, cI 1] [] [] 52 true, gX 56 .pick [.slot 52, .slot 55, cB false] [] [] 49 false, op 57 .pick [.slot 49, cB true, .slot 56], sX 58 [.slot 57], gX 59 (.fieldAddr 0) [.slot 6] [] [] 58 false, gX 60 (.load false 1) [.slot 59] [1] [] 58 false, gX 61 (.bin .neq) [.slot 60, cI 9] [] [] 58 false, ⟨some 62, .move, [.slot 61], [], [], some (58, false), true, .none⟩, gX 63 (.fieldAddr 3) [.slot 6] [] [] 62 true, gX 64 (.load false 1) [.slot 63] [1] [] 62 true, gX 65 (.fieldAddr 1) [.slot 1] [] [] 62 true, gX 66 (.load false 1) [.slot 65] [0] [] 62 true, gX 67 .len [.slot 66] [] [] 62 true, gX 68 (.bin .geq) (sl [64, 67]) [] [] 62 true, gX 69 .pick [.slot 62, .slot 68, cB false] [] [] 58 false, op 70 .pick [.slot 58, cB true, .slot 69]]) (.cond (.slot 70) (.seq (rG [op 2 .move [cB false]]) (.ret)) (.skip))))) (rG [op 71 (.bin .add) [.slot 42, cI 1], mv 42 71])))
def zF.c2 : XCode := rG [op 72 (.bin .add) [.slot 30, cI 1], mv 30 72]
def zF.c3 : XCode := .seq (rG [o2 31 (.bin .lss) 30 29]) (.seq (.cond (.slot 31) (.skip) (.exit 0)) (.seq (.block 1 (.seq (rG [mv 32 30, o2 33 (.indexAddr (.list yM)) 28 30, o1 34 (.load false 1) 33, mv 3 32, mv 4 34]) (.seq (.seq (rG [mv 35 4, o1 36 .len 35, fA 37 0 1, lN 38 37 0, o2 39 (.bin .neq) 36 38]) (.cond (.slot 39) (.seq (rG [op 2 .move [cB false]]) (.ret)) (.skip))) (.seq (rG [mv 40 4, o1 41 .len 40, op 42 .move [cI 0]]) (.block 2 (.loop [.keep [1, 3, 28, 29, 30, 40, 41, 42], .drop 1, .norm] (zF.c1))))))) (zF.c2)))
def zF.c4 : XCode := .seq (rG [op 2 .move [cB true]]) (.ret)
def zF.x : XFunc := { nslots := 73, nobj := 2, pars := [.val true 2], rowsIn := no 2, rets := [.tmp 2 false 1], outs := [.imm], fresh := true, arg := .pair (.int .i64) (.list (.list yM)), ret := .bool, body := .seq (rG [ow 1 (.box 0) [.slot 0] [0] [0], op 2 .move [cB false]]) (.seq (.seq (rG [fA 7 0 1, lN 8 7 0, op 9 (.bin .lss) [.slot 8, cI 1], sX 10 [.slot 9], gX 11 (.fieldAddr 0) [.slot 1] [] [] 10 false, gX 12 (.load false 1) [.slot 11] [0] [] 10 false, gX 13 (.bin .gtr) [.slot 12, cI 32] [] [] 10 false, op 14 .pick [.slot 10, cB true, .slot 13], sX 15 [.slot 14], gX 16 (.fieldAddr 1) [.slot 1] [] [] 15 false, gX 17 (.load false 1) [.slot 16] [0] [] 15 false, gX 18 .len [.slot 17] [] [] 15 false, gX 19 (.bin .lss) [.slot 18, cI 1] [] [] 15 false, op 20 .pick [.slot 15, cB true, .slot 19], sX 21 [.slot 20], gX 22 (.fieldAddr 1) [.slot 1] [] [] 21 false, gX 23 (.load false 1) [.slot 22] [0] [] 21 false, gX 24 .len [.slot 23] [] [] 21 false, gX 25 (.bin .gtr) [.slot 24, cI 4] [] [] 21 false, op 26 .pick [.slot 21, cB true, .slot 25]]) (.cond (.slot 26) (.seq (rG [op 2 .move [cB false]]) (.ret)) (.skip))) (.seq (.seq (rG [fA 27 1 1, lN 28 27 0, o1 29 .len 28, op 30 .move [cI 0]]) (.block 0 (.loop [.keep [1, 28, 29, 30], .drop 1, .norm] (zF.c3)))) (zF.c4))) }
def zF.env (N : Nat) : Env := envOf (tbl [(156, yK.fs N)] noFS)
def zF.F (N : Nat) (x : Int × List zU) : Option Bool := XFunc.run zF.x (zF.env N) N x
def zF.fs (N : Nat) : FS := { arg := zF.x.arg, ret := zF.x.ret, fresh := true, F := zF.F N }
def zF.k2 (N : Nat) : Ex -> S -> Option Bool := seqK (fun s => XCode.runK (zF.env N) N (zF.c4) s (XFunc.endK zF.x)) (XFunc.endK zF.x)
def zF.k1 (N : Nat) : Ex -> S -> Option Bool := y2 0 (zF.k2 N)
def zF.k6 (N : Nat) (n1 : Nat) : Ex -> S -> Option Bool := seqK (fun s => bindO (S.ghosts s [.keep [1, 28, 29, 30], .drop 1, .norm]) fun s1 => loopK [.keep [1, 28, 29, 30], .drop 1, .norm] (fun s k => XCode.runK (zF.env N) N zF.c3 s k) n1 s1 (zF.k1 N)) (zF.k1 N)
def zF.k5 (N : Nat) (n1 : Nat) : Ex -> S -> Option Bool := seqK (fun s => XCode.runK (zF.env N) N (zF.c2) s (zF.k6 N n1)) (zF.k6 N n1)
def zF.k4 (N : Nat) (n1 : Nat) : Ex -> S -> Option Bool := y2 1 (zF.k5 N n1)
def zF.k3 (N : Nat) (n1 : Nat) : Ex -> S -> Option Bool := y2 2 (zF.k4 N n1)
def zF.L1 (N : Nat) (n1 : Nat) (t28 : List zU) (t29 : Int) (t30 : Int) (o00 : Int) (o01 : List zU) : Option Bool := loopK [.keep [1, 28, 29, 30], .drop 1, .norm] (fun s k => XCode.runK (zF.env N) N zF.c3 s k) n1
 { t := jK 73 [(1, .one (.ptr 0 0 0)), (28, .one (.sl false (.list yM) t28)), (29, .one (.int .i64 t29)), (30, .one (.int .i64 t30))], h := [.box 0 false [.int .i64 o00, .sl false (.list yM) o01], .absent 0] }
 (zF.k1 N)
def zF.L2 (N : Nat) (n1 : Nat) (n2 : Nat) (i : Int) (t28 : List zU) (t29 : Int) (t30 : Int) (t40 : zU) (t41 : Int) (t42 : Int) (o00 : Int) (o01 : List zU) : Option Bool := loopK [.keep [1, 3, 28, 29, 30, 40, 41, 42], .drop 1, .norm] (fun s k => XCode.runK (zF.env N) N zF.c1 s k) n2
 { t := jK 73 [(1, .one (.ptr 0 0 0)), (3, .one (.int .i64 i)), (28, .one (.sl false (.list yM) t28)), (29, .one (.int .i64 t29)), (30, .one (.int .i64 t30)), (40, .one (.sl false yM t40)), (41, .one (.int .i64 t41)), (42, .one (.int .i64 t42))], h := [.box 0 false [.int .i64 o00, .sl false (.list yM) o01], .absent 0] }
 (zF.k3 N n1)
theorem zF.L1_eq (N : Nat) (n1 : Nat) (t28 : List zU) (t29 : Int) (t30 : Int) (o00 : Int) (o01 : List zU) : zF.L1 N (n1 + 1) t28 t29 t30 o00 o01 =
bif decide (t30 < t29) then
bif zP t30 (t28.length) then
bif (List.length (nth ([] : List (Int × Int × Int × Int)) t28 t30) : Int) != o00 then
some false
else
zF.L2 N n1 N t30 t28 t29 t30 (nth ([] : List (Int × Int × Int × Int)) t28 t30) (List.length (nth ([] : List (Int × Int × Int × Int)) t28 t30) : Int) 0 o00 o01
else none
else
some true := by kernel_rfl
theorem zF.L2_eq (N : Nat) (n1 : Nat) (n2 : Nat) (i : Int) (t28 : List zU) (t29 : Int) (t30 : Int) (t40 : zU) (t41 : Int) (t42 : Int) (o00 : Int) (o01 : List zU) : zF.L2 N n1 (n2 + 1) i t28 t29 t30 t40 t41 t42 o00 o01 =
bif decide (t42 < t41) then
bif zP t42 (t40.length) then
bindO (yK.F N ((nth (0, (0, (0, 0))) t40 t42).1, (((nth (0, (0, (0, 0))) t40 t42).2).1, (((nth (0, (0, (0, 0))) t40 t42).2).2)))) fun r1 =>
bif !r1 then
some false
else
bif i == 0 then
bif ((nth (0, (0, (0, 0))) t40 t42).1) == 1 then
some false
else
bif ((nth (0, (0, (0, 0))) t40 t42).1) != 9 then
bif decide (((((nth (0, (0, (0, 0))) t40 t42).2).2).2) >= (o01.length : Int)) then
some false
else
zF.L2 N n1 n2 i t28 t29 t30 t40 t41 (IntKind.wrap .i64 (t42 + 1)) o00 o01
else
zF.L2 N n1 n2 i t28 t29 t30 t40 t41 (IntKind.wrap .i64 (t42 + 1)) o00 o01
else
bif ((nth (0, (0, (0, 0))) t40 t42).1) != 9 then
bif decide (((((nth (0, (0, (0, 0))) t40 t42).2).2).2) >= (o01.length : Int)) then
some false
else
zF.L2 N n1 n2 i t28 t29 t30 t40 t41 (IntKind.wrap .i64 (t42 + 1)) o00 o01
else
zF.L2 N n1 n2 i t28 t29 t30 t40 t41 (IntKind.wrap .i64 (t42 + 1)) o00 o01
else none
else
zF.L1 N n1 t28 t29 (IntKind.wrap .i64 (t30 + 1)) o00 o01 := by kernel_rfl
theorem zF.F_eq (N : Nat) (m : Int × List zU) : zF.F N m =
bif decide (m.1 < 1) then
some false
else
bif decide (m.1 > 32) then
some false
else
bif decide ((List.length m.2 : Int) < 1) then
some false
else
bif decide ((List.length m.2 : Int) > 4) then
some false
else
zF.L1 N N m.2 (List.length m.2 : Int) 0 m.1 m.2 := by kernel_rfl
def zl.c1 : XCode := .seq (rG [o2 9 (.bin .lss) 8 7]) (.seq (.cond (.slot 9) (.skip) (.exit 0)) (.seq (.block 1 (.seq (rG [o2 10 (.indexAddr yZ) 6 8, o1 11 (.load true 5) 10, ow 5 (.alloc 0 [cZ, cZ, cZ, cZ, cZ]) [] [0] [0], sT 5 5 11 0]) (.seq (.seq (rG [fA 12 0 5, lN 13 12 0, op 14 (.bin .lss) [.slot 13, cI 0], sX 15 [.slot 14], gX 16 (.fieldAddr 0) [.slot 5] [] [] 15 false, gX 17 (.load false 1) [.slot 16] [0] [] 15 false, gX 18 (.bin .gtr) [.slot 17, cI 31] [] [] 15 false, op 19 .pick [.slot 15, cB true, .slot 18], sX 20 [.slot 19], gX 21 .move [.slot 3] [] [] 20 false, gX 22 (.fieldAddr 0) [.slot 5] [] [] 20 false, gX 23 (.load false 1) [.slot 22] [0] [] 20 false, ⟨some 24, .call ⟨65, vs 2, no 2, [.val false 1], ims 1, true⟩, (sl [21, 23]), [], [], some (20, false), false, .none⟩, gX 25 (.bin .eql) [.slot 24, cI 1] [] [] 20 false, op 26 .pick [.slot 20, cB true, .slot 25], sX 27 [.slot 26], gX 28 (.fieldAddr 1) [.slot 5] [] [] 27 false, gX 29 (.load true 4) [.slot 28] [0] [] 27 false, ⟨some 30, .call ⟨156, [.val true 4], no 4, [.val false 1], ims 1, true⟩, [.slot 29], [], [], some (27, false), false, .none⟩, gX 31 .not [.slot 30] [] [] 27 false, op 32 .pick [.slot 27, cB true, .slot 31]]) (.cond (.slot 32) (.seq (rG [op 2 .move [cB false]]) (.ret)) (.skip))) (.seq (.seq (rG [fA 33 1 5, fA 34 0 33, lN 35 34 0]) (.block 2 (.seq (.seq (rG [op 37 (.bin .eql) [.slot 35, cI 1], mv 36 37]) (.cond (.slot 36) (.skip) (.seq (rG [op 38 (.bin .eql) [.slot 35, cI 6], mv 36 38]) (.cond (.slot 36) (.skip) (rG [op 39 (.bin .eql) [.slot 35, cI 7], mv 36 39]))))) (.cond (.slot 36) (.seq (rG [op 2 .move [cB false]]) (.ret)) (.skip))))) (rG [mv 40 3, fA 41 0 5, lN 42 41 0, op 43 (.bin .shl) [cI 1, .slot 42], o2 44 (.bin .or) 40 43, mv 3 44]))))) (rG [op 45 (.bin .add) [.slot 8, cI 1], mv 8 45])))
def zl.c2 : XCode := .seq (rG [op 2 .move [cB true]]) (.ret)
def zl.x : XFunc := { nslots := 46, nobj := 1, pars := [.val false 1], rowsIn := [none], rets := [.tmp 2 false 1], outs := [.imm], fresh := true, arg := .list yZ, ret := .bool, body := .seq (rG [op 2 .move [cB false]]) (.seq (rG [op 3 .move [cI 0]]) (.seq (.seq (rG [mv 6 0, o1 7 .len 6, op 8 .move [cI 0]]) (.block 0 (.loop [.keep [3, 6, 7, 8], .drop 0, .norm] (zl.c1)))) (zl.c2))) }
def zl.env (N : Nat) : Env := envOf (tbl [(156, yK.fs N), (65, zAG.fs N)] noFS)
def zl.F (N : Nat) (x : zk) : Option Bool := XFunc.run zl.x (zl.env N) N x
def zl.fs (N : Nat) : FS := { arg := zl.x.arg, ret := zl.x.ret, fresh := true, F := zl.F N }
def zl.k2 (N : Nat) : Ex -> S -> Option Bool := seqK (fun s => XCode.runK (zl.env N) N (zl.c2) s (XFunc.endK zl.x)) (XFunc.endK zl.x)
def zl.k1 (N : Nat) : Ex -> S -> Option Bool := y2 0 (zl.k2 N)
def zl.L1 (N : Nat) (n1 : Nat) (seen : Int) (t6 : zk) (t7 : Int) (t8 : Int) : Option Bool := loopK [.keep [3, 6, 7, 8], .drop 0, .norm] (fun s k => XCode.runK (zl.env N) N zl.c1 s k) n1
 { t := jK 46 [(3, .one (.int .i64 seen)), (6, .one (.sl false yZ t6)), (7, .one (.int .i64 t7)), (8, .one (.int .i64 t8))], h := [.absent 0] }
 (zl.k1 N)
theorem zl.L1_eq (N : Nat) (n1 : Nat) (seen : Int) (t6 : zk) (t7 : Int) (t8 : Int) : zl.L1 N (n1 + 1) seen t6 t7 t8 =
bif decide (t8 < t7) then
bif zP t8 (t6.length) then
bif decide (((nth (0, (0, (0, (0, 0)))) t6 t8).1) < 0) then
some false
else
bif decide (((nth (0, (0, (0, (0, 0)))) t6 t8).1) > 31) then
some false
else
bindO (zAG.F N (seen, (nth (0, (0, (0, (0, 0)))) t6 t8).1)) fun r1 =>
bif r1 == 1 then
some false
else
bindO (yK.F N (((nth (0, (0, (0, (0, 0)))) t6 t8).2).1, ((((nth (0, (0, (0, (0, 0)))) t6 t8).2).2).1, ((((nth (0, (0, (0, (0, 0)))) t6 t8).2).2).2)))) fun r2 =>
bif !r2 then
some false
else
bif (((nth (0, (0, (0, (0, 0)))) t6 t8).2).1) == 1 then
bif (((nth (0, (0, (0, (0, 0)))) t6 t8).2).1) == 1 then
some false
else
bif decide (0 <= (nth (0, (0, (0, (0, 0)))) t6 t8).1) then
zl.L1 N n1 (bitOr .i64 seen (zAb .i64 1 ((nth (0, (0, (0, (0, 0)))) t6 t8).1))) t6 t7 (IntKind.wrap .i64 (t8 + 1))
else none
else
bif (((nth (0, (0, (0, (0, 0)))) t6 t8).2).1) == 6 then
bif (((nth (0, (0, (0, (0, 0)))) t6 t8).2).1) == 6 then
some false
else
bif decide (0 <= (nth (0, (0, (0, (0, 0)))) t6 t8).1) then
zl.L1 N n1 (bitOr .i64 seen (zAb .i64 1 ((nth (0, (0, (0, (0, 0)))) t6 t8).1))) t6 t7 (IntKind.wrap .i64 (t8 + 1))
else none
else
bif (((nth (0, (0, (0, (0, 0)))) t6 t8).2).1) == 7 then
some false
else
bif decide (0 <= (nth (0, (0, (0, (0, 0)))) t6 t8).1) then
zl.L1 N n1 (bitOr .i64 seen (zAb .i64 1 ((nth (0, (0, (0, (0, 0)))) t6 t8).1))) t6 t7 (IntKind.wrap .i64 (t8 + 1))
else none
else none
else
some true := by kernel_rfl
theorem zl.F_eq (N : Nat) (l_ : zk) : zl.F N l_ =
zl.L1 N N 0 l_ (l_.length : Int) 0 := by kernel_rfl
def z7.c1 : XCode := .seq (rG [o2 10 (.bin .lss) 9 8]) (.seq (.cond (.slot 10) (.skip) (.exit 0)) (.seq (.block 1 (.seq (rG [mv 11 9, o2 12 (.indexAddr zAj) 7 9, o1 13 (.load true 2) 12, ow 6 (.alloc 1 [cZ, cZ]) [] [1] [1], mv 5 11, sT 2 6 13 1]) (.seq (rG [lU 14 2 6 1, lU 15 2 3 0, o2 16 (.eqAgg false zAj) 14 15]) (.cond (.slot 16) (.seq (rG [mv 17 5, mv 4 17]) (.ret)) (.skip))))) (rG [op 18 (.bin .add) [.slot 9, cI 1], mv 9 18])))
def z7.c2 : XCode := .seq (rG [op 4 .move [cI (-1)]]) (.ret)
def z7.x : XFunc := { nslots := 19, nobj := 2, pars := [.val false 1, .val true 2], rowsIn := no 3, rets := [.tmp 4 false 1], outs := [.imm], fresh := true, arg := .pair (.list zAj) zAj, ret := .int .i64, body := .seq (rG [ow 3 (.box 0) [.slot 1] [0] [0], op 4 .move [cI 0]]) (.seq (.seq (rG [mv 7 0, o1 8 .len 7, op 9 .move [cI 0]]) (.block 0 (.loop [.keep [3, 7, 8, 9], .drop 1, .norm] (z7.c1)))) (z7.c2)) }
def z7.env (_ : Nat) : Env := envOf (tbl [] noFS)
def z7.F (N : Nat) (x : (List (Int × Int)) × Int × Int) : Option Int := XFunc.run z7.x (z7.env N) N x
def z7.fs (N : Nat) : FS := { arg := z7.x.arg, ret := z7.x.ret, fresh := true, F := z7.F N }
def z7.k2 (N : Nat) : Ex -> S -> Option Int := seqK (fun s => XCode.runK (z7.env N) N (z7.c2) s (XFunc.endK z7.x)) (XFunc.endK z7.x)
def z7.k1 (N : Nat) : Ex -> S -> Option Int := y2 0 (z7.k2 N)
def z7.L1 (N : Nat) (n1 : Nat) (t7 : List (Int × Int)) (t8 : Int) (t9 : Int) (o00 : Int) (o01 : Int) : Option Int := loopK [.keep [3, 7, 8, 9], .drop 1, .norm] (fun s k => XCode.runK (z7.env N) N z7.c1 s k) n1
 { t := jK 19 [(3, .one (.ptr 0 0 0)), (7, .one (.sl false zAj t7)), (8, .one (.int .i64 t8)), (9, .one (.int .i64 t9))], h := [.box 0 false [.int .i64 o00, .int .i64 o01], .absent 0] }
 (z7.k1 N)
theorem z7.L1_eq (N : Nat) (n1 : Nat) (t7 : List (Int × Int)) (t8 : Int) (t9 : Int) (o00 : Int) (o01 : Int) : z7.L1 N (n1 + 1) t7 t8 t9 o00 o01 =
bif decide (t9 < t8) then
bif zP t9 (t7.length) then
bif (((nth (0, 0) t7 t9).1) == o00) && (((nth (0, 0) t7 t9).2) == o01) then
some t9
else
z7.L1 N n1 t7 t8 (IntKind.wrap .i64 (t9 + 1)) o00 o01
else none
else
some (-1 : Int) := by kernel_rfl
theorem z7.F_eq (N : Nat) (l_ : List (Int × Int)) (p : Int × Int) : z7.F N (l_, p) =
z7.L1 N N l_ (l_.length : Int) 0 p.1 p.2 := by kernel_rfl
def zj.c1 : XCode := .seq (rG [o2 14 (.bin .lss) 13 12]) (.seq (.cond (.slot 14) (.skip) (.exit 0)) (.seq (.block 1 (.seq (rG [o2 15 (.indexAddr yW) 11 13, o1 16 (.load true 3) 15, ow 5 (.alloc 0 [cZ, cZ, cZ]) [] [0] [0], sT 3 5 16 0]) (.seq (rG [fA 17 1 5, lN 18 17 0, fA 19 2 5, lN 20 19 0, o2 21 (.build [cZ, cZ] [(0, 1), (1, 1)]) 18 20, ow 6 (.alloc 1 [cZ, cZ]) [] [1] [1], sT 2 6 21 1]) (.seq (rG [mv 22 3, lU 23 2 6 1, ow 24 (.call ⟨165, [.val false 1, .val true 2], no 3, [.val false 1], ims 1, true⟩) (sl [22, 23]) [3] [], mv 7 24]) (.seq (.seq (rG [fA 25 1 5, lN 26 25 0, fA 27 2 5, lN 28 27 0, op 29 (.build [cZ, cZ, cZ, cZ] [(0, 1), (1, 1), (2, 1)]) [cI 2, .slot 26, .slot 28], o1 30 (.call ⟨156, [.val true 4], no 4, [.val false 1], ims 1, true⟩) 29, o1 31 .not 30]) (.cond (.slot 31) (.seq (rG [op 2 .move [cB false]]) (.ret)) (.skip))) (.seq (rG [fA 32 0 5, lN 33 32 0]) (.block 2 (.seq (.seq (rG [op 35 (.bin .eql) [.slot 33, cI 0], mv 34 35]) (.cond (.slot 34) (.skip) (rG [op 36 (.bin .eql) [.slot 33, cI 1], mv 34 36]))) (.cond (.slot 34) (.seq (.seq (rG [mv 37 7, op 38 (.bin .geq) [.slot 37, cI 0]]) (.cond (.slot 38) (.seq (rG [op 2 .move [cB false]]) (.ret)) (.skip))) (.seq (rG [fA 39 0 5, lN 40 39 0, op 41 (.bin .eql) [.slot 40, cI 1]]) (.cond (.slot 41) (rG [mv 42 3, lU 43 2 6 1, ow 44 (.buildSlice false 2 14 zAj 1 [(0, 2)] [cZ, cZ]) [.slot 43] [2] [2], ow 45 (.append false 3 14 zAj) (sl [42, 44]) [2, 3] [3], mv 3 45]) (.skip)))) (.seq (rG [op 47 (.bin .eql) [.slot 33, cI 2], mv 46 47]) (.cond (.slot 46) (.seq (.seq (rG [mv 48 7, op 49 (.bin .lss) [.slot 48, cI 0]]) (.cond (.slot 49) (.seq (rG [op 2 .move [cB false]]) (.ret)) (.skip))) (.region true [mv 50 3, mv 51 7, ow 52 (.slice zAj false true) (sl [50, 51]) [3] [], mv 53 3, mv 54 7, op 55 (.bin .add) [.slot 54, cI 1], ow 56 (.slice zAj true false) (sl [53, 55]) [3] [], ow 57 (.appendDel 3 14 zAj) (sl [52, 56]) [3] [3], mv 3 57])) (.seq (rG [op 2 .move [cB false]]) (.ret))))))))))))) (rG [op 58 (.bin .add) [.slot 13, cI 1], mv 13 58])))
def zj.c2 : XCode := .seq (rG [mv 59 3, ow 60 .len [.slot 59] [3] [], op 61 (.bin .eql) [.slot 60, cI 0], mv 2 61]) (.ret)
def zj.x : XFunc := { nslots := 62, nobj := 4, pars := [.val false 1], rowsIn := [none], rets := [.tmp 2 false 1], outs := [.imm], fresh := true, arg := .list yW, ret := .bool, body := .seq (rG [op 2 .move [cB false]]) (.seq (.seq (rG [mv 8 0, o1 9 .len 8, op 10 (.bin .gtr) [.slot 9, cI 8]]) (.cond (.slot 10) (.seq (rG [op 2 .move [cB false]]) (.ret)) (.skip))) (.seq (rG [op 3 .move [.const (.one (.nil))]]) (.seq (.seq (rG [mv 11 0, o1 12 .len 11, op 13 .move [cI 0]]) (.block 0 (.loop [.mkrow (.slot 3) 3 14 zAj, .keep [3, 11, 12, 13], .drop 0, .drop 1, .drop 2, .norm] (zj.c1)))) (zj.c2)))) }
def zj.env (N : Nat) : Env := envOf (tbl [(156, yK.fs N), (165, z7.fs N)] noFS)
def zj.F (N : Nat) (x : zp) : Option Bool := XFunc.run zj.x (zj.env N) N x
def zj.fs (N : Nat) : FS := { arg := zj.x.arg, ret := zj.x.ret, fresh := true, F := zj.F N }
def zj.k2 (N : Nat) : Ex -> S -> Option Bool := seqK (fun s => XCode.runK (zj.env N) N (zj.c2) s (XFunc.endK zj.x)) (XFunc.endK zj.x)
def zj.k1 (N : Nat) : Ex -> S -> Option Bool := y2 0 (zj.k2 N)
def zj.L1 (N : Nat) (n1 : Nat) (t11 : zp) (t12 : Int) (t13 : Int) (o3 : List (Int × Int)) : Option Bool := loopK [.mkrow (.slot 3) 3 14 zAj, .keep [3, 11, 12, 13], .drop 0, .drop 1, .drop 2, .norm] (fun s k => XCode.runK (zj.env N) N zj.c1 s k) n1
 { t := jK 62 [(3, .one (.ref 3 0 .all)), (11, .one (.sl false yW t11)), (12, .one (.int .i64 t12)), (13, .one (.int .i64 t13))], h := [.absent 0, .absent 0, .absent 0, .row 0 false true 14 zAj o3] }
 (zj.k1 N)
theorem zj.L1_eq (N : Nat) (n1 : Nat) (t11 : zp) (t12 : Int) (t13 : Int) (o3 : List (Int × Int)) : zj.L1 N (n1 + 1) t11 t12 t13 o3 =
bif decide (t13 < t12) then
bif zP t13 (t11.length) then
bindO (z7.F N (o3, ((nth (0, (0, 0)) t11 t13).2))) fun r1 =>
bindO (yK.F N (2, (((nth (0, (0, 0)) t11 t13).2).1, (((nth (0, (0, 0)) t11 t13).2).2, 0)))) fun r2 =>
bif !r2 then
some false
else
bif ((nth (0, (0, 0)) t11 t13).1) == 0 then
bif ((nth (0, (0, 0)) t11 t13).1) == 0 then
bif decide (r1 >= 0) then
some false
else
bif ((nth (0, (0, 0)) t11 t13).1) == 1 then
bif decide (o3.length + List.length ([((nth (0, (0, 0)) t11 t13).2)] : List (Int × Int)) <= maxN) then
zj.L1 N n1 t11 t12 (IntKind.wrap .i64 (t13 + 1)) (o3 ++ ([((nth (0, (0, 0)) t11 t13).2)] : List (Int × Int)))
else none
else
zj.L1 N n1 t11 t12 (IntKind.wrap .i64 (t13 + 1)) o3
else
bif ((nth (0, (0, 0)) t11 t13).1) == 2 then
bif decide (r1 < 0) then
some false
else
bif decide (0 <= r1) && decide (r1 <= (o3.length : Int)) then
bif decide (0 <= IntKind.wrap .i64 (r1 + 1)) && decide (IntKind.wrap .i64 (r1 + 1) <= (o3.length : Int)) then
bif decide ((Int.toNat r1) <= (Int.toNat (IntKind.wrap .i64 (r1 + 1)))) && decide (o3.length <= maxN) then
zj.L1 N n1 t11 t12 (IntKind.wrap .i64 (t13 + 1)) (List.take (Int.toNat r1) o3 ++ List.drop (Int.toNat (IntKind.wrap .i64 (r1 + 1))) o3)
else none
else none
else none
else
some false
else
bif ((nth (0, (0, 0)) t11 t13).1) == 1 then
bif decide (r1 >= 0) then
some false
else
bif ((nth (0, (0, 0)) t11 t13).1) == 1 then
bif decide (o3.length + List.length ([((nth (0, (0, 0)) t11 t13).2)] : List (Int × Int)) <= maxN) then
zj.L1 N n1 t11 t12 (IntKind.wrap .i64 (t13 + 1)) (o3 ++ ([((nth (0, (0, 0)) t11 t13).2)] : List (Int × Int)))
else none
else
zj.L1 N n1 t11 t12 (IntKind.wrap .i64 (t13 + 1)) o3
else
bif ((nth (0, (0, 0)) t11 t13).1) == 2 then
bif decide (r1 < 0) then
some false
else
bif decide (0 <= r1) && decide (r1 <= (o3.length : Int)) then
bif decide (0 <= IntKind.wrap .i64 (r1 + 1)) && decide (IntKind.wrap .i64 (r1 + 1) <= (o3.length : Int)) then
bif decide ((Int.toNat r1) <= (Int.toNat (IntKind.wrap .i64 (r1 + 1)))) && decide (o3.length <= maxN) then
zj.L1 N n1 t11 t12 (IntKind.wrap .i64 (t13 + 1)) (List.take (Int.toNat r1) o3 ++ List.drop (Int.toNat (IntKind.wrap .i64 (r1 + 1))) o3)
else none
else none
else none
else
some false
else none
else
some ((o3.length : Int) == 0) := by kernel_rfl
theorem zj.F_eq (N : Nat) (l_ : zp) : zj.F N l_ =
bif decide ((l_.length : Int) > 8) then
some false
else
zj.L1 N N l_ (l_.length : Int) 0 ([] : List (Int × Int)) := by kernel_rfl
def zN.c1 : XCode := .seq (rG [o2 38 (.bin .lss) 37 36]) (.seq (.cond (.slot 38) (.skip) (.exit 0)) (.seq (.block 1 (.seq (rG [o2 39 (.indexAddr (.list yW)) 35 37, o1 40 (.load false 1) 39, mv 4 40]) (.seq (rG [mv 41 4, o1 42 (.call ⟨166, vs 1, no 1, [.val false 1], ims 1, true⟩) 41, o1 43 .not 42]) (.cond (.slot 43) (.seq (rG [op 2 .move [cB false]]) (.ret)) (.skip))))) (rG [op 44 (.bin .add) [.slot 37, cI 1], mv 37 44])))
def zN.c2 : XCode := .seq (rG [o2 53 (.bin .lss) 52 51]) (.seq (.cond (.slot 53) (.skip) (.exit 2)) (.seq (.block 3 (.seq (rG [o2 54 (.indexAddr yZ) 50 52, o1 55 (.load true 5) 54, ow 7 (.alloc 1 [cZ, cZ, cZ, cZ, cZ]) [] [1] [1], sT 5 7 55 1]) (.seq (rG [fA 56 0 7, lN 57 56 1, fA 58 0 1, fA 59 0 58, lN 60 59 0, o2 61 (.bin .geq) 57 60, sX 62 [.slot 61], gX 63 (.fieldAddr 1) [.slot 7] [] [] 62 false, gX 64 (.fieldAddr 0) [.slot 63] [] [] 62 false, gX 65 (.load false 1) [.slot 64] [1] [] 62 false, gX 66 (.bin .neq) [.slot 65, cI 9] [] [] 62 false, ⟨some 67, .move, [.slot 66], [], [], some (62, false), true, .none⟩, gX 68 (.fieldAddr 1) [.slot 7] [] [] 67 true, gX 69 (.fieldAddr 3) [.slot 68] [] [] 67 true, gX 70 (.load false 1) [.slot 69] [1] [] 67 true, gX 71 .move [.slot 5] [] [] 67 true, gX 72 (.bin .geq) (sl [70, 71]) [] [] 67 true, gX 73 .pick [.slot 67, .slot 72, cB false] [] [] 62 false, op 74 .pick [.slot 62, cB true, .slot 73]]) (.cond (.slot 74) (.seq (rG [op 2 .move [cB false]]) (.ret)) (.skip))))) (rG [op 75 (.bin .add) [.slot 52, cI 1], mv 52 75])))
def zN.c3 : XCode := .seq (.region true [fA 76 3 1, lN 77 76 0, op 78 (.bin .geq) [.slot 77, cI 0], sX 79 [.slot 78], gX 80 (.fieldAddr 3) [.slot 1] [] [] 79 true, gX 81 (.load false 1) [.slot 80] [0] [] 79 true, gX 82 (.bin .rem) [.slot 81, cI 2] [] [] 79 true, gX 83 (.bin .eql) [.slot 82, cI 0] [] [] 79 true, op 84 .pick [.slot 79, .slot 83, cB false], sX 85 [.slot 84], gX 86 (.fieldAddr 3) [.slot 1] [] [] 85 true, gX 87 (.load false 1) [.slot 86] [0] [] 85 true, gX 88 .move [.slot 5] [] [] 85 true, gX 89 (.bin .shl) [cI 1, .slot 88] [] [] 85 true, gX 90 (.bin .lss) (sl [87, 89]) [] [] 85 true, op 91 .pick [.slot 85, .slot 90, cB false], mv 2 91]) (.ret)
def zN.c4 : XCode := .seq (rG [fA 45 0 1, fA 46 1 45, lN 47 46 0, o1 48 .len 47, mv 5 48]) (.seq (.seq (rG [fA 49 4 1, lN 50 49 0, o1 51 .len 50, op 52 .move [cI 0]]) (.block 2 (.loop [.keep [1, 5, 50, 51, 52], .drop 1, .norm] (zN.c2)))) (zN.c3))
def zN.x : XFunc := { nslots := 92, nobj := 2, pars := [.val true 7], rowsIn := no 7, rets := [.tmp 2 false 1], outs := [.imm], fresh := true, arg := .pair zBe T8_30, ret := .bool, body := .seq (rG [ow 1 (.box 0) [.slot 0] [0] [0], op 2 .move [cB false]]) (.seq (.seq (rG [fA 8 0 1, lU 9 2 8 0, o1 10 (.call ⟨163, [.val true 2], no 2, [.val false 1], ims 1, true⟩) 9, o1 11 .not 10, sX 12 [.slot 11], gX 13 (.fieldAddr 2) [.slot 1] [] [] 12 false, gX 14 (.load false 1) [.slot 13] [0] [] 12 false, gX 15 .len [.slot 14] [] [] 12 false, gX 16 (.bin .gtr) [.slot 15, cI 4] [] [] 12 false, op 17 .pick [.slot 12, cB true, .slot 16], sX 18 [.slot 17], gX 19 (.fieldAddr 4) [.slot 1] [] [] 18 false, gX 20 (.load false 1) [.slot 19] [0] [] 18 false, ⟨some 21, .call ⟨164, vs 1, no 1, [.val false 1], ims 1, true⟩, [.slot 20], [], [], some (18, false), false, .none⟩, gX 22 .not [.slot 21] [] [] 18 false, op 23 .pick [.slot 18, cB true, .slot 22], sX 24 [.slot 23], gX 25 (.fieldAddr 5) [.slot 1] [] [] 24 false, gX 26 (.load false 1) [.slot 25] [0] [] 24 false, gX 27 (.bin .lss) [.slot 26, cI 0] [] [] 24 false, op 28 .pick [.slot 24, cB true, .slot 27], sX 29 [.slot 28], gX 30 (.fieldAddr 5) [.slot 1] [] [] 29 false, gX 31 (.load false 1) [.slot 30] [0] [] 29 false, gX 32 (.bin .gtr) [.slot 31, cI 15] [] [] 29 false, op 33 .pick [.slot 29, cB true, .slot 32]]) (.cond (.slot 33) (.seq (rG [op 2 .move [cB false]]) (.ret)) (.skip))) (.seq (.seq (rG [fA 34 2 1, lN 35 34 0, o1 36 .len 35, op 37 .move [cI 0]]) (.block 0 (.loop [.keep [1, 35, 36, 37], .drop 1, .norm] (zN.c1)))) (zN.c4))) }
def zN.env (N : Nat) : Env := envOf (tbl [(164, zl.fs N), (163, zF.fs N), (166, zj.fs N)] noFS)
def zN.F (N : Nat) (x : (Int × List zU) × (List zp) × Int × zk × Int × Bool) : Option Bool := XFunc.run zN.x (zN.env N) N x
def zN.fs (N : Nat) : FS := { arg := zN.x.arg, ret := zN.x.ret, fresh := true, F := zN.F N }
def zN.k2 (N : Nat) : Ex -> S -> Option Bool := seqK (fun s => XCode.runK (zN.env N) N (zN.c4) s (XFunc.endK zN.x)) (XFunc.endK zN.x)
def zN.k1 (N : Nat) : Ex -> S -> Option Bool := y2 0 (zN.k2 N)
def zN.k4 (N : Nat) : Ex -> S -> Option Bool := seqK (fun s => XCode.runK (zN.env N) N (zN.c3) s (XFunc.endK zN.x)) (XFunc.endK zN.x)
def zN.k3 (N : Nat) : Ex -> S -> Option Bool := y2 2 (zN.k4 N)
def zN.L1 (N : Nat) (n1 : Nat) (t35 : List zp) (t36 : Int) (t37 : Int) (o00 : Int) (o01 : List zU) (o02 : List zp) (o03 : Int) (o04 : zk) (o05 : Int) (o06 : Bool) : Option Bool := loopK [.keep [1, 35, 36, 37], .drop 1, .norm] (fun s k => XCode.runK (zN.env N) N zN.c1 s k) n1
 { t := jK 92 [(1, .one (.ptr 0 0 0)), (35, .one (.sl false (.list yW) t35)), (36, .one (.int .i64 t36)), (37, .one (.int .i64 t37))], h := [.box 0 false [.int .i64 o00, .sl false (.list yM) o01, .sl false (.list yW) o02, .int .i64 o03, .sl false yZ o04, .int .i64 o05, .bool o06], .absent 0] }
 (zN.k1 N)
def zN.L2 (N : Nat) (n2 : Nat) (layers : Int) (t50 : zk) (t51 : Int) (t52 : Int) (o00 : Int) (o01 : List zU) (o02 : List zp) (o03 : Int) (o04 : zk) (o05 : Int) (o06 : Bool) : Option Bool := loopK [.keep [1, 5, 50, 51, 52], .drop 1, .norm] (fun s k => XCode.runK (zN.env N) N zN.c2 s k) n2
 { t := jK 92 [(1, .one (.ptr 0 0 0)), (5, .one (.int .i64 layers)), (50, .one (.sl false yZ t50)), (51, .one (.int .i64 t51)), (52, .one (.int .i64 t52))], h := [.box 0 false [.int .i64 o00, .sl false (.list yM) o01, .sl false (.list yW) o02, .int .i64 o03, .sl false yZ o04, .int .i64 o05, .bool o06], .absent 0] }
 (zN.k3 N)
theorem zN.L1_eq (N : Nat) (n1 : Nat) (t35 : List zp) (t36 : Int) (t37 : Int) (o00 : Int) (o01 : List zU) (o02 : List zp) (o03 : Int) (o04 : zk) (o05 : Int) (o06 : Bool) : zN.L1 N (n1 + 1) t35 t36 t37 o00 o01 o02 o03 o04 o05 o06 =
bif decide (t37 < t36) then
bif zP t37 (t35.length) then
bindO (zj.F N (nth ([] : List (Int × Int × Int)) t35 t37)) fun r3 =>
bif !r3 then
some false
else
zN.L1 N n1 t35 t36 (IntKind.wrap .i64 (t37 + 1)) o00 o01 o02 o03 o04 o05 o06
else none
else
zN.L2 N N (o01.length : Int) o04 (o04.length : Int) 0 o00 o01 o02 o03 o04 o05 o06 := by kernel_rfl
theorem zN.L2_eq (N : Nat) (n2 : Nat) (layers : Int) (t50 : zk) (t51 : Int) (t52 : Int) (o00 : Int) (o01 : List zU) (o02 : List zp) (o03 : Int) (o04 : zk) (o05 : Int) (o06 : Bool) : zN.L2 N (n2 + 1) layers t50 t51 t52 o00 o01 o02 o03 o04 o05 o06 =
bif decide (t52 < t51) then
bif zP t52 (t50.length) then
bif decide (((nth (0, (0, (0, (0, 0)))) t50 t52).1) >= o00) then
some false
else
bif (((nth (0, (0, (0, (0, 0)))) t50 t52).2).1) != 9 then
bif decide ((((((nth (0, (0, (0, (0, 0)))) t50 t52).2).2).2).2) >= layers) then
some false
else
zN.L2 N n2 layers t50 t51 (IntKind.wrap .i64 (t52 + 1)) o00 o01 o02 o03 o04 o05 o06
else
zN.L2 N n2 layers t50 t51 (IntKind.wrap .i64 (t52 + 1)) o00 o01 o02 o03 o04 o05 o06
else none
else
bif decide (o03 >= 0) then
bif (Int.tmod o03 2) == 0 then
bif decide (0 <= layers) then
some (decide (o03 < (zAb .i64 1 layers)))
else none
else
some false
else
some false := by kernel_rfl
theorem zN.F_eq (N : Nat) (e : (Int × List zU) × (List zp) × Int × zk × Int × Bool) : zN.F N e =
bindO (zF.F N e.1) fun r1 =>
bif !r1 then
some false
else
bif decide ((List.length e.2.1 : Int) > 4) then
some false
else
bindO (zl.F N e.2.2.2.1) fun r2 =>
bif !r2 then
some false
else
bif decide (e.2.2.2.2.1 < 0) then
some false
else
bif decide (e.2.2.2.2.1 > 15) then
some false
else
zN.L1 N N e.2.1 (List.length e.2.1 : Int) 0 e.1.1 e.1.2 e.2.1 e.2.2.1 e.2.2.2.1 e.2.2.2.2.1 e.2.2.2.2.2 := by kernel_rfl
def yp.x : XFunc := { nslots := 31, nobj := 1, pars := [.val true 3], rowsIn := no 3, rets := [.tmp 2 false 1], outs := [.imm], fresh := true, arg := .pair (.int .i64) zAj, ret := .bool, body := .seq (rG [ow 1 (.box 0) [.slot 0] [0] [0], op 2 .move [cB false]]) (.seq (rG [fA 3 0 1, lN 4 3 0, op 5 (.bin .geq) [.slot 4, cI 1], sX 6 [.slot 5], gX 7 (.fieldAddr 0) [.slot 1] [] [] 6 true, gX 8 (.load false 1) [.slot 7] [0] [] 6 true, gX 9 (.bin .leq) [.slot 8, cI 1000] [] [] 6 true, op 10 .pick [.slot 6, .slot 9, cB false], sX 11 [.slot 10], gX 12 (.fieldAddr 1) [.slot 1] [] [] 11 true, gX 13 (.load false 1) [.slot 12] [0] [] 11 true, gX 14 (.bin .geq) [.slot 13, cI 0] [] [] 11 true, op 15 .pick [.slot 11, .slot 14, cB false], sX 16 [.slot 15], gX 17 (.fieldAddr 1) [.slot 1] [] [] 16 true, gX 18 (.load false 1) [.slot 17] [0] [] 16 true, gX 19 (.bin .leq) [.slot 18, cI 1000] [] [] 16 true, op 20 .pick [.slot 16, .slot 19, cB false], sX 21 [.slot 20], gX 22 (.fieldAddr 2) [.slot 1] [] [] 21 true, gX 23 (.load false 1) [.slot 22] [0] [] 21 true, gX 24 (.bin .geq) [.slot 23, cI 0] [] [] 21 true, op 25 .pick [.slot 21, .slot 24, cB false], sX 26 [.slot 25], gX 27 (.fieldAddr 2) [.slot 1] [] [] 26 true, gX 28 (.load false 1) [.slot 27] [0] [] 26 true, gX 29 (.bin .leq) [.slot 28, cI 2] [] [] 26 true, op 30 .pick [.slot 26, .slot 29, cB false], mv 2 30]) (.ret)) }
def yp.env (_ : Nat) : Env := envOf (tbl [] noFS)
def yp.F (N : Nat) (x : Int × Int × Int) : Option Bool := XFunc.run yp.x (yp.env N) N x
def yp.fs (N : Nat) : FS := { arg := yp.x.arg, ret := yp.x.ret, fresh := true, F := yp.F N }
theorem yp.F_eq (N : Nat) (t : Int × Int × Int) : yp.F N t =
bif decide (t.1 >= 1) then
bif decide (t.1 <= 1000) then
bif decide (t.2.1 >= 0) then
bif decide (t.2.1 <= 1000) then
bif decide (t.2.2 >= 0) then
some (decide (t.2.2 <= 2))
else
some false
else
some false
else
some false
else
some false
else
some false := by kernel_rfl
def zi.c1 : XCode := .seq (rG [o2 9 (.bin .lss) 8 7]) (.seq (.cond (.slot 9) (.skip) (.exit 0)) (.seq (.block 1 (.seq (rG [o2 10 (.indexAddr yZ) 6 8, o1 11 (.load true 5) 10, ow 5 (.alloc 0 [cZ, cZ, cZ, cZ, cZ]) [] [0] [0], sT 5 5 11 0]) (rG [mv 12 3, fA 13 0 5, lN 14 13 0, op 15 (.bin .shl) [cI 1, .slot 14], o2 16 (.bin .or) 12 15, mv 3 16]))) (rG [op 17 (.bin .add) [.slot 8, cI 1], mv 8 17])))
def zi.c2 : XCode := .seq (rG [mv 18 3, mv 2 18]) (.ret)
def zi.x : XFunc := { nslots := 19, nobj := 1, pars := [.val false 1], rowsIn := [none], rets := [.tmp 2 false 1], outs := [.imm], fresh := true, arg := .list yZ, ret := .int .i64, body := .seq (rG [op 2 .move [cI 0]]) (.seq (rG [op 3 .move [cI 0]]) (.seq (.seq (rG [mv 6 0, o1 7 .len 6, op 8 .move [cI 0]]) (.block 0 (.loop [.keep [3, 6, 7, 8], .drop 0, .norm] (zi.c1)))) (zi.c2))) }
def zi.env (_ : Nat) : Env := envOf (tbl [] noFS)
def zi.F (N : Nat) (x : zk) : Option Int := XFunc.run zi.x (zi.env N) N x
def zi.fs (N : Nat) : FS := { arg := zi.x.arg, ret := zi.x.ret, fresh := true, F := zi.F N }
def zi.k2 (N : Nat) : Ex -> S -> Option Int := seqK (fun s => XCode.runK (zi.env N) N (zi.c2) s (XFunc.endK zi.x)) (XFunc.endK zi.x)
def zi.k1 (N : Nat) : Ex -> S -> Option Int := y2 0 (zi.k2 N)
def zi.L1 (N : Nat) (n1 : Nat) (out : Int) (t6 : zk) (t7 : Int) (t8 : Int) : Option Int := loopK [.keep [3, 6, 7, 8], .drop 0, .norm] (fun s k => XCode.runK (zi.env N) N zi.c1 s k) n1
 { t := jK 19 [(3, .one (.int .i64 out)), (6, .one (.sl false yZ t6)), (7, .one (.int .i64 t7)), (8, .one (.int .i64 t8))], h := [.absent 0] }
 (zi.k1 N)
theorem zi.L1_eq (N : Nat) (n1 : Nat) (out : Int) (t6 : zk) (t7 : Int) (t8 : Int) : zi.L1 N (n1 + 1) out t6 t7 t8 =
bif decide (t8 < t7) then
bif zP t8 (t6.length) then
bif decide (0 <= (nth (0, (0, (0, (0, 0)))) t6 t8).1) then
zi.L1 N n1 (bitOr .i64 out (zAb .i64 1 ((nth (0, (0, (0, (0, 0)))) t6 t8).1))) t6 t7 (IntKind.wrap .i64 (t8 + 1))
else none
else none
else
some out := by kernel_rfl
theorem zi.F_eq (N : Nat) (l_ : zk) : zi.F N l_ =
zi.L1 N N 0 l_ (l_.length : Int) 0 := by kernel_rfl
def yc.x : XFunc := { nslots := 79, nobj := 1, pars := [.val true 15], rowsIn := no 15, rets := [.tmp 2 false 1], outs := [.imm], fresh := true, arg := .pair zAk zBl, ret := .bool, body := .seq (rG [ow 1 (.box 0) [.slot 0] [0] [0], op 2 .move [cB false]]) (.seq (.seq (rG [fA 3 0 1, lU 4 7 3 0, o1 5 (.call ⟨167, [.val true 7], no 7, [.val false 1], ims 1, true⟩) 4, o1 6 .not 5, sX 7 [.slot 6], gX 8 (.fieldAddr 7) [.slot 1] [] [] 7 false, gX 9 (.load true 3) [.slot 8] [0] [] 7 false, ⟨some 10, .call ⟨172, [.val true 3], no 3, [.val false 1], ims 1, true⟩, [.slot 9], [], [], some (7, false), false, .none⟩, gX 11 .not [.slot 10] [] [] 7 false, op 12 .pick [.slot 7, cB true, .slot 11], sX 13 [.slot 12], gX 14 (.fieldAddr 11) [.slot 1] [] [] 13 false, gX 15 (.load false 1) [.slot 14] [0] [] 13 false, gX 16 (.bin .lss) [.slot 15, cI 0] [] [] 13 false, op 17 .pick [.slot 13, cB true, .slot 16], sX 18 [.slot 17], gX 19 (.fieldAddr 11) [.slot 1] [] [] 18 false, gX 20 (.load false 1) [.slot 19] [0] [] 18 false, gX 21 (.bin .gtr) [.slot 20, cI 1000000] [] [] 18 false, op 22 .pick [.slot 18, cB true, .slot 21], sX 23 [.slot 22], gX 24 (.fieldAddr 12) [.slot 1] [] [] 23 false, gX 25 (.load false 1) [.slot 24] [0] [] 23 false, gX 26 (.bin .lss) [.slot 25, cI 0] [] [] 23 false, op 27 .pick [.slot 23, cB true, .slot 26], sX 28 [.slot 27], gX 29 (.fieldAddr 12) [.slot 1] [] [] 28 false, gX 30 (.load false 1) [.slot 29] [0] [] 28 false, gX 31 (.fieldAddr 11) [.slot 1] [] [] 28 false, gX 32 (.load false 1) [.slot 31] [0] [] 28 false, gX 33 (.bin .gtr) (sl [30, 32]) [] [] 28 false, op 34 .pick [.slot 28, cB true, .slot 33]]) (.cond (.slot 34) (.seq (rG [op 2 .move [cB false]]) (.ret)) (.skip))) (.seq (.seq (.region true [fA 35 10 1, lN 36 35 0, fA 37 0 1, fA 38 4 37, lN 39 38 0, o1 40 (.call ⟨173, vs 1, no 1, [.val false 1], ims 1, true⟩) 39, fA 41 0 1, fA 42 0 41, fA 43 0 42, lN 44 43 0, op 45 (.call ⟨70, vs 3, no 3, [.val false 1], ims 1, true⟩) (sl [36, 40, 44]), o1 46 .not 45, sX 47 [.slot 46], gX 48 (.fieldAddr 10) [.slot 1] [] [] 47 false, gX 49 (.load false 1) [.slot 48] [0] [] 47 false, gX 50 (.fieldAddr 11) [.slot 1] [] [] 47 false, gX 51 (.load false 1) [.slot 50] [0] [] 47 false, ⟨some 52, .call ⟨71, vs 2, no 2, [.val false 1], ims 1, true⟩, (sl [49, 51]), [], [], some (47, false), false, .none⟩, gX 53 .not [.slot 52] [] [] 47 false, op 54 .pick [.slot 47, cB true, .slot 53]]) (.cond (.slot 54) (.seq (rG [op 2 .move [cB false]]) (.ret)) (.skip))) (.seq (rG [fA 55 13 1, lN 56 55 0, op 57 (.bin .geq) [.slot 56, cI 0], sX 58 [.slot 57], gX 59 (.fieldAddr 13) [.slot 1] [] [] 58 true, gX 60 (.load false 1) [.slot 59] [0] [] 58 true, gX 61 (.fieldAddr 0) [.slot 1] [] [] 58 true, gX 62 (.fieldAddr 0) [.slot 61] [] [] 58 true, gX 63 (.fieldAddr 0) [.slot 62] [] [] 58 true, gX 64 (.load false 1) [.slot 63] [0] [] 58 true, gX 65 (.bin .leq) (sl [60, 64]) [] [] 58 true, op 66 .pick [.slot 58, .slot 65, cB false], sX 67 [.slot 66], gX 68 (.fieldAddr 14) [.slot 1] [] [] 67 true, gX 69 (.load false 1) [.slot 68] [0] [] 67 true, gX 70 (.bin .geq) [.slot 69, cI 0] [] [] 67 true, op 71 .pick [.slot 67, .slot 70, cB false], sX 72 [.slot 71], gX 73 (.fieldAddr 14) [.slot 1] [] [] 72 true, gX 74 (.load false 1) [.slot 73] [0] [] 72 true, gX 75 (.fieldAddr 11) [.slot 1] [] [] 72 true, gX 76 (.load false 1) [.slot 75] [0] [] 72 true, gX 77 (.bin .leq) (sl [74, 76]) [] [] 72 true, op 78 .pick [.slot 72, .slot 77, cB false], mv 2 78]) (.ret)))) }
def yc.env (N : Nat) : Env := envOf (tbl [(167, zN.fs N), (172, yp.fs N), (173, zi.fs N), (71, yS.fs N), (70, za.fs N)] noFS)
def yc.F (N : Nat) (x : zAW × (Int × Int × Int) × zAQ × Int × Int × Int × Int) : Option Bool := XFunc.run yc.x (yc.env N) N x
def yc.fs (N : Nat) : FS := { arg := yc.x.arg, ret := yc.x.ret, fresh := true, F := yc.F N }
theorem yc.F_eq (N : Nat) (d : zAW × (Int × Int × Int) × zAQ × Int × Int × Int × Int) : yc.F N d =
bindO (zN.F N d.1) fun r1 =>
bif !r1 then
some false
else
bindO (yp.F N d.2.1) fun r2 =>
bif !r2 then
some false
else
bif decide (d.2.2.2.1 < 0) then
some false
else
bif decide (d.2.2.2.1 > 1000000) then
some false
else
bif decide (d.2.2.2.2.1 < 0) then
some false
else
bif decide (d.2.2.2.2.1 > d.2.2.2.1) then
some false
else
bindO (zi.F N d.1.2.2.2.1) fun r3 =>
bindO (za.F N (d.2.2.1, (r3, d.1.1.1))) fun r4 =>
bif !r4 then
some false
else
bindO (yS.F N (d.2.2.1, d.2.2.2.1)) fun r5 =>
bif !r5 then
some false
else
bif decide (d.2.2.2.2.2.1 >= 0) then
bif decide (d.2.2.2.2.2.1 <= d.1.1.1) then
bif decide (d.2.2.2.2.2.2 >= 0) then
some (decide (d.2.2.2.2.2.2 <= d.2.2.2.1))
else
some false
else
some false
else
some false := by kernel_rfl
def zf.c1 : XCode := .seq (rG [o2 13 (.bin .lss) 12 11]) (.seq (.cond (.slot 13) (.skip) (.exit 0)) (.seq (.block 1 (.seq (rG [o2 14 (.indexAddr (.list yM)) 10 12, o1 15 (.load false 1) 14, mv 5 15]) (.region true [fA 16 1 3, lN 17 16 2, mv 18 5, op 19 (.append true 3 8 yM) [.const (.one (.nil)), .slot 18], ow 20 (.buildSlice false 4 9 (.list yM) 1 [(0, 1)] [.nil]) [.slot 19] [4] [4], ow 21 (.append false 5 9 (.list yM)) (sl [17, 20]) [4, 5] [5], fA 22 1 3, sT 1 22 21 2]))) (rG [op 23 (.bin .add) [.slot 12, cI 1], mv 12 23])))
def zf.c2 : XCode := .seq (rG [lU 24 2 3 2, sT 2 2 24 1]) (.ret)
def zf.x : XFunc := { nslots := 25, nobj := 6, pars := [.val true 2], rowsIn := no 2, rets := [.var 2 true 2], outs := [.imm, .own 9], fresh := true, arg := .pair (.int .i64) (.list (.list yM)), ret := .pair (.int .i64) (.list (.list yM)), body := .seq (rG [ow 1 (.box 0) [.slot 0] [0] [0], ow 2 (.alloc 1 [cZ, .nil]) [] [1] [1]]) (.seq (rG [fA 6 0 1, lN 7 6 0, o1 8 (.build [cZ, .nil] [(0, 1)]) 7, ow 3 (.alloc 2 [cZ, .nil]) [] [2] [2], sT 2 3 8 2]) (.seq (.seq (rG [fA 9 1 1, lN 10 9 0, o1 11 .len 10, op 12 .move [cI 0]]) (.block 0 (.loop [.mkrow (.boxc 2 1) 5 9 (.list yM), .keep [2, 3, 10, 11, 12], .drop 0, .drop 3, .drop 4, .norm] (zf.c1)))) (zf.c2))) }
def zf.env (_ : Nat) : Env := envOf (tbl [] noFS)
def zf.F (N : Nat) (x : Int × List zU) : Option (Int × List zU) := XFunc.run zf.x (zf.env N) N x
def zf.fs (N : Nat) : FS := { arg := zf.x.arg, ret := zf.x.ret, fresh := true, F := zf.F N }
def zf.k2 (N : Nat) : Ex -> S -> Option (Int × List zU) := seqK (fun s => XCode.runK (zf.env N) N (zf.c2) s (XFunc.endK zf.x)) (XFunc.endK zf.x)
def zf.k1 (N : Nat) : Ex -> S -> Option (Int × List zU) := y2 0 (zf.k2 N)
def zf.L1 (N : Nat) (n1 : Nat) (t10 : List zU) (t11 : Int) (t12 : Int) (o20 : Int) (o5 : List zU) : Option (Int × List zU) := loopK [.mkrow (.boxc 2 1) 5 9 (.list yM), .keep [2, 3, 10, 11, 12], .drop 0, .drop 3, .drop 4, .norm] (fun s k => XCode.runK (zf.env N) N zf.c1 s k) n1
 { t := jK 25 [(2, .one (.ptr 1 0 0)), (3, .one (.ptr 2 0 0)), (10, .one (.sl false (.list yM) t10)), (11, .one (.int .i64 t11)), (12, .one (.int .i64 t12))], h := [.absent 0, .box 0 false [cZ, .nil], .box 0 false [.int .i64 o20, .ref 5 0 .all], .absent 0, .absent 0, .row 0 false true 9 (.list yM) o5] }
 (zf.k1 N)
theorem zf.L1_eq (N : Nat) (n1 : Nat) (t10 : List zU) (t11 : Int) (t12 : Int) (o20 : Int) (o5 : List zU) : zf.L1 N (n1 + 1) t10 t11 t12 o20 o5 =
bif decide (t12 < t11) then
bif zP t12 (t10.length) then
bif decide (List.length (nth ([] : List (Int × Int × Int × Int)) t10 t12) <= maxN) then
bif decide (o5.length + List.length ([nth ([] : List (Int × Int × Int × Int)) t10 t12] : List zU) <= maxN) then
zf.L1 N n1 t10 t11 (IntKind.wrap .i64 (t12 + 1)) o20 (o5 ++ ([nth ([] : List (Int × Int × Int × Int)) t10 t12] : List zU))
else none
else none
else none
else
some (o20, o5) := by kernel_rfl
theorem zf.F_eq (N : Nat) (m : Int × List zU) : zf.F N m =
zf.L1 N N m.2 (List.length m.2 : Int) 0 m.1 ([] : List zU) := by kernel_rfl
def ze.c1 : XCode := .seq (rG [o2 9 (.bin .lss) 8 7]) (.seq (.cond (.slot 9) (.skip) (.exit 0)) (.seq (.block 1 (.seq (rG [o2 10 (.indexAddr (.list yW)) 6 8, o1 11 (.load false 1) 10, mv 5 11]) (rG [mv 12 3, mv 13 5, op 14 (.append true 0 10 yW) [.const (.one (.nil)), .slot 13], ow 15 (.buildSlice false 1 11 (.list yW) 1 [(0, 1)] [.nil]) [.slot 14] [1] [1], ow 16 (.append false 2 11 (.list yW)) (sl [12, 15]) [1, 2] [2], mv 3 16]))) (rG [op 17 (.bin .add) [.slot 8, cI 1], mv 8 17])))
def ze.c2 : XCode := .seq (rG [mv 18 3, mv 2 18]) (.ret)
def ze.x : XFunc := { nslots := 19, nobj := 3, pars := [.val false 1], rowsIn := [none], rets := [.tmp 2 false 1], outs := [.own 11], fresh := true, arg := .list (.list yW), ret := .list (.list yW), body := .seq (rG [op 2 .move [.const (.one (.nil))]]) (.seq (rG [op 3 .move [.const (.one (.nil))]]) (.seq (.seq (rG [mv 6 0, o1 7 .len 6, op 8 .move [cI 0]]) (.block 0 (.loop [.mkrow (.slot 3) 2 11 (.list yW), .keep [3, 6, 7, 8], .drop 0, .drop 1, .norm] (ze.c1)))) (ze.c2))) }
def ze.env (_ : Nat) : Env := envOf (tbl [] noFS)
def ze.F (N : Nat) (x : List zp) : Option (List zp) := XFunc.run ze.x (ze.env N) N x
def ze.fs (N : Nat) : FS := { arg := ze.x.arg, ret := ze.x.ret, fresh := true, F := ze.F N }
def ze.k2 (N : Nat) : Ex -> S -> Option (List zp) := seqK (fun s => XCode.runK (ze.env N) N (ze.c2) s (XFunc.endK ze.x)) (XFunc.endK ze.x)
def ze.k1 (N : Nat) : Ex -> S -> Option (List zp) := y2 0 (ze.k2 N)
def ze.L1 (N : Nat) (n1 : Nat) (t6 : List zp) (t7 : Int) (t8 : Int) (o2 : List zp) : Option (List zp) := loopK [.mkrow (.slot 3) 2 11 (.list yW), .keep [3, 6, 7, 8], .drop 0, .drop 1, .norm] (fun s k => XCode.runK (ze.env N) N ze.c1 s k) n1
 { t := jK 19 [(3, .one (.ref 2 0 .all)), (6, .one (.sl false (.list yW) t6)), (7, .one (.int .i64 t7)), (8, .one (.int .i64 t8))], h := [.absent 0, .absent 0, .row 0 false true 11 (.list yW) o2] }
 (ze.k1 N)
theorem ze.L1_eq (N : Nat) (n1 : Nat) (t6 : List zp) (t7 : Int) (t8 : Int) (o2 : List zp) : ze.L1 N (n1 + 1) t6 t7 t8 o2 =
bif decide (t8 < t7) then
bif zP t8 (t6.length) then
bif decide (List.length (nth ([] : List (Int × Int × Int)) t6 t8) <= maxN) then
bif decide (o2.length + List.length ([nth ([] : List (Int × Int × Int)) t6 t8] : List zp) <= maxN) then
ze.L1 N n1 t6 t7 (IntKind.wrap .i64 (t8 + 1)) (o2 ++ ([nth ([] : List (Int × Int × Int)) t6 t8] : List zp))
else none
else none
else none
else
some o2 := by kernel_rfl
theorem ze.F_eq (N : Nat) (l_ : List zp) : ze.F N l_ =
ze.L1 N N l_ (l_.length : Int) 0 ([] : List zp) := by kernel_rfl
def yB.x : XFunc := { nslots := 16, nobj := 3, pars := [.val true 7], rowsIn := no 7, rets := [.var 2 true 7], outs := [.imm, .imm, .imm, .imm, .own 15, .imm, .imm], fresh := true, arg := .pair zBe T8_30, ret := .pair zBe T8_30, body := .seq (rG [ow 1 (.box 0) [.slot 0] [0] [0], ow 2 (.alloc 1 [cZ, .nil, .nil, cZ, .nil, cZ, .bool false]) [] [1] [1]]) (.seq (rG [fA 3 0 1, lU 4 2 3 0, o1 5 (.call ⟨161, [.val true 2], no 2, [.val true 2], ims 2, true⟩) 4, fA 6 0 1, sT 2 6 5 0]) (.seq (rG [fA 7 2 1, lN 8 7 0, o1 9 (.call ⟨162, vs 1, no 1, [.val false 1], ims 1, true⟩) 8, fA 10 2 1, sT 1 10 9 0]) (.seq (rG [fA 11 4 1, lN 12 11 0, ow 13 (.append false 2 15 yZ) [.const (.one (.nil)), .slot 12] [2] [2], fA 14 4 1, sT 1 14 13 0]) (.seq (rG [lU 15 7 1 0, sT 7 2 15 1]) (.ret))))) }
def yB.env (N : Nat) : Env := envOf (tbl [(161, zf.fs N), (162, ze.fs N)] noFS)
def yB.F (N : Nat) (x : (Int × List zU) × (List zp) × Int × zk × Int × Bool) : Option zAW := XFunc.run yB.x (yB.env N) N x
def yB.fs (N : Nat) : FS := { arg := yB.x.arg, ret := yB.x.ret, fresh := true, F := yB.F N }
theorem yB.F_eq (N : Nat) (e : (Int × List zU) × (List zp) × Int × zk × Int × Bool) : yB.F N e =
bindO (zf.F N e.1) fun r1 =>
bindO (ze.F N e.2.1) fun r2 =>
bif decide (List.length e.2.2.2.1 <= maxN) then
some (r1, (r2, e.2.2))
else none := by kernel_rfl
def yP.x : XFunc := { nslots := 12, nobj := 3, pars := [.val true 15], rowsIn := no 15, rets := [.var 2 true 15], outs := [.imm, .imm, .imm, .imm, .imm, .imm, .imm, .imm, .imm, .imm, .own 4, .imm, .imm, .imm, .imm], fresh := true, arg := .pair zAk zBl, ret := .pair zAk zBl, body := .seq (rG [ow 1 (.box 0) [.slot 0] [0] [0], ow 2 (.alloc 1 [cZ, .nil, .nil, cZ, .nil, cZ, .bool false, cZ, cZ, cZ, .nil, cZ, cZ, cZ, cZ]) [] [1] [1]]) (.seq (rG [fA 3 0 1, lU 4 7 3 0, o1 5 (.call ⟨171, [.val true 7], no 7, [.val true 7], ims 7, true⟩) 4, fA 6 0 1, sT 7 6 5 0]) (.seq (rG [fA 7 10 1, lN 8 7 0, ow 9 (.append false 2 4 zAd) [.const (.one (.nil)), .slot 8] [2] [2], fA 10 10 1, sT 1 10 9 0]) (.seq (rG [lU 11 15 1 0, sT 15 2 11 1]) (.ret)))) }
def yP.env (N : Nat) : Env := envOf (tbl [(171, yB.fs N)] noFS)
def yP.F (N : Nat) (x : zAW × (Int × Int × Int) × zAQ × Int × Int × Int × Int) : Option zBK := XFunc.run yP.x (yP.env N) N x
def yP.fs (N : Nat) : FS := { arg := yP.x.arg, ret := yP.x.ret, fresh := true, F := yP.F N }
theorem yP.F_eq (N : Nat) (d : zAW × (Int × Int × Int) × zAQ × Int × Int × Int × Int) : yP.F N d =
bindO (yB.F N d.1) fun r1 =>
bif decide (List.length d.2.2.1 <= maxN) then
some (r1, d.2)
else none := by kernel_rfl
def yI.c1 : XCode := .seq (rG [o2 11 (.bin .lss) 10 9]) (.seq (.cond (.slot 11) (.skip) (.exit 0)) (.seq (.block 1 (.seq (rG [mv 12 10, o2 13 (.indexAddr yZ) 8 10, o1 14 (.load true 5) 13, ow 6 (.alloc 1 [cZ, cZ, cZ, cZ, cZ]) [] [1] [1], mv 5 12, sT 5 6 14 1]) (.seq (rG [fA 15 0 6, lN 16 15 1, mv 17 1, o2 18 (.bin .eql) 16 17]) (.cond (.slot 18) (.seq (rG [mv 19 5, mv 4 19]) (.ret)) (.skip))))) (rG [op 20 (.bin .add) [.slot 10, cI 1], mv 10 20])))
def yI.c2 : XCode := .seq (rG [op 4 .move [cI (-1)]]) (.ret)
def yI.x : XFunc := { nslots := 21, nobj := 2, pars := [.val true 7, .val false 1], rowsIn := no 8, rets := [.tmp 4 false 1], outs := [.imm], fresh := true, arg := .pair zAk (.int .i64), ret := .int .i64, body := .seq (rG [ow 2 (.box 0) [.slot 0] [0] [0], op 4 .move [cI 0]]) (.seq (.seq (rG [fA 7 4 2, lN 8 7 0, o1 9 .len 8, op 10 .move [cI 0]]) (.block 0 (.loop [.keep [1, 8, 9, 10], .drop 0, .drop 1, .norm] (yI.c1)))) (yI.c2)) }
def yI.env (_ : Nat) : Env := envOf (tbl [] noFS)
def yI.F (N : Nat) (x : zAW × Int) : Option Int := XFunc.run yI.x (yI.env N) N x
def yI.fs (N : Nat) : FS := { arg := yI.x.arg, ret := yI.x.ret, fresh := true, F := yI.F N }
def yI.k2 (N : Nat) : Ex -> S -> Option Int := seqK (fun s => XCode.runK (yI.env N) N (yI.c2) s (XFunc.endK yI.x)) (XFunc.endK yI.x)
def yI.k1 (N : Nat) : Ex -> S -> Option Int := y2 0 (yI.k2 N)
def yI.L1 (N : Nat) (n1 : Nat) (key : Int) (t8 : zk) (t9 : Int) (t10 : Int) : Option Int := loopK [.keep [1, 8, 9, 10], .drop 0, .drop 1, .norm] (fun s k => XCode.runK (yI.env N) N yI.c1 s k) n1
 { t := jK 21 [(1, .one (.int .i64 key)), (8, .one (.sl false yZ t8)), (9, .one (.int .i64 t9)), (10, .one (.int .i64 t10))], h := [.absent 0, .absent 0] }
 (yI.k1 N)
theorem yI.L1_eq (N : Nat) (n1 : Nat) (key : Int) (t8 : zk) (t9 : Int) (t10 : Int) : yI.L1 N (n1 + 1) key t8 t9 t10 =
bif decide (t10 < t9) then
bif zP t10 (t8.length) then
bif ((nth (0, (0, (0, (0, 0)))) t8 t10).1) == key then
some t10
else
yI.L1 N n1 key t8 t9 (IntKind.wrap .i64 (t10 + 1))
else none
else
some (-1 : Int) := by kernel_rfl
theorem yI.F_eq (N : Nat) (e : (Int × List zU) × (List zp) × Int × zk × Int × Bool) (key : Int) : yI.F N (e, key) =
yI.L1 N N key e.2.2.2.1 (List.length e.2.2.2.1 : Int) 0 := by kernel_rfl
def yo.x : XFunc := { nslots := 5, nobj := 1, pars := [.val false 1], rowsIn := [none], rets := [.tmp 2 false 1], outs := [.own 2], fresh := true, arg := .list (.int .i64), ret := .list (.int .i64), body := .seq (rG [op 2 .move [.const (.one (.nil))]]) (.seq (rG [mv 3 0, ow 4 (.append false 0 2 (.int .i64)) [.const (.one (.nil)), .slot 3] [0] [0], mv 2 4]) (.ret)) }
def yo.env (_ : Nat) : Env := envOf (tbl [] noFS)
def yo.F (N : Nat) (x : List Int) : Option (List Int) := XFunc.run yo.x (yo.env N) N x
def yo.fs (N : Nat) : FS := { arg := yo.x.arg, ret := yo.x.ret, fresh := true, F := yo.F N }
theorem yo.F_eq (N : Nat) (l_ : List Int) : yo.F N l_ =
bif decide (l_.length <= maxN) then
some l_
else none := by kernel_rfl
def zo.c1 : XCode := .seq (rG [o2 14 (.bin .lss) 13 12]) (.seq (.cond (.slot 14) (.skip) (.exit 0)) (.seq (.block 1 (.seq (rG [ow 15 (.indexAddr (.int .i64)) (sl [11, 13]) [0] [], lN 16 15 0, mv 6 16]) (.seq (rG [mv 17 6, op 18 (.bin .neq) [.slot 17, cI 0], sX 19 [.slot 18], gX 20 .move [.slot 4] [] [] 19 true, gX 21 .move [.slot 6] [] [] 19 true, ⟨some 22, .call ⟨202, vs 2, no 2, [.val false 1], ims 1, true⟩, (sl [20, 21]), [2], [], some (19, true), false, .none⟩, gX 23 .not [.slot 22] [] [] 19 true, op 24 .pick [.slot 19, .slot 23, cB false]]) (.cond (.slot 24) (rG [mv 25 4, mv 26 6, ow 27 (.buildSlice false 1 2 (.int .i64) 1 [(0, 1)] [cZ]) [.slot 26] [1] [1], ow 28 (.append false 2 2 (.int .i64)) (sl [25, 27]) [1, 2] [2], mv 4 28]) (.skip))))) (rG [op 29 (.bin .add) [.slot 13, cI 1], mv 13 29])))
def zo.c2 : XCode := .seq (rG [mv 30 4, mv 2 30]) (.ret)
def zo.x : XFunc := { nslots := 31, nobj := 3, pars := [.val false 1], rowsIn := [none], rets := [.tmp 2 false 1], outs := [.own 2], fresh := true, arg := .list (.int .i64), ret := .list (.int .i64), body := .seq (rG [op 2 .move [.const (.one (.nil))]]) (.seq (rG [mv 7 0, ow 8 (.call ⟨114, vs 1, no 1, [.val false 1], [.own 0 2], true⟩) [.slot 7] [0] [0], mv 3 8]) (.seq (rG [mv 9 3, ow 10 (.call ⟨201, vs 1, [some (0, 2)], [], [.back 0], true⟩) [.slot 9] [0] [0]]) (.seq (rG [op 4 .move [.const (.one (.nil))]]) (.seq (.seq (rG [mv 11 3, ow 12 .len [.slot 11] [0] [], op 13 .move [cI 0]]) (.block 0 (.loop [.mkrow (.slot 4) 2 2 (.int .i64), .keep [4, 11, 12, 13], .drop 1, .norm] (zo.c1)))) (zo.c2))))) }
def zo.env (N : Nat) : Env := envOf (tbl [(201, ext_sort_Ints.fs N), (114, yo.fs N), (202, yH.fs N)] noFS)
def zo.F (N : Nat) (x : List Int) : Option (List Int) := XFunc.run zo.x (zo.env N) N x
def zo.fs (N : Nat) : FS := { arg := zo.x.arg, ret := zo.x.ret, fresh := true, F := zo.F N }
def zo.k2 (N : Nat) : Ex -> S -> Option (List Int) := seqK (fun s => XCode.runK (zo.env N) N (zo.c2) s (XFunc.endK zo.x)) (XFunc.endK zo.x)
def zo.k1 (N : Nat) : Ex -> S -> Option (List Int) := y2 0 (zo.k2 N)
def zo.L1 (N : Nat) (n1 : Nat) (t12 : Int) (t13 : Int) (o0 : List Int) (o2 : List Int) : Option (List Int) := loopK [.mkrow (.slot 4) 2 2 (.int .i64), .keep [4, 11, 12, 13], .drop 1, .norm] (fun s k => XCode.runK (zo.env N) N zo.c1 s k) n1
 { t := jK 31 [(4, .one (.ref 2 0 .all)), (11, .one (.ref 0 0 .all)), (12, .one (.int .i64 t12)), (13, .one (.int .i64 t13))], h := [.row 0 false true 2 (.int .i64) o0, .absent 0, .row 0 false true 2 (.int .i64) o2] }
 (zo.k1 N)
theorem zo.L1_eq (N : Nat) (n1 : Nat) (t12 : Int) (t13 : Int) (o0 : List Int) (o2 : List Int) : zo.L1 N (n1 + 1) t12 t13 o0 o2 =
bif decide (t13 < t12) then
bif zP t13 (o0.length) then
bif (List.getD o0 (Int.toNat t13) 0) != 0 then
bindO (yH.F N (o2, List.getD o0 (Int.toNat t13) 0)) fun r3 =>
bif !r3 then
bif decide (o2.length + List.length ([List.getD o0 (Int.toNat t13) 0] : List Int) <= maxN) then
zo.L1 N n1 t12 (IntKind.wrap .i64 (t13 + 1)) o0 (o2 ++ ([List.getD o0 (Int.toNat t13) 0] : List Int))
else none
else
zo.L1 N n1 t12 (IntKind.wrap .i64 (t13 + 1)) o0 o2
else
zo.L1 N n1 t12 (IntKind.wrap .i64 (t13 + 1)) o0 o2
else none
else
some o2 := by kernel_rfl
theorem zo.F_eq (N : Nat) (l_ : List Int) : zo.F N l_ =
bindO (yo.F N l_) fun r1 =>
bindO (ext_sort_Ints.F N r1) fun r2 =>
zo.L1 N N (r2.length : Int) 0 r2 ([] : List Int) := by kernel_rfl
def zH.c1 : XCode := .seq (rG [o2 14 (.bin .lss) 13 12]) (.seq (.cond (.slot 14) (.skip) (.exit 0)) (.seq (.block 1 (.seq (rG [o2 15 (.indexAddr yZ) 11 13, o1 16 (.load true 5) 15, ow 6 (.alloc 2 [cZ, cZ, cZ, cZ, cZ]) [] [2] [2], sT 5 6 16 2]) (.seq (.seq (rG [fA 17 1 6, fA 18 0 17, lN 19 18 2, op 20 (.bin .eql) [.slot 19, cI 2], sX 21 [.slot 20], gX 22 (.fieldAddr 1) [.slot 6] [] [] 21 false, gX 23 (.fieldAddr 0) [.slot 22] [] [] 21 false, gX 24 (.load false 1) [.slot 23] [2] [] 21 false, gX 25 (.bin .eql) [.slot 24, cI 8] [] [] 21 false, op 26 .pick [.slot 21, cB true, .slot 25]]) (.cond (.slot 26) (rG [fA 27 0 3, lN 28 27 1, fA 29 1 6, fA 30 2 29, lN 31 30 2, o2 32 (.bin .or) 28 31, fA 33 0 3, sT 1 33 32 1]) (.skip))) (rG [mv 34 4, fA 35 1 6, fA 36 1 35, lN 37 36 2, ow 38 (.buildSlice false 3 2 (.int .i64) 1 [(0, 1)] [cZ]) [.slot 37] [3] [3], ow 39 (.append false 4 2 (.int .i64)) (sl [34, 38]) [3, 4] [4], mv 4 39])))) (rG [op 40 (.bin .add) [.slot 13, cI 1], mv 13 40])))
def zH.c2 : XCode := .seq (rG [mv 41 4, ow 42 (.call ⟨203, vs 1, no 1, [.val false 1], [.own 5 2], true⟩) [.slot 41] [4, 5] [5], fA 43 1 3, sT 1 43 42 1]) (.seq (rG [lU 44 2 3 1, sT 2 2 44 0]) (.ret))
def zH.x : XFunc := { nslots := 45, nobj := 6, pars := [.val false 1], rowsIn := [none], rets := [.var 2 true 2], outs := [.imm, .own 2], fresh := true, arg := .list yZ, ret := .pair (.int .i64) (.list (.int .i64)), body := .seq (rG [ow 2 (.alloc 0 [cZ, .nil]) [] [0] [0]]) (.seq (.seq (rG [mv 7 0, o1 8 (.call ⟨164, vs 1, no 1, [.val false 1], ims 1, true⟩) 7, o1 9 .not 8]) (.cond (.slot 9) (.seq (rG [op 10 (.build [cZ, .nil] []) [], sT 2 2 10 0]) (.ret)) (.skip))) (.seq (rG [ow 3 (.alloc 1 [cZ, .nil]) [] [1] [1]]) (.seq (rG [op 4 .move [.const (.one (.nil))]]) (.seq (.seq (rG [mv 11 0, o1 12 .len 11, op 13 .move [cI 0]]) (.block 0 (.loop [.mkrow (.slot 4) 4 2 (.int .i64), .keep [2, 3, 4, 11, 12, 13], .drop 2, .drop 3, .drop 5, .norm] (zH.c1)))) (zH.c2))))) }
def zH.env (N : Nat) : Env := envOf (tbl [(164, zl.fs N), (203, zo.fs N)] noFS)
def zH.F (N : Nat) (x : zk) : Option (Int × List Int) := XFunc.run zH.x (zH.env N) N x
def zH.fs (N : Nat) : FS := { arg := zH.x.arg, ret := zH.x.ret, fresh := true, F := zH.F N }
def zH.k2 (N : Nat) : Ex -> S -> Option (Int × List Int) := seqK (fun s => XCode.runK (zH.env N) N (zH.c2) s (XFunc.endK zH.x)) (XFunc.endK zH.x)
def zH.k1 (N : Nat) : Ex -> S -> Option (Int × List Int) := y2 0 (zH.k2 N)
def zH.L1 (N : Nat) (n1 : Nat) (t11 : zk) (t12 : Int) (t13 : Int) (o10 : Int) (o4 : List Int) : Option (Int × List Int) := loopK [.mkrow (.slot 4) 4 2 (.int .i64), .keep [2, 3, 4, 11, 12, 13], .drop 2, .drop 3, .drop 5, .norm] (fun s k => XCode.runK (zH.env N) N zH.c1 s k) n1
 { t := jK 45 [(2, .one (.ptr 0 0 0)), (3, .one (.ptr 1 0 0)), (4, .one (.ref 4 0 .all)), (11, .one (.sl false yZ t11)), (12, .one (.int .i64 t12)), (13, .one (.int .i64 t13))], h := [.box 0 false [cZ, .nil], .box 0 false [.int .i64 o10, .nil], .absent 0, .absent 0, .row 0 false true 2 (.int .i64) o4, .absent 0] }
 (zH.k1 N)
theorem zH.L1_eq (N : Nat) (n1 : Nat) (t11 : zk) (t12 : Int) (t13 : Int) (o10 : Int) (o4 : List Int) : zH.L1 N (n1 + 1) t11 t12 t13 o10 o4 =
bif decide (t13 < t12) then
bif zP t13 (t11.length) then
bif (((nth (0, (0, (0, (0, 0)))) t11 t13).2).1) == 2 then
bif decide (o4.length + List.length ([(((nth (0, (0, (0, (0, 0)))) t11 t13).2).2).1] : List Int) <= maxN) then
zH.L1 N n1 t11 t12 (IntKind.wrap .i64 (t13 + 1)) (bitOr .i64 o10 (((((nth (0, (0, (0, (0, 0)))) t11 t13).2).2).2).1)) (o4 ++ ([(((nth (0, (0, (0, (0, 0)))) t11 t13).2).2).1] : List Int))
else none
else
bif (((nth (0, (0, (0, (0, 0)))) t11 t13).2).1) == 8 then
bif decide (o4.length + List.length ([(((nth (0, (0, (0, (0, 0)))) t11 t13).2).2).1] : List Int) <= maxN) then
zH.L1 N n1 t11 t12 (IntKind.wrap .i64 (t13 + 1)) (bitOr .i64 o10 (((((nth (0, (0, (0, (0, 0)))) t11 t13).2).2).2).1)) (o4 ++ ([(((nth (0, (0, (0, (0, 0)))) t11 t13).2).2).1] : List Int))
else none
else
bif decide (o4.length + List.length ([(((nth (0, (0, (0, (0, 0)))) t11 t13).2).2).1] : List Int) <= maxN) then
zH.L1 N n1 t11 t12 (IntKind.wrap .i64 (t13 + 1)) o10 (o4 ++ ([(((nth (0, (0, (0, (0, 0)))) t11 t13).2).2).1] : List Int))
else none
else none
else
bindO (zo.F N o4) fun r2 =>
some (o10, r2) := by kernel_rfl
theorem zH.F_eq (N : Nat) (l_ : zk) : zH.F N l_ =
bindO (zl.F N l_) fun r1 =>
bif !r1 then
some (0, ([] : List Int))
else
zH.L1 N N l_ (l_.length : Int) 0 0 ([] : List Int) := by kernel_rfl
def zD.c1 : XCode := .seq (rG [o2 11 (.bin .lss) 10 9]) (.seq (.cond (.slot 11) (.skip) (.exit 0)) (.seq (.block 1 (.seq (rG [o2 12 (.indexAddr zAO) 8 10, o1 13 (.load true 2) 12, ow 7 (.alloc 1 [cZ, .nil]) [] [1] [1], sT 2 7 13 1]) (.seq (.seq (rG [lU 14 2 2 0, lU 15 2 7 1, o2 16 (.call ⟨206, [.val true 2, .val true 2], no 4, [.val false 1], ims 1, true⟩) 14 15, o1 17 .not 16]) (.cond (.slot 17) (rG [mv 18 5, lU 19 2 7 1, ow 20 (.buildSlice false 2 12 zAO 1 [(0, 2)] [cZ, .nil]) [.slot 19] [2] [2], ow 21 (.append false 3 12 zAO) (sl [18, 20]) [2, 3] [3], mv 5 21]) (.skip))) (rG [lU 22 2 7 1, sT 2 2 22 0])))) (rG [op 23 (.bin .add) [.slot 10, cI 1], mv 10 23])))
def zD.c2 : XCode := .seq (rG [mv 24 5, mv 4 24]) (.ret)
def zD.x : XFunc := { nslots := 25, nobj := 4, pars := [.val true 2, .val false 1], rowsIn := no 3, rets := [.tmp 4 false 1], outs := [.own 12], fresh := false, arg := .pair zAO (.list zAO), ret := .list zAO, body := .seq (rG [ow 2 (.box 0) [.slot 0] [0] [0], op 4 .move [.const (.one (.nil))]]) (.seq (rG [op 5 .move [.const (.one (.nil))]]) (.seq (.seq (rG [mv 8 1, o1 9 .len 8, op 10 .move [cI 0]]) (.block 0 (.loop [.mkrow (.slot 5) 3 12 zAO, .keep [2, 5, 8, 9, 10], .drop 1, .drop 2, .weak, .norm] (zD.c1)))) (zD.c2))) }
def zD.env (N : Nat) : Env := envOf (tbl [(206, yQ.fs N)] noFS)
def zD.F (N : Nat) (x : (Int × List Int) × List (Int × List Int)) : Option zAT := XFunc.run zD.x (zD.env N) N x
def zD.fs (N : Nat) : FS := { arg := zD.x.arg, ret := zD.x.ret, fresh := false, F := zD.F N }
def zD.k2 (N : Nat) : Ex -> S -> Option zAT := seqK (fun s => XCode.runK (zD.env N) N (zD.c2) s (XFunc.endK zD.x)) (XFunc.endK zD.x)
def zD.k1 (N : Nat) : Ex -> S -> Option zAT := y2 0 (zD.k2 N)
def zD.L1 (N : Nat) (n1 : Nat) (t8 : zAT) (t9 : Int) (t10 : Int) (o00 : Int) (o01 : List Int) (o3 : zAT) : Option zAT := loopK [.mkrow (.slot 5) 3 12 zAO, .keep [2, 5, 8, 9, 10], .drop 1, .drop 2, .weak, .norm] (fun s k => XCode.runK (zD.env N) N zD.c1 s k) n1
 { t := jK 25 [(2, .one (.ptr 0 0 0)), (5, .one (.ref 3 0 .all)), (8, .one (.sl false zAO t8)), (9, .one (.int .i64 t9)), (10, .one (.int .i64 t10))], h := [.box 0 false [.int .i64 o00, .sl false (.int .i64) o01], .absent 0, .absent 0, .row 0 false false 12 zAO o3] }
 (zD.k1 N)
theorem zD.L1_eq (N : Nat) (n1 : Nat) (t8 : zAT) (t9 : Int) (t10 : Int) (o00 : Int) (o01 : List Int) (o3 : zAT) : zD.L1 N (n1 + 1) t8 t9 t10 o00 o01 o3 =
bif decide (t10 < t9) then
bif zP t10 (t8.length) then
bindO (yQ.F N ((o00, o01), (nth (0, ([] : List Int)) t8 t10))) fun r1 =>
bif !r1 then
bif decide (o3.length + List.length ([(nth (0, ([] : List Int)) t8 t10)] : List (Int × List Int)) <= maxN) then
zD.L1 N n1 t8 t9 (IntKind.wrap .i64 (t10 + 1)) ((nth (0, ([] : List Int)) t8 t10).1) ((nth (0, ([] : List Int)) t8 t10).2) (o3 ++ ([(nth (0, ([] : List Int)) t8 t10)] : List (Int × List Int)))
else none
else
zD.L1 N n1 t8 t9 (IntKind.wrap .i64 (t10 + 1)) ((nth (0, ([] : List Int)) t8 t10).1) ((nth (0, ([] : List Int)) t8 t10).2) o3
else none
else
some o3 := by kernel_rfl
theorem zD.F_eq (N : Nat) (last : Int × List Int) (l_ : zAT) : zD.F N (last, l_) =
zD.L1 N N l_ (l_.length : Int) 0 last.1 last.2 ([] : List (Int × List Int)) := by kernel_rfl
def y7.x : XFunc := { nslots := 33, nobj := 5, pars := [.val true 7, .val false 1], rowsIn := no 8, rets := [.var 4 true 7, .tmp 5 false 1], outs := [.imm, .imm, .imm, .imm, .own 15, .imm, .imm, .imm], fresh := false, arg := .pair zAk (.int .i64), ret := .pair zAk (.list zAO), body := .seq (rG [ow 2 (.box 0) [.slot 0] [0] [0], ow 4 (.alloc 1 [cZ, .nil, .nil, cZ, .nil, cZ, .bool false]) [] [1] [1], op 5 .move [.const (.one (.nil))]]) (.seq (rG [lU 8 7 2 0, ow 9 (.call ⟨171, [.val true 7], no 7, [.val true 7], [.imm, .imm, .imm, .imm, .own 3 15, .imm, .imm], true⟩) [.slot 8] [3] [3], ow 6 (.alloc 2 [cZ, .nil, .nil, cZ, .nil, cZ, .bool false]) [] [2] [2], sT 7 6 9 2]) (.seq (rG [lU 10 7 2 0, mv 11 1, o2 12 (.call ⟨179, [.val true 7, .val false 1], no 8, [.val false 1], ims 1, true⟩) 10 11, mv 7 12]) (.seq (.region true [fA 13 4 6, lN 14 13 2, mv 15 7, ow 16 (.slice yZ false true) (sl [14, 15]) [3] [], fA 17 4 6, lN 18 17 2, mv 19 7, op 20 (.bin .add) [.slot 19, cI 1], ow 21 (.slice yZ true false) (sl [18, 20]) [3] [], ow 22 (.appendDel 3 15 yZ) (sl [16, 21]) [3] [3], fA 23 4 6, sT 1 23 22 2]) (.seq (.region true [lU 24 7 6 2, fA 25 4 2, lN 26 25 0, o1 27 (.call ⟨204, vs 1, no 1, [.val true 2], ims 2, true⟩) 26, fA 28 4 6, lN 29 28 2, ow 30 (.call ⟨204, vs 1, no 1, [.val true 2], ims 2, true⟩) [.slot 29] [3] [], o1 31 (.buildSlice true 4 12 zAO 1 [(0, 2)] [cZ, .nil]) 30, o2 32 (.call ⟨207, [.val true 2, .val false 1], no 3, [.val false 1], ims 1, false⟩) 27 31, sT 7 4 24 1, mv 5 32]) (.ret))))) }
def y7.env (N : Nat) : Env := envOf (tbl [(179, yI.fs N), (204, zH.fs N), (207, zD.fs N), (171, yB.fs N)] noFS)
def y7.F (N : Nat) (x : zAW × Int) : Option (zAW × List (Int × List Int)) := XFunc.run y7.x (y7.env N) N x
def y7.fs (N : Nat) : FS := { arg := y7.x.arg, ret := y7.x.ret, fresh := false, F := y7.F N }
theorem y7.F_eq (N : Nat) (e : (Int × List zU) × (List zp) × Int × zk × Int × Bool) (key : Int) : y7.F N (e, key) =
bindO (yB.F N e) fun r1 =>
bindO (yI.F N (e, key)) fun r2 =>
bif decide (0 <= r2) && decide (r2 <= (List.length r1.2.2.2.1 : Int)) then
bif decide (0 <= IntKind.wrap .i64 (r2 + 1)) && decide (IntKind.wrap .i64 (r2 + 1) <= (List.length r1.2.2.2.1 : Int)) then
bif decide ((Int.toNat r2) <= (Int.toNat (IntKind.wrap .i64 (r2 + 1)))) && decide (List.length r1.2.2.2.1 <= maxN) then
bindO (zH.F N e.2.2.2.1) fun r3 =>
bindO (zH.F N (List.take (Int.toNat r2) r1.2.2.2.1 ++ List.drop (Int.toNat (IntKind.wrap .i64 (r2 + 1))) r1.2.2.2.1)) fun r4 =>
bindO (zD.F N (r3, ([r4] : List (Int × List Int)))) fun r5 =>
some ((r1.1, (r1.2.1, (r1.2.2.1, (List.take (Int.toNat r2) r1.2.2.2.1 ++ List.drop (Int.toNat (IntKind.wrap .i64 (r2 + 1))) r1.2.2.2.1, r1.2.2.2.2)))), r5)
else none
else none
else none := by kernel_rfl
def zg.c1 : XCode := .seq (rG [o2 24 (.bin .lss) 23 22]) (.seq (.cond (.slot 24) (.skip) (.exit 0)) (.seq (.block 1 (.seq (rG [o2 25 (.indexAddr yZ) 21 23, o1 26 (.load true 5) 25, ow 7 (.alloc 0 [cZ, cZ, cZ, cZ, cZ]) [] [0] [0], sT 5 7 26 0]) (.seq (rG [fA 27 1 7, fA 28 0 27, lN 29 28 0, op 30 (.bin .eql) [.slot 29, cI 3]]) (.cond (.slot 30) (rG [mv 31 5, fA 32 1 7, fA 33 3 32, lN 34 33 0, op 35 (.bin .shl) [cI 1, .slot 34], o2 36 (.bin .or) 31 35, mv 5 36]) (.skip))))) (rG [op 37 (.bin .add) [.slot 23, cI 1], mv 23 37])))
def zg.c2 : XCode := .seq (rG [mv 38 5, mv 4 38]) (.ret)
def zg.x : XFunc := { nslots := 39, nobj := 1, pars := [.val false 1, .val false 1], rowsIn := no 2, rets := [.tmp 4 false 1], outs := [.imm], fresh := true, arg := .pair (.int .i64) (.list yZ), ret := .int .i64, body := .seq (rG [op 4 .move [cI 0]]) (.seq (rG [op 5 .move [cI 1]]) (.seq (.seq (rG [mv 8 0, op 9 (.bin .geq) [.slot 8, cI 0], sX 10 [.slot 9], gX 11 .move [.slot 0] [] [] 10 true, gX 12 (.bin .leq) [.slot 11, cI 15] [] [] 10 true, op 13 .pick [.slot 10, .slot 12, cB false]]) (.cond (.slot 13) (rG [mv 14 5, mv 15 0, o2 16 (.bin .or) 14 15, mv 5 16]) (.skip))) (.seq (.seq (rG [mv 17 1, o1 18 (.call ⟨164, vs 1, no 1, [.val false 1], ims 1, true⟩) 17, o1 19 .not 18]) (.cond (.slot 19) (.seq (rG [mv 20 5, mv 4 20]) (.ret)) (.skip))) (.seq (.seq (rG [mv 21 1, o1 22 .len 21, op 23 .move [cI 0]]) (.block 0 (.loop [.keep [5, 21, 22, 23], .drop 0, .norm] (zg.c1)))) (zg.c2))))) }
def zg.env (N : Nat) : Env := envOf (tbl [(164, zl.fs N)] noFS)
def zg.F (N : Nat) (x : Int × List (Int × Int × Int × Int × Int)) : Option Int := XFunc.run zg.x (zg.env N) N x
def zg.fs (N : Nat) : FS := { arg := zg.x.arg, ret := zg.x.ret, fresh := true, F := zg.F N }
def zg.k2 (N : Nat) : Ex -> S -> Option Int := seqK (fun s => XCode.runK (zg.env N) N (zg.c2) s (XFunc.endK zg.x)) (XFunc.endK zg.x)
def zg.k1 (N : Nat) : Ex -> S -> Option Int := y2 0 (zg.k2 N)
def zg.L1 (N : Nat) (n1 : Nat) (out : Int) (t21 : zk) (t22 : Int) (t23 : Int) : Option Int := loopK [.keep [5, 21, 22, 23], .drop 0, .norm] (fun s k => XCode.runK (zg.env N) N zg.c1 s k) n1
 { t := jK 39 [(5, .one (.int .i64 out)), (21, .one (.sl false yZ t21)), (22, .one (.int .i64 t22)), (23, .one (.int .i64 t23))], h := [.absent 0] }
 (zg.k1 N)
theorem zg.L1_eq (N : Nat) (n1 : Nat) (out : Int) (t21 : zk) (t22 : Int) (t23 : Int) : zg.L1 N (n1 + 1) out t21 t22 t23 =
bif decide (t23 < t22) then
bif zP t23 (t21.length) then
bif (((nth (0, (0, (0, (0, 0)))) t21 t23).2).1) == 3 then
bif decide (0 <= ((((nth (0, (0, (0, (0, 0)))) t21 t23).2).2).2).2) then
zg.L1 N n1 (bitOr .i64 out (zAb .i64 1 (((((nth (0, (0, (0, (0, 0)))) t21 t23).2).2).2).2))) t21 t22 (IntKind.wrap .i64 (t23 + 1))
else none
else
zg.L1 N n1 out t21 t22 (IntKind.wrap .i64 (t23 + 1))
else none
else
some out := by kernel_rfl
theorem zg.F_eq (N : Nat) (fixed : Int) (l_ : zk) : zg.F N (fixed, l_) =
bif decide (fixed >= 0) then
bif decide (fixed <= 15) then
bindO (zl.F N l_) fun r1 =>
bif !r1 then
some (bitOr .i64 1 fixed)
else
zg.L1 N N (bitOr .i64 1 fixed) l_ (l_.length : Int) 0
else
bindO (zl.F N l_) fun r2 =>
bif !r2 then
some 1
else
zg.L1 N N 1 l_ (l_.length : Int) 0
else
bindO (zl.F N l_) fun r3 =>
bif !r3 then
some 1
else
zg.L1 N N 1 l_ (l_.length : Int) 0 := by kernel_rfl
def zt.c1 : XCode := .seq (.seq (rG [mv 12 7, op 13 (.bin .gtr) [.slot 12, cI 0]]) (.cond (.slot 13) (.skip) (.exit 0))) (.seq (.block 1 (.seq (rG [mv 16 1, mv 17 7, o2 18 (.call ⟨65, vs 2, no 2, [.val false 1], ims 1, true⟩) 16 17, op 19 (.bin .eql) [.slot 18, cI 1], sX 20 [.slot 19], gX 21 (.fieldAddr 1) [.slot 3] [] [] 20 true, gX 22 (.load false 1) [.slot 21] [0] [] 20 true, gX 23 .move [.slot 7] [] [] 20 true, gX 24 (.indexAddr (.list yM)) (sl [22, 23]) [] [] 20 true, gX 25 (.load false 1) [.slot 24] [] [] 20 true, gX 26 .move [.slot 2] [] [] 20 true, gX 27 (.indexAddr yM) (sl [25, 26]) [] [] 20 true, gX 28 (.fieldAddr 0) [.slot 27] [] [] 20 true, gX 29 (.load false 1) [.slot 28] [] [] 20 true, gX 30 (.bin .neq) [.slot 29, cI 1] [] [] 20 true, op 31 .pick [.slot 20, .slot 30, cB false]]) (.cond (.slot 31) (.seq (rG [mv 32 7, mv 6 32]) (.ret)) (.skip)))) (rG [mv 14 7, op 15 (.bin .sub) [.slot 14, cI 1], mv 7 15]))
def zt.c2 : XCode := .seq (rG [op 6 .move [cI 0]]) (.ret)
def zt.x : XFunc := { nslots := 33, nobj := 1, pars := [.val true 2, .val false 1, .val false 1], rowsIn := no 4, rets := [.tmp 6 false 1], outs := [.imm], fresh := true, arg := .pair zBe zAj, ret := .int .i64, body := .seq (rG [ow 3 (.box 0) [.slot 0] [0] [0], op 6 .move [cI 0]]) (.seq (.seq (rG [fA 8 1 3, lN 9 8 0, o1 10 .len 9, op 11 (.bin .sub) [.slot 10, cI 1], mv 7 11]) (.block 0 (.loop [.keep [1, 2, 3, 7], .norm] (zt.c1)))) (zt.c2)) }
def zt.env (N : Nat) : Env := envOf (tbl [(65, zAG.fs N)] noFS)
def zt.F (N : Nat) (x : (Int × List zU) × Int × Int) : Option Int := XFunc.run zt.x (zt.env N) N x
def zt.fs (N : Nat) : FS := { arg := zt.x.arg, ret := zt.x.ret, fresh := true, F := zt.F N }
def zt.k2 (N : Nat) : Ex -> S -> Option Int := seqK (fun s => XCode.runK (zt.env N) N (zt.c2) s (XFunc.endK zt.x)) (XFunc.endK zt.x)
def zt.k1 (N : Nat) : Ex -> S -> Option Int := y2 0 (zt.k2 N)
def zt.L1 (N : Nat) (n1 : Nat) (on : Int) (key : Int) (i : Int) (o00 : Int) (o01 : List zU) : Option Int := loopK [.keep [1, 2, 3, 7], .norm] (fun s k => XCode.runK (zt.env N) N zt.c1 s k) n1
 { t := jK 33 [(1, .one (.int .i64 on)), (2, .one (.int .i64 key)), (3, .one (.ptr 0 0 0)), (7, .one (.int .i64 i))], h := [.box 0 false [.int .i64 o00, .sl false (.list yM) o01]] }
 (zt.k1 N)
theorem zt.L1_eq (N : Nat) (n1 : Nat) (on : Int) (key : Int) (i : Int) (o00 : Int) (o01 : List zU) : zt.L1 N (n1 + 1) on key i o00 o01 =
bif decide (i > 0) then
bindO (zAG.F N (on, i)) fun r1 =>
bif r1 == 1 then
bif zP i (o01.length) then
bif zP key (List.length (nth ([] : List (Int × Int × Int × Int)) o01 i)) then
bif ((nth (0, (0, (0, 0))) (nth ([] : List (Int × Int × Int × Int)) o01 i) key).1) != 1 then
some i
else
zt.L1 N n1 on key (IntKind.wrap .i64 (i - 1)) o00 o01
else none
else none
else
zt.L1 N n1 on key (IntKind.wrap .i64 (i - 1)) o00 o01
else
some 0 := by kernel_rfl
theorem zt.F_eq (N : Nat) (m : Int × List zU) (on : Int) (key : Int) : zt.F N (m, on, key) =
zt.L1 N N on key (IntKind.wrap .i64 ((List.length m.2 : Int) - 1)) m.1 m.2 := by kernel_rfl
def zAH.x : XFunc := { nslots := 24, nobj := 1, pars := [.val true 2, .val false 1, .val false 1], rowsIn := no 4, rets := [.tmp 6 false 1], outs := [.imm], fresh := true, arg := .pair zBe zAj, ret := .int .i64, body := .seq (rG [ow 3 (.box 0) [.slot 0] [0] [0], op 6 .move [cI 0]]) (.seq (.seq (rG [lU 7 2 3 0, o1 8 (.call ⟨163, [.val true 2], no 2, [.val false 1], ims 1, true⟩) 7, o1 9 .not 8, sX 10 [.slot 9], gX 11 .move [.slot 2] [] [] 10 false, gX 12 (.bin .lss) [.slot 11, cI 0] [] [] 10 false, op 13 .pick [.slot 10, cB true, .slot 12], sX 14 [.slot 13], gX 15 .move [.slot 2] [] [] 14 false, gX 16 (.fieldAddr 0) [.slot 3] [] [] 14 false, gX 17 (.load false 1) [.slot 16] [0] [] 14 false, gX 18 (.bin .geq) (sl [15, 17]) [] [] 14 false, op 19 .pick [.slot 14, cB true, .slot 18]]) (.cond (.slot 19) (.seq (rG [op 6 .move [cI (-1)]]) (.ret)) (.skip))) (.seq (rG [lU 20 2 3 0, mv 21 1, mv 22 2, op 23 (.call ⟨210, [.val true 2, .val false 1, .val false 1], no 4, [.val false 1], ims 1, true⟩) (sl [20, 21, 22]), mv 6 23]) (.ret))) }
def zAH.env (N : Nat) : Env := envOf (tbl [(163, zF.fs N), (210, zt.fs N)] noFS)
def zAH.F (N : Nat) (x : (Int × List zU) × Int × Int) : Option Int := XFunc.run zAH.x (zAH.env N) N x
def zAH.fs (N : Nat) : FS := { arg := zAH.x.arg, ret := zAH.x.ret, fresh := true, F := zAH.F N }
theorem zAH.F_eq (N : Nat) (m : Int × List zU) (on : Int) (key : Int) : zAH.F N (m, on, key) =
bindO (zF.F N m) fun r1 =>
bif !r1 then
some (-1 : Int)
else
bif decide (key < 0) then
some (-1 : Int)
else
bif decide (key >= m.1) then
some (-1 : Int)
else
bindO (zt.F N (m, (on, key))) fun r2 =>
some r2 := by kernel_rfl
def y3.x : XFunc := { nslots := 23, nobj := 2, pars := [.val true 2, .val false 1, .val false 1], rowsIn := no 4, rets := [.var 6 true 4], outs := iF 4, fresh := true, arg := .pair zBe zAj, ret := .pair (.int .i64) yW, body := .seq (rG [ow 3 (.box 0) [.slot 0] [0] [0], ow 6 (.alloc 1 [cZ, cZ, cZ, cZ]) [] [1] [1]]) (.seq (rG [lU 8 2 3 0, mv 9 1, mv 10 2, op 11 (.call ⟨211, [.val true 2, .val false 1, .val false 1], no 4, [.val false 1], ims 1, true⟩) (sl [8, 9, 10]), mv 7 11]) (.seq (.seq (rG [mv 12 7, op 13 (.bin .lss) [.slot 12, cI 0]]) (.cond (.slot 13) (.seq (rG [op 14 (.build [cZ, cZ, cZ, cZ] []) [], sT 4 6 14 1]) (.ret)) (.skip))) (.seq (rG [fA 15 1 3, lN 16 15 0, mv 17 7, o2 18 (.indexAddr (.list yM)) 16 17, o1 19 (.load false 1) 18, mv 20 2, o2 21 (.indexAddr yM) 19 20, o1 22 (.load true 4) 21, sT 4 6 22 1]) (.ret)))) }
def y3.env (N : Nat) : Env := envOf (tbl [(211, zAH.fs N)] noFS)
def y3.F (N : Nat) (x : (Int × List zU) × Int × Int) : Option (Int × Int × Int × Int) := XFunc.run y3.x (y3.env N) N x
def y3.fs (N : Nat) : FS := { arg := y3.x.arg, ret := y3.x.ret, fresh := true, F := y3.F N }
theorem y3.F_eq (N : Nat) (m : Int × List zU) (on : Int) (key : Int) : y3.F N (m, on, key) =
bindO (zAH.F N (m, (on, key))) fun r1 =>
bif decide (r1 < 0) then
some (0, (0, (0, 0)))
else
bif zP r1 (List.length m.2) then
bif zP key (List.length (nth ([] : List (Int × Int × Int × Int)) m.2 r1)) then
some ((nth (0, (0, (0, 0))) (nth ([] : List (Int × Int × Int × Int)) m.2 r1) key).1, (((nth (0, (0, (0, 0))) (nth ([] : List (Int × Int × Int × Int)) m.2 r1) key).2).1, (((nth (0, (0, (0, 0))) (nth ([] : List (Int × Int × Int × Int)) m.2 r1) key).2).2)))
else none
else none := by kernel_rfl
def yL.x : XFunc := { nslots := 15, nobj := 1, pars := [.val true 4], rowsIn := no 4, rets := [.tmp 2 false 1], outs := [.imm], fresh := true, arg := .pair (.int .i64) yW, ret := .bool, body := .seq (rG [ow 1 (.box 0) [.slot 0] [0] [0], op 2 .move [cB false]]) (.seq (rG [lU 3 4 1 0, o1 4 (.call ⟨156, [.val true 4], no 4, [.val false 1], ims 1, true⟩) 3, sX 5 [.slot 4], gX 6 (.fieldAddr 0) [.slot 1] [] [] 5 true, gX 7 (.load false 1) [.slot 6] [0] [] 5 true, gX 8 (.bin .eql) [.slot 7, cI 6] [] [] 5 true, ⟨some 9, .move, [.slot 8], [], [], some (5, true), true, .none⟩, gX 10 (.fieldAddr 0) [.slot 1] [] [] 9 false, gX 11 (.load false 1) [.slot 10] [0] [] 9 false, gX 12 (.bin .eql) [.slot 11, cI 7] [] [] 9 false, gX 13 .pick [.slot 9, cB true, .slot 12] [] [] 5 true, op 14 .pick [.slot 5, .slot 13, cB false], mv 2 14]) (.ret)) }
def yL.env (N : Nat) : Env := envOf (tbl [(156, yK.fs N)] noFS)
def yL.F (N : Nat) (x : Int × Int × Int × Int) : Option Bool := XFunc.run yL.x (yL.env N) N x
def yL.fs (N : Nat) : FS := { arg := yL.x.arg, ret := yL.x.ret, fresh := true, F := yL.F N }
theorem yL.F_eq (N : Nat) (a : Int × Int × Int × Int) : yL.F N a =
bindO (yK.F N a) fun r1 =>
bif r1 then
bif a.1 == 6 then
some true
else
some (a.1 == 7)
else
some false := by kernel_rfl
def zh.c1 : XCode := .seq (rG [o2 29 (.bin .lss) 28 27]) (.seq (.cond (.slot 29) (.skip) (.exit 0)) (.seq (.block 1 (.seq (rG [o2 30 (.indexAddr zAd) 26 28, o1 31 (.load true 3) 30, ow 14 (.alloc 1 [cZ, cZ, .bool false]) [] [1] [1], sT 3 14 31 1]) (.block 2 (.seq (rG [lU 33 3 14 1, o1 34 (.call ⟨68, [.val true 3], no 3, [.val false 1], ims 1, true⟩) 33, o1 35 .not 34, mv 32 35]) (.cond (.slot 32) (.seq (rG [op 10 .move [cI 0], op 11 .move [cI 0]]) (.ret)) (.seq (rG [fA 37 0 14, lN 38 37 1, mv 39 2, fA 40 0 5, lN 41 40 0, o2 42 (.bin .add) 39 41, o2 43 (.bin .geq) 38 42, mv 36 43]) (.cond (.slot 36) (.seq (.region true [mv 44 2, fA 45 0 5, lN 46 45 0, o2 47 (.bin .add) 44 46, op 10 .move [cI 2], mv 11 47]) (.ret)) (.seq (rG [fA 49 1 14, lN 50 49 1, mv 51 1, o2 52 (.bin .eql) 50 51, sX 53 [.slot 52], gX 54 (.fieldAddr 2) [.slot 14] [] [] 53 true, gX 55 (.load false 1) [.slot 54] [1] [] 53 true, gX 56 .not [.slot 55] [] [] 53 true, op 57 .pick [.slot 53, .slot 56, cB false], mv 48 57]) (.cond (.slot 48) (.seq (.region true [fA 58 0 14, lN 59 58 1, op 10 .move [cI 1], mv 11 59]) (.ret)) (.seq (rG [fA 61 1 14, lN 62 61 1, mv 63 1, o2 64 (.bin .eql) 62 63, mv 60 64]) (.cond (.slot 60) (.skip) (.seq (rG [fA 66 2 14, lN 67 66 1, mv 65 67]) (.cond (.slot 65) (.seq (.seq (rG [fA 68 2 5, lN 69 68 0, op 70 (.bin .eql) [.slot 69, cI 1]]) (.cond (.slot 70) (.seq (.region true [fA 71 0 14, lN 72 71 1, op 10 .move [cI 2], mv 11 72]) (.ret)) (.skip))) (rG [mv 73 12, fA 74 1 14, lN 75 74 1, op 76 (.bin .shl) [cI 1, .slot 75], o2 77 (.bin .or) 73 76, mv 12 77])) (.seq (rG [fA 79 2 5, lN 80 79 0, op 81 (.bin .eql) [.slot 80, cI 2], sX 82 [.slot 81], gX 83 .move [.slot 12] [] [] 82 true, gX 84 (.fieldAddr 1) [.slot 14] [] [] 82 true, gX 85 (.load false 1) [.slot 84] [1] [] 82 true, ⟨some 86, .call ⟨65, vs 2, no 2, [.val false 1], ims 1, true⟩, (sl [83, 85]), [], [], some (82, true), false, .none⟩, gX 87 (.bin .eql) [.slot 86, cI 1] [] [] 82 true, op 88 .pick [.slot 82, .slot 87, cB false], mv 78 88]) (.cond (.slot 78) (.seq (.region true [fA 89 0 14, lN 90 89 1, op 10 .move [cI 2], mv 11 90]) (.ret)) (.skip)))))))))))))))) (rG [op 91 (.bin .add) [.slot 28, cI 1], mv 28 91])))
def zh.c2 : XCode := .seq (.seq (rG [mv 92 4, mv 93 2, fA 94 0 5, lN 95 94 0, o2 96 (.bin .add) 93 95, o2 97 (.bin .geq) 92 96]) (.cond (.slot 97) (.seq (.region true [mv 98 2, fA 99 0 5, lN 100 99 0, o2 101 (.bin .add) 98 100, op 10 .move [cI 2], mv 11 101]) (.ret)) (.skip))) (.seq (rG [op 10 .move [cI 0], op 11 .move [cI 0]]) (.ret))
def zh.x : XFunc := { nslots := 102, nobj := 2, pars := [.val true 3, .val false 1, .val false 1, .val false 1, .val false 1], rowsIn := no 7, rets := [.tmp 10 false 1, .tmp 11 false 1], outs := iF 2, fresh := true, arg := .pair yW (.pair (.int .i64) (.pair (.int .i64) T14_30)), ret := .pair (.int .i64) (.int .i64), body := .seq (rG [ow 5 (.box 0) [.slot 0] [0] [0], op 10 .move [cI 0], op 11 .move [cI 0]]) (.seq (.seq (rG [lU 15 3 5 0, o1 16 (.call ⟨172, [.val true 3], no 3, [.val false 1], ims 1, true⟩) 15, o1 17 .not 16, sX 18 [.slot 17], gX 19 .move [.slot 2] [] [] 18 false, gX 20 (.bin .lss) [.slot 19, cI 0] [] [] 18 false, op 21 .pick [.slot 18, cB true, .slot 20], sX 22 [.slot 21], gX 23 .move [.slot 2] [] [] 22 false, gX 24 (.bin .gtr) [.slot 23, cI 1000000] [] [] 22 false, op 25 .pick [.slot 22, cB true, .slot 24]]) (.cond (.slot 25) (.seq (rG [op 10 .move [cI 0], op 11 .move [cI 0]]) (.ret)) (.skip))) (.seq (rG [op 12 .move [cI 0]]) (.seq (.seq (rG [mv 26 3, o1 27 .len 26, op 28 .move [cI 0]]) (.block 0 (.loop [.keep [1, 2, 4, 5, 12, 26, 27, 28], .drop 1, .norm] (zh.c1)))) (zh.c2)))) }
def zh.env (N : Nat) : Env := envOf (tbl [(68, yw.fs N), (172, yp.fs N), (65, zAG.fs N)] noFS)
def zh.F (N : Nat) (x : (Int × Int × Int) × Int × Int × zAQ × Int) : Option (Int × Int) := XFunc.run zh.x (zh.env N) N x
def zh.fs (N : Nat) : FS := { arg := zh.x.arg, ret := zh.x.ret, fresh := true, F := zh.F N }
def zh.k2 (N : Nat) : Ex -> S -> Option (Int × Int) := seqK (fun s => XCode.runK (zh.env N) N (zh.c2) s (XFunc.endK zh.x)) (XFunc.endK zh.x)
def zh.k1 (N : Nat) : Ex -> S -> Option (Int × Int) := y2 0 (zh.k2 N)
def zh.L1 (N : Nat) (n1 : Nat) (key : Int) (time : Int) (now : Int) (down : Int) (t26 : zAQ) (t27 : Int) (t28 : Int) (o00 : Int) (o01 : Int) (o02 : Int) : Option (Int × Int) := loopK [.keep [1, 2, 4, 5, 12, 26, 27, 28], .drop 1, .norm] (fun s k => XCode.runK (zh.env N) N zh.c1 s k) n1
 { t := jK 102 [(1, .one (.int .i64 key)), (2, .one (.int .i64 time)), (4, .one (.int .i64 now)), (5, .one (.ptr 0 0 0)), (12, .one (.int .i64 down)), (26, .one (.sl false zAd t26)), (27, .one (.int .i64 t27)), (28, .one (.int .i64 t28))], h := [.box 0 false [.int .i64 o00, .int .i64 o01, .int .i64 o02], .absent 0] }
 (zh.k1 N)
theorem zh.L1_eq (N : Nat) (n1 : Nat) (key : Int) (time : Int) (now : Int) (down : Int) (t26 : zAQ) (t27 : Int) (t28 : Int) (o00 : Int) (o01 : Int) (o02 : Int) : zh.L1 N (n1 + 1) key time now down t26 t27 t28 o00 o01 o02 =
bif decide (t28 < t27) then
bif zP t28 (t26.length) then
bindO (yw.F N ((nth (0, (0, false)) t26 t28).1, ((nth (0, (0, false)) t26 t28).2))) fun r2 =>
bif !r2 then
some (0, 0)
else
bif decide (((nth (0, (0, false)) t26 t28).1) >= (IntKind.wrap .i64 (time + o00))) then
some (2, IntKind.wrap .i64 (time + o00))
else
bif (((nth (0, (0, false)) t26 t28).2).1) == key then
bif !(((nth (0, (0, false)) t26 t28).2).2) then
some (1, (nth (0, (0, false)) t26 t28).1)
else
bif (((nth (0, (0, false)) t26 t28).2).1) == key then
zh.L1 N n1 key time now down t26 t27 (IntKind.wrap .i64 (t28 + 1)) o00 o01 o02
else
bif ((nth (0, (0, false)) t26 t28).2).2 then
bif o02 == 1 then
some (2, (nth (0, (0, false)) t26 t28).1)
else
bif decide (0 <= ((nth (0, (0, false)) t26 t28).2).1) then
zh.L1 N n1 key time now (bitOr .i64 down (zAb .i64 1 (((nth (0, (0, false)) t26 t28).2).1))) t26 t27 (IntKind.wrap .i64 (t28 + 1)) o00 o01 o02
else none
else
bif o02 == 2 then
bindO (zAG.F N (down, ((nth (0, (0, false)) t26 t28).2).1)) fun r3 =>
bif r3 == 1 then
some (2, (nth (0, (0, false)) t26 t28).1)
else
zh.L1 N n1 key time now down t26 t27 (IntKind.wrap .i64 (t28 + 1)) o00 o01 o02
else
zh.L1 N n1 key time now down t26 t27 (IntKind.wrap .i64 (t28 + 1)) o00 o01 o02
else
bif (((nth (0, (0, false)) t26 t28).2).1) == key then
zh.L1 N n1 key time now down t26 t27 (IntKind.wrap .i64 (t28 + 1)) o00 o01 o02
else
bif ((nth (0, (0, false)) t26 t28).2).2 then
bif o02 == 1 then
some (2, (nth (0, (0, false)) t26 t28).1)
else
bif decide (0 <= ((nth (0, (0, false)) t26 t28).2).1) then
zh.L1 N n1 key time now (bitOr .i64 down (zAb .i64 1 (((nth (0, (0, false)) t26 t28).2).1))) t26 t27 (IntKind.wrap .i64 (t28 + 1)) o00 o01 o02
else none
else
bif o02 == 2 then
bindO (zAG.F N (down, ((nth (0, (0, false)) t26 t28).2).1)) fun r4 =>
bif r4 == 1 then
some (2, (nth (0, (0, false)) t26 t28).1)
else
zh.L1 N n1 key time now down t26 t27 (IntKind.wrap .i64 (t28 + 1)) o00 o01 o02
else
zh.L1 N n1 key time now down t26 t27 (IntKind.wrap .i64 (t28 + 1)) o00 o01 o02
else none
else
bif decide (now >= (IntKind.wrap .i64 (time + o00))) then
some (2, IntKind.wrap .i64 (time + o00))
else
some (0, 0) := by kernel_rfl
theorem zh.F_eq (N : Nat) (t : Int × Int × Int) (key : Int) (time : Int) (rest : zAQ) (now : Int) : zh.F N (t, key, time, rest, now) =
bindO (yp.F N t) fun r1 =>
bif !r1 then
some (0, 0)
else
bif decide (time < 0) then
some (0, 0)
else
bif decide (time > 1000000) then
some (0, 0)
else
zh.L1 N N key time now 0 rest (rest.length : Int) 0 t.1 t.2.1 t.2.2 := by kernel_rfl
def zAN.x : XFunc := { nslots := 18, nobj := 2, pars := [.val true 4], rowsIn := no 4, rets := [.var 2 true 4], outs := iF 4, fresh := true, arg := .pair (.int .i64) yW, ret := .pair (.int .i64) yW, body := .seq (rG [ow 1 (.box 0) [.slot 0] [0] [0], ow 2 (.alloc 1 [cZ, cZ, cZ, cZ]) [] [1] [1]]) (.seq (.block 0 (.seq (rG [lU 4 4 1 0, o1 5 (.call ⟨157, [.val true 4], no 4, [.val false 1], ims 1, true⟩) 4, o1 6 .not 5, mv 3 6]) (.cond (.slot 3) (.seq (rG [lU 7 4 1 0, sT 4 2 7 1]) (.ret)) (.seq (rG [fA 9 0 1, lN 10 9 0, op 11 (.bin .eql) [.slot 10, cI 6], mv 8 11]) (.cond (.slot 8) (.seq (rG [fA 12 2 1, lN 13 12 0, op 14 (.build [cZ, cZ, cZ, cZ] [(0, 1), (2, 1)]) [cI 2, .slot 13], sT 4 2 14 1]) (.ret)) (.skip)))))) (.seq (rG [fA 15 3 1, lN 16 15 0, op 17 (.build [cZ, cZ, cZ, cZ] [(0, 1), (3, 1)]) [cI 3, .slot 16], sT 4 2 17 1]) (.ret))) }
def zAN.env (N : Nat) : Env := envOf (tbl [(157, yL.fs N)] noFS)
def zAN.F (N : Nat) (x : Int × Int × Int × Int) : Option (Int × Int × Int × Int) := XFunc.run zAN.x (zAN.env N) N x
def zAN.fs (N : Nat) : FS := { arg := zAN.x.arg, ret := zAN.x.ret, fresh := true, F := zAN.F N }
theorem zAN.F_eq (N : Nat) (a : Int × Int × Int × Int) : zAN.F N a =
bindO (yL.F N a) fun r1 =>
bif !r1 then
some a
else
bif a.1 == 6 then
some (2, (0, (a.2.2.1, 0)))
else
some (3, (0, (0, a.2.2.2))) := by kernel_rfl
def zAS.x : XFunc := { nslots := 10, nobj := 2, pars := [.val true 4], rowsIn := no 4, rets := [.var 2 true 4], outs := iF 4, fresh := true, arg := .pair (.int .i64) yW, ret := .pair (.int .i64) yW, body := .seq (rG [ow 1 (.box 0) [.slot 0] [0] [0], ow 2 (.alloc 1 [cZ, cZ, cZ, cZ]) [] [1] [1]]) (.seq (.seq (rG [lU 3 4 1 0, o1 4 (.call ⟨157, [.val true 4], no 4, [.val false 1], ims 1, true⟩) 3, o1 5 .not 4]) (.cond (.slot 5) (.seq (rG [lU 6 4 1 0, sT 4 2 6 1]) (.ret)) (.skip))) (.seq (rG [fA 7 1 1, lN 8 7 0, op 9 (.build [cZ, cZ, cZ, cZ] [(0, 1), (1, 1)]) [cI 2, .slot 8], sT 4 2 9 1]) (.ret))) }
def zAS.env (N : Nat) : Env := envOf (tbl [(157, yL.fs N)] noFS)
def zAS.F (N : Nat) (x : Int × Int × Int × Int) : Option (Int × Int × Int × Int) := XFunc.run zAS.x (zAS.env N) N x
def zAS.fs (N : Nat) : FS := { arg := zAS.x.arg, ret := zAS.x.ret, fresh := true, F := zAS.F N }
theorem zAS.F_eq (N : Nat) (a : Int × Int × Int × Int) : zAS.F N a =
bindO (yL.F N a) fun r1 =>
bif !r1 then
some a
else
some (2, (a.2.1, (0, 0))) := by kernel_rfl
def yl.x : XFunc := { nslots := 17, nobj := 0, pars := [.val false 1], rowsIn := [none], rets := [.tmp 2 false 1], outs := [.imm], fresh := true, arg := .int .i64, ret := .bool, body := .seq (rG [op 2 .move [cB false]]) (.seq (rG [mv 3 0, op 4 (.bin .geq) [.slot 3, cI 1], sX 5 [.slot 4], gX 6 .move [.slot 0] [] [] 5 true, gX 7 (.bin .leq) [.slot 6, cI 36] [] [] 5 true, op 8 .pick [.slot 5, .slot 7, cB false], sX 9 [.slot 8], gX 10 .move [.slot 0] [] [] 9 false, gX 11 (.bin .eql) [.slot 10, cI 39] [] [] 9 false, op 12 .pick [.slot 9, cB true, .slot 11], sX 13 [.slot 12], gX 14 .move [.slot 0] [] [] 13 false, gX 15 (.bin .eql) [.slot 14, cI 42] [] [] 13 false, op 16 .pick [.slot 13, cB true, .slot 15], mv 2 16]) (.ret)) }
def yl.env (_ : Nat) : Env := envOf (tbl [] noFS)
def yl.F (N : Nat) (x : Int) : Option Bool := XFunc.run yl.x (yl.env N) N x
def yl.fs (N : Nat) : FS := { arg := yl.x.arg, ret := yl.x.ret, fresh := true, F := yl.F N }
theorem yl.F_eq (N : Nat) (code : Int) : yl.F N code =
bif decide (code >= 1) then
bif decide (code <= 36) then
some true
else
bif code == 39 then
some true
else
some (code == 42)
else
bif code == 39 then
some true
else
some (code == 42) := by kernel_rfl
def zAK.x : XFunc := { nslots := 114, nobj := 4, pars := [.box 0 7, .val true 4], rowsIn := [none, none, none, none, some (1, 15), none, none, none, none, none, none], rets := [.var 4 true 4], outs := [.imm, .imm, .imm, .imm, .imm, .imm, .imm, .imm, .own 15, .imm, .imm], fresh := false, arg := .pair zAk yM, ret := .pair yM zAk, body := .seq (rG [ow 3 (.box 2) [.slot 1] [2] [2], ow 4 (.alloc 3 [cZ, cZ, cZ, cZ]) [] [3] [3]]) (.seq (.seq (rG [fA 5 0 3, lN 6 5 2]) (.block 0 (.seq (rG [op 8 (.bin .eql) [.slot 6, cI 2], mv 7 8]) (.cond (.slot 7) (.seq (.seq (rG [fA 9 1 3, lN 10 9 2, op 11 (.bin .eql) [.slot 10, cI 0]]) (.cond (.slot 11) (.seq (rG [lU 12 4 3 2, sT 4 4 12 3]) (.ret)) (.skip))) (.seq (.region true [fA 13 2 3, lN 14 13 2, mv 15 0, o1 16 .nilck 15, fA 17 5 16, lN 18 17 0, o2 19 (.bin .or) 14 18, fA 20 2 3, sT 1 20 19 2]) (.seq (rG [mv 21 0, o1 22 .nilck 21, fA 23 5 22, on (.store 1) [.slot 23, cI 0] [0] [0]]) (.seq (rG [mv 24 0, mv 25 0, o1 26 .nilck 25, fA 27 6 26, lN 28 27 0, sX 29 [.slot 28], gX 30 (.fieldAddr 1) [.slot 3] [] [] 29 true, gX 31 (.load false 1) [.slot 30] [2] [] 29 true, ⟨some 32, .call ⟨215, vs 1, no 1, [.val false 1], ims 1, true⟩, [.slot 31], [], [], some (29, true), false, .none⟩, op 33 .pick [.slot 29, .slot 32, cB false], o1 34 .nilck 24, fA 35 6 34, sT 1 35 33 0]) (.seq (rG [mv 36 0, o1 37 .nilck 36, fA 38 6 37, lN 39 38 0, sX 40 [.slot 39], gX 41 (.fieldAddr 1) [.slot 3] [] [] 40 true, gX 42 (.load false 1) [.slot 41] [2] [] 40 true, gX 43 (.bin .leq) [.slot 42, cI 26] [] [] 40 true, op 44 .pick [.slot 40, .slot 43, cB false], sX 45 [.slot 44], gX 46 (.fieldAddr 2) [.slot 3] [] [] 45 true, gX 47 (.load false 1) [.slot 46] [2] [] 45 true, gX 48 (.bin .andNot) [.slot 47, cI 2] [] [] 45 true, gX 49 (.bin .eql) [.slot 48, cI 0] [] [] 45 true, op 50 .pick [.slot 45, .slot 49, cB false]]) (.cond (.slot 50) (rG [fA 51 2 3, on (.store 1) [.slot 51, cI 2] [2] [2]]) (.skip))))))) (.seq (rG [op 53 (.bin .eql) [.slot 6, cI 4], mv 52 53]) (.cond (.slot 52) (.region true [mv 54 0, o1 55 .nilck 54, fA 56 3 55, lN 57 56 0, fA 58 3 3, lN 59 58 2, op 60 (.bin .shl) [cI 1, .slot 59], o2 61 (.bin .xor) 57 60, o1 62 .nilck 54, fA 63 3 62, sT 1 63 61 0]) (.seq (rG [op 65 (.bin .eql) [.slot 6, cI 5], mv 64 65]) (.cond (.slot 64) (rG [mv 66 0, fA 67 3 3, lN 68 67 2, op 69 (.bin .shl) [cI 1, .slot 68], op 70 (.bin .andNot) [.slot 69, cI 1], o1 71 .nilck 66, fA 72 3 71, sT 1 72 70 0]) (.seq (rG [op 74 (.bin .eql) [.slot 6, cI 8], mv 73 74]) (.cond (.slot 73) (.seq (.region true [mv 75 0, o1 76 .nilck 75, fA 77 5 76, lN 78 77 0, fA 79 2 3, lN 80 79 2, o2 81 (.bin .and) 78 80, fA 82 2 3, lN 83 82 2, o2 84 (.bin .eql) 81 83]) (.cond (.slot 84) (.region true [mv 85 0, o1 86 .nilck 85, fA 87 5 86, lN 88 87 0, fA 89 2 3, lN 90 89 2, o2 91 (.bin .andNot) 88 90, o1 92 .nilck 85, fA 93 5 92, sT 1 93 91 0]) (.region true [mv 94 0, o1 95 .nilck 94, fA 96 5 95, lN 97 96 0, fA 98 2 3, lN 99 98 2, o2 100 (.bin .or) 97 99, o1 101 .nilck 94, fA 102 5 101, sT 1 102 100 0]))) (.seq (rG [op 104 (.bin .eql) [.slot 6, cI 10], mv 103 104]) (.cond (.slot 103) (rG [mv 105 0, mv 106 0, o1 107 .nilck 106, fA 108 6 107, lN 109 108 0, o1 110 .not 109, o1 111 .nilck 105, fA 112 6 111, sT 1 112 110 0]) (.skip))))))))))))) (.seq (rG [lU 113 4 3 2, sT 4 4 113 3]) (.ret))), keep := true }
def zAK.env (N : Nat) : Env := envOf (tbl [(215, yl.fs N)] noFS)
def zAK.F (N : Nat) (x : zAW × Int × Int × Int × Int) : Option ((Int × Int × Int × Int) × (Int × List zU) × (List zp) × Int × zk × Int × Bool) := XFunc.run zAK.x (zAK.env N) N x
def zAK.fs (N : Nat) : FS := { arg := zAK.x.arg, ret := zAK.x.ret, fresh := false, F := zAK.F N, keep := true }
theorem zAK.F_eq (N : Nat) (e : (Int × List zU) × (List zp) × Int × zk × Int × Bool) (a : Int × Int × Int × Int) : zAK.F N (e, a) =
bif a.1 == 2 then
bif a.2.1 == 0 then
some (a, e)
else
bif e.2.2.2.2.2 then
bindO (yl.F N a.2.1) fun r1 =>
bif r1 then
bif decide (a.2.1 <= 26) then
bif (zAc .i64 (bitOr .i64 a.2.2.1 e.2.2.2.2.1) 2) == 0 then
some ((a.1, (a.2.1, (2, a.2.2.2))), (e.1, (e.2.1, (e.2.2.1, (e.2.2.2.1, (0, r1))))))
else
some ((a.1, (a.2.1, (bitOr .i64 a.2.2.1 e.2.2.2.2.1, a.2.2.2))), (e.1, (e.2.1, (e.2.2.1, (e.2.2.2.1, (0, r1))))))
else
some ((a.1, (a.2.1, (bitOr .i64 a.2.2.1 e.2.2.2.2.1, a.2.2.2))), (e.1, (e.2.1, (e.2.2.1, (e.2.2.2.1, (0, r1))))))
else
some ((a.1, (a.2.1, (bitOr .i64 a.2.2.1 e.2.2.2.2.1, a.2.2.2))), (e.1, (e.2.1, (e.2.2.1, (e.2.2.2.1, (0, r1))))))
else
some ((a.1, (a.2.1, (bitOr .i64 a.2.2.1 e.2.2.2.2.1, a.2.2.2))), (e.1, (e.2.1, (e.2.2.1, (e.2.2.2.1, (0, false))))))
else
bif a.1 == 4 then
bif decide (0 <= a.2.2.2) then
some (a, (e.1, (e.2.1, (zAn .i64 e.2.2.1 (zAb .i64 1 a.2.2.2), e.2.2.2))))
else none
else
bif a.1 == 5 then
bif decide (0 <= a.2.2.2) then
some (a, (e.1, (e.2.1, (zAc .i64 (zAb .i64 1 a.2.2.2) 1, e.2.2.2))))
else none
else
bif a.1 == 8 then
bif (zAe .i64 e.2.2.2.2.1 a.2.2.1) == a.2.2.1 then
some (a, (e.1, (e.2.1, (e.2.2.1, (e.2.2.2.1, (zAc .i64 e.2.2.2.2.1 a.2.2.1, e.2.2.2.2.2))))))
else
some (a, (e.1, (e.2.1, (e.2.2.1, (e.2.2.2.1, (bitOr .i64 e.2.2.2.2.1 a.2.2.1, e.2.2.2.2.2))))))
else
bif a.1 == 10 then
some (a, (e.1, (e.2.1, (e.2.2.1, (e.2.2.2.1, (e.2.2.2.2.1, !e.2.2.2.2.2))))))
else
some (a, e) := by kernel_rfl
def zZ.c1 : XCode := .seq (rG [o2 18 (.bin .lss) 17 16]) (.seq (.cond (.slot 18) (.skip) (.exit 0)) (.seq (.block 1 (.seq (rG [o2 19 (.indexAddr zAj) 15 17, o1 20 (.load true 2) 19, ow 8 (.alloc 3 [cZ, cZ]) [] [3] [3], sT 2 8 20 3]) (.seq (rG [fA 21 0 5, lN 22 21 2, fA 23 1 8, lN 24 23 3, o2 25 (.bin .or) 22 24, fA 26 0 5, sT 1 26 25 2]) (rG [mv 27 6, fA 28 0 8, lN 29 28 3, ow 30 (.buildSlice false 4 2 (.int .i64) 1 [(0, 1)] [cZ]) [.slot 29] [4] [4], ow 31 (.append false 5 2 (.int .i64)) (sl [27, 30]) [4, 5] [5], mv 6 31])))) (rG [op 32 (.bin .add) [.slot 17, cI 1], mv 17 32])))
def zZ.c2 : XCode := .seq (rG [mv 33 6, ow 34 (.call ⟨203, vs 1, no 1, [.val false 1], [.own 6 2], true⟩) [.slot 33] [5, 6] [6], fA 35 1 5, sT 1 35 34 2]) (.seq (rG [lU 36 2 5 2, sT 2 4 36 1]) (.ret))
def zZ.x : XFunc := { nslots := 37, nobj := 7, pars := [.val true 2, .val false 1], rowsIn := no 3, rets := [.var 4 true 2], outs := [.imm, .own 2], fresh := true, arg := .pair zAO (.list zAj), ret := .pair (.int .i64) (.list (.int .i64)), body := .seq (rG [ow 2 (.box 0) [.slot 0] [0] [0], ow 4 (.alloc 1 [cZ, .nil]) [] [1] [1]]) (.seq (rG [fA 9 0 2, lN 10 9 0, o1 11 (.build [cZ, .nil] [(0, 1)]) 10, ow 5 (.alloc 2 [cZ, .nil]) [] [2] [2], sT 2 5 11 2]) (.seq (rG [fA 12 1 2, lN 13 12 0, ow 14 (.call ⟨114, vs 1, no 1, [.val false 1], [.own 5 2], true⟩) [.slot 13] [5] [5], mv 6 14]) (.seq (.seq (rG [mv 15 1, o1 16 .len 15, op 17 .move [cI 0]]) (.block 0 (.loop [.keep [4, 5, 6, 15, 16, 17], .drop 0, .drop 3, .drop 4, .drop 6, .norm] (zZ.c1)))) (zZ.c2)))) }
def zZ.env (N : Nat) : Env := envOf (tbl [(203, zo.fs N), (114, yo.fs N)] noFS)
def zZ.F (N : Nat) (x : (Int × List Int) × List (Int × Int)) : Option (Int × List Int) := XFunc.run zZ.x (zZ.env N) N x
def zZ.fs (N : Nat) : FS := { arg := zZ.x.arg, ret := zZ.x.ret, fresh := true, F := zZ.F N }
def zZ.k2 (N : Nat) : Ex -> S -> Option (Int × List Int) := seqK (fun s => XCode.runK (zZ.env N) N (zZ.c2) s (XFunc.endK zZ.x)) (XFunc.endK zZ.x)
def zZ.k1 (N : Nat) : Ex -> S -> Option (Int × List Int) := y2 0 (zZ.k2 N)
def zZ.L1 (N : Nat) (n1 : Nat) (t15 : List (Int × Int)) (t16 : Int) (t17 : Int) (o20 : Int) (o5 : List Int) : Option (Int × List Int) := loopK [.keep [4, 5, 6, 15, 16, 17], .drop 0, .drop 3, .drop 4, .drop 6, .norm] (fun s k => XCode.runK (zZ.env N) N zZ.c1 s k) n1
 { t := jK 37 [(4, .one (.ptr 1 0 0)), (5, .one (.ptr 2 0 0)), (6, .one (.ref 5 0 .all)), (15, .one (.sl false zAj t15)), (16, .one (.int .i64 t16)), (17, .one (.int .i64 t17))], h := [.absent 0, .box 0 false [cZ, .nil], .box 0 false [.int .i64 o20, .nil], .absent 0, .absent 0, .row 0 false true 2 (.int .i64) o5, .absent 0] }
 (zZ.k1 N)
theorem zZ.L1_eq (N : Nat) (n1 : Nat) (t15 : List (Int × Int)) (t16 : Int) (t17 : Int) (o20 : Int) (o5 : List Int) : zZ.L1 N (n1 + 1) t15 t16 t17 o20 o5 =
bif decide (t17 < t16) then
bif zP t17 (t15.length) then
bif decide (o5.length + List.length ([(nth (0, 0) t15 t17).1] : List Int) <= maxN) then
zZ.L1 N n1 t15 t16 (IntKind.wrap .i64 (t17 + 1)) (bitOr .i64 o20 ((nth (0, 0) t15 t17).2)) (o5 ++ ([(nth (0, 0) t15 t17).1] : List Int))
else none
else none
else
bindO (zo.F N o5) fun r2 =>
some (o20, r2) := by kernel_rfl
theorem zZ.F_eq (N : Nat) (r_ : Int × List Int) (l_ : List (Int × Int)) : zZ.F N (r_, l_) =
bindO (yo.F N r_.2) fun r1 =>
zZ.L1 N N l_ (l_.length : Int) 0 r_.1 r1 := by kernel_rfl
def zL.c1 : XCode := .seq (rG [o2 25 (.bin .lss) 24 23]) (.seq (.cond (.slot 25) (.skip) (.exit 0)) (.seq (.block 1 (.seq (rG [o2 26 (.indexAddr yW) 22 24, o1 27 (.load true 3) 26, ow 9 (.alloc 1 [cZ, cZ, cZ]) [] [1] [1], sT 3 9 27 1]) (.seq (rG [fA 28 1 9, lN 29 28 1, fA 30 2 9, lN 31 30 1, o2 32 (.build [cZ, cZ] [(0, 1), (1, 1)]) 29 31, ow 10 (.alloc 2 [cZ, cZ]) [] [2] [2], sT 2 10 32 2]) (.seq (.seq (rG [fA 33 0 9, lN 34 33 1]) (.block 2 (.seq (rG [op 36 (.bin .eql) [.slot 34, cI 0], mv 35 36]) (.cond (.slot 35) (.region true [mv 37 6, lU 38 2 5 0, mv 39 7, ow 40 (.append false 3 14 zAj) [.const (.one (.nil)), .slot 39] [3, 9] [3], lU 41 2 10 2, ow 42 (.buildSlice false 4 14 zAj 1 [(0, 2)] [cZ, cZ]) [.slot 41] [4] [4], ow 43 (.append false 3 14 zAj) (sl [40, 42]) [3, 4] [3], ow 44 (.call ⟨217, [.val true 2, .val false 1], no 3, [.val true 2], ims 2, true⟩) (sl [38, 43]) [3] [], ow 45 (.buildSlice false 5 12 zAO 1 [(0, 2)] [cZ, .nil]) [.slot 44] [5] [5], ow 46 (.append false 6 12 zAO) (sl [37, 45]) [5, 6] [6], mv 6 46]) (.seq (rG [op 48 (.bin .eql) [.slot 34, cI 1], mv 47 48]) (.cond (.slot 47) (rG [mv 49 7, lU 50 2 10 2, ow 51 (.buildSlice false 8 14 zAj 1 [(0, 2)] [cZ, cZ]) [.slot 50] [8] [8], ow 52 (.append false 9 14 zAj) (sl [49, 51]) [8, 9] [9], mv 7 52]) (.seq (rG [op 54 (.bin .eql) [.slot 34, cI 2], mv 53 54]) (.cond (.slot 53) (.seq (rG [mv 55 7, lU 56 2 10 2, ow 57 (.call ⟨165, [.val false 1, .val true 2], no 3, [.val false 1], ims 1, true⟩) (sl [55, 56]) [9] [], mv 11 57]) (.region true [mv 58 7, mv 59 11, ow 60 (.slice zAj false true) (sl [58, 59]) [9] [], mv 61 7, mv 62 11, op 63 (.bin .add) [.slot 62, cI 1], ow 64 (.slice zAj true false) (sl [61, 63]) [9] [], ow 65 (.appendDel 9 14 zAj) (sl [60, 64]) [9] [9], mv 7 65])) (.skip))))))))) (rG [mv 66 6, lU 67 2 5 0, mv 68 7, ow 69 (.call ⟨217, [.val true 2, .val false 1], no 3, [.val true 2], ims 2, true⟩) (sl [67, 68]) [9] [], ow 70 (.buildSlice false 7 12 zAO 1 [(0, 2)] [cZ, .nil]) [.slot 69] [7] [7], ow 71 (.append false 6 12 zAO) (sl [66, 70]) [6, 7] [6], mv 6 71]))))) (rG [op 72 (.bin .add) [.slot 24, cI 1], mv 24 72])))
def zL.c2 : XCode := .seq (rG [mv 73 6, mv 4 73]) (.ret)
def zL.x : XFunc := { nslots := 74, nobj := 10, pars := [.val false 1, .val false 1], rowsIn := no 2, rets := [.tmp 4 false 1], outs := [.own 12], fresh := true, arg := .pair (.list yZ) (.list yW), ret := .list zAO, body := .seq (rG [op 4 .move [.const (.one (.nil))]]) (.seq (.seq (rG [mv 12 0, o1 13 (.call ⟨164, vs 1, no 1, [.val false 1], ims 1, true⟩) 12, o1 14 .not 13, sX 15 [.slot 14], gX 16 .move [.slot 1] [] [] 15 false, ⟨some 17, .call ⟨166, vs 1, no 1, [.val false 1], ims 1, true⟩, [.slot 16], [], [], some (15, false), false, .none⟩, gX 18 .not [.slot 17] [] [] 15 false, op 19 .pick [.slot 15, cB true, .slot 18]]) (.cond (.slot 19) (.seq (rG [op 4 .move [.const (.one (.nil))]]) (.ret)) (.skip))) (.seq (rG [mv 20 0, o1 21 (.call ⟨204, vs 1, no 1, [.val true 2], ims 2, true⟩) 20, ow 5 (.alloc 0 [cZ, .nil]) [] [0] [0], sT 2 5 21 0]) (.seq (rG [op 6 .move [.const (.one (.nil))]]) (.seq (rG [op 7 .move [.const (.one (.nil))]]) (.seq (.seq (rG [mv 22 1, o1 23 .len 22, op 24 .move [cI 0]]) (.block 0 (.loop [.mkrow (.slot 6) 6 12 zAO, .mkrow (.slot 7) 9 14 zAj, .keep [5, 6, 7, 22, 23, 24], .drop 1, .drop 2, .drop 3, .drop 4, .drop 5, .drop 7, .drop 8, .norm] (zL.c1)))) (zL.c2)))))) }
def zL.env (N : Nat) : Env := envOf (tbl [(164, zl.fs N), (166, zj.fs N), (204, zH.fs N), (165, z7.fs N), (217, zZ.fs N)] noFS)
def zL.F (N : Nat) (x : zk × List (Int × Int × Int)) : Option zAT := XFunc.run zL.x (zL.env N) N x
def zL.fs (N : Nat) : FS := { arg := zL.x.arg, ret := zL.x.ret, fresh := true, F := zL.F N }
def zL.k2 (N : Nat) : Ex -> S -> Option zAT := seqK (fun s => XCode.runK (zL.env N) N (zL.c2) s (XFunc.endK zL.x)) (XFunc.endK zL.x)
def zL.k1 (N : Nat) : Ex -> S -> Option zAT := y2 0 (zL.k2 N)
def zL.L1 (N : Nat) (n1 : Nat) (t22 : zp) (t23 : Int) (t24 : Int) (o00 : Int) (o01 : List Int) (o6 : zAT) (o9 : List (Int × Int)) : Option zAT := loopK [.mkrow (.slot 6) 6 12 zAO, .mkrow (.slot 7) 9 14 zAj, .keep [5, 6, 7, 22, 23, 24], .drop 1, .drop 2, .drop 3, .drop 4, .drop 5, .drop 7, .drop 8, .norm] (fun s k => XCode.runK (zL.env N) N zL.c1 s k) n1
 { t := jK 74 [(5, .one (.ptr 0 0 0)), (6, .one (.ref 6 0 .all)), (7, .one (.ref 9 0 .all)), (22, .one (.sl false yW t22)), (23, .one (.int .i64 t23)), (24, .one (.int .i64 t24))], h := [.box 0 false [.int .i64 o00, .sl true (.int .i64) o01], .absent 0, .absent 0, .absent 0, .absent 0, .absent 0, .row 0 false true 12 zAO o6, .absent 0, .absent 0, .row 0 false true 14 zAj o9] }
 (zL.k1 N)
theorem zL.L1_eq (N : Nat) (n1 : Nat) (t22 : zp) (t23 : Int) (t24 : Int) (o00 : Int) (o01 : List Int) (o6 : zAT) (o9 : List (Int × Int)) : zL.L1 N (n1 + 1) t22 t23 t24 o00 o01 o6 o9 =
bif decide (t24 < t23) then
bif zP t24 (t22.length) then
bif ((nth (0, (0, 0)) t22 t24).1) == 0 then
bif decide (o9.length <= maxN) then
bif decide (o9.length + List.length ([((nth (0, (0, 0)) t22 t24).2)] : List (Int × Int)) <= maxN) then
bindO (zZ.F N ((o00, o01), o9 ++ ([((nth (0, (0, 0)) t22 t24).2)] : List (Int × Int)))) fun r4 =>
bif decide (o6.length + List.length ([r4] : List (Int × List Int)) <= maxN) then
bindO (zZ.F N ((o00, o01), o9)) fun r5 =>
bif decide (List.length (o6 ++ ([r4] : List (Int × List Int))) + List.length ([r5] : List (Int × List Int)) <= maxN) then
zL.L1 N n1 t22 t23 (IntKind.wrap .i64 (t24 + 1)) o00 o01 ((o6 ++ ([r4] : List (Int × List Int))) ++ ([r5] : List (Int × List Int))) o9
else none
else none
else none
else none
else
bif ((nth (0, (0, 0)) t22 t24).1) == 1 then
bif decide (o9.length + List.length ([((nth (0, (0, 0)) t22 t24).2)] : List (Int × Int)) <= maxN) then
bindO (zZ.F N ((o00, o01), o9 ++ ([((nth (0, (0, 0)) t22 t24).2)] : List (Int × Int)))) fun r6 =>
bif decide (o6.length + List.length ([r6] : List (Int × List Int)) <= maxN) then
zL.L1 N n1 t22 t23 (IntKind.wrap .i64 (t24 + 1)) o00 o01 (o6 ++ ([r6] : List (Int × List Int))) (o9 ++ ([((nth (0, (0, 0)) t22 t24).2)] : List (Int × Int)))
else none
else none
else
bif ((nth (0, (0, 0)) t22 t24).1) == 2 then
bindO (z7.F N (o9, ((nth (0, (0, 0)) t22 t24).2))) fun r7 =>
bif decide (0 <= r7) && decide (r7 <= (o9.length : Int)) then
bif decide (0 <= IntKind.wrap .i64 (r7 + 1)) && decide (IntKind.wrap .i64 (r7 + 1) <= (o9.length : Int)) then
bif decide ((Int.toNat r7) <= (Int.toNat (IntKind.wrap .i64 (r7 + 1)))) && decide (o9.length <= maxN) then
bindO (zZ.F N ((o00, o01), List.take (Int.toNat r7) o9 ++ List.drop (Int.toNat (IntKind.wrap .i64 (r7 + 1))) o9)) fun r8 =>
bif decide (o6.length + List.length ([r8] : List (Int × List Int)) <= maxN) then
zL.L1 N n1 t22 t23 (IntKind.wrap .i64 (t24 + 1)) o00 o01 (o6 ++ ([r8] : List (Int × List Int))) (List.take (Int.toNat r7) o9 ++ List.drop (Int.toNat (IntKind.wrap .i64 (r7 + 1))) o9)
else none
else none
else none
else none
else
bindO (zZ.F N ((o00, o01), o9)) fun r9 =>
bif decide (o6.length + List.length ([r9] : List (Int × List Int)) <= maxN) then
zL.L1 N n1 t22 t23 (IntKind.wrap .i64 (t24 + 1)) o00 o01 (o6 ++ ([r9] : List (Int × List Int))) o9
else none
else none
else
some o6 := by kernel_rfl
theorem zL.F_eq (N : Nat) (l_ : zk) (steps : zp) : zL.F N (l_, steps) =
bindO (zl.F N l_) fun r1 =>
bif !r1 then
some ([] : List (Int × List Int))
else
bindO (zj.F N steps) fun r2 =>
bif !r2 then
some ([] : List (Int × List Int))
else
bindO (zH.F N l_) fun r3 =>
zL.L1 N N steps (steps.length : Int) 0 r3.1 r3.2 ([] : List (Int × List Int)) ([] : List (Int × Int)) := by kernel_rfl
def y9.x : XFunc := { nslots := 79, nobj := 9, pars := [.val true 7, .val false 1, .val false 1], rowsIn := no 9, rets := [.var 6 true 7, .tmp 7 false 1], outs := [.imm, .imm, .imm, .imm, .own 15, .imm, .imm, .imm], fresh := false, arg := .pair zAk (.pair (.int .i64) (.bool)), ret := .pair zAk (.list zAO), body := .seq (rG [ow 3 (.box 0) [.slot 0] [0] [0], ow 6 (.alloc 1 [cZ, .nil, .nil, cZ, .nil, cZ, .bool false]) [] [1] [1], op 7 .move [.const (.one (.nil))]]) (.seq (rG [lU 12 7 3 0, ow 13 (.call ⟨171, [.val true 7], no 7, [.val true 7], [.imm, .imm, .imm, .imm, .own 4 15, .imm, .imm], true⟩) [.slot 12] [4] [4], ow 8 (.alloc 2 [cZ, .nil, .nil, cZ, .nil, cZ, .bool false]) [] [2] [2], sT 7 8 13 2]) (.seq (rG [fA 14 3 3, lN 15 14 0, fA 16 4 3, lN 17 16 0, o2 18 (.call ⟨209, vs 2, no 2, [.val false 1], ims 1, true⟩) 15 17, mv 9 18]) (.seq (.region true [fA 19 0 3, fA 20 1 19, lN 21 20 0, fA 22 0 3, lU 23 2 22 0, mv 24 9, mv 25 1, op 26 (.call ⟨210, [.val true 2, .val false 1, .val false 1], no 4, [.val false 1], ims 1, true⟩) (sl [23, 24, 25]), o2 27 (.indexAddr (.list yM)) 21 26, o1 28 (.load false 1) 27, mv 29 1, o2 30 (.indexAddr yM) 28 29, o1 31 (.load true 4) 30, ow 10 (.alloc 3 [cZ, cZ, cZ, cZ]) [] [3] [3], sT 4 10 31 3]) (.seq (.seq (rG [mv 32 2]) (.cond (.slot 32) (rG [lU 33 4 10 3, o1 34 (.call ⟨214, [.val true 4], no 4, [.val true 4], ims 4, true⟩) 33, sT 4 10 34 3]) (rG [lU 35 4 10 3, o1 36 (.call ⟨158, [.val true 4], no 4, [.val true 4], ims 4, true⟩) 35, sT 4 10 36 3]))) (.seq (rG [lU 37 4 10 3, ow 38 (.call ⟨216, [.box 2 7, .val true 4], [none, none, none, none, some (4, 15), none, none, none, none, none, none], [.val true 4], [.imm, .imm, .imm, .imm, .imm, .imm, .imm, .imm, .own 4 15, .imm, .imm], false⟩) (sl [8, 37]) [2, 4] [2, 4], sT 4 10 38 3]) (.seq (rG [fA 39 4 8, lN 40 39 2, mv 41 1, lU 42 4 10 3, o2 43 (.build [cZ, cZ, cZ, cZ, cZ] [(0, 1), (1, 4)]) 41 42, ow 44 (.buildSlice false 6 15 yZ 1 [(0, 5)] [cZ, cZ, cZ, cZ, cZ]) [.slot 43] [6] [6], ow 45 (.append false 4 15 yZ) (sl [40, 44]) [4, 6] [4], fA 46 4 8, sT 1 46 45 2]) (.seq (rG [op 11 .move [.const (.one (.nil))]]) (.seq (.seq (rG [fA 47 0 10, lN 48 47 3, op 49 (.bin .eql) [.slot 48, cI 9], sX 50 [.slot 49], gX 51 (.fieldAddr 3) [.slot 10] [] [] 50 true, gX 52 (.load false 1) [.slot 51] [3] [] 50 true, gX 53 (.fieldAddr 2) [.slot 3] [] [] 50 true, gX 54 (.load false 1) [.slot 53] [0] [] 50 true, gX 55 .len [.slot 54] [] [] 50 true, gX 56 (.bin .lss) (sl [52, 55]) [] [] 50 true, op 57 .pick [.slot 50, .slot 56, cB false]]) (.cond (.slot 57) (.region true [fA 58 4 8, lN 59 58 2, fA 60 2 3, lN 61 60 0, fA 62 3 10, lN 63 62 3, o2 64 (.indexAddr (.list yW)) 61 63, o1 65 (.load false 1) 64, ow 66 (.call ⟨218, vs 2, no 2, [.val false 1], [.own 8 12], true⟩) (sl [59, 65]) [4, 8] [8], mv 11 66]) (.skip))) (.seq (rG [mv 67 11, fA 68 4 8, lN 69 68 2, ow 70 (.call ⟨204, vs 1, no 1, [.val true 2], ims 2, true⟩) [.slot 69] [4] [], ow 71 (.buildSlice false 7 12 zAO 1 [(0, 2)] [cZ, .nil]) [.slot 70] [7] [7], ow 72 (.append false 8 12 zAO) (sl [67, 71]) [7, 8] [8], mv 11 72]) (.seq (.adj [.freeze 8] (.region true [lU 73 7 8 2, fA 74 4 3, lN 75 74 0, o1 76 (.call ⟨204, vs 1, no 1, [.val true 2], ims 2, true⟩) 75, mv 77 11, o2 78 (.call ⟨207, [.val true 2, .val false 1], no 3, [.val false 1], ims 1, false⟩) 76 77, sT 7 6 73 1, mv 7 78])) (.ret))))))))))) }
def y9.env (N : Nat) : Env := envOf (tbl [(214, zAN.fs N), (209, zg.fs N), (218, zL.fs N), (204, zH.fs N), (158, zAS.fs N), (207, zD.fs N), (171, yB.fs N), (210, zt.fs N), (216, zAK.fs N)] noFS)
def y9.F (N : Nat) (x : zAW × Int × Bool) : Option (zAW × List (Int × List Int)) := XFunc.run y9.x (y9.env N) N x
def y9.fs (N : Nat) : FS := { arg := y9.x.arg, ret := y9.x.ret, fresh := false, F := y9.F N }
theorem y9.F_eq (N : Nat) (e : (Int × List zU) × (List zp) × Int × zk × Int × Bool) (key : Int) (hold : Bool) : y9.F N (e, key, hold) =
bindO (yB.F N e) fun r1 =>
bindO (zg.F N (e.2.2.1, e.2.2.2.1)) fun r2 =>
bindO (zt.F N (e.1, (r2, key))) fun r3 =>
bif zP r3 (List.length e.1.2) then
bif zP key (List.length (nth ([] : List (Int × Int × Int × Int)) e.1.2 r3)) then
bif hold then
bindO (zAN.F N ((nth (0, (0, (0, 0))) (nth ([] : List (Int × Int × Int × Int)) e.1.2 r3) key).1, (((nth (0, (0, (0, 0))) (nth ([] : List (Int × Int × Int × Int)) e.1.2 r3) key).2).1, (((nth (0, (0, (0, 0))) (nth ([] : List (Int × Int × Int × Int)) e.1.2 r3) key).2).2)))) fun r4 =>
bindO (zAK.F N (r1, r4)) fun r5 =>
bif decide (List.length r5.2.2.2.2.1 + List.length ([(key, r5.1)] : List (Int × Int × Int × Int × Int)) <= maxN) then
bif r5.1.1 == 9 then
bif decide (r5.1.2.2.2 < (List.length e.2.1 : Int)) then
bif zP r5.1.2.2.2 (List.length e.2.1) then
bindO (zL.F N (r5.2.2.2.2.1 ++ ([(key, r5.1)] : List (Int × Int × Int × Int × Int)), nth ([] : List (Int × Int × Int)) e.2.1 r5.1.2.2.2)) fun r6 =>
bindO (zH.F N (r5.2.2.2.2.1 ++ ([(key, r5.1)] : List (Int × Int × Int × Int × Int)))) fun r7 =>
bif decide (r6.length + List.length ([r7] : List (Int × List Int)) <= maxN) then
bindO (zH.F N e.2.2.2.1) fun r8 =>
bindO (zD.F N (r8, r6 ++ ([r7] : List (Int × List Int)))) fun r9 =>
some ((r5.2.1, (r5.2.2.1, (r5.2.2.2.1, (r5.2.2.2.2.1 ++ ([(key, r5.1)] : List (Int × Int × Int × Int × Int)), r5.2.2.2.2.2)))), r9)
else none
else none
else
bindO (zH.F N (r5.2.2.2.2.1 ++ ([(key, r5.1)] : List (Int × Int × Int × Int × Int)))) fun r10 =>
bif decide (List.length ([r10] : List (Int × List Int)) <= maxN) then
bindO (zH.F N e.2.2.2.1) fun r11 =>
bindO (zD.F N (r11, ([r10] : List (Int × List Int)))) fun r12 =>
some ((r5.2.1, (r5.2.2.1, (r5.2.2.2.1, (r5.2.2.2.2.1 ++ ([(key, r5.1)] : List (Int × Int × Int × Int × Int)), r5.2.2.2.2.2)))), r12)
else none
else
bindO (zH.F N (r5.2.2.2.2.1 ++ ([(key, r5.1)] : List (Int × Int × Int × Int × Int)))) fun r13 =>
bif decide (List.length ([r13] : List (Int × List Int)) <= maxN) then
bindO (zH.F N e.2.2.2.1) fun r14 =>
bindO (zD.F N (r14, ([r13] : List (Int × List Int)))) fun r15 =>
some ((r5.2.1, (r5.2.2.1, (r5.2.2.2.1, (r5.2.2.2.2.1 ++ ([(key, r5.1)] : List (Int × Int × Int × Int × Int)), r5.2.2.2.2.2)))), r15)
else none
else none
else
bindO (zAS.F N ((nth (0, (0, (0, 0))) (nth ([] : List (Int × Int × Int × Int)) e.1.2 r3) key).1, (((nth (0, (0, (0, 0))) (nth ([] : List (Int × Int × Int × Int)) e.1.2 r3) key).2).1, (((nth (0, (0, (0, 0))) (nth ([] : List (Int × Int × Int × Int)) e.1.2 r3) key).2).2)))) fun r16 =>
bindO (zAK.F N (r1, r16)) fun r17 =>
bif decide (List.length r17.2.2.2.2.1 + List.length ([(key, r17.1)] : List (Int × Int × Int × Int × Int)) <= maxN) then
bif r17.1.1 == 9 then
bif decide (r17.1.2.2.2 < (List.length e.2.1 : Int)) then
bif zP r17.1.2.2.2 (List.length e.2.1) then
bindO (zL.F N (r17.2.2.2.2.1 ++ ([(key, r17.1)] : List (Int × Int × Int × Int × Int)), nth ([] : List (Int × Int × Int)) e.2.1 r17.1.2.2.2)) fun r18 =>
bindO (zH.F N (r17.2.2.2.2.1 ++ ([(key, r17.1)] : List (Int × Int × Int × Int × Int)))) fun r19 =>
bif decide (r18.length + List.length ([r19] : List (Int × List Int)) <= maxN) then
bindO (zH.F N e.2.2.2.1) fun r20 =>
bindO (zD.F N (r20, r18 ++ ([r19] : List (Int × List Int)))) fun r21 =>
some ((r17.2.1, (r17.2.2.1, (r17.2.2.2.1, (r17.2.2.2.2.1 ++ ([(key, r17.1)] : List (Int × Int × Int × Int × Int)), r17.2.2.2.2.2)))), r21)
else none
else none
else
bindO (zH.F N (r17.2.2.2.2.1 ++ ([(key, r17.1)] : List (Int × Int × Int × Int × Int)))) fun r22 =>
bif decide (List.length ([r22] : List (Int × List Int)) <= maxN) then
bindO (zH.F N e.2.2.2.1) fun r23 =>
bindO (zD.F N (r23, ([r22] : List (Int × List Int)))) fun r24 =>
some ((r17.2.1, (r17.2.2.1, (r17.2.2.2.1, (r17.2.2.2.2.1 ++ ([(key, r17.1)] : List (Int × Int × Int × Int × Int)), r17.2.2.2.2.2)))), r24)
else none
else
bindO (zH.F N (r17.2.2.2.2.1 ++ ([(key, r17.1)] : List (Int × Int × Int × Int × Int)))) fun r25 =>
bif decide (List.length ([r25] : List (Int × List Int)) <= maxN) then
bindO (zH.F N e.2.2.2.1) fun r26 =>
bindO (zD.F N (r26, ([r25] : List (Int × List Int)))) fun r27 =>
some ((r17.2.1, (r17.2.2.1, (r17.2.2.2.1, (r17.2.2.2.2.1 ++ ([(key, r17.1)] : List (Int × Int × Int × Int × Int)), r17.2.2.2.2.2)))), r27)
else none
else none
else none
else none := by kernel_rfl
def z4.x : XFunc := { nslots := 170, nobj := 3, pars := [.box 0 15], rowsIn := no 15, rets := [.tmp 2 false 1, .tmp 3 false 1], outs := iF 17, fresh := false, arg := .pair zAk zBl, ret := .pair (.list zAO) (.pair (.bool) (.pair zAk zBl)), body := .seq (rG [op 2 .move [.const (.one (.nil))], op 3 .move [cB false]]) (.seq (rG [mv 12 0, o1 13 .nilck 12, fA 14 10 13, lN 15 14 0, op 16 (.indexAddr zAd) [.slot 15, cI 0], o1 17 (.load true 3) 16, ow 4 (.alloc 1 [cZ, cZ, .bool false]) [] [1] [1], sT 3 4 17 1]) (.seq (rG [mv 18 0, o1 19 .nilck 18, fA 20 10 19, lN 21 20 0, op 22 (.slice zAd true false) [.slot 21, cI 1], mv 5 22]) (.seq (.region true [mv 23 0, o1 24 .nilck 23, fA 25 12 24, lN 26 25 0, fA 27 0 4, lN 28 27 1, o2 29 .max 26 28, mv 6 29]) (.seq (rG [op 7 .move [.const (.one (.nil))]]) (.seq (.seq (rG [fA 30 2 4, lN 31 30 1, o1 32 .not 31]) (.cond (.slot 32) (.seq (.seq (.region true [mv 33 0, o1 34 .nilck 33, fA 35 13 34, lN 36 35 0, fA 37 1 4, lN 38 37 1, op 39 (.bin .add) [.slot 38, cI 1], o2 40 (.bin .eql) 36 39]) (.cond (.slot 40) (rG [mv 41 0, fA 42 0 4, lN 43 42 1, o1 44 .nilck 41, fA 45 14 44, sT 1 45 43 0]) (.skip))) (.region true [mv 47 0, mv 48 0, o1 49 .nilck 48, fA 50 0 49, lU 51 7 50 0, fA 52 1 4, lN 53 52 1, o2 54 (.call ⟨208, [.val true 7, .val false 1], no 8, [.val true 7, .val false 1], ims 8, false⟩) 51 53, mv 46 54, eX 55 0 46, eX 56 1 46, o1 57 .nilck 47, fA 58 0 57, sT 7 58 55 0, mv 7 56])) (.seq (.region true [mv 59 0, o1 60 .nilck 59, fA 61 0 60, fA 62 3 61, lN 63 62 0, mv 64 0, o1 65 .nilck 64, fA 66 0 65, fA 67 4 66, lN 68 67 0, o2 69 (.call ⟨209, vs 2, no 2, [.val false 1], ims 1, true⟩) 63 68, mv 8 69]) (.seq (rG [op 9 .move [cB false]]) (.seq (.seq (.region true [mv 70 0, o1 71 .nilck 70, fA 72 0 71, fA 73 0 72, lU 74 2 73 0, mv 75 8, fA 76 1 4, lN 77 76 1, op 78 (.call ⟨212, [.val true 2, .val false 1, .val false 1], no 4, [.val true 4], ims 4, true⟩) (sl [74, 75, 77]), o1 79 (.call ⟨157, [.val true 4], no 4, [.val false 1], ims 1, true⟩) 78]) (.cond (.slot 79) (.seq (.region true [fA 80 0 4, lN 81 80 1, op 10 .move [cI 1], mv 11 81]) (.seq (.seq (.region true [mv 82 0, o1 83 .nilck 82, fA 84 13 83, lN 85 84 0, fA 86 1 4, lN 87 86 1, op 88 (.bin .add) [.slot 87, cI 1], o2 89 (.bin .neq) 85 88, sX 90 [.slot 89], gX 91 (.fieldAddr 0) [.slot 4] [] [] 90 false, gX 92 (.load false 1) [.slot 91] [1] [] 90 false, gX 93 .move [.slot 0] [] [] 90 false, gX 94 .nilck [.slot 93] [] [] 90 false, gX 95 (.fieldAddr 14) [.slot 94] [] [] 90 false, gX 96 (.load false 1) [.slot 95] [0] [] 90 false, gX 97 (.bin .sub) (sl [92, 96]) [] [] 90 false, gX 98 .move [.slot 0] [] [] 90 false, gX 99 .nilck [.slot 98] [] [] 90 false, gX 100 (.fieldAddr 7) [.slot 99] [] [] 90 false, gX 101 (.fieldAddr 1) [.slot 100] [] [] 90 false, gX 102 (.load false 1) [.slot 101] [0] [] 90 false, gX 103 (.bin .geq) (sl [97, 102]) [] [] 90 false, op 104 .pick [.slot 90, cB true, .slot 103]]) (.cond (.slot 104) (.region true [mv 106 0, o1 107 .nilck 106, fA 108 7 107, lU 109 3 108 0, fA 110 1 4, lN 111 110 1, fA 112 0 4, lN 113 112 1, mv 114 5, mv 115 0, o1 116 .nilck 115, fA 117 11 116, lN 118 117 0, op 119 (.call ⟨213, [.val true 3, .val false 1, .val false 1, .val false 1, .val false 1], no 7, (rB 2), ims 2, true⟩) (sl [109, 111, 113, 114, 118]), mv 105 119, eX 120 0 105, eX 121 1 105, mv 10 120, mv 11 121]) (.skip))) (.seq (.seq (rG [mv 122 10]) (.block 0 (.seq (rG [op 124 (.bin .eql) [.slot 122, cI 0], mv 123 124]) (.cond (.slot 123) (.seq (rG [op 2 .move [.const (.one (.nil))], op 3 .move [cB false]]) (.ret)) (.seq (rG [op 126 (.bin .eql) [.slot 122, cI 1], mv 125 126]) (.cond (.slot 125) (.region true [mv 127 0, mv 128 0, fA 129 1 4, lN 130 129 1, op 131 (.bin .add) [.slot 130, cI 1], fA 132 0 4, lN 133 132 1, o1 134 .nilck 127, fA 135 13 134, sT 1 135 131 0, o1 136 .nilck 128, fA 137 14 136, sT 1 137 133 0]) (.seq (rG [op 139 (.bin .eql) [.slot 122, cI 2], mv 138 139]) (.cond (.slot 138) (.seq (rG [mv 140 0, o1 141 .nilck 140, fA 142 13 141, on (.store 1) [.slot 142, cI 0] [0] [0]]) (rG [op 9 .move [cB true]])) (.skip))))))))) (rG [mv 143 6, mv 144 11, o2 145 .max 143 144, mv 6 145])))) (.skip))) (.region true [mv 147 0, mv 148 0, o1 149 .nilck 148, fA 150 0 149, lU 151 7 150 0, fA 152 1 4, lN 153 152 1, mv 154 9, op 155 (.call ⟨219, [.val true 7, .val false 1, .val false 1], no 9, [.val true 7, .val false 1], ims 8, false⟩) (sl [151, 153, 154]), mv 146 155, eX 156 0 146, eX 157 1 146, o1 158 .nilck 147, fA 159 0 158, sT 7 159 156 0, mv 7 157])))))) (.seq (rG [mv 160 0, mv 161 6, o1 162 .nilck 160, fA 163 12 162, sT 1 163 161 0]) (.seq (rG [mv 164 0, mv 165 5, ow 166 (.append false 2 4 zAd) [.const (.one (.nil)), .slot 165] [2] [2], o1 167 .nilck 164, fA 168 10 167, sT 1 168 166 0]) (.seq (rG [mv 169 7, mv 2 169, op 3 .move [cB true]]) (.ret))))))))) }
def z4.env (N : Nat) : Env := envOf (tbl [(212, y3.fs N), (213, zh.fs N), (157, yL.fs N), (209, zg.fs N), (219, y9.fs N), (208, y7.fs N)] noFS)
def z4.F (N : Nat) (x : zAW × (Int × Int × Int) × zAQ × Int × Int × Int × Int) : Option (zAT × Bool × zAW × (Int × Int × Int) × zAQ × Int × Int × Int × Int) := XFunc.run z4.x (z4.env N) N x
def z4.fs (N : Nat) : FS := { arg := z4.x.arg, ret := z4.x.ret, fresh := false, F := z4.F N }
theorem z4.F_eq (N : Nat) (d : zAW × (Int × Int × Int) × zAQ × Int × Int × Int × Int) : z4.F N d =
bif zP 0 (List.length d.2.2.1) then
bif decide (0 <= (1 : Int)) && decide (1 <= (List.length d.2.2.1 : Int)) then
bif !(((nth (0, (0, false)) d.2.2.1 0).2).2) then
bif d.2.2.2.2.2.1 == (IntKind.wrap .i64 ((((nth (0, (0, false)) d.2.2.1 0).2).1) + 1)) then
bindO (y7.F N (d.1, ((nth (0, (0, false)) d.2.2.1 0).2).1)) fun r1 =>
bif decide (List.length (List.drop 1 d.2.2.1) <= maxN) then
some (r1.2, (true, (r1.1, (d.2.1, (List.drop 1 d.2.2.1, (d.2.2.2.1, (maxI d.2.2.2.2.1 ((nth (0, (0, false)) d.2.2.1 0).1), (d.2.2.2.2.2.1, (nth (0, (0, false)) d.2.2.1 0).1))))))))
else none
else
bindO (y7.F N (d.1, ((nth (0, (0, false)) d.2.2.1 0).2).1)) fun r2 =>
bif decide (List.length (List.drop 1 d.2.2.1) <= maxN) then
some (r2.2, (true, (r2.1, (d.2.1, (List.drop 1 d.2.2.1, (d.2.2.2.1, (maxI d.2.2.2.2.1 ((nth (0, (0, false)) d.2.2.1 0).1), d.2.2.2.2.2)))))))
else none
else
bindO (zg.F N (d.1.2.2.1, d.1.2.2.2.1)) fun r3 =>
bindO (y3.F N (d.1.1, (r3, ((nth (0, (0, false)) d.2.2.1 0).2).1))) fun r4 =>
bindO (yL.F N r4) fun r5 =>
bif r5 then
bif d.2.2.2.2.2.1 != (IntKind.wrap .i64 ((((nth (0, (0, false)) d.2.2.1 0).2).1) + 1)) then
bindO (zh.F N (d.2.1, (((nth (0, (0, false)) d.2.2.1 0).2).1, ((nth (0, (0, false)) d.2.2.1 0).1, (List.drop 1 d.2.2.1, d.2.2.2.1))))) fun r6 =>
bif r6.1 == 0 then
some (([] : List (Int × List Int)), (false, d))
else
bif r6.1 == 1 then
bindO (y9.F N (d.1, (((nth (0, (0, false)) d.2.2.1 0).2).1, false))) fun r7 =>
bif decide (List.length (List.drop 1 d.2.2.1) <= maxN) then
some (r7.2, (true, (r7.1, (d.2.1, (List.drop 1 d.2.2.1, (d.2.2.2.1, (maxI (maxI d.2.2.2.2.1 ((nth (0, (0, false)) d.2.2.1 0).1)) r6.2, (IntKind.wrap .i64 ((((nth (0, (0, false)) d.2.2.1 0).2).1) + 1), (nth (0, (0, false)) d.2.2.1 0).1))))))))
else none
else
bif r6.1 == 2 then
bindO (y9.F N (d.1, (((nth (0, (0, false)) d.2.2.1 0).2).1, true))) fun r8 =>
bif decide (List.length (List.drop 1 d.2.2.1) <= maxN) then
some (r8.2, (true, (r8.1, (d.2.1, (List.drop 1 d.2.2.1, (d.2.2.2.1, (maxI (maxI d.2.2.2.2.1 ((nth (0, (0, false)) d.2.2.1 0).1)) r6.2, (0, d.2.2.2.2.2.2))))))))
else none
else
bindO (y9.F N (d.1, (((nth (0, (0, false)) d.2.2.1 0).2).1, false))) fun r9 =>
bif decide (List.length (List.drop 1 d.2.2.1) <= maxN) then
some (r9.2, (true, (r9.1, (d.2.1, (List.drop 1 d.2.2.1, (d.2.2.2.1, (maxI (maxI d.2.2.2.2.1 ((nth (0, (0, false)) d.2.2.1 0).1)) r6.2, d.2.2.2.2.2)))))))
else none
else
bif decide ((IntKind.wrap .i64 (((nth (0, (0, false)) d.2.2.1 0).1) - d.2.2.2.2.2.2)) >= d.2.1.2.1) then
bindO (zh.F N (d.2.1, (((nth (0, (0, false)) d.2.2.1 0).2).1, ((nth (0, (0, false)) d.2.2.1 0).1, (List.drop 1 d.2.2.1, d.2.2.2.1))))) fun r10 =>
bif r10.1 == 0 then
some (([] : List (Int × List Int)), (false, d))
else
bif r10.1 == 1 then
bindO (y9.F N (d.1, (((nth (0, (0, false)) d.2.2.1 0).2).1, false))) fun r11 =>
bif decide (List.length (List.drop 1 d.2.2.1) <= maxN) then
some (r11.2, (true, (r11.1, (d.2.1, (List.drop 1 d.2.2.1, (d.2.2.2.1, (maxI (maxI d.2.2.2.2.1 ((nth (0, (0, false)) d.2.2.1 0).1)) r10.2, (IntKind.wrap .i64 ((((nth (0, (0, false)) d.2.2.1 0).2).1) + 1), (nth (0, (0, false)) d.2.2.1 0).1))))))))
else none
else
bif r10.1 == 2 then
bindO (y9.F N (d.1, (((nth (0, (0, false)) d.2.2.1 0).2).1, true))) fun r12 =>
bif decide (List.length (List.drop 1 d.2.2.1) <= maxN) then
some (r12.2, (true, (r12.1, (d.2.1, (List.drop 1 d.2.2.1, (d.2.2.2.1, (maxI (maxI d.2.2.2.2.1 ((nth (0, (0, false)) d.2.2.1 0).1)) r10.2, (0, d.2.2.2.2.2.2))))))))
else none
else
bindO (y9.F N (d.1, (((nth (0, (0, false)) d.2.2.1 0).2).1, false))) fun r13 =>
bif decide (List.length (List.drop 1 d.2.2.1) <= maxN) then
some (r13.2, (true, (r13.1, (d.2.1, (List.drop 1 d.2.2.1, (d.2.2.2.1, (maxI (maxI d.2.2.2.2.1 ((nth (0, (0, false)) d.2.2.1 0).1)) r10.2, d.2.2.2.2.2)))))))
else none
else
bindO (y9.F N (d.1, (((nth (0, (0, false)) d.2.2.1 0).2).1, false))) fun r14 =>
bif decide (List.length (List.drop 1 d.2.2.1) <= maxN) then
some (r14.2, (true, (r14.1, (d.2.1, (List.drop 1 d.2.2.1, (d.2.2.2.1, (maxI (maxI d.2.2.2.2.1 ((nth (0, (0, false)) d.2.2.1 0).1)) ((nth (0, (0, false)) d.2.2.1 0).1), (IntKind.wrap .i64 ((((nth (0, (0, false)) d.2.2.1 0).2).1) + 1), (nth (0, (0, false)) d.2.2.1 0).1))))))))
else none
else
bindO (y9.F N (d.1, (((nth (0, (0, false)) d.2.2.1 0).2).1, false))) fun r15 =>
bif decide (List.length (List.drop 1 d.2.2.1) <= maxN) then
some (r15.2, (true, (r15.1, (d.2.1, (List.drop 1 d.2.2.1, (d.2.2.2.1, (maxI d.2.2.2.2.1 ((nth (0, (0, false)) d.2.2.1 0).1), d.2.2.2.2.2)))))))
else none
else none
else none := by kernel_rfl
def yt.c1 : XCode := .seq (rG [o2 12 (.bin .lss) 11 10]) (.seq (.cond (.slot 12) (.skip) (.exit 0)) (.seq (.block 1 (.seq (rG [o2 13 (.indexAddr zAO) 9 11, o1 14 (.load true 2) 13, ow 8 (.alloc 0 [cZ, .nil]) [] [0] [0], sT 2 8 14 0]) (rG [mv 15 0, mv 16 1, lU 17 2 8 0, o2 18 (.build [cZ, cZ, .nil] [(0, 1), (1, 2)]) 16 17, ow 19 (.buildSlice false 1 13 zBE 1 [(0, 3)] [cZ, cZ, .nil]) [.slot 18] [1] [1], ow 20 (.append false 2 13 zBE) (sl [15, 19]) [1, 2] [2], mv 0 20]))) (rG [op 21 (.bin .add) [.slot 11, cI 1], mv 11 21])))
def yt.c2 : XCode := .seq (rG [mv 22 0, mv 6 22]) (.ret)
def yt.x : XFunc := { nslots := 23, nobj := 3, pars := [.val false 1, .val false 1, .val false 1], rowsIn := [some (2, 13), none, none], rets := [.tmp 6 false 1], outs := [.own 13], fresh := false, arg := .pair (.list zBE) (.pair (.int .i64) (.list zAO)), ret := .list zBE, body := .seq (rG [op 6 .move [.const (.one (.nil))]]) (.seq (.seq (rG [mv 9 2, o1 10 .len 9, op 11 .move [cI 0]]) (.block 0 (.loop [.away 2, .keep [0, 1, 9, 10, 11], .drop 0, .drop 1, .norm] (yt.c1)))) (yt.c2)) }
def yt.env (_ : Nat) : Env := envOf (tbl [] noFS)
def yt.F (N : Nat) (x : zA9 × Int × List (Int × List Int)) : Option zA9 := XFunc.run yt.x (yt.env N) N x
def yt.fs (N : Nat) : FS := { arg := yt.x.arg, ret := yt.x.ret, fresh := false, F := yt.F N }
def yt.k2 (N : Nat) : Ex -> S -> Option zA9 := seqK (fun s => XCode.runK (yt.env N) N (yt.c2) s (XFunc.endK yt.x)) (XFunc.endK yt.x)
def yt.k1 (N : Nat) : Ex -> S -> Option zA9 := y2 0 (yt.k2 N)
def yt.L1 (N : Nat) (n1 : Nat) (time : Int) (t9 : zAT) (t10 : Int) (t11 : Int) (o2 : zA9) : Option zA9 := loopK [.away 2, .keep [0, 1, 9, 10, 11], .drop 0, .drop 1, .norm] (fun s k => XCode.runK (yt.env N) N yt.c1 s k) n1
 { t := jK 23 [(0, .one (.ref 2 0 .all)), (1, .one (.int .i64 time)), (9, .one (.sl false zAO t9)), (10, .one (.int .i64 t10)), (11, .one (.int .i64 t11))], h := [.absent 0, .absent 0, .row 0 false false 13 zBE o2] }
 (yt.k1 N)
theorem yt.L1_eq (N : Nat) (n1 : Nat) (time : Int) (t9 : zAT) (t10 : Int) (t11 : Int) (o2 : zA9) : yt.L1 N (n1 + 1) time t9 t10 t11 o2 =
bif decide (t11 < t10) then
bif zP t11 (t9.length) then
bif decide (o2.length + List.length ([(time, (nth (0, ([] : List Int)) t9 t11))] : List (Int × Int × List Int)) <= maxN) then
yt.L1 N n1 time t9 t10 (IntKind.wrap .i64 (t11 + 1)) (o2 ++ ([(time, (nth (0, ([] : List Int)) t9 t11))] : List (Int × Int × List Int)))
else none
else none
else
some o2 := by kernel_rfl
theorem yt.F_eq (N : Nat) (sent : zA9) (time : Int) (l_ : zAT) : yt.F N (sent, time, l_) =
yt.L1 N N time l_ (l_.length : Int) 0 sent := by kernel_rfl
def zM.c1 : XCode := .seq (.seq (rG [fA 69 10 9, lN 70 69 2, o1 71 .len 70, op 72 (.bin .gtr) [.slot 71, cI 0]]) (.cond (.slot 72) (.skip) (.exit 0))) (.block 1 (.seq (.adj [.freeze 3] (rG [ow 74 (.call ⟨220, [.box 2 15], no 15, (rB 2), ims 17, false⟩) [.slot 9] [2] [2], mv 73 74, eX 75 0 73, eX 76 1 73, mv 11 75, mv 12 76])) (.seq (.seq (rG [mv 77 12, o1 78 .not 77]) (.cond (.slot 78) (.exit 0) (.skip))) (rG [mv 79 10, fA 80 12 9, lN 81 80 2, mv 82 11, ow 83 (.call ⟨221, vs 3, [some (5, 13), none, none], [.val false 1], [.own 5 13], false⟩) (sl [79, 81, 82]) [5] [5], mv 10 83]))))
def zM.c2 : XCode := .seq (rG [lU 84 15 9 2, mv 85 10, sT 15 6 84 1, mv 7 85, op 8 .move [cB true]]) (.ret)
def zM.x : XFunc := { nslots := 86, nobj := 6, pars := [.val true 15, .val false 1, .val false 1], rowsIn := no 17, rets := [.var 6 true 15, .tmp 7 false 1, .tmp 8 false 1], outs := [.imm, .imm, .imm, .imm, .imm, .imm, .imm, .imm, .imm, .imm, .imm, .imm, .imm, .imm, .imm, .own 13, .imm], fresh := false, arg := .pair (.pair zAk zBl) T14_30, ret := .pair (.pair zAk zBl) (.pair (.list zBE) (.bool)), body := .seq (rG [ow 3 (.box 0) [.slot 0] [0] [0], ow 6 (.alloc 1 [cZ, .nil, .nil, cZ, .nil, cZ, .bool false, cZ, cZ, cZ, .nil, cZ, cZ, cZ, cZ]) [] [1] [1], op 7 .move [.const (.one (.nil))], op 8 .move [cB false]]) (.seq (.seq (.region true [lU 13 15 3 0, o1 14 (.call ⟨174, [.val true 15], no 15, [.val false 1], ims 1, true⟩) 13, o1 15 .not 14, sX 16 [.slot 15], gX 17 .move [.slot 2] [] [] 16 false, gX 18 (.fieldAddr 11) [.slot 3] [] [] 16 false, gX 19 (.load false 1) [.slot 18] [0] [] 16 false, gX 20 (.bin .lss) (sl [17, 19]) [] [] 16 false, op 21 .pick [.slot 16, cB true, .slot 20], sX 22 [.slot 21], gX 23 .move [.slot 2] [] [] 22 false, gX 24 (.bin .gtr) [.slot 23, cI 1000000] [] [] 22 false, op 25 .pick [.slot 22, cB true, .slot 24], sX 26 [.slot 25], gX 27 .move [.slot 1] [] [] 26 false, gX 28 .len [.slot 27] [] [] 26 false, gX 29 (.bin .gtr) [.slot 28, cI 0] [] [] 26 false, ⟨some 30, .move, [.slot 29], [], [], some (26, false), true, .none⟩, gX 31 .move [.slot 1] [] [] 30 true, gX 32 (.indexAddr zAd) [.slot 31, cI 0] [] [] 30 true, gX 33 (.fieldAddr 0) [.slot 32] [] [] 30 true, gX 34 (.load false 1) [.slot 33] [] [] 30 true, gX 35 (.fieldAddr 11) [.slot 3] [] [] 30 true, gX 36 (.load false 1) [.slot 35] [0] [] 30 true, gX 37 (.bin .lss) (sl [34, 36]) [] [] 30 true, gX 38 .pick [.slot 30, .slot 37, cB false] [] [] 26 false, op 39 .pick [.slot 26, cB true, .slot 38], sX 40 [.slot 39], gX 41 .move [.slot 1] [] [] 40 false, gX 42 .move [.slot 2] [] [] 40 false, ⟨some 43, .call ⟨71, vs 2, no 2, [.val false 1], ims 1, true⟩, (sl [41, 42]), [], [], some (40, false), false, .none⟩, gX 44 .not [.slot 43] [] [] 40 false, op 45 .pick [.slot 40, cB true, .slot 44]]) (.cond (.slot 45) (.seq (rG [op 46 (.build [cZ, .nil, .nil, cZ, .nil, cZ, .bool false, cZ, cZ, cZ, .nil, cZ, cZ, cZ, cZ] []) [], sT 15 6 46 1, op 7 .move [.const (.one (.nil))], op 8 .move [cB false]]) (.ret)) (.skip))) (.seq (rG [lU 47 15 3 0, ow 48 (.call ⟨178, [.val true 15], no 15, [.val true 15], [.imm, .imm, .imm, .imm, .imm, .imm, .imm, .imm, .imm, .imm, .own 3 4, .imm, .imm, .imm, .imm], true⟩) [.slot 47] [3] [3], ow 9 (.alloc 2 [cZ, .nil, .nil, cZ, .nil, cZ, .bool false, cZ, cZ, cZ, .nil, cZ, cZ, cZ, cZ]) [] [2] [2], sT 15 9 48 2]) (.seq (rG [fA 49 10 9, lN 50 49 2, mv 51 1, ow 52 (.append false 3 4 zAd) (sl [50, 51]) [3] [3], fA 53 10 9, sT 1 53 52 2]) (.seq (.seq (.region true [fA 54 10 9, lN 55 54 2, fA 56 0 3, fA 57 4 56, lN 58 57 0, o1 59 (.call ⟨173, vs 1, no 1, [.val false 1], ims 1, true⟩) 58, fA 60 0 3, fA 61 0 60, fA 62 0 61, lN 63 62 0, ow 64 (.call ⟨70, vs 3, no 3, [.val false 1], ims 1, true⟩) (sl [55, 59, 63]) [3] [], o1 65 .not 64]) (.cond (.slot 65) (.seq (rG [op 66 (.build [cZ, .nil, .nil, cZ, .nil, cZ, .bool false, cZ, cZ, cZ, .nil, cZ, cZ, cZ, cZ] []) [], sT 15 6 66 1, op 7 .move [.const (.one (.nil))], op 8 .move [cB false]]) (.ret)) (.skip))) (.seq (rG [mv 67 2, fA 68 11 9, sT 1 68 67 2]) (.seq (rG [op 10 .move [.const (.one (.nil))]]) (.seq (.block 0 (.loop [.freeze 3, .mkrow (.slot 10) 5 13 zBE, .keep [6, 9, 10], .drop 0, .drop 3, .drop 4, .weak, .norm] (zM.c1))) (zM.c2)))))))) }
def zM.env (N : Nat) : Env := envOf (tbl [(220, z4.fs N), (174, yc.fs N), (178, yP.fs N), (173, zi.fs N), (71, yS.fs N), (70, za.fs N), (221, yt.fs N)] noFS)
def zM.F (N : Nat) (x : zBK × zAQ × Int) : Option (zBK × zA9 × Bool) := XFunc.run zM.x (zM.env N) N x
def zM.fs (N : Nat) : FS := { arg := zM.x.arg, ret := zM.x.ret, fresh := false, F := zM.F N }
def zM.k2 (N : Nat) : Ex -> S -> Option (zBK × zA9 × Bool) := seqK (fun s => XCode.runK (zM.env N) N (zM.c2) s (XFunc.endK zM.x)) (XFunc.endK zM.x)
def zM.k1 (N : Nat) : Ex -> S -> Option (zBK × zA9 × Bool) := y2 0 (zM.k2 N)
def zM.L1 (N : Nat) (n1 : Nat) (o20 : Int) (o21 : List zU) (o22 : List zp) (o23 : Int) (o24 : zk) (o25 : Int) (o26 : Bool) (o27 : Int) (o28 : Int) (o29 : Int) (o210 : zAQ) (o211 : Int) (o212 : Int) (o213 : Int) (o214 : Int) (o5 : zA9) : Option (zBK × zA9 × Bool) := loopK [.freeze 3, .mkrow (.slot 10) 5 13 zBE, .keep [6, 9, 10], .drop 0, .drop 3, .drop 4, .weak, .norm] (fun s k => XCode.runK (zM.env N) N zM.c1 s k) n1
 { t := jK 86 [(6, .one (.ptr 1 0 0)), (9, .one (.ptr 2 0 0)), (10, .one (.ref 5 0 .all))], h := [.absent 0, .box 0 false [cZ, .nil, .nil, cZ, .nil, cZ, .bool false, cZ, cZ, cZ, .nil, cZ, cZ, cZ, cZ], .box 0 false [.int .i64 o20, .sl false (.list yM) o21, .sl false (.list yW) o22, .int .i64 o23, .sl false yZ o24, .int .i64 o25, .bool o26, .int .i64 o27, .int .i64 o28, .int .i64 o29, .sl false zAd o210, .int .i64 o211, .int .i64 o212, .int .i64 o213, .int .i64 o214], .absent 0, .absent 0, .row 0 false false 13 zBE o5] }
 (zM.k1 N)
theorem zM.L1_eq (N : Nat) (n1 : Nat) (o20 : Int) (o21 : List zU) (o22 : List zp) (o23 : Int) (o24 : zk) (o25 : Int) (o26 : Bool) (o27 : Int) (o28 : Int) (o29 : Int) (o210 : zAQ) (o211 : Int) (o212 : Int) (o213 : Int) (o214 : Int) (o5 : zA9) : zM.L1 N (n1 + 1) o20 o21 o22 o23 o24 o25 o26 o27 o28 o29 o210 o211 o212 o213 o214 o5 =
bif decide ((o210.length : Int) > 0) then
bindO (z4.F N (((o20, o21), (o22, (o23, (o24, (o25, o26))))), ((o27, (o28, o29)), (o210, (o211, (o212, (o213, o214))))))) fun r6 =>
bif !r6.2.1 then
some (r6.2.2, (o5, true))
else
bindO (yt.F N (o5, (r6.2.2.2.2.2.2.1, r6.1))) fun r7 =>
zM.L1 N n1 r6.2.2.1.1.1 r6.2.2.1.1.2 r6.2.2.1.2.1 r6.2.2.1.2.2.1 r6.2.2.1.2.2.2.1 r6.2.2.1.2.2.2.2.1 r6.2.2.1.2.2.2.2.2 r6.2.2.2.1.1 r6.2.2.2.1.2.1 r6.2.2.2.1.2.2 r6.2.2.2.2.1 r6.2.2.2.2.2.1 r6.2.2.2.2.2.2.1 r6.2.2.2.2.2.2.2.1 r6.2.2.2.2.2.2.2.2 r7
else
some ((((o20, o21), (o22, (o23, (o24, (o25, o26))))), ((o27, (o28, o29)), (o210, (o211, (o212, (o213, o214)))))), (o5, true)) := by kernel_rfl
theorem zM.F_eq (N : Nat) (d : zAW × (Int × Int × Int) × zAQ × Int × Int × Int × Int) (l_ : zAQ) (end_ : Int) : zM.F N (d, l_, end_) =
bindO (yc.F N d) fun r1 =>
bif !r1 then
some ((((0, ([] : List zU)), (([] : List zp), (0, (([] : List (Int × Int × Int × Int × Int)), (0, false))))), ((0, (0, 0)), (([] : List (Int × Int × Bool)), (0, (0, (0, 0)))))), (([] : List (Int × Int × List Int)), false))
else
bif decide (end_ < d.2.2.2.1) then
some ((((0, ([] : List zU)), (([] : List zp), (0, (([] : List (Int × Int × Int × Int × Int)), (0, false))))), ((0, (0, 0)), (([] : List (Int × Int × Bool)), (0, (0, (0, 0)))))), (([] : List (Int × Int × List Int)), false))
else
bif decide (end_ > 1000000) then
some ((((0, ([] : List zU)), (([] : List zp), (0, (([] : List (Int × Int × Int × Int × Int)), (0, false))))), ((0, (0, 0)), (([] : List (Int × Int × Bool)), (0, (0, (0, 0)))))), (([] : List (Int × Int × List Int)), false))
else
bif decide ((l_.length : Int) > 0) then
bif zP 0 (l_.length) then
bif decide (((nth (0, (0, false)) l_ 0).1) < d.2.2.2.1) then
some ((((0, ([] : List zU)), (([] : List zp), (0, (([] : List (Int × Int × Int × Int × Int)), (0, false))))), ((0, (0, 0)), (([] : List (Int × Int × Bool)), (0, (0, (0, 0)))))), (([] : List (Int × Int × List Int)), false))
else
bindO (yS.F N (l_, end_)) fun r2 =>
bif !r2 then
some ((((0, ([] : List zU)), (([] : List zp), (0, (([] : List (Int × Int × Int × Int × Int)), (0, false))))), ((0, (0, 0)), (([] : List (Int × Int × Bool)), (0, (0, (0, 0)))))), (([] : List (Int × Int × List Int)), false))
else
bindO (yP.F N d) fun r3 =>
bif decide (List.length r3.2.2.1 + l_.length <= maxN) then
bindO (zi.F N d.1.2.2.2.1) fun r4 =>
bindO (za.F N (r3.2.2.1 ++ l_, (r4, d.1.1.1))) fun r5 =>
bif !r5 then
some ((((0, ([] : List zU)), (([] : List zp), (0, (([] : List (Int × Int × Int × Int × Int)), (0, false))))), ((0, (0, 0)), (([] : List (Int × Int × Bool)), (0, (0, (0, 0)))))), (([] : List (Int × Int × List Int)), false))
else
zM.L1 N N r3.1.1.1 r3.1.1.2 r3.1.2.1 r3.1.2.2.1 r3.1.2.2.2.1 r3.1.2.2.2.2.1 r3.1.2.2.2.2.2 r3.2.1.1 r3.2.1.2.1 r3.2.1.2.2 (r3.2.2.1 ++ l_) end_ r3.2.2.2.2.1 r3.2.2.2.2.2.1 r3.2.2.2.2.2.2 ([] : List (Int × Int × List Int))
else none
else none
else
bindO (yS.F N (l_, end_)) fun r8 =>
bif !r8 then
some ((((0, ([] : List zU)), (([] : List zp), (0, (([] : List (Int × Int × Int × Int × Int)), (0, false))))), ((0, (0, 0)), (([] : List (Int × Int × Bool)), (0, (0, (0, 0)))))), (([] : List (Int × Int × List Int)), false))
else
bindO (yP.F N d) fun r9 =>
bif decide (List.length r9.2.2.1 + l_.length <= maxN) then
bindO (zi.F N d.1.2.2.2.1) fun r10 =>
bindO (za.F N (r9.2.2.1 ++ l_, (r10, d.1.1.1))) fun r11 =>
bif !r11 then
some ((((0, ([] : List zU)), (([] : List zp), (0, (([] : List (Int × Int × Int × Int × Int)), (0, false))))), ((0, (0, 0)), (([] : List (Int × Int × Bool)), (0, (0, (0, 0)))))), (([] : List (Int × Int × List Int)), false))
else
zM.L1 N N r9.1.1.1 r9.1.1.2 r9.1.2.1 r9.1.2.2.1 r9.1.2.2.2.1 r9.1.2.2.2.2.1 r9.1.2.2.2.2.2 r9.2.1.1 r9.2.1.2.1 r9.2.1.2.2 (r9.2.2.1 ++ l_) end_ r9.2.2.2.2.1 r9.2.2.2.2.2.1 r9.2.2.2.2.2.2 ([] : List (Int × Int × List Int))
else none := by kernel_rfl
end Go.Kb
