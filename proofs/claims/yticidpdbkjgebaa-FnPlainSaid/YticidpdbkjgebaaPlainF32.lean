/- The texts of functions, printed by a program, and the equations of their runs. -/
import Derived.Test.YticidpdbkjgebaaPlainP0toP75
import Derived.Test.YticidpdbkjgebaaPlainF4toP31
import Derived.Test.YticidpdbkjgebaaPlainP94toF8
import Derived.Test.YticidpdbkjgebaaPlainF30
import Derived.Test.YticidpdbkjgebaaPlainF31toP108
import Derived.KernelRfl
namespace Go.Kb
abbrev zAJ : Ty := .pair (.int .i64) (.pair (.int .i64) (.pair (.int .i64) (.int .i64)))
abbrev T2_32 : Ty := .pair (.pair (.int .i64) (.list (.list zAJ))) (.pair (.list (.list (.pair (.int .i64) (.pair (.int .i64) (.int .i64))))) (.pair (.int .i64) (.pair (.list (.pair (.int .i64) zAJ)) (.pair (.int .i64) (.bool)))))
abbrev T3_32 : Ty := .pair (.int .i64) (.int .i64)
abbrev T4_32 : Ty := .pair (.int .i64) (.pair (.int .i64) (.bool))
abbrev T5_32 : Ty := .pair (.int .i64) (.list (.int .i64))
abbrev T6_32 : Ty := .pair (.int .i64) T3_32
abbrev zBm : Type := List (Int × Int × Int × Int)
abbrev zBl : Type := List (Int × Int × Int)
abbrev D9_32 : Type := ((Int × List Hnd) × (List Int) × Int × Int) × List HRow
abbrev D10_32 : Type := (Int × List zBm) × (List zBl) × Int × (List (Int × Int × Int × Int × Int)) × Int × Bool
def zH.c1 : XCode := .seq (.seq (rG [mv 22 9, mv 23 1, o2 24 (.bin .lss) 22 23]) (.cond (.slot 24) (.skip) (.exit 2))) (.seq (.block 3 (.seq (rG [mv 27 0, mv 28 5, ow 29 (.call ⟨149, [.box 0 3, .val false 1], no 4, [.val true 4], ims 7, false⟩) (sl [27, 28]) [0] [0], ow 10 (.alloc 4 [cZ, cZ, cZ, cZ]) [] [4] [4], sT 4 10 29 4]) (.seq (.seq (rG [mv 30 7, op 31 (.bin .gtr) [.slot 30, cI 0], sX 32 [.slot 31], gX 33 .move [.slot 0] [] [] 32 true, ⟨some 34, .call ⟨102, [.box 0 3, .val false 1], no 4, [.val false 1], ims 4, false⟩, [.slot 33, cI 3], [0], [0], some (32, true), false, .none⟩, op 35 .pick [.slot 32, .slot 34, cB false]]) (.cond (.slot 35) (rG [op 36 (.build [cZ, cZ, cZ, cZ] [(0, 1)]) [cI 1], sT 4 10 36 4]) (.skip))) (rG [mv 37 8, lU 38 4 10 4, ow 39 (.buildSlice false 5 8 zAJ 1 [(0, 4)] [cZ, cZ, cZ, cZ]) [.slot 38] [5] [5], ow 40 (.append false 3 8 zAJ) (sl [37, 39]) [3, 5] [3], mv 8 40])))) (rG [mv 25 9, op 26 (.bin .add) [.slot 25, cI 1], mv 9 26]))
def zH.c2 : XCode := .adj [.hpub 3] (rG [fA 41 1 6, lN 42 41 2, mv 43 8, ow 44 (.buildSlice false 6 9 (.hnd zAJ) 1 [(0, 1)] [.nil]) [.slot 43] [6] [6], ow 45 (.append false 7 9 (.hnd zAJ)) (sl [42, 44]) [6, 7] [7], fA 46 1 6, sT 1 46 45 2])
def zH.c3 : XCode := rG [mv 19 7, op 20 (.bin .add) [.slot 19, cI 1], mv 7 20]
def zH.c4 : XCode := .seq (.seq (rG [mv 16 7, mv 17 5, o2 18 (.bin .lss) 16 17]) (.cond (.slot 18) (.skip) (.exit 0))) (.seq (.block 1 (.seq (rG [ow 21 (.buildSlice false 3 8 zAJ 0 [] [cZ, cZ, cZ, cZ]) [] [3] [3], mv 8 21]) (.seq (.seq (rG [op 9 .move [cI 0]]) (.block 2 (.loop [.keep [0, 1, 4, 5, 6, 7, 8, 9], .drop 4, .drop 5, .drop 6, .norm] (zH.c1)))) (zH.c2)))) (zH.c3))
def zH.c5 : XCode := .seq (rG [lU 47 2 6 2, sT 2 4 47 1]) (.ret)
def zH.x : XFunc := { nslots := 48, nobj := 8, pars := [.box 0 3, .val false 1], rowsIn := no 4, rets := [.var 4 true 2], outs := [.imm, .own 9, .imm, .imm, .imm], fresh := false, arg := .pair (.pair (.list (.int .u8)) T3_32) (.int .i64), ret := .pair (.pair (.int .i64) (.list (.hnd zAJ))) (.pair (.list (.int .u8)) T3_32), body := .seq (rG [ow 4 (.alloc 1 [cZ, .nil]) [] [1] [1]]) (.seq (rG [mv 11 0, ow 12 (.call ⟨33, [.box 0 3, .val false 1], no 4, [.val false 1], ims 4, false⟩) [.slot 11, cI 4] [0] [0], op 13 (.bin .add) [cI 1, .slot 12], mv 5 13]) (.seq (rG [mv 14 1, o1 15 (.build [cZ, .nil] [(0, 1)]) 14, ow 6 (.alloc 2 [cZ, .nil]) [] [2] [2], sT 2 6 15 2]) (.seq (.seq (rG [op 7 .move [cI 0]]) (.block 0 (.loop [.mkrow (.boxc 2 1) 7 9 (.hnd zAJ), .keep [0, 1, 4, 5, 6, 7], .drop 3, .drop 4, .drop 5, .drop 6, .norm] (zH.c4)))) (zH.c5)))), hp := true }
def zH.env (N : Nat) : Env := envOf (tbl [(33, zG.fs N), (102, yr.fs N), (149, zAG.fs N)] noFS)
def zH.H (N : Nat) (x : ((List Int) × Int × Int) × Int) (D : List HRow) : Option D9_32 := XFunc.runH zH.x (zH.env N) N x D
def zH.fs (N : Nat) : FS := { arg := zH.x.arg, ret := zH.x.ret, fresh := false, F := fun _ => none, hp := true, H := zH.H N }
def zH.k2 (N : Nat) : Ex -> S -> Option D9_32 := seqK (fun s => XCode.runK (zH.env N) N (zH.c5) s (XFunc.endKH zH.x)) (XFunc.endKH zH.x)
def zH.k1 (N : Nat) : Ex -> S -> Option D9_32 := zAh 0 (zH.k2 N)
def zH.k7 (N : Nat) (n1 : Nat) : Ex -> S -> Option D9_32 := seqK (fun s => bindO (S.ghosts s [.mkrow (.boxc 2 1) 7 9 (.hnd zAJ), .keep [0, 1, 4, 5, 6, 7], .drop 3, .drop 4, .drop 5, .drop 6, .norm]) fun s1 => loopK [.mkrow (.boxc 2 1) 7 9 (.hnd zAJ), .keep [0, 1, 4, 5, 6, 7], .drop 3, .drop 4, .drop 5, .drop 6, .norm] (fun s k => XCode.runK (zH.env N) N zH.c4 s k) n1 s1 (zH.k1 N)) (zH.k1 N)
def zH.k6 (N : Nat) (n1 : Nat) : Ex -> S -> Option D9_32 := seqK (fun s => XCode.runK (zH.env N) N (zH.c3) s (zH.k7 N n1)) (zH.k7 N n1)
def zH.k5 (N : Nat) (n1 : Nat) : Ex -> S -> Option D9_32 := zAh 1 (zH.k6 N n1)
def zH.k4 (N : Nat) (n1 : Nat) : Ex -> S -> Option D9_32 := seqK (fun s => XCode.runK (zH.env N) N (zH.c2) s (zH.k5 N n1)) (zH.k5 N n1)
def zH.k3 (N : Nat) (n1 : Nat) : Ex -> S -> Option D9_32 := zAh 2 (zH.k4 N n1)
def zH.L1 (N : Nat) (n1 : Nat) (keys : Int) (n_ : Int) (i : Int) (c0 : List Int) (c1 : Int) (c2 : Int) (o20 : Int) (o7 : List Hnd) (D : List HRow) : Option D9_32 := loopK [.mkrow (.boxc 2 1) 7 9 (.hnd zAJ), .keep [0, 1, 4, 5, 6, 7], .drop 3, .drop 4, .drop 5, .drop 6, .norm] (fun s k => XCode.runK (zH.env N) N zH.c4 s k) n1
 { t := jK 48 [(0, .one (.ptr 0 0 0)), (1, .one (.int .i64 keys)), (4, .one (.ptr 1 0 0)), (5, .one (.int .i64 n_)), (6, .one (.ptr 2 0 0)), (7, .one (.int .i64 i))], h := [.box 0 true [.sl false (.int .u8) c0, .int .i64 c1, .int .i64 c2], .box 0 false [cZ, .nil], .box 0 false [.int .i64 o20, .ref 7 0 .all], .absent 0, .absent 0, .absent 0, .absent 0, .row 0 false true 9 (.hnd zAJ) o7], d := D }
 (zH.k1 N)
def zH.L2 (N : Nat) (n1 : Nat) (n2 : Nat) (keys : Int) (n_ : Int) (i : Int) (k_ : Int) (c0 : List Int) (c1 : Int) (c2 : Int) (o20 : Int) (o3 : zBm) (o7 : List Hnd) (D : List HRow) : Option D9_32 := loopK [.keep [0, 1, 4, 5, 6, 7, 8, 9], .drop 4, .drop 5, .drop 6, .norm] (fun s k => XCode.runK (zH.env N) N zH.c1 s k) n2
 { t := jK 48 [(0, .one (.ptr 0 0 0)), (1, .one (.int .i64 keys)), (4, .one (.ptr 1 0 0)), (5, .one (.int .i64 n_)), (6, .one (.ptr 2 0 0)), (7, .one (.int .i64 i)), (8, .one (.ref 3 0 .all)), (9, .one (.int .i64 k_))], h := [.box 0 true [.sl false (.int .u8) c0, .int .i64 c1, .int .i64 c2], .box 0 false [cZ, .nil], .box 0 false [.int .i64 o20, .ref 7 0 .all], .row 0 false true 8 zAJ o3, .absent 0, .absent 0, .absent 0, .row 0 false true 9 (.hnd zAJ) o7], d := D }
 (zH.k3 N n1)
theorem zH.L1_eq (N : Nat) (n1 : Nat) (keys : Int) (n_ : Int) (i : Int) (c0 : List Int) (c1 : Int) (c2 : Int) (o20 : Int) (o7 : List Hnd) (D : List HRow) : zH.L1 N (n1 + 1) keys n_ i c0 c1 c2 o20 o7 D =
bif decide (i < n_) then
zH.L2 N n1 N keys n_ i 0 c0 c1 c2 o20 ([] : List (Int × Int × Int × Int)) o7 D
else
some (((o20, o7), (c0, (c1, c2))), D) := by kernel_rfl
theorem zH.L2_eq (N : Nat) (n1 : Nat) (n2 : Nat) (keys : Int) (n_ : Int) (i : Int) (k_ : Int) (c0 : List Int) (c1 : Int) (c2 : Int) (o20 : Int) (o3 : zBm) (o7 : List Hnd) (D : List HRow) : zH.L2 N n1 (n2 + 1) keys n_ i k_ c0 c1 c2 o20 o3 o7 D =
bif decide (k_ < keys) then
bindO (zAG.F N ((c0, (c1, c2)), n_)) fun r2 =>
bif decide (i > 0) then
bindO (yr.F N (r2.2, 3)) fun r3 =>
bif r3.1 then
bif decide (o3.length + List.length ([(1, (0, (0, 0)))] : List (Int × Int × Int × Int)) <= maxN) then
zH.L2 N n1 n2 keys n_ i (IntKind.wrap .i64 (k_ + 1)) r3.2.1 r3.2.2.1 r3.2.2.2 o20 (o3 ++ ([(1, (0, (0, 0)))] : List (Int × Int × Int × Int))) o7 D
else none
else
bif decide (o3.length + List.length ([r2.1] : List (Int × Int × Int × Int)) <= maxN) then
zH.L2 N n1 n2 keys n_ i (IntKind.wrap .i64 (k_ + 1)) r3.2.1 r3.2.2.1 r3.2.2.2 o20 (o3 ++ ([r2.1] : List (Int × Int × Int × Int))) o7 D
else none
else
bif decide (o3.length + List.length ([r2.1] : List (Int × Int × Int × Int)) <= maxN) then
zH.L2 N n1 n2 keys n_ i (IntKind.wrap .i64 (k_ + 1)) r2.2.1 r2.2.2.1 r2.2.2.2 o20 (o3 ++ ([r2.1] : List (Int × Int × Int × Int))) o7 D
else none
else
bif decide (o7.length + List.length ([(some (D.length, 0, o3.length) : Hnd)] : List Hnd) <= maxN) then
zH.L1 N n1 keys n_ (IntKind.wrap .i64 (i + 1)) c0 c1 c2 o20 (o7 ++ ([(some (D.length, 0, o3.length) : Hnd)] : List Hnd)) (D ++ [HRow.row 8 zAJ o3])
else none := by kernel_rfl
theorem zH.H_eq (N : Nat) (c : (List Int) × Int × Int) (keys : Int) (D : List HRow) : zH.H N (c, keys) D =
bindO (zG.F N (c, 4)) fun r1 =>
zH.L1 N N keys (IntKind.wrap .i64 (1 + r1.1)) 0 r1.2.1 r1.2.2.1 r1.2.2.2 keys ([] : List Hnd) D := by kernel_rfl
def zp.c1 : XCode := .seq (.seq (rG [mv 14 6, op 15 (.bin .gtr) [.slot 14, cI 0]]) (.cond (.slot 15) (.skip) (.exit 0))) (.seq (.block 1 (.seq (rG [mv 18 0, fA 19 1 5, lN 20 19 2, o1 21 .len 20, ow 22 (.call ⟨33, [.box 0 3, .val false 1], no 4, [.val false 1], ims 4, false⟩) (sl [18, 21]) [0] [0], mv 7 22]) (.seq (rG [mv 23 0, mv 24 1, ow 25 (.call ⟨33, [.box 0 3, .val false 1], no 4, [.val false 1], ims 4, false⟩) (sl [23, 24]) [0] [0], mv 8 25]) (.seq (rG [fA 26 1 5, lN 27 26 2, o1 28 .len 27, op 29 (.bin .gtr) [.slot 28, cI 1]]) (.cond (.slot 29) (.region true [fA 30 1 5, lN 31 30 2, mv 32 7, o2 33 (.indexAddr (.hnd zAJ)) 31 32, ⟨some 34, .load false 1, [.slot 33], [4, 100], [], none, false, .take 4 8 0⟩, mv 35 8, mv 36 0, op 37 (.buildSlice true 3 2 (.int .i64) 3 [(0, 1), (1, 1), (2, 1)] [cZ]) [cI 4, cI 5, cI 3], ow 38 (.call ⟨46, [.box 0 3, .val false 1], no 4, [.val false 1], ims 4, false⟩) (sl [36, 37]) [0] [0], mv 39 0, fA 40 1 5, lN 41 40 2, o1 42 .len 41, op 43 (.bin .sub) [.slot 42, cI 1], ow 44 (.call ⟨33, [.box 0 3, .val false 1], no 4, [.val false 1], ims 4, false⟩) (sl [39, 43]) [0] [0], op 45 (.bin .add) [cI 1, .slot 44], o2 46 (.build [cZ, cZ, cZ, cZ] [(0, 1), (3, 1)]) 38 45, ow 47 (.indexAddr zAJ) (sl [34, 35]) [4] [], sT 4 47 46 4]) (.skip)))))) (rG [mv 16 6, op 17 (.bin .sub) [.slot 16, cI 1], mv 6 17]))
def zp.c2 : XCode := .seq (rG [lU 48 2 5 2, sT 2 4 48 1]) (.ret)
def zp.x : XFunc := { nslots := 49, nobj := 5, pars := [.box 0 3, .val false 1], rowsIn := no 4, rets := [.var 4 true 2], outs := iF 5, fresh := false, arg := .pair (.pair (.list (.int .u8)) T3_32) (.int .i64), ret := .pair (.pair (.int .i64) (.list (.hnd zAJ))) (.pair (.list (.int .u8)) T3_32), body := .seq (rG [ow 4 (.alloc 1 [cZ, .nil]) [] [1] [1]]) (.seq (rG [mv 9 0, mv 10 1, ow 11 (.callH false ⟨421, [.box 0 3, .val false 1], no 4, [.val true 2], ims 5, false⟩) (sl [9, 10]) [0, 100] [0, 100], ow 5 (.alloc 2 [cZ, .nil]) [] [2] [2], sT 2 5 11 2]) (.seq (.seq (rG [mv 12 0, ow 13 (.call ⟨33, [.box 0 3, .val false 1], no 4, [.val false 1], ims 4, false⟩) [.slot 12, cI 6] [0] [0], mv 6 13]) (.block 0 (.loop [.hput 4, .keep [0, 1, 4, 5, 6], .drop 3, .drop 4, .norm] (zp.c1)))) (zp.c2))), hp := true }
def zp.env (N : Nat) : Env := envOf (tbl [(33, zG.fs N), (46, zq.fs N), (421, zH.fs N)] noFS)
def zp.H (N : Nat) (x : ((List Int) × Int × Int) × Int) (D : List HRow) : Option D9_32 := XFunc.runH zp.x (zp.env N) N x D
def zp.fs (N : Nat) : FS := { arg := zp.x.arg, ret := zp.x.ret, fresh := false, F := fun _ => none, hp := true, H := zp.H N }
def zp.k2 (N : Nat) : Ex -> S -> Option D9_32 := seqK (fun s => XCode.runK (zp.env N) N (zp.c2) s (XFunc.endKH zp.x)) (XFunc.endKH zp.x)
def zp.k1 (N : Nat) : Ex -> S -> Option D9_32 := zAh 0 (zp.k2 N)
def zp.L1 (N : Nat) (n1 : Nat) (keys : Int) (n_ : Int) (c0 : List Int) (c1 : Int) (c2 : Int) (o20 : Int) (o21 : List Hnd) (D : List HRow) : Option D9_32 := loopK [.hput 4, .keep [0, 1, 4, 5, 6], .drop 3, .drop 4, .norm] (fun s k => XCode.runK (zp.env N) N zp.c1 s k) n1
 { t := jK 49 [(0, .one (.ptr 0 0 0)), (1, .one (.int .i64 keys)), (4, .one (.ptr 1 0 0)), (5, .one (.ptr 2 0 0)), (6, .one (.int .i64 n_))], h := [.box 0 true [.sl false (.int .u8) c0, .int .i64 c1, .int .i64 c2], .box 0 false [cZ, .nil], .box 0 false [.int .i64 o20, .sl false (.hnd zAJ) o21], .absent 0, .absent 0], d := D }
 (zp.k1 N)
theorem zp.L1_eq (N : Nat) (n1 : Nat) (keys : Int) (n_ : Int) (c0 : List Int) (c1 : Int) (c2 : Int) (o20 : Int) (o21 : List Hnd) (D : List HRow) : zp.L1 N (n1 + 1) keys n_ c0 c1 c2 o20 o21 D =
bif decide (n_ > 0) then
bindO (zG.F N ((c0, (c1, c2)), (o21.length : Int))) fun r3 =>
bindO (zG.F N (r3.2, keys)) fun r4 =>
bif decide ((o21.length : Int) > 1) then
bif zu r3.1 (o21.length) then
bif hfull D 8 zAJ (nth (none : Hnd) o21 r3.1) then
bindO (zq.F N (r4.2, ([4, 5, 3] : List Int))) fun r5 =>
bindO (zG.F N (r5.2, IntKind.wrap .i64 ((o21.length : Int) - 1))) fun r6 =>
bif zu r4.1 (List.length (hcut D zAJ (nth (none : Hnd) o21 r3.1))) then
zp.L1 N n1 keys (IntKind.wrap .i64 (n_ - 1)) r6.2.1 r6.2.2.1 r6.2.2.2 o20 o21 (hput (hgone D (nth (none : Hnd) o21 r3.1)) (nth (none : Hnd) o21 r3.1) 8 zAJ (List.set (hcut D zAJ (nth (none : Hnd) o21 r3.1)) (Int.toNat r4.1) (r5.1, (0, (0, IntKind.wrap .i64 (1 + r6.1))))))
else none
else none
else none
else
zp.L1 N n1 keys (IntKind.wrap .i64 (n_ - 1)) r4.2.1 r4.2.2.1 r4.2.2.2 o20 o21 D
else
some (((o20, o21), (c0, (c1, c2))), D) := by kernel_rfl
theorem zp.H_eq (N : Nat) (c : (List Int) × Int × Int) (keys : Int) (D : List HRow) : zp.H N (c, keys) D =
bindO (zH.H N (c, keys) (hhide D)) fun r1 =>
bindO (zG.F N (r1.1.2, 6)) fun r2 =>
zp.L1 N N keys r2.1 r2.2.1 r2.2.2.1 r2.2.2.2 r1.1.1.1 r1.1.1.2 (zBf D r1.2) := by kernel_rfl
def yS.x : XFunc := { nslots := 12, nobj := 2, pars := [.val false 1, .val false 1, .val false 1], rowsIn := no 3, rets := [.var 6 true 2], outs := iF 2, fresh := false, arg := .pair (.list (.int .u8)) T3_32, ret := .pair (.int .i64) (.list (.hnd zAJ)), body := .seq (rG [ow 6 (.alloc 0 [cZ, .nil]) [] [0] [0]]) (.seq (rG [mv 7 0, mv 8 1, ow 9 (.call ⟨237, vs 2, no 2, [.box 1 3], ims 3, false⟩) (sl [7, 8]) [1] [1], mv 10 2, ow 11 (.callH false ⟨151, [.box 1 3, .val false 1], no 4, [.val true 2], ims 5, false⟩) (sl [9, 10]) [1, 100] [1, 100], sT 2 6 11 0]) (.ret)), hp := true }
def yS.env (N : Nat) : Env := envOf (tbl [(151, zp.fs N), (237, yT.fs N)] noFS)
def yS.H (N : Nat) (x : (List Int) × Int × Int) (D : List HRow) : Option ((Int × List Hnd) × List HRow) := XFunc.runH yS.x (yS.env N) N x D
def yS.fs (N : Nat) : FS := { arg := yS.x.arg, ret := yS.x.ret, fresh := false, F := fun _ => none, hp := true, H := yS.H N }
theorem yS.H_eq (N : Nat) (code : List Int) (place : Int) (keys : Int) (D : List HRow) : yS.H N (code, place, keys) D =
bindO (yT.F N (code, place)) fun r1 =>
bindO (zp.H N (r1, keys) (hhide D)) fun r2 =>
some (r2.1.1, zBf D r2.2) := by kernel_rfl
def ym.x : XFunc := { nslots := 6, nobj := 1, pars := [.val false 1], rowsIn := [none], rets := [.tmp 2 false 1], outs := [.imm], fresh := false, arg := .list (.int .u8), ret := .list T6_32, body := .seq (rG [op 2 .move [.const (.one (.nil))]]) (.seq (rG [mv 3 0, ow 4 (.call ⟨237, vs 2, no 2, [.box 0 3], ims 3, false⟩) [.slot 3, cI 6] [0] [0], ow 5 (.call ⟨159, [.box 0 3], no 3, [.val false 1], ims 4, false⟩) [.slot 4] [0] [0], mv 2 5]) (.ret)) }
def ym.env (N : Nat) : Env := envOf (tbl [(237, yT.fs N), (159, z1.fs N)] noFS)
def ym.F (N : Nat) (x : List Int) : Option zBl := XFunc.run ym.x (ym.env N) N x
def ym.fs (N : Nat) : FS := { arg := ym.x.arg, ret := ym.x.ret, fresh := false, F := ym.F N }
theorem ym.F_eq (N : Nat) (code : List Int) : ym.F N code =
bindO (yT.F N (code, 6)) fun r1 =>
bindO (z1.F N r1) fun r2 =>
some r2.1 := by kernel_rfl
def yo.x : XFunc := { nslots := 17, nobj := 3, pars := [.val true 2, .val false 1], rowsIn := no 3, rets := [.var 4 true 7, .tmp 5 false 1], outs := iF 8, fresh := true, arg := .pair (.pair (.int .i64) (.list (.list zAJ))) (.list (.list T6_32)), ret := .pair T2_32 (.bool), body := .seq (rG [ow 2 (.box 0) [.slot 0] [0] [0], ow 4 (.alloc 1 [cZ, .nil, .nil, cZ, .nil, cZ, .bool false]) [] [1] [1], op 5 .move [cB false]]) (.seq (rG [lU 7 2 2 0, o1 8 (.call ⟨161, [.val true 2], no 2, [.val true 2], ims 2, true⟩) 7, mv 9 1, o1 10 (.call ⟨162, vs 1, no 1, [.val false 1], ims 1, true⟩) 9, o2 11 (.build [cZ, .nil, .nil, cZ, .nil, cZ, .bool false] [(0, 2), (2, 1)]) 8 10, ow 6 (.alloc 2 [cZ, .nil, .nil, cZ, .nil, cZ, .bool false]) [] [2] [2], sT 7 6 11 2]) (.seq (.seq (rG [lU 12 7 6 2, o1 13 (.call ⟨167, [.val true 7], no 7, [.val false 1], ims 1, true⟩) 12, o1 14 .not 13]) (.cond (.slot 14) (.seq (rG [op 15 (.build [cZ, .nil, .nil, cZ, .nil, cZ, .bool false] []) [], sT 7 4 15 1, op 5 .move [cB false]]) (.ret)) (.skip))) (.seq (rG [lU 16 7 6 2, sT 7 4 16 1, op 5 .move [cB true]]) (.ret)))) }
def yo.env (N : Nat) : Env := envOf (tbl [(167, zF.fs N), (161, zP.fs N), (162, zN.fs N)] noFS)
def yo.F (N : Nat) (x : (Int × List zBm) × List zBl) : Option (D10_32 × Bool) := XFunc.run yo.x (yo.env N) N x
def yo.fs (N : Nat) : FS := { arg := yo.x.arg, ret := yo.x.ret, fresh := true, F := yo.F N }
theorem yo.F_eq (N : Nat) (m : Int × List zBm) (macros : List zBl) : yo.F N (m, macros) =
bindO (zP.F N m) fun r1 =>
bindO (zN.F N macros) fun r2 =>
bindO (zF.F N (r1, (r2, (0, (([] : List (Int × Int × Int × Int × Int)), (0, false)))))) fun r3 =>
bif !r3 then
some (((0, ([] : List zBm)), (([] : List zBl), (0, (([] : List (Int × Int × Int × Int × Int)), (0, false))))), false)
else
some ((r1, (r2, (0, (([] : List (Int × Int × Int × Int × Int)), (0, false))))), true) := by kernel_rfl
def yW.x : XFunc := { nslots := 6, nobj := 2, pars := [.val false 1], rowsIn := [none], rets := [.var 2 true 3], outs := iF 3, fresh := true, arg := .list (.int .u8), ret := .pair (.int .i64) T3_32, body := .seq (rG [ow 2 (.alloc 0 [cZ, cZ, cZ]) [] [0] [0]]) (.seq (rG [mv 3 0, ow 4 (.call ⟨237, vs 2, no 2, [.box 1 3], ims 3, false⟩) [.slot 3, cI 9] [1] [1], ow 5 (.call ⟨169, [.box 1 3], no 3, [.val true 3], ims 6, false⟩) [.slot 4] [1] [1], sT 3 2 5 0]) (.ret)) }
def yW.env (N : Nat) : Env := envOf (tbl [(169, yl.fs N), (237, yT.fs N)] noFS)
def yW.F (N : Nat) (x : List Int) : Option (Int × Int × Int) := XFunc.run yW.x (yW.env N) N x
def yW.fs (N : Nat) : FS := { arg := yW.x.arg, ret := yW.x.ret, fresh := true, F := yW.F N }
theorem yW.F_eq (N : Nat) (code : List Int) : yW.F N code =
bindO (yT.F N (code, 9)) fun r1 =>
bindO (yl.F N r1) fun r2 =>
some r2.1 := by kernel_rfl
def ya.x : XFunc := { nslots := 16, nobj := 4, pars := [.val true 7, .val true 3], rowsIn := no 10, rets := [.var 4 true 15, .tmp 5 false 1], outs := iF 16, fresh := true, arg := .pair T2_32 T6_32, ret := .pair (.pair T2_32 (.pair T6_32 (.pair (.list T4_32) zAJ))) (.bool), body := .seq (rG [ow 2 (.box 0) [.slot 0] [0] [0], ow 3 (.box 1) [.slot 1] [1] [1], ow 4 (.alloc 2 [cZ, .nil, .nil, cZ, .nil, cZ, .bool false, cZ, cZ, cZ, .nil, cZ, cZ, cZ, cZ]) [] [2] [2], op 5 .move [cB false]]) (.seq (.region true [lU 7 7 2 0, o1 8 (.call ⟨171, [.val true 7], no 7, [.val true 7], ims 7, true⟩) 7, lU 9 3 3 1, o2 10 (.build [cZ, .nil, .nil, cZ, .nil, cZ, .bool false, cZ, cZ, cZ, .nil, cZ, cZ, cZ, cZ] [(0, 7), (7, 3)]) 8 9, ow 6 (.alloc 3 [cZ, .nil, .nil, cZ, .nil, cZ, .bool false, cZ, cZ, cZ, .nil, cZ, cZ, cZ, cZ]) [] [3] [3], sT 15 6 10 3]) (.seq (.seq (rG [lU 11 15 6 3, o1 12 (.call ⟨174, [.val true 15], no 15, [.val false 1], ims 1, true⟩) 11, o1 13 .not 12]) (.cond (.slot 13) (.seq (rG [op 14 (.build [cZ, .nil, .nil, cZ, .nil, cZ, .bool false, cZ, cZ, cZ, .nil, cZ, cZ, cZ, cZ] []) [], sT 15 4 14 2, op 5 .move [cB false]]) (.ret)) (.skip))) (.seq (rG [lU 15 15 6 3, sT 15 4 15 2, op 5 .move [cB true]]) (.ret)))) }
def ya.env (N : Nat) : Env := envOf (tbl [(174, yJ.fs N), (171, zk.fs N)] noFS)
def ya.F (N : Nat) (x : D10_32 × Int × Int × Int) : Option ((D10_32 × (Int × Int × Int) × (List (Int × Int × Bool)) × Int × Int × Int × Int) × Bool) := XFunc.run ya.x (ya.env N) N x
def ya.fs (N : Nat) : FS := { arg := ya.x.arg, ret := ya.x.ret, fresh := true, F := ya.F N }
theorem ya.F_eq (N : Nat) (e : D10_32) (t : Int × Int × Int) : ya.F N (e, t) =
bindO (zk.F N e) fun r1 =>
bindO (yJ.F N (r1, (t, (([] : List (Int × Int × Bool)), (0, (0, (0, 0))))))) fun r2 =>
bif !r2 then
some ((((0, ([] : List zBm)), (([] : List zBl), (0, (([] : List (Int × Int × Int × Int × Int)), (0, false))))), ((0, (0, 0)), (([] : List (Int × Int × Bool)), (0, (0, (0, 0)))))), false)
else
some ((r1, (t, (([] : List (Int × Int × Bool)), (0, (0, (0, 0)))))), true) := by kernel_rfl
def yX.x : XFunc := { nslots := 20, nobj := 1, pars := [.val false 1, .val false 1, .val false 1, .val false 1], rowsIn := no 4, rets := [.tmp 8 false 1], outs := [.imm], fresh := false, arg := .pair (.list (.int .u8)) T6_32, ret := .list T4_32, body := .seq (rG [op 8 .move [.const (.one (.nil))]]) (.seq (rG [mv 10 0, mv 11 1, ow 12 (.call ⟨237, vs 2, no 2, [.box 0 3], ims 3, false⟩) (sl [10, 11]) [0] [0], mv 9 12]) (.seq (rG [mv 13 9, mv 14 2, mv 15 3, mv 16 9, ow 17 (.call ⟨33, [.box 0 3, .val false 1], no 4, [.val false 1], ims 4, false⟩) [.slot 16, cI 9] [0] [0], op 18 (.bin .add) [cI 1, .slot 17], ow 19 (.call ⟨176, [.box 0 3, .val false 1, .val false 1, .val false 1], no 6, [.val false 1], ims 4, false⟩) (sl [13, 14, 15, 18]) [0] [0], mv 8 19]) (.ret))) }
def yX.env (N : Nat) : Env := envOf (tbl [(33, zG.fs N), (237, yT.fs N), (176, z3.fs N)] noFS)
def yX.F (N : Nat) (x : (List Int) × Int × Int × Int) : Option (List (Int × Int × Bool)) := XFunc.run yX.x (yX.env N) N x
def yX.fs (N : Nat) : FS := { arg := yX.x.arg, ret := yX.x.ret, fresh := false, F := yX.F N }
theorem yX.F_eq (N : Nat) (code : List Int) (place : Int) (keys : Int) (most : Int) : yX.F N (code, place, keys, most) =
bindO (yT.F N (code, place)) fun r1 =>
bindO (zG.F N (r1, 9)) fun r2 =>
bindO (z3.F N (r2.2, (keys, (most, IntKind.wrap .i64 (1 + r2.1))))) fun r3 =>
some r3.1 := by kernel_rfl
def y3.x : XFunc := { nslots := 27, nobj := 3, pars := [.val true 7, .val false 1], rowsIn := no 8, rets := [.var 4 true 7, .tmp 5 false 1, .tmp 6 false 1], outs := iF 9, fresh := false, arg := .pair T2_32 (.int .i64), ret := .pair T2_32 (.pair (.list T5_32) (.bool)), body := .seq (rG [ow 2 (.box 0) [.slot 0] [0] [0], ow 4 (.alloc 1 [cZ, .nil, .nil, cZ, .nil, cZ, .bool false]) [] [1] [1], op 5 .move [.const (.one (.nil))], op 6 .move [cB false]]) (.seq (.seq (rG [lU 9 7 2 0, o1 10 (.call ⟨167, [.val true 7], no 7, [.val false 1], ims 1, true⟩) 9, o1 11 .not 10, sX 12 [.slot 11], gX 13 (.load true 7) [.slot 2] [0] [] 12 false, gX 14 .move [.slot 1] [] [] 12 false, ⟨some 15, .call ⟨179, [.val true 7, .val false 1], no 8, [.val false 1], ims 1, true⟩, (sl [13, 14]), [], [], some (12, false), false, .none⟩, gX 16 (.bin .lss) [.slot 15, cI 0] [] [] 12 false, op 17 .pick [.slot 12, cB true, .slot 16]]) (.cond (.slot 17) (.seq (rG [op 18 (.build [cZ, .nil, .nil, cZ, .nil, cZ, .bool false] []) [], sT 7 4 18 1, op 5 .move [.const (.one (.nil))], op 6 .move [cB false]]) (.ret)) (.skip))) (.seq (rG [lU 20 7 2 0, mv 21 1, o2 22 (.call ⟨208, [.val true 7, .val false 1], no 8, [.val true 7, .val false 1], ims 8, false⟩) 20 21, mv 19 22, eX 23 0 19, eX 24 1 19, ow 7 (.alloc 2 [cZ, .nil, .nil, cZ, .nil, cZ, .bool false]) [] [2] [2], sT 7 7 23 2, mv 8 24]) (.seq (rG [lU 25 7 7 2, mv 26 8, sT 7 4 25 1, mv 5 26, op 6 .move [cB true]]) (.ret)))) }
def y3.env (N : Nat) : Env := envOf (tbl [(179, zm.fs N), (167, zF.fs N), (208, yp.fs N)] noFS)
def y3.F (N : Nat) (x : D10_32 × Int) : Option (D10_32 × (List (Int × List Int)) × Bool) := XFunc.run y3.x (y3.env N) N x
def y3.fs (N : Nat) : FS := { arg := y3.x.arg, ret := y3.x.ret, fresh := false, F := y3.F N }
theorem y3.F_eq (N : Nat) (e : D10_32) (key : Int) : y3.F N (e, key) =
bindO (zF.F N e) fun r1 =>
bif !r1 then
some (((0, ([] : List zBm)), (([] : List zBl), (0, (([] : List (Int × Int × Int × Int × Int)), (0, false))))), (([] : List (Int × List Int)), false))
else
bindO (zm.F N (e, key)) fun r2 =>
bif decide (r2 < 0) then
some (((0, ([] : List zBm)), (([] : List zBl), (0, (([] : List (Int × Int × Int × Int × Int)), (0, false))))), (([] : List (Int × List Int)), false))
else
bindO (yp.F N (e, key)) fun r3 =>
some (r3.1, (r3.2, true)) := by kernel_rfl
def zAK.x : XFunc := { nslots := 41, nobj := 3, pars := [.val true 7, .val false 1, .val false 1], rowsIn := no 9, rets := [.var 6 true 7, .tmp 7 false 1, .tmp 8 false 1], outs := iF 9, fresh := false, arg := .pair T2_32 (.pair (.int .i64) (.bool)), ret := .pair T2_32 (.pair (.list T5_32) (.bool)), body := .seq (rG [ow 3 (.box 0) [.slot 0] [0] [0], ow 6 (.alloc 1 [cZ, .nil, .nil, cZ, .nil, cZ, .bool false]) [] [1] [1], op 7 .move [.const (.one (.nil))], op 8 .move [cB false]]) (.seq (.seq (rG [lU 11 7 3 0, o1 12 (.call ⟨167, [.val true 7], no 7, [.val false 1], ims 1, true⟩) 11, o1 13 .not 12, sX 14 [.slot 13], gX 15 .move [.slot 1] [] [] 14 false, gX 16 (.bin .lss) [.slot 15, cI 0] [] [] 14 false, op 17 .pick [.slot 14, cB true, .slot 16], sX 18 [.slot 17], gX 19 .move [.slot 1] [] [] 18 false, gX 20 (.fieldAddr 0) [.slot 3] [] [] 18 false, gX 21 (.fieldAddr 0) [.slot 20] [] [] 18 false, gX 22 (.load false 1) [.slot 21] [0] [] 18 false, gX 23 (.bin .geq) (sl [19, 22]) [] [] 18 false, op 24 .pick [.slot 18, cB true, .slot 23], sX 25 [.slot 24], gX 26 (.load true 7) [.slot 3] [0] [] 25 false, gX 27 .move [.slot 1] [] [] 25 false, ⟨some 28, .call ⟨179, [.val true 7, .val false 1], no 8, [.val false 1], ims 1, true⟩, (sl [26, 27]), [], [], some (25, false), false, .none⟩, gX 29 (.bin .geq) [.slot 28, cI 0] [] [] 25 false, op 30 .pick [.slot 25, cB true, .slot 29]]) (.cond (.slot 30) (.seq (rG [op 31 (.build [cZ, .nil, .nil, cZ, .nil, cZ, .bool false] []) [], sT 7 6 31 1, op 7 .move [.const (.one (.nil))], op 8 .move [cB false]]) (.ret)) (.skip))) (.seq (rG [lU 33 7 3 0, mv 34 1, mv 35 2, op 36 (.call ⟨219, [.val true 7, .val false 1, .val false 1], no 9, [.val true 7, .val false 1], ims 8, false⟩) (sl [33, 34, 35]), mv 32 36, eX 37 0 32, eX 38 1 32, ow 9 (.alloc 2 [cZ, .nil, .nil, cZ, .nil, cZ, .bool false]) [] [2] [2], sT 7 9 37 2, mv 10 38]) (.seq (rG [lU 39 7 9 2, mv 40 10, sT 7 6 39 1, mv 7 40, op 8 .move [cB true]]) (.ret)))) }
def zAK.env (N : Nat) : Env := envOf (tbl [(179, zm.fs N), (167, zF.fs N), (219, yu.fs N)] noFS)
def zAK.F (N : Nat) (x : D10_32 × Int × Bool) : Option (D10_32 × (List (Int × List Int)) × Bool) := XFunc.run zAK.x (zAK.env N) N x
def zAK.fs (N : Nat) : FS := { arg := zAK.x.arg, ret := zAK.x.ret, fresh := false, F := zAK.F N }
theorem zAK.F_eq (N : Nat) (e : D10_32) (key : Int) (hold : Bool) : zAK.F N (e, key, hold) =
bindO (zF.F N e) fun r1 =>
bif !r1 then
some (((0, ([] : List zBm)), (([] : List zBl), (0, (([] : List (Int × Int × Int × Int × Int)), (0, false))))), (([] : List (Int × List Int)), false))
else
bif decide (key < 0) then
some (((0, ([] : List zBm)), (([] : List zBl), (0, (([] : List (Int × Int × Int × Int × Int)), (0, false))))), (([] : List (Int × List Int)), false))
else
bif decide (key >= e.1.1) then
some (((0, ([] : List zBm)), (([] : List zBl), (0, (([] : List (Int × Int × Int × Int × Int)), (0, false))))), (([] : List (Int × List Int)), false))
else
bindO (zm.F N (e, key)) fun r2 =>
bif decide (r2 >= 0) then
some (((0, ([] : List zBm)), (([] : List zBl), (0, (([] : List (Int × Int × Int × Int × Int)), (0, false))))), (([] : List (Int × List Int)), false))
else
bindO (yu.F N (e, (key, hold))) fun r3 =>
some (r3.1, (r3.2, true)) := by kernel_rfl
def laws_FnPlain.c1 : XCode := .seq (.seq (rG [mv 32 5, fA 33 0 3, lN 34 33 0, o2 35 (.bin .lss) 32 34]) (.cond (.slot 35) (.skip) (.exit 2))) (.seq (.block 3 (.tak 0 1 4 3 8 (.region true [fA 38 1 3, lN 39 38 0, mv 40 4, o2 41 (.indexAddr (.hnd zAJ)) 39 40, ⟨some 42, .load false 1, [.slot 41], [3, 100], [], none, false, .again 3 0⟩, mv 43 5, fA 44 1 3, lN 45 44 0, mv 46 4, o2 47 (.indexAddr (.hnd zAJ)) 45 46, ⟨some 48, .load false 1, [.slot 47], [3, 100], [], none, false, .again 3 0⟩, mv 49 5, ow 50 (.indexAddr zAJ) (sl [48, 49]) [3] [], lU 51 4 50 3, o1 52 (.call ⟨158, [.val true 4], no 4, [.val true 4], ims 4, true⟩) 51, ow 53 (.indexAddr zAJ) (sl [42, 43]) [3] [], sT 4 53 52 3]))) (rG [mv 36 5, op 37 (.bin .add) [.slot 36, cI 1], mv 5 37]))
def laws_FnPlain.c2 : XCode := rG [mv 30 4, op 31 (.bin .add) [.slot 30, cI 1], mv 4 31]
def laws_FnPlain.c3 : XCode := .seq (.seq (rG [mv 25 4, fA 26 1 3, lN 27 26 0, o1 28 .len 27, o2 29 (.bin .lss) 25 28]) (.cond (.slot 29) (.skip) (.exit 0))) (.seq (.block 1 (.seq (rG [op 5 .move [cI 0]]) (.block 2 (.loop [.hput 3, .keep [0, 3, 4, 5], .drop 1, .drop 2, .drop 3, .drop 4, .drop 5, .drop 6, .drop 7, .drop 8, .drop 9, .drop 10, .norm] (laws_FnPlain.c1))))) (laws_FnPlain.c2))
def laws_FnPlain.c4 : XCode := .seq (.seq (rG [mv 125 20, mv 126 18, o1 127 .len 126, o2 128 (.bin .lss) 125 127]) (.cond (.slot 128) (.skip) (.exit 6))) (.seq (.block 7 (.region true [mv 131 15, mv 132 10, mv 133 16, o2 134 (.indexAddr T4_32) 132 133, fA 135 0 134, o1 136 (.load false 1) 135, mv 137 18, mv 138 20, o2 139 (.indexAddr T5_32) 137 138, o1 140 (.load true 2) 139, o2 141 (.build [cZ, cZ, .nil] [(0, 1), (1, 2)]) 136 140, ow 142 (.buildSlice false 10 13 (.pair (.int .i64) T5_32) 1 [(0, 3)] [cZ, cZ, .nil]) [.slot 141] [10] [10], ow 143 (.append false 8 13 (.pair (.int .i64) T5_32)) (sl [131, 142]) [8, 10] [8], mv 15 143])) (rG [mv 129 20, op 130 (.bin .add) [.slot 129, cI 1], mv 20 130]))
def laws_FnPlain.c5 : XCode := rG [lU 144 7 17 9, sT 7 6 144 5]
def laws_FnPlain.c6 : XCode := rG [mv 94 16, op 95 (.bin .add) [.slot 94, cI 1], mv 16 95]
def laws_FnPlain.c7 : XCode := .seq (.seq (rG [mv 90 16, mv 91 10, o1 92 .len 91, o2 93 (.bin .lss) 90 92]) (.cond (.slot 93) (.skip) (.exit 4))) (.seq (.block 5 (.seq (.region true [lU 97 7 6 5, mv 98 10, mv 99 16, o2 100 (.indexAddr T4_32) 98 99, fA 101 1 100, o1 102 (.load false 1) 101, o2 103 (.call ⟨223, [.val true 7, .val false 1], no 8, [.val true 7, .val false 1, .val false 1], ims 9, false⟩) 97 102, mv 96 103, eX 104 0 96, eX 105 1 96, eX 106 2 96, ow 17 (.alloc 9 [cZ, .nil, .nil, cZ, .nil, cZ, .bool false]) [] [9] [9], sT 7 17 104 9, mv 18 105, mv 19 106]) (.seq (.seq (rG [mv 107 10, mv 108 16, o2 109 (.indexAddr T4_32) 107 108, fA 110 2 109, o1 111 (.load false 1) 110]) (.cond (.slot 111) (.region true [lU 113 7 6 5, mv 114 10, mv 115 16, o2 116 (.indexAddr T4_32) 114 115, fA 117 1 116, o1 118 (.load false 1) 117, op 119 (.call ⟨224, [.val true 7, .val false 1, .val false 1], no 9, [.val true 7, .val false 1, .val false 1], ims 9, false⟩) [.slot 113, .slot 118, cB false], mv 112 119, eX 120 0 112, eX 121 1 112, eX 122 2 112, sT 7 17 120 9, mv 18 121, mv 19 122]) (.skip))) (.seq (.seq (rG [mv 123 19, o1 124 .not 123]) (.cond (.slot 124) (.seq (rG [op 2 .move [cB false]]) (.ret)) (.skip))) (.seq (.seq (rG [op 20 .move [cI 0]]) (.block 6 (.loop [.keep [6, 7, 9, 10, 12, 13, 14, 15, 16, 17, 18, 20], .drop 0, .drop 1, .drop 2, .drop 3, .drop 4, .drop 6, .drop 10, .weak, .norm] (laws_FnPlain.c4)))) (laws_FnPlain.c5)))))) (laws_FnPlain.c6))
def laws_FnPlain.c8 : XCode := .seq (rG [mv 145 7, sX 146 [.slot 145], gX 147 .move [.slot 9] [] [] 146 true, op 148 .pick [.slot 146, .slot 147, cB false], sX 149 [.slot 148], gX 150 .move [.slot 14] [] [] 149 true, op 151 .pick [.slot 149, .slot 150, cB false], sX 152 [.slot 151], gX 153 .move [.slot 13] [] [] 152 true, gX 154 .move [.slot 15] [] [] 152 true, ⟨some 155, .call ⟨225, vs 2, no 2, [.val false 1], ims 1, true⟩, (sl [153, 154]), [8], [], some (152, true), false, .none⟩, op 156 .pick [.slot 152, .slot 155, cB false], sX 157 [.slot 156], gX 158 (.fieldAddr 10) [.slot 12] [] [] 157 true, gX 159 (.load false 1) [.slot 158] [7] [] 157 true, gX 160 .len [.slot 159] [] [] 157 true, gX 161 (.bin .eql) [.slot 160, cI 0] [] [] 157 true, op 162 .pick [.slot 157, .slot 161, cB false], sX 163 [.slot 162], gX 164 (.fieldAddr 0) [.slot 12] [] [] 163 true, gX 165 (.load true 7) [.slot 164] [7] [] 163 true, gX 166 (.load true 7) [.slot 6] [5] [] 163 true, ⟨some 167, .call ⟨228, [.val true 7, .val true 7], no 14, [.val false 1], ims 1, true⟩, (sl [165, 166]), [], [], some (163, true), false, .none⟩, op 168 .pick [.slot 163, .slot 167, cB false], mv 2 168]) (.ret)
def laws_FnPlain.c9 : XCode := .seq (.region true [lU 55 2 3 0, mv 56 0, o1 57 (.call ⟨160, vs 1, no 1, [.val false 1], ims 1, false⟩) 56, ow 58 (.buildSlice false 4 11 (.list T6_32) 1 [(0, 1)] [.nil]) [.slot 57] [4] [4], ow 59 (.call ⟨168, [.val true 2, .val false 1], no 3, [.val true 7, .val false 1], ims 8, true⟩) (sl [55, 58]) [4, 100] [], mv 54 59, eX 60 0 54, eX 61 1 54, ow 6 (.alloc 5 [cZ, .nil, .nil, cZ, .nil, cZ, .bool false]) [] [5] [5], sT 7 6 60 5, mv 7 61]) (.seq (.region true [lU 63 7 6 5, mv 64 0, o1 65 (.call ⟨170, vs 1, no 1, [.val true 3], ims 3, true⟩) 64, o2 66 (.call ⟨175, [.val true 7, .val true 3], no 10, [.val true 15, .val false 1], ims 16, true⟩) 63 65, mv 62 66, eX 67 0 62, eX 68 1 62, ow 8 (.alloc 6 [cZ, .nil, .nil, cZ, .nil, cZ, .bool false, cZ, cZ, cZ, .nil, cZ, cZ, cZ, cZ]) [] [6] [6], sT 15 8 67 6, mv 9 68]) (.seq (rG [mv 69 0, op 70 (.call ⟨177, vs 4, no 4, [.val false 1], ims 1, false⟩) [.slot 69, cI 41, cI 4, cI 12], mv 10 70]) (.seq (rG [op 11 .move [cI 0]]) (.seq (.seq (rG [mv 71 10, o1 72 .len 71, op 73 (.bin .gtr) [.slot 72, cI 0]]) (.cond (.slot 73) (rG [mv 74 10, mv 75 10, o1 76 .len 75, op 77 (.bin .sub) [.slot 76, cI 1], o2 78 (.indexAddr T4_32) 74 77, fA 79 0 78, o1 80 (.load false 1) 79, mv 11 80]) (.skip))) (.seq (rG [lU 82 15 8 6, mv 83 10, mv 84 11, op 85 (.call ⟨222, [.val true 15, .val false 1, .val false 1], no 17, [.val true 15, .val false 1, .val false 1], ims 17, false⟩) (sl [82, 83, 84]), mv 81 85, eX 86 0 81, eX 87 1 81, eX 88 2 81, ow 12 (.alloc 7 [cZ, .nil, .nil, cZ, .nil, cZ, .bool false, cZ, cZ, cZ, .nil, cZ, cZ, cZ, cZ]) [] [7] [7], sT 15 12 86 7, mv 13 87, mv 14 88]) (.seq (rG [ow 89 (.buildSlice false 8 13 (.pair (.int .i64) T5_32) 0 [] [cZ, cZ, .nil]) [] [8] [8], mv 15 89]) (.seq (.seq (rG [op 16 .move [cI 0]]) (.block 4 (.loop [.keep [6, 7, 9, 10, 12, 13, 14, 15, 16], .drop 0, .drop 1, .drop 2, .drop 3, .drop 4, .drop 6, .drop 9, .drop 10, .weak, .norm] (laws_FnPlain.c7)))) (laws_FnPlain.c8))))))))
def laws_FnPlain.x : XFunc := { nslots := 169, nobj := 11, pars := [.val false 1], rowsIn := [none], rets := [.tmp 2 false 1], outs := [.imm], fresh := true, arg := .list (.int .u8), ret := .bool, body := .seq (rG [op 2 .move [cB false]]) (.seq (.seq (rG [mv 21 0, o1 22 (.call ⟨31, vs 1, no 1, [.val false 1], ims 1, true⟩) 21]) (.cond (.slot 22) (.seq (rG [op 2 .move [cB true]]) (.ret)) (.skip))) (.seq (rG [mv 23 0, ow 24 (.callH false ⟨152, vs 3, no 3, [.val true 2], ims 2, false⟩) [.slot 23, cI 40, cI 4] [100] [100], ow 3 (.alloc 0 [cZ, .nil]) [] [0] [0], sT 2 3 24 0]) (.seq (.seq (rG [op 4 .move [cI 0]]) (.block 0 (.loop [.keep [0, 3, 4], .drop 1, .drop 2, .drop 3, .drop 4, .drop 5, .drop 6, .drop 7, .drop 8, .drop 9, .drop 10, .norm] (laws_FnPlain.c3)))) (laws_FnPlain.c9)))) }
def laws_FnPlain.env (N : Nat) : Env := envOf (tbl [(175, ya.fs N), (168, yo.fs N), (222, zQ.fs N), (224, zAK.fs N), (223, y3.fs N), (225, zh.fs N), (158, zAF.fs N), (31, zA0.fs N), (228, yY.fs N), (177, yX.fs N), (152, yS.fs N), (160, ym.fs N), (170, yW.fs N)] noFS)
def laws_FnPlain.F (N : Nat) (x : List Int) : Option Bool := XFunc.run laws_FnPlain.x (laws_FnPlain.env N) N x
def laws_FnPlain.fs (N : Nat) : FS := { arg := laws_FnPlain.x.arg, ret := laws_FnPlain.x.ret, fresh := true, F := laws_FnPlain.F N }
def laws_FnPlain.k2 (N : Nat) : Ex -> S -> Option Bool := seqK (fun s => XCode.runK (laws_FnPlain.env N) N (laws_FnPlain.c9) s (XFunc.endK laws_FnPlain.x)) (XFunc.endK laws_FnPlain.x)
def laws_FnPlain.k1 (N : Nat) : Ex -> S -> Option Bool := zAh 0 (laws_FnPlain.k2 N)
def laws_FnPlain.k6 (N : Nat) (n1 : Nat) : Ex -> S -> Option Bool := seqK (fun s => bindO (S.ghosts s [.keep [0, 3, 4], .drop 1, .drop 2, .drop 3, .drop 4, .drop 5, .drop 6, .drop 7, .drop 8, .drop 9, .drop 10, .norm]) fun s1 => loopK [.keep [0, 3, 4], .drop 1, .drop 2, .drop 3, .drop 4, .drop 5, .drop 6, .drop 7, .drop 8, .drop 9, .drop 10, .norm] (fun s k => XCode.runK (laws_FnPlain.env N) N laws_FnPlain.c3 s k) n1 s1 (laws_FnPlain.k1 N)) (laws_FnPlain.k1 N)
def laws_FnPlain.k5 (N : Nat) (n1 : Nat) : Ex -> S -> Option Bool := seqK (fun s => XCode.runK (laws_FnPlain.env N) N (laws_FnPlain.c2) s (laws_FnPlain.k6 N n1)) (laws_FnPlain.k6 N n1)
def laws_FnPlain.k4 (N : Nat) (n1 : Nat) : Ex -> S -> Option Bool := zAh 1 (laws_FnPlain.k5 N n1)
def laws_FnPlain.k3 (N : Nat) (n1 : Nat) : Ex -> S -> Option Bool := zAh 2 (laws_FnPlain.k4 N n1)
def laws_FnPlain.k8 (N : Nat) : Ex -> S -> Option Bool := seqK (fun s => XCode.runK (laws_FnPlain.env N) N (laws_FnPlain.c8) s (XFunc.endK laws_FnPlain.x)) (XFunc.endK laws_FnPlain.x)
def laws_FnPlain.k7 (N : Nat) : Ex -> S -> Option Bool := zAh 4 (laws_FnPlain.k8 N)
def laws_FnPlain.k13 (N : Nat) (n3 : Nat) : Ex -> S -> Option Bool := seqK (fun s => bindO (S.ghosts s [.keep [6, 7, 9, 10, 12, 13, 14, 15, 16], .drop 0, .drop 1, .drop 2, .drop 3, .drop 4, .drop 6, .drop 9, .drop 10, .weak, .norm]) fun s1 => loopK [.keep [6, 7, 9, 10, 12, 13, 14, 15, 16], .drop 0, .drop 1, .drop 2, .drop 3, .drop 4, .drop 6, .drop 9, .drop 10, .weak, .norm] (fun s k => XCode.runK (laws_FnPlain.env N) N laws_FnPlain.c7 s k) n3 s1 (laws_FnPlain.k7 N)) (laws_FnPlain.k7 N)
def laws_FnPlain.k12 (N : Nat) (n3 : Nat) : Ex -> S -> Option Bool := seqK (fun s => XCode.runK (laws_FnPlain.env N) N (laws_FnPlain.c6) s (laws_FnPlain.k13 N n3)) (laws_FnPlain.k13 N n3)
def laws_FnPlain.k11 (N : Nat) (n3 : Nat) : Ex -> S -> Option Bool := zAh 5 (laws_FnPlain.k12 N n3)
def laws_FnPlain.k10 (N : Nat) (n3 : Nat) : Ex -> S -> Option Bool := seqK (fun s => XCode.runK (laws_FnPlain.env N) N (laws_FnPlain.c5) s (laws_FnPlain.k11 N n3)) (laws_FnPlain.k11 N n3)
def laws_FnPlain.k9 (N : Nat) (n3 : Nat) : Ex -> S -> Option Bool := zAh 6 (laws_FnPlain.k10 N n3)
def laws_FnPlain.L1 (N : Nat) (n1 : Nat) (code : List Int) (i : Int) (o00 : Int) (o01 : List Hnd) (D : List HRow) : Option Bool := loopK [.keep [0, 3, 4], .drop 1, .drop 2, .drop 3, .drop 4, .drop 5, .drop 6, .drop 7, .drop 8, .drop 9, .drop 10, .norm] (fun s k => XCode.runK (laws_FnPlain.env N) N laws_FnPlain.c3 s k) n1
 { t := jK 169 [(0, .one (.sl false (.int .u8) code)), (3, .one (.ptr 0 0 0)), (4, .one (.int .i64 i))], h := [.box 0 false [.int .i64 o00, .sl false (.hnd zAJ) o01], .absent 0, .absent 0, .absent 0, .absent 0, .absent 0, .absent 0, .absent 0, .absent 0, .absent 0, .absent 0], d := D }
 (laws_FnPlain.k1 N)
def laws_FnPlain.L2 (N : Nat) (n1 : Nat) (n2 : Nat) (code : List Int) (i : Int) (k_ : Int) (o00 : Int) (o01 : List Hnd) (D : List HRow) : Option Bool := loopK [.hput 3, .keep [0, 3, 4, 5], .drop 1, .drop 2, .drop 3, .drop 4, .drop 5, .drop 6, .drop 7, .drop 8, .drop 9, .drop 10, .norm] (fun s k => XCode.runK (laws_FnPlain.env N) N laws_FnPlain.c1 s k) n2
 { t := jK 169 [(0, .one (.sl false (.int .u8) code)), (3, .one (.ptr 0 0 0)), (4, .one (.int .i64 i)), (5, .one (.int .i64 k_))], h := [.box 0 false [.int .i64 o00, .sl false (.hnd zAJ) o01], .absent 0, .absent 0, .absent 0, .absent 0, .absent 0, .absent 0, .absent 0, .absent 0, .absent 0, .absent 0], d := D }
 (laws_FnPlain.k3 N n1)
def laws_FnPlain.L3 (N : Nat) (n3 : Nat) (one : Bool) (two : Bool) (l_ : List (Int × Int × Bool)) (all : List (Int × Int × List Int)) (three : Bool) (i : Int) (o50 : Int) (o51 : List zBm) (o52 : List zBl) (o53 : Int) (o54 : List (Int × Int × Int × Int × Int)) (o55 : Int) (o56 : Bool) (o70 : Int) (o71 : List zBm) (o72 : List zBl) (o73 : Int) (o74 : List (Int × Int × Int × Int × Int)) (o75 : Int) (o76 : Bool) (o77 : Int) (o78 : Int) (o79 : Int) (o710 : List (Int × Int × Bool)) (o711 : Int) (o712 : Int) (o713 : Int) (o714 : Int) (o8 : List (Int × Int × List Int)) (D : List HRow) : Option Bool := loopK [.keep [6, 7, 9, 10, 12, 13, 14, 15, 16], .drop 0, .drop 1, .drop 2, .drop 3, .drop 4, .drop 6, .drop 9, .drop 10, .weak, .norm] (fun s k => XCode.runK (laws_FnPlain.env N) N laws_FnPlain.c7 s k) n3
 { t := jK 169 [(6, .one (.ptr 5 0 0)), (7, .one (.bool one)), (9, .one (.bool two)), (10, .one (.sl false T4_32 l_)), (12, .one (.ptr 7 0 0)), (13, .one (.sl false (.pair (.int .i64) T5_32) all)), (14, .one (.bool three)), (15, .one (.ref 8 0 .all)), (16, .one (.int .i64 i))], h := [.absent 0, .absent 0, .absent 0, .absent 0, .absent 0, .box 0 false [.int .i64 o50, .sl false (.list zAJ) o51, .sl false (.list T6_32) o52, .int .i64 o53, .sl false (.pair (.int .i64) zAJ) o54, .int .i64 o55, .bool o56], .absent 0, .box 0 false [.int .i64 o70, .sl false (.list zAJ) o71, .sl false (.list T6_32) o72, .int .i64 o73, .sl false (.pair (.int .i64) zAJ) o74, .int .i64 o75, .bool o76, .int .i64 o77, .int .i64 o78, .int .i64 o79, .sl false T4_32 o710, .int .i64 o711, .int .i64 o712, .int .i64 o713, .int .i64 o714], .row 0 false false 13 (.pair (.int .i64) T5_32) o8, .absent 0, .absent 0], d := D }
 (laws_FnPlain.k7 N)
def laws_FnPlain.L4 (N : Nat) (n3 : Nat) (n4 : Nat) (one : Bool) (two : Bool) (l_ : List (Int × Int × Bool)) (all : List (Int × Int × List Int)) (three : Bool) (i : Int) (reports : List (Int × List Int)) (k_ : Int) (o50 : Int) (o51 : List zBm) (o52 : List zBl) (o53 : Int) (o54 : List (Int × Int × Int × Int × Int)) (o55 : Int) (o56 : Bool) (o70 : Int) (o71 : List zBm) (o72 : List zBl) (o73 : Int) (o74 : List (Int × Int × Int × Int × Int)) (o75 : Int) (o76 : Bool) (o77 : Int) (o78 : Int) (o79 : Int) (o710 : List (Int × Int × Bool)) (o711 : Int) (o712 : Int) (o713 : Int) (o714 : Int) (o8 : List (Int × Int × List Int)) (o90 : Int) (o91 : List zBm) (o92 : List zBl) (o93 : Int) (o94 : List (Int × Int × Int × Int × Int)) (o95 : Int) (o96 : Bool) (D : List HRow) : Option Bool := loopK [.keep [6, 7, 9, 10, 12, 13, 14, 15, 16, 17, 18, 20], .drop 0, .drop 1, .drop 2, .drop 3, .drop 4, .drop 6, .drop 10, .weak, .norm] (fun s k => XCode.runK (laws_FnPlain.env N) N laws_FnPlain.c4 s k) n4
 { t := jK 169 [(6, .one (.ptr 5 0 0)), (7, .one (.bool one)), (9, .one (.bool two)), (10, .one (.sl false T4_32 l_)), (12, .one (.ptr 7 0 0)), (13, .one (.sl false (.pair (.int .i64) T5_32) all)), (14, .one (.bool three)), (15, .one (.ref 8 0 .all)), (16, .one (.int .i64 i)), (17, .one (.ptr 9 0 0)), (18, .one (.sl false T5_32 reports)), (20, .one (.int .i64 k_))], h := [.absent 0, .absent 0, .absent 0, .absent 0, .absent 0, .box 0 false [.int .i64 o50, .sl false (.list zAJ) o51, .sl false (.list T6_32) o52, .int .i64 o53, .sl false (.pair (.int .i64) zAJ) o54, .int .i64 o55, .bool o56], .absent 0, .box 0 false [.int .i64 o70, .sl false (.list zAJ) o71, .sl false (.list T6_32) o72, .int .i64 o73, .sl false (.pair (.int .i64) zAJ) o74, .int .i64 o75, .bool o76, .int .i64 o77, .int .i64 o78, .int .i64 o79, .sl false T4_32 o710, .int .i64 o711, .int .i64 o712, .int .i64 o713, .int .i64 o714], .row 0 false false 13 (.pair (.int .i64) T5_32) o8, .box 0 false [.int .i64 o90, .sl false (.list zAJ) o91, .sl false (.list T6_32) o92, .int .i64 o93, .sl false (.pair (.int .i64) zAJ) o94, .int .i64 o95, .bool o96], .absent 0], d := D }
 (laws_FnPlain.k9 N n3)
theorem laws_FnPlain.L1_eq (N : Nat) (n1 : Nat) (code : List Int) (i : Int) (o00 : Int) (o01 : List Hnd) (D : List HRow) : laws_FnPlain.L1 N (n1 + 1) code i o00 o01 D =
bif decide (i < (o01.length : Int)) then
laws_FnPlain.L2 N n1 N code i 0 o00 o01 D
else
bindO (ym.F N code) fun r4 =>
bif List.all o01 (Ty.unok D (.hnd zAJ)) then
bindO (yo.F N ((o00, List.map (Ty.unden D (.hnd zAJ)) o01), ([r4] : List zBl))) fun r5 =>
bindO (yW.F N code) fun r6 =>
bindO (ya.F N (r5.1, r6)) fun r7 =>
bindO (yX.F N (code, (41, (4, 12)))) fun r8 =>
bif decide ((r8.length : Int) > 0) then
bif zu (IntKind.wrap .i64 ((r8.length : Int) - 1)) (r8.length) then
bindO (zQ.F N (r7.1, (r8, (nth (0, (0, false)) r8 (IntKind.wrap .i64 ((r8.length : Int) - 1))).1))) fun r9 =>
laws_FnPlain.L3 N N r5.2 r7.2 r8 r9.2.1 r9.2.2 0 r5.1.1.1 r5.1.1.2 r5.1.2.1 r5.1.2.2.1 r5.1.2.2.2.1 r5.1.2.2.2.2.1 r5.1.2.2.2.2.2 r9.1.1.1.1 r9.1.1.1.2 r9.1.1.2.1 r9.1.1.2.2.1 r9.1.1.2.2.2.1 r9.1.1.2.2.2.2.1 r9.1.1.2.2.2.2.2 r9.1.2.1.1 r9.1.2.1.2.1 r9.1.2.1.2.2 r9.1.2.2.1 r9.1.2.2.2.1 r9.1.2.2.2.2.1 r9.1.2.2.2.2.2.1 r9.1.2.2.2.2.2.2 ([] : List (Int × Int × List Int)) D
else none
else
bindO (zQ.F N (r7.1, (r8, 0))) fun r14 =>
laws_FnPlain.L3 N N r5.2 r7.2 r8 r14.2.1 r14.2.2 0 r5.1.1.1 r5.1.1.2 r5.1.2.1 r5.1.2.2.1 r5.1.2.2.2.1 r5.1.2.2.2.2.1 r5.1.2.2.2.2.2 r14.1.1.1.1 r14.1.1.1.2 r14.1.1.2.1 r14.1.1.2.2.1 r14.1.1.2.2.2.1 r14.1.1.2.2.2.2.1 r14.1.1.2.2.2.2.2 r14.1.2.1.1 r14.1.2.1.2.1 r14.1.2.1.2.2 r14.1.2.2.1 r14.1.2.2.2.1 r14.1.2.2.2.2.1 r14.1.2.2.2.2.2.1 r14.1.2.2.2.2.2.2 ([] : List (Int × Int × List Int)) D
else none := by kernel_rfl
theorem laws_FnPlain.L2_eq (N : Nat) (n1 : Nat) (n2 : Nat) (code : List Int) (i : Int) (k_ : Int) (o00 : Int) (o01 : List Hnd) (D : List HRow) : laws_FnPlain.L2 N n1 (n2 + 1) code i k_ o00 o01 D =
bif decide (k_ < o00) then
bif hfull D 8 zAJ (nth (none : Hnd) o01 i) then
bif zu i (o01.length) then
bif hsame (nth (none : Hnd) o01 i) (nth (none : Hnd) o01 i) (List.length (hcut D zAJ (nth (none : Hnd) o01 i))) then
bif zu i (o01.length) then
bif hsame (nth (none : Hnd) o01 i) (nth (none : Hnd) o01 i) (List.length (hcut D zAJ (nth (none : Hnd) o01 i))) then
bif zu k_ (List.length (hcut D zAJ (nth (none : Hnd) o01 i))) then
bindO (zAF.F N ((List.getD (hcut D zAJ (nth (none : Hnd) o01 i)) (Int.toNat k_) (0, (0, (0, 0)))).1, (((List.getD (hcut D zAJ (nth (none : Hnd) o01 i)) (Int.toNat k_) (0, (0, (0, 0)))).2).1, (((List.getD (hcut D zAJ (nth (none : Hnd) o01 i)) (Int.toNat k_) (0, (0, (0, 0)))).2).2)))) fun r3 =>
bif zu k_ (List.length (hcut D zAJ (nth (none : Hnd) o01 i))) then
laws_FnPlain.L2 N n1 n2 code i (IntKind.wrap .i64 (k_ + 1)) o00 o01 (hput (hgone D (nth (none : Hnd) o01 i)) (nth (none : Hnd) o01 i) 8 zAJ (List.set (hcut D zAJ (nth (none : Hnd) o01 i)) (Int.toNat k_) r3))
else none
else none
else none
else none
else none
else none
else none
else
laws_FnPlain.L1 N n1 code (IntKind.wrap .i64 (i + 1)) o00 o01 D := by kernel_rfl
theorem laws_FnPlain.L3_eq (N : Nat) (n3 : Nat) (one : Bool) (two : Bool) (l_ : List (Int × Int × Bool)) (all : List (Int × Int × List Int)) (three : Bool) (i : Int) (o50 : Int) (o51 : List zBm) (o52 : List zBl) (o53 : Int) (o54 : List (Int × Int × Int × Int × Int)) (o55 : Int) (o56 : Bool) (o70 : Int) (o71 : List zBm) (o72 : List zBl) (o73 : Int) (o74 : List (Int × Int × Int × Int × Int)) (o75 : Int) (o76 : Bool) (o77 : Int) (o78 : Int) (o79 : Int) (o710 : List (Int × Int × Bool)) (o711 : Int) (o712 : Int) (o713 : Int) (o714 : Int) (o8 : List (Int × Int × List Int)) (D : List HRow) : laws_FnPlain.L3 N (n3 + 1) one two l_ all three i o50 o51 o52 o53 o54 o55 o56 o70 o71 o72 o73 o74 o75 o76 o77 o78 o79 o710 o711 o712 o713 o714 o8 D =
bif decide (i < (l_.length : Int)) then
bif zu i (l_.length) then
bindO (y3.F N (((o50, o51), (o52, (o53, (o54, (o55, o56))))), ((nth (0, (0, false)) l_ i).2).1)) fun r10 =>
bif zu i (l_.length) then
bif ((nth (0, (0, false)) l_ i).2).2 then
bif zu i (l_.length) then
bindO (zAK.F N (((o50, o51), (o52, (o53, (o54, (o55, o56))))), (((nth (0, (0, false)) l_ i).2).1, false))) fun r11 =>
bif !r11.2.2 then
some false
else
laws_FnPlain.L4 N n3 N one two l_ all three i r11.2.1 0 o50 o51 o52 o53 o54 o55 o56 o70 o71 o72 o73 o74 o75 o76 o77 o78 o79 o710 o711 o712 o713 o714 o8 r11.1.1.1 r11.1.1.2 r11.1.2.1 r11.1.2.2.1 r11.1.2.2.2.1 r11.1.2.2.2.2.1 r11.1.2.2.2.2.2 D
else none
else
bif !r10.2.2 then
some false
else
laws_FnPlain.L4 N n3 N one two l_ all three i r10.2.1 0 o50 o51 o52 o53 o54 o55 o56 o70 o71 o72 o73 o74 o75 o76 o77 o78 o79 o710 o711 o712 o713 o714 o8 r10.1.1.1 r10.1.1.2 r10.1.2.1 r10.1.2.2.1 r10.1.2.2.2.1 r10.1.2.2.2.2.1 r10.1.2.2.2.2.2 D
else none
else none
else
bif one then
bif two then
bif three then
bindO (zh.F N (all, o8)) fun r12 =>
bif r12 then
bif (o710.length : Int) == 0 then
bindO (yY.F N (((o70, o71), (o72, (o73, (o74, (o75, o76))))), ((o50, o51), (o52, (o53, (o54, (o55, o56))))))) fun r13 =>
some r13
else
some false
else
some false
else
some false
else
some false
else
some false := by kernel_rfl
theorem laws_FnPlain.L4_eq (N : Nat) (n3 : Nat) (n4 : Nat) (one : Bool) (two : Bool) (l_ : List (Int × Int × Bool)) (all : List (Int × Int × List Int)) (three : Bool) (i : Int) (reports : List (Int × List Int)) (k_ : Int) (o50 : Int) (o51 : List zBm) (o52 : List zBl) (o53 : Int) (o54 : List (Int × Int × Int × Int × Int)) (o55 : Int) (o56 : Bool) (o70 : Int) (o71 : List zBm) (o72 : List zBl) (o73 : Int) (o74 : List (Int × Int × Int × Int × Int)) (o75 : Int) (o76 : Bool) (o77 : Int) (o78 : Int) (o79 : Int) (o710 : List (Int × Int × Bool)) (o711 : Int) (o712 : Int) (o713 : Int) (o714 : Int) (o8 : List (Int × Int × List Int)) (o90 : Int) (o91 : List zBm) (o92 : List zBl) (o93 : Int) (o94 : List (Int × Int × Int × Int × Int)) (o95 : Int) (o96 : Bool) (D : List HRow) : laws_FnPlain.L4 N n3 (n4 + 1) one two l_ all three i reports k_ o50 o51 o52 o53 o54 o55 o56 o70 o71 o72 o73 o74 o75 o76 o77 o78 o79 o710 o711 o712 o713 o714 o8 o90 o91 o92 o93 o94 o95 o96 D =
bif decide (k_ < (reports.length : Int)) then
bif zu i (l_.length) then
bif zu k_ (reports.length) then
bif decide (o8.length + List.length ([((nth (0, (0, false)) l_ i).1, (nth (0, ([] : List Int)) reports k_))] : List (Int × Int × List Int)) <= maxN) then
laws_FnPlain.L4 N n3 n4 one two l_ all three i reports (IntKind.wrap .i64 (k_ + 1)) o50 o51 o52 o53 o54 o55 o56 o70 o71 o72 o73 o74 o75 o76 o77 o78 o79 o710 o711 o712 o713 o714 (o8 ++ ([((nth (0, (0, false)) l_ i).1, (nth (0, ([] : List Int)) reports k_))] : List (Int × Int × List Int))) o90 o91 o92 o93 o94 o95 o96 D
else none
else none
else none
else
laws_FnPlain.L3 N n3 one two l_ all three (IntKind.wrap .i64 (i + 1)) o90 o91 o92 o93 o94 o95 o96 o70 o71 o72 o73 o74 o75 o76 o77 o78 o79 o710 o711 o712 o713 o714 o8 D := by kernel_rfl
theorem laws_FnPlain.F_eq (N : Nat) (code : List Int) : laws_FnPlain.F N code =
bindO (zA0.F N code) fun r1 =>
bif r1 then
some true
else
bindO (yS.H N (code, (40, 4)) (hhide ([] : List HRow))) fun r2 =>
laws_FnPlain.L1 N N code 0 r2.1.1 r2.1.2 (zBf ([] : List HRow) r2.2) := by kernel_rfl
end Go.Kb
