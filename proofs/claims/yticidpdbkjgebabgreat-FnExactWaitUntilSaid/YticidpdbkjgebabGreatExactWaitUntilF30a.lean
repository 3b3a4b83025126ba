/- The texts of functions, printed by a program, and the equations of their runs. -/
import Derived.Test.YticidpdbkjgebabGreatExactWaitUntilP0toF3
import Derived.Test.YticidpdbkjgebabGreatExactWaitUntilF4
import Derived.Test.YticidpdbkjgebabGreatExactWaitUntilP15toP90
import Derived.Test.YticidpdbkjgebabGreatExactWaitUntilP93toF8
import Derived.Test.YticidpdbkjgebabGreatKd
import Derived.KernelRfl
namespace Go.Kb
abbrev zBB : Ty := .pair (.int .i64) (.pair (.int .i64) (.int .i64))
abbrev T2_30 : Ty := .pair (.pair (.int .i64) (.list (.list (.pair (.int .i64) zBB)))) (.pair (.list (.list zBB)) (.pair (.int .i64) (.pair (.list (.pair (.int .i64) (.pair (.int .i64) zBB))) (.pair (.int .i64) (.bool)))))
abbrev zBA : Ty := .pair (.int .i64) zBB
abbrev zCQ : Ty := .pair (.int .i64) (.pair (.int .i64) (.bool))
abbrev zBX : Ty := .pair (.int .i64) (.list (.int .i64))
abbrev zAY : Ty := .pair (.int .i64) zBA
abbrev zBx : Ty := .pair (.int .i64) (.int .i64)
abbrev T8_30 : Ty := .pair (.list (.list zBB)) (.pair (.int .i64) (.pair (.list zAY) (.pair (.int .i64) (.bool))))
abbrev T9_30 : Ty := .pair zBB (.pair (.list zCQ) zBA)
abbrev T10_30 : Ty := .pair (.int .i64) (.list (.list zBA))
abbrev T12_30 : Ty := .pair (.int .i64) zBX
abbrev T14_30 : Ty := .pair (.list zCQ) (.int .i64)
abbrev zBb : Type := (Int × List (List (Int × Int × Int × Int))) × (List (List (Int × Int × Int))) × Int × (List (Int × Int × Int × Int × Int)) × Int × Bool
abbrev yZ : Type := List (Int × Int × Int × Int)
abbrev zAZ : Type := List (Int × Int × Int)
abbrev yT : Type := List (Int × Int × Int × Int × Int)
abbrev D19_30 : Type := zBb × (Int × Int × Int) × (List (Int × Int × Bool)) × Int × Int × Int × Int
abbrev D20_30 : Type := (List (Int × Int × List Int)) × zBb × (Int × Int × Int) × (List (Int × Int × Bool)) × Int × Int × Int × Int
abbrev zBa : Type := List (Int × Int × Bool)
abbrev zBp : Type := List (Int × List Int)
abbrev D26_30 : Type := List (Int × Int × List Int)
def yf.x : XFunc := xF 123 1 [.val true 4] (no 4) [.tmp 2 false 1] [.imm] true (.pair (.int .i64) zBB) .bool <| .seq (rG [ow 1 (.box 0) [.slot 0] [0] [0], op 2 .move [cB false]]) (.seq (rG [fA 6 1 1, lN 7 6 0, op 8 (cO 1 (vs 3) 3 true) [.slot 7, cI 1, cI 56], mv 3 8]) (.seq (rG [fA 9 2 1, lN 10 9 0, op 11 (cO 1 (vs 3) 3 true) [.slot 10, cI 1, cI 15], mv 4 11]) (.seq (rG [fA 12 3 1, lN 13 12 0, op 14 (cO 1 (vs 3) 3 true) [.slot 13, cI 1, cI 3], mv 5 14]) (.seq (.seq (rG [fA 15 0 1, lN 16 15 0]) (.block 0 (.seq (.seq (rG [op 18 (.bin .eql) [.slot 16, cI 0], mv 17 18]) (.cond (.slot 17) (.skip) (.seq (rG [op 19 (.bin .eql) [.slot 16, cI 1], mv 17 19]) (.cond (.slot 17) (.skip) (rG [op 20 (.bin .eql) [.slot 16, cI 10], mv 17 20]))))) (.cond (.slot 17) (.seq (rG [fA 21 1 1, lN 22 21 0, op 23 (.bin .eql) [.slot 22, cI 0], sX 24 [.slot 23], gF 25 2 1 24 true, gL 26 25 0 24 true, gX 27 (.bin .eql) [.slot 26, cI 0] [] [] 24 true, op 28 .pick [.slot 24, .slot 27, cB false], sX 29 [.slot 28], gF 30 3 1 29 true, gL 31 30 0 29 true, gX 32 (.bin .eql) [.slot 31, cI 0] [] [] 29 true, op 33 .pick [.slot 29, .slot 32, cB false], mv 2 33]) (.ret)) (.seq (rG [op 35 (.bin .eql) [.slot 16, cI 2], mv 34 35]) (.cond (.slot 34) (.seq (rG [fA 36 3 1, lN 37 36 0, op 38 (.bin .eql) [.slot 37, cI 0], sX 39 [.slot 38], gM 40 3 39 true, ⟨some 41, .move, [.slot 40], [], [], some (39, true), true, .none⟩, gF 42 1 1 41 false, gL 43 42 0 41 false, gX 44 (.bin .eql) [.slot 43, cI 0] [] [] 41 false, ⟨some 45, .move, [.slot 44], [], [], some (41, false), true, .none⟩, gM 46 4 45 true, gX 47 .pick [.slot 45, .slot 46, cB false] [] [] 41 false, gX 48 .pick [.slot 41, cB true, .slot 47] [] [] 39 true, op 49 .pick [.slot 39, .slot 48, cB false], sX 50 [.slot 49], gM 51 4 50 true, ⟨some 52, .move, [.slot 51], [], [], some (50, true), true, .none⟩, gF 53 2 1 52 false, gL 54 53 0 52 false, gX 55 (.bin .eql) [.slot 54, cI 0] [] [] 52 false, gX 56 .pick [.slot 52, cB true, .slot 55] [] [] 50 true, op 57 .pick [.slot 50, .slot 56, cB false], mv 2 57]) (.ret)) (.seq (.seq (rG [op 59 (.bin .eql) [.slot 16, cI 3], mv 58 59]) (.cond (.slot 58) (.skip) (rG [op 60 (.bin .eql) [.slot 16, cI 4], mv 58 60]))) (.cond (.slot 58) (.seq (rG [mv 61 5, sX 62 [.slot 61], gF 63 1 1 62 true, gL 64 63 0 62 true, gX 65 (.bin .eql) [.slot 64, cI 0] [] [] 62 true, op 66 .pick [.slot 62, .slot 65, cB false], sX 67 [.slot 66], gF 68 2 1 67 true, gL 69 68 0 67 true, gX 70 (.bin .eql) [.slot 69, cI 0] [] [] 67 true, op 71 .pick [.slot 67, .slot 70, cB false], mv 2 71]) (.ret)) (.seq (.seq (rG [op 73 (.bin .eql) [.slot 16, cI 5], mv 72 73]) (.cond (.slot 72) (.skip) (rG [op 74 (.bin .eql) [.slot 16, cI 9], mv 72 74]))) (.cond (.slot 72) (.seq (rG [fA 75 3 1, lN 76 75 0, op 77 (cO 1 (vs 3) 3 true) [.slot 76, cI 0, cI 3], sX 78 [.slot 77], gF 79 1 1 78 true, gL 80 79 0 78 true, gX 81 (.bin .eql) [.slot 80, cI 0] [] [] 78 true, op 82 .pick [.slot 78, .slot 81, cB false], sX 83 [.slot 82], gF 84 2 1 83 true, gL 85 84 0 83 true, gX 86 (.bin .eql) [.slot 85, cI 0] [] [] 83 true, op 87 .pick [.slot 83, .slot 86, cB false], mv 2 87]) (.ret)) (.seq (rG [op 89 (.bin .eql) [.slot 16, cI 6], mv 88 89]) (.cond (.slot 88) (.seq (rG [mv 90 3, sX 91 [.slot 90], gM 92 4 91 true, op 93 .pick [.slot 91, .slot 92, cB false], sX 94 [.slot 93], gF 95 3 1 94 true, gL 96 95 0 94 true, gX 97 (.bin .eql) [.slot 96, cI 0] [] [] 94 true, op 98 .pick [.slot 94, .slot 97, cB false], mv 2 98]) (.ret)) (.seq (rG [op 100 (.bin .eql) [.slot 16, cI 7], mv 99 100]) (.cond (.slot 99) (.seq (rG [mv 101 3, sX 102 [.slot 101], gM 103 5 102 true, op 104 .pick [.slot 102, .slot 103, cB false], sX 105 [.slot 104], gF 106 2 1 105 true, gL 107 106 0 105 true, gX 108 (.bin .eql) [.slot 107, cI 0] [] [] 105 true, op 109 .pick [.slot 105, .slot 108, cB false], mv 2 109]) (.ret)) (.seq (rG [op 111 (.bin .eql) [.slot 16, cI 8], mv 110 111]) (.cond (.slot 110) (.seq (rG [mv 112 4, sX 113 [.slot 112], gF 114 1 1 113 true, gL 115 114 0 113 true, gX 116 (.bin .eql) [.slot 115, cI 0] [] [] 113 true, op 117 .pick [.slot 113, .slot 116, cB false], sX 118 [.slot 117], gF 119 3 1 118 true, gL 120 119 0 118 true, gX 121 (.bin .eql) [.slot 120, cI 0] [] [] 118 true, op 122 .pick [.slot 118, .slot 121, cB false], mv 2 122]) (.ret)) (.skip))))))))))))))))) (.seq (rG [op 2 .move [cB false]]) (.ret))))))
def yf.env (N : Nat) : Env := envOf (tbl [(1, zR.fs N)] noFS)
def yf.F (N : Nat) (x : Int × Int × Int × Int) : Option Bool := XFunc.run yf.x (yf.env N) N x
def yf.fs (N : Nat) : FS := fS yf.x true (yf.F N)
theorem yf.F_eq (N : Nat) (a : Int × Int × Int × Int) : yf.F N a =
bindO (zR.F N (a.2.1, (1, 56))) fun r1 =>
bindO (zR.F N (a.2.2.1, (1, 15))) fun r2 =>
bindO (zR.F N (a.2.2.2, (1, 3))) fun r3 =>
bif a.1 == 0 then
bif a.1 == 0 then
bif a.2.1 == 0 then
bif a.2.2.1 == 0 then
some (a.2.2.2 == 0)
else
some false
else
some false
else
bif a.1 == 2 then
bif a.2.2.2 == 0 then
bif r1 then
bif r2 then
some true
else
some (a.2.2.1 == 0)
else
bif a.2.1 == 0 then
bif r2 then
bif r2 then
some true
else
some (a.2.2.1 == 0)
else
some false
else
some false
else
some false
else
bif a.1 == 3 then
bif a.1 == 3 then
bif r3 then
bif a.2.1 == 0 then
some (a.2.2.1 == 0)
else
some false
else
some false
else
bif a.1 == 5 then
bif a.1 == 5 then
bindO (zR.F N (a.2.2.2, (0, 3))) fun r4 =>
bif r4 then
bif a.2.1 == 0 then
some (a.2.2.1 == 0)
else
some false
else
some false
else
bif a.1 == 6 then
bif r1 then
bif r2 then
some (a.2.2.2 == 0)
else
some false
else
some false
else
bif a.1 == 7 then
bif r1 then
bif r3 then
some (a.2.2.1 == 0)
else
some false
else
some false
else
bif a.1 == 8 then
bif r2 then
bif a.2.1 == 0 then
some (a.2.2.2 == 0)
else
some false
else
some false
else
some false
else
bif a.1 == 9 then
bindO (zR.F N (a.2.2.2, (0, 3))) fun r5 =>
bif r5 then
bif a.2.1 == 0 then
some (a.2.2.1 == 0)
else
some false
else
some false
else
bif a.1 == 6 then
bif r1 then
bif r2 then
some (a.2.2.2 == 0)
else
some false
else
some false
else
bif a.1 == 7 then
bif r1 then
bif r3 then
some (a.2.2.1 == 0)
else
some false
else
some false
else
bif a.1 == 8 then
bif r2 then
bif a.2.1 == 0 then
some (a.2.2.2 == 0)
else
some false
else
some false
else
some false
else
bif a.1 == 4 then
bif r3 then
bif a.2.1 == 0 then
some (a.2.2.1 == 0)
else
some false
else
some false
else
bif a.1 == 5 then
bif a.1 == 5 then
bindO (zR.F N (a.2.2.2, (0, 3))) fun r6 =>
bif r6 then
bif a.2.1 == 0 then
some (a.2.2.1 == 0)
else
some false
else
some false
else
bif a.1 == 6 then
bif r1 then
bif r2 then
some (a.2.2.2 == 0)
else
some false
else
some false
else
bif a.1 == 7 then
bif r1 then
bif r3 then
some (a.2.2.1 == 0)
else
some false
else
some false
else
bif a.1 == 8 then
bif r2 then
bif a.2.1 == 0 then
some (a.2.2.2 == 0)
else
some false
else
some false
else
some false
else
bif a.1 == 9 then
bindO (zR.F N (a.2.2.2, (0, 3))) fun r7 =>
bif r7 then
bif a.2.1 == 0 then
some (a.2.2.1 == 0)
else
some false
else
some false
else
bif a.1 == 6 then
bif r1 then
bif r2 then
some (a.2.2.2 == 0)
else
some false
else
some false
else
bif a.1 == 7 then
bif r1 then
bif r3 then
some (a.2.2.1 == 0)
else
some false
else
some false
else
bif a.1 == 8 then
bif r2 then
bif a.2.1 == 0 then
some (a.2.2.2 == 0)
else
some false
else
some false
else
some false
else
bif a.1 == 1 then
bif a.1 == 1 then
bif a.2.1 == 0 then
bif a.2.2.1 == 0 then
some (a.2.2.2 == 0)
else
some false
else
some false
else
bif a.1 == 2 then
bif a.2.2.2 == 0 then
bif r1 then
bif r2 then
some true
else
some (a.2.2.1 == 0)
else
bif a.2.1 == 0 then
bif r2 then
bif r2 then
some true
else
some (a.2.2.1 == 0)
else
some false
else
some false
else
some false
else
bif a.1 == 3 then
bif a.1 == 3 then
bif r3 then
bif a.2.1 == 0 then
some (a.2.2.1 == 0)
else
some false
else
some false
else
bif a.1 == 5 then
bif a.1 == 5 then
bindO (zR.F N (a.2.2.2, (0, 3))) fun r8 =>
bif r8 then
bif a.2.1 == 0 then
some (a.2.2.1 == 0)
else
some false
else
some false
else
bif a.1 == 6 then
bif r1 then
bif r2 then
some (a.2.2.2 == 0)
else
some false
else
some false
else
bif a.1 == 7 then
bif r1 then
bif r3 then
some (a.2.2.1 == 0)
else
some false
else
some false
else
bif a.1 == 8 then
bif r2 then
bif a.2.1 == 0 then
some (a.2.2.2 == 0)
else
some false
else
some false
else
some false
else
bif a.1 == 9 then
bindO (zR.F N (a.2.2.2, (0, 3))) fun r9 =>
bif r9 then
bif a.2.1 == 0 then
some (a.2.2.1 == 0)
else
some false
else
some false
else
bif a.1 == 6 then
bif r1 then
bif r2 then
some (a.2.2.2 == 0)
else
some false
else
some false
else
bif a.1 == 7 then
bif r1 then
bif r3 then
some (a.2.2.1 == 0)
else
some false
else
some false
else
bif a.1 == 8 then
bif r2 then
bif a.2.1 == 0 then
some (a.2.2.2 == 0)
else
some false
else
some false
else
some false
else
bif a.1 == 4 then
bif r3 then
bif a.2.1 == 0 then
some (a.2.2.1 == 0)
else
some false
else
some false
else
bif a.1 == 5 then
bif a.1 == 5 then
bindO (zR.F N (a.2.2.2, (0, 3))) fun r10 =>
bif r10 then
bif a.2.1 == 0 then
some (a.2.2.1 == 0)
else
some false
else
some false
else
bif a.1 == 6 then
bif r1 then
bif r2 then
some (a.2.2.2 == 0)
else
some false
else
some false
else
bif a.1 == 7 then
bif r1 then
bif r3 then
some (a.2.2.1 == 0)
else
some false
else
some false
else
bif a.1 == 8 then
bif r2 then
bif a.2.1 == 0 then
some (a.2.2.2 == 0)
else
some false
else
some false
else
some false
else
bif a.1 == 9 then
bindO (zR.F N (a.2.2.2, (0, 3))) fun r11 =>
bif r11 then
bif a.2.1 == 0 then
some (a.2.2.1 == 0)
else
some false
else
some false
else
bif a.1 == 6 then
bif r1 then
bif r2 then
some (a.2.2.2 == 0)
else
some false
else
some false
else
bif a.1 == 7 then
bif r1 then
bif r3 then
some (a.2.2.1 == 0)
else
some false
else
some false
else
bif a.1 == 8 then
bif r2 then
bif a.2.1 == 0 then
some (a.2.2.2 == 0)
else
some false
else
some false
else
some false
else
bif a.1 == 10 then
bif a.2.1 == 0 then
bif a.2.2.1 == 0 then
some (a.2.2.2 == 0)
else
some false
else
some false
else
bif a.1 == 2 then
bif a.2.2.2 == 0 then
bif r1 then
bif r2 then
some true
else
some (a.2.2.1 == 0)
else
bif a.2.1 == 0 then
bif r2 then
bif r2 then
some true
else
some (a.2.2.1 == 0)
else
some false
else
some false
else
some false
else
bif a.1 == 3 then
bif a.1 == 3 then
bif r3 then
bif a.2.1 == 0 then
some (a.2.2.1 == 0)
else
some false
else
some false
else
bif a.1 == 5 then
bif a.1 == 5 then
bindO (zR.F N (a.2.2.2, (0, 3))) fun r12 =>
bif r12 then
bif a.2.1 == 0 then
some (a.2.2.1 == 0)
else
some false
else
some false
else
bif a.1 == 6 then
bif r1 then
bif r2 then
some (a.2.2.2 == 0)
else
some false
else
some false
else
bif a.1 == 7 then
bif r1 then
bif r3 then
some (a.2.2.1 == 0)
else
some false
else
some false
else
bif a.1 == 8 then
bif r2 then
bif a.2.1 == 0 then
some (a.2.2.2 == 0)
else
some false
else
some false
else
some false
else
bif a.1 == 9 then
bindO (zR.F N (a.2.2.2, (0, 3))) fun r13 =>
bif r13 then
bif a.2.1 == 0 then
some (a.2.2.1 == 0)
else
some false
else
some false
else
bif a.1 == 6 then
bif r1 then
bif r2 then
some (a.2.2.2 == 0)
else
some false
else
some false
else
bif a.1 == 7 then
bif r1 then
bif r3 then
some (a.2.2.1 == 0)
else
some false
else
some false
else
bif a.1 == 8 then
bif r2 then
bif a.2.1 == 0 then
some (a.2.2.2 == 0)
else
some false
else
some false
else
some false
else
bif a.1 == 4 then
bif r3 then
bif a.2.1 == 0 then
some (a.2.2.1 == 0)
else
some false
else
some false
else
bif a.1 == 5 then
bif a.1 == 5 then
bindO (zR.F N (a.2.2.2, (0, 3))) fun r14 =>
bif r14 then
bif a.2.1 == 0 then
some (a.2.2.1 == 0)
else
some false
else
some false
else
bif a.1 == 6 then
bif r1 then
bif r2 then
some (a.2.2.2 == 0)
else
some false
else
some false
else
bif a.1 == 7 then
bif r1 then
bif r3 then
some (a.2.2.1 == 0)
else
some false
else
some false
else
bif a.1 == 8 then
bif r2 then
bif a.2.1 == 0 then
some (a.2.2.2 == 0)
else
some false
else
some false
else
some false
else
bif a.1 == 9 then
bindO (zR.F N (a.2.2.2, (0, 3))) fun r15 =>
bif r15 then
bif a.2.1 == 0 then
some (a.2.2.1 == 0)
else
some false
else
some false
else
bif a.1 == 6 then
bif r1 then
bif r2 then
some (a.2.2.2 == 0)
else
some false
else
some false
else
bif a.1 == 7 then
bif r1 then
bif r3 then
some (a.2.2.1 == 0)
else
some false
else
some false
else
bif a.1 == 8 then
bif r2 then
bif a.2.1 == 0 then
some (a.2.2.2 == 0)
else
some false
else
some false
else
some false := by kernel_rfl
def zE.c1 : XCode := .seq (.seq (rG [mv 22 4, fA 23 1 1, lN 24 23 0, mv 25 3, o2 26 (.indexAddr (.list zBA)) 24 25, o1 27 (.load false 1) 26, o1 28 .len 27, o2 29 (.bin .lss) 22 28]) (cX 29 2)) (.seq (.block 3 (.seq (rG [fA 32 1 1, lN 33 32 0, mv 34 3, o2 35 (.indexAddr (.list zBA)) 33 34, o1 36 (.load false 1) 35, mv 37 4, o2 38 (.indexAddr zBA) 36 37, o1 39 (.load true 4) 38, ow 5 (.alloc 1 [cZ, cZ, cZ, cZ]) [] [1] [1], sT 4 5 39 1]) (.seq (rG [lU 40 4 5 1, o1 41 (cO 283 [.val true 4] 4 true) 40, o1 42 .not 41, sX 43 [.slot 42], gF 44 0 5 43 false, gL 45 44 1 43 false, gX 46 (.bin .eql) [.slot 45, cI 1] [] [] 43 false, ⟨some 47, .move, [.slot 46], [], [], some (43, false), true, .none⟩, gM 48 3 47 true, gX 49 (.bin .eql) [.slot 48, cI 0] [] [] 47 true, gX 50 .pick [.slot 47, .slot 49, cB false] [] [] 43 false, op 51 .pick [.slot 43, cB true, .slot 50], sX 52 [.slot 51], gF 53 0 5 52 false, gL 54 53 1 52 false, gX 55 (.bin .neq) [.slot 54, cI 9] [] [] 52 false, ⟨some 56, .move, [.slot 55], [], [], some (52, false), true, .none⟩, gF 57 3 5 56 true, gL 58 57 1 56 true, gF 59 1 1 56 true, gL 60 59 0 56 true, gX 61 .len [.slot 60] [] [] 56 true, gX 62 (.bin .geq) (sl [58, 61]) [] [] 56 true, gX 63 .pick [.slot 56, .slot 62, cB false] [] [] 52 false, op 64 .pick [.slot 52, cB true, .slot 63]]) (rI 64 2 false)))) (rG [mv 30 4, op 31 (.bin .add) [.slot 30, cI 1], mv 4 31]))
def zE.c2 : XCode := rG [mv 11 3, op 12 (.bin .add) [.slot 11, cI 1], mv 3 12]
def zE.c3 : XCode := .seq (.seq (rG [mv 6 3, fA 7 1 1, lN 8 7 0, o1 9 .len 8, o2 10 (.bin .lss) 6 9]) (cX 10 0)) (.seq (.block 1 (.seq (.seq (.region true [fA 13 1 1, lN 14 13 0, mv 15 3, o2 16 (.indexAddr (.list zBA)) 14 15, o1 17 (.load false 1) 16, o1 18 .len 17, fA 19 0 1, lN 20 19 0, o2 21 (.bin .neq) 18 20]) (rI 21 2 false)) (.seq (rG [op 4 .move [cI 0]]) (.block 2 (.loop [.keep [1, 3, 4], .drop 1, .norm] (zE.c1)))))) (zE.c2))
def zE.c4 : XCode := .seq (rG [fA 65 0 1, lN 66 65 0, op 67 (cO 1 (vs 3) 3 true) [.slot 66, cI 1, cI 32], sX 68 [.slot 67], gF 69 1 1 68 true, gL 70 69 0 68 true, gX 71 .len [.slot 70] [] [] 68 true, ⟨some 72, cO 1 (vs 3) 3 true, [.slot 71, cI 1, cI 4], [], [], some (68, true), false, .none⟩, op 73 .pick [.slot 68, .slot 72, cB false], mv 2 73]) (.ret)
def zE.x : XFunc := xF 74 2 [.val true 2] (no 2) [.tmp 2 false 1] [.imm] true (.pair (.int .i64) (.list (.list zBA))) .bool <| .seq (rG [ow 1 (.box 0) [.slot 0] [0] [0], op 2 .move [cB false]]) (.seq (.seq (rG [op 3 .move [cI 0]]) (.block 0 (.loop [.keep [1, 3], .drop 1, .norm] (zE.c3)))) (zE.c4))
def zE.env (N : Nat) : Env := envOf (tbl [(283, yf.fs N), (1, zR.fs N)] noFS)
def zE.F (N : Nat) (x : Int × List yZ) : Option Bool := XFunc.run zE.x (zE.env N) N x
def zE.fs (N : Nat) : FS := fS zE.x true (zE.F N)
def zE.k2 (N : Nat) : Ex -> S -> Option Bool := seqK (fun s => XCode.runK (zE.env N) N (zE.c4) s (XFunc.endK zE.x)) (XFunc.endK zE.x)
def zE.k1 (N : Nat) : Ex -> S -> Option Bool := y7 0 (zE.k2 N)
def zE.k6 (N : Nat) (n1 : Nat) : Ex -> S -> Option Bool := seqK (fun s => bindO (S.ghosts s [.keep [1, 3], .drop 1, .norm]) fun s1 => loopK [.keep [1, 3], .drop 1, .norm] (rK (zE.env N) N zE.c3) n1 s1 (zE.k1 N)) (zE.k1 N)
def zE.k5 (N : Nat) (n1 : Nat) : Ex -> S -> Option Bool := seqK (fun s => XCode.runK (zE.env N) N (zE.c2) s (zE.k6 N n1)) (zE.k6 N n1)
def zE.k4 (N : Nat) (n1 : Nat) : Ex -> S -> Option Bool := y7 1 (zE.k5 N n1)
def zE.k3 (N : Nat) (n1 : Nat) : Ex -> S -> Option Bool := y7 2 (zE.k4 N n1)
def zE.L1 (N : Nat) (n1 : Nat) (i : Int) (o00 : Int) (o01 : List yZ) : Option Bool := loopK [.keep [1, 3], .drop 1, .norm] (rK (zE.env N) N zE.c3) n1
 { t := jK 74 [(1, .one (.ptr 0 0 0)), (3, .one (.int .i64 i))], h := [.box 0 false [.int .i64 o00, .sl false (.list zBA) o01], .absent 0] }
 (zE.k1 N)
def zE.L2 (N : Nat) (n1 : Nat) (n2 : Nat) (i : Int) (k_ : Int) (o00 : Int) (o01 : List yZ) : Option Bool := loopK [.keep [1, 3, 4], .drop 1, .norm] (rK (zE.env N) N zE.c1) n2
 { t := jK 74 [(1, .one (.ptr 0 0 0)), (3, .one (.int .i64 i)), (4, .one (.int .i64 k_))], h := [.box 0 false [.int .i64 o00, .sl false (.list zBA) o01], .absent 0] }
 (zE.k3 N n1)
theorem zE.L1_eq (N : Nat) (n1 : Nat) (i : Int) (o00 : Int) (o01 : List yZ) : zE.L1 N (n1 + 1) i o00 o01 =
bif decide (i < (o01.length : Int)) then
bif zG i (o01.length) then
bif (List.length (nth ([] : List (Int × Int × Int × Int)) o01 i) : Int) != o00 then
some false
else
zE.L2 N n1 N i 0 o00 o01
else none
else
bindO (zR.F N (o00, (1, 32))) fun r2 =>
bif r2 then
bindO (zR.F N ((o01.length : Int), (1, 4))) fun r3 =>
some r3
else
some false := by kernel_rfl
theorem zE.L2_eq (N : Nat) (n1 : Nat) (n2 : Nat) (i : Int) (k_ : Int) (o00 : Int) (o01 : List yZ) : zE.L2 N n1 (n2 + 1) i k_ o00 o01 =
bif zG i (o01.length) then
bif decide (k_ < (List.length (nth ([] : List (Int × Int × Int × Int)) o01 i) : Int)) then
bif zG i (o01.length) then
bif zG k_ (List.length (nth ([] : List (Int × Int × Int × Int)) o01 i)) then
bindO (yf.F N ((nth (0, (0, (0, 0))) (nth ([] : List (Int × Int × Int × Int)) o01 i) k_).1, (((nth (0, (0, (0, 0))) (nth ([] : List (Int × Int × Int × Int)) o01 i) k_).2).1, (((nth (0, (0, (0, 0))) (nth ([] : List (Int × Int × Int × Int)) o01 i) k_).2).2)))) fun r1 =>
bif !r1 then
some false
else
bif ((nth (0, (0, (0, 0))) (nth ([] : List (Int × Int × Int × Int)) o01 i) k_).1) == 1 then
bif i == 0 then
some false
else
bif ((nth (0, (0, (0, 0))) (nth ([] : List (Int × Int × Int × Int)) o01 i) k_).1) != 9 then
bif decide (((((nth (0, (0, (0, 0))) (nth ([] : List (Int × Int × Int × Int)) o01 i) k_).2).2).2) >= (o01.length : Int)) then
some false
else
zE.L2 N n1 n2 i (IntKind.wrap .i64 (k_ + 1)) o00 o01
else
zE.L2 N n1 n2 i (IntKind.wrap .i64 (k_ + 1)) o00 o01
else
bif ((nth (0, (0, (0, 0))) (nth ([] : List (Int × Int × Int × Int)) o01 i) k_).1) != 9 then
bif decide (((((nth (0, (0, (0, 0))) (nth ([] : List (Int × Int × Int × Int)) o01 i) k_).2).2).2) >= (o01.length : Int)) then
some false
else
zE.L2 N n1 n2 i (IntKind.wrap .i64 (k_ + 1)) o00 o01
else
zE.L2 N n1 n2 i (IntKind.wrap .i64 (k_ + 1)) o00 o01
else none
else none
else
zE.L1 N n1 (IntKind.wrap .i64 (i + 1)) o00 o01
else none := by kernel_rfl
theorem zE.F_eq (N : Nat) (m : Int × List yZ) : zE.F N m =
zE.L1 N N 0 m.1 m.2 := by kernel_rfl
def yU.x : XFunc := xF 15 1 [.val true 4] (no 4) [.tmp 2 false 1] [.imm] true (.pair (.int .i64) zBB) .bool <| .seq (rG [ow 1 (.box 0) [.slot 0] [0] [0], op 2 .move [cB false]]) (.seq (rG [lU 3 4 1 0, o1 4 (cO 283 [.val true 4] 4 true) 3, sX 5 [.slot 4], gF 6 0 1 5 true, gL 7 6 0 5 true, gX 8 (.bin .eql) [.slot 7, cI 6] [] [] 5 true, ⟨some 9, .move, [.slot 8], [], [], some (5, true), true, .none⟩, gF 10 0 1 9 false, gL 11 10 0 9 false, gX 12 (.bin .eql) [.slot 11, cI 7] [] [] 9 false, gX 13 .pick [.slot 9, cB true, .slot 12] [] [] 5 true, op 14 .pick [.slot 5, .slot 13, cB false], mv 2 14]) (.ret))
def yU.env (N : Nat) : Env := envOf (tbl [(283, yf.fs N)] noFS)
def yU.F (N : Nat) (x : Int × Int × Int × Int) : Option Bool := XFunc.run yU.x (yU.env N) N x
def yU.fs (N : Nat) : FS := fS yU.x true (yU.F N)
theorem yU.F_eq (N : Nat) (a : Int × Int × Int × Int) : yU.F N a =
bindO (yf.F N a) fun r1 =>
bif r1 then
bif a.1 == 6 then
some true
else
some (a.1 == 7)
else
some false := by kernel_rfl
def z9.c1 : XCode := .seq (.seq (rG [mv 6 4, mv 7 0, o1 8 .len 7, o2 9 (.bin .lss) 6 8]) (cX 9 0)) (.seq (.block 1 (.seq (rG [mv 12 0, mv 13 4, o2 14 (.indexAddr zAY) 12 13, fA 15 1 14, o1 16 (.load true 4) 15, ow 5 (.alloc 0 [cZ, cZ, cZ, cZ]) [] [0] [0], sT 4 5 16 0]) (.seq (.seq (rG [mv 17 0, mv 18 4, o2 19 (.indexAddr zAY) 17 18, fA 20 0 19, o1 21 (.load false 1) 20, op 22 (cO 1 (vs 3) 3 true) [.slot 21, cI 0, cI 31], o1 23 .not 22, sX 24 [.slot 23], gM 25 3 24 false, gM 26 0 24 false, gM 27 4 24 false, gX 28 (.indexAddr zAY) (sl [26, 27]) [] [] 24 false, gF 29 0 28 24 false, gX 30 (.load false 1) [.slot 29] [] [] 24 false, gX 31 (.bin .shr) (sl [25, 30]) [] [] 24 false, gX 32 (.bin .and) [.slot 31, cI 1] [] [] 24 false, gX 33 (.bin .eql) [.slot 32, cI 1] [] [] 24 false, op 34 .pick [.slot 24, cB true, .slot 33], sX 35 [.slot 34], gX 36 (.load true 4) [.slot 5] [0] [] 35 false, ⟨some 37, cO 283 [.val true 4] 4 true, [.slot 36], [], [], some (35, false), false, .none⟩, gX 38 .not [.slot 37] [] [] 35 false, op 39 .pick [.slot 35, cB true, .slot 38], sX 40 [.slot 39], gF 41 0 5 40 false, gL 42 41 0 40 false, gX 43 (.bin .eql) [.slot 42, cI 1] [] [] 40 false, op 44 .pick [.slot 40, cB true, .slot 43], sX 45 [.slot 44], gX 46 (.load true 4) [.slot 5] [0] [] 45 false, ⟨some 47, cO 285 [.val true 4] 4 true, [.slot 46], [], [], some (45, false), false, .none⟩, op 48 .pick [.slot 45, cB true, .slot 47]]) (rI 48 2 false)) (rG [mv 49 3, mv 50 0, mv 51 4, o2 52 (.indexAddr zAY) 50 51, fA 53 0 52, o1 54 (.load false 1) 53, op 55 (.bin .shl) [cI 1, .slot 54], o2 56 (.bin .or) 49 55, mv 3 56])))) (rG [mv 10 4, op 11 (.bin .add) [.slot 10, cI 1], mv 4 11]))
def z9.c2 : XCode := .seq (rG [op 2 .move [cB true]]) (.ret)
def z9.x : XFunc := xF 57 1 [.val false 1] [none] [.tmp 2 false 1] [.imm] true (.list zAY) .bool <| .seq (rG [op 2 .move [cB false]]) (.seq (rG [op 3 .move [cI 0]]) (.seq (.seq (rG [op 4 .move [cI 0]]) (.block 0 (.loop [.keep [0, 3, 4], .drop 0, .norm] (z9.c1)))) (z9.c2)))
def z9.env (N : Nat) : Env := envOf (tbl [(283, yf.fs N), (285, yU.fs N), (1, zR.fs N)] noFS)
def z9.F (N : Nat) (x : yT) : Option Bool := XFunc.run z9.x (z9.env N) N x
def z9.fs (N : Nat) : FS := fS z9.x true (z9.F N)
def z9.k2 (N : Nat) : Ex -> S -> Option Bool := seqK (fun s => XCode.runK (z9.env N) N (z9.c2) s (XFunc.endK z9.x)) (XFunc.endK z9.x)
def z9.k1 (N : Nat) : Ex -> S -> Option Bool := y7 0 (z9.k2 N)
def z9.L1 (N : Nat) (n1 : Nat) (l_ : yT) (seen : Int) (i : Int) : Option Bool := loopK [.keep [0, 3, 4], .drop 0, .norm] (rK (z9.env N) N z9.c1) n1
 { t := jK 57 [(0, .one (.sl false zAY l_)), (3, .one (.int .i64 seen)), (4, .one (.int .i64 i))], h := [.absent 0] }
 (z9.k1 N)
theorem z9.L1_eq (N : Nat) (n1 : Nat) (l_ : yT) (seen : Int) (i : Int) : z9.L1 N (n1 + 1) l_ seen i =
bif decide (i < (l_.length : Int)) then
bif zG i (l_.length) then
bif zG i (l_.length) then
bindO (zR.F N ((nth (0, (0, (0, (0, 0)))) l_ i).1, (0, 31))) fun r1 =>
bif !r1 then
some false
else
bif zG i (l_.length) then
bif decide (0 <= (nth (0, (0, (0, (0, 0)))) l_ i).1) then
bif (zBo .i64 (zBy .i64 seen ((nth (0, (0, (0, (0, 0)))) l_ i).1)) 1) == 1 then
some false
else
bindO (yf.F N (((nth (0, (0, (0, (0, 0)))) l_ i).2).1, ((((nth (0, (0, (0, (0, 0)))) l_ i).2).2).1, ((((nth (0, (0, (0, (0, 0)))) l_ i).2).2).2)))) fun r2 =>
bif !r2 then
some false
else
bif (((nth (0, (0, (0, (0, 0)))) l_ i).2).1) == 1 then
some false
else
bindO (yU.F N (((nth (0, (0, (0, (0, 0)))) l_ i).2).1, ((((nth (0, (0, (0, (0, 0)))) l_ i).2).2).1, ((((nth (0, (0, (0, (0, 0)))) l_ i).2).2).2)))) fun r3 =>
bif r3 then
some false
else
bif zG i (l_.length) then
bif decide (0 <= (nth (0, (0, (0, (0, 0)))) l_ i).1) then
z9.L1 N n1 l_ (bitOr .i64 seen (zBS .i64 1 ((nth (0, (0, (0, (0, 0)))) l_ i).1))) (IntKind.wrap .i64 (i + 1))
else none
else none
else none
else none
else none
else none
else
some true := by kernel_rfl
theorem z9.F_eq (N : Nat) (l_ : yT) : z9.F N l_ =
z9.L1 N N l_ 0 0 := by kernel_rfl
def yQ.c1 : XCode := .seq (.seq (rG [mv 6 5, mv 7 0, o1 8 .len 7, o2 9 (.bin .lss) 6 8]) (cX 9 0)) (.seq (.block 1 (.seq (.region true [mv 12 0, mv 13 5, o2 14 (.indexAddr zAY) 12 13, fA 15 1 14, fA 16 1 15, o1 17 (.load false 1) 16, fA 18 1 3, lN 19 18 0, o2 20 (.bin .eql) 17 19, sX 21 [.slot 20], gM 22 0 21 true, gM 23 5 21 true, gX 24 (.indexAddr zAY) (sl [22, 23]) [] [] 21 true, gF 25 1 24 21 true, gF 26 2 25 21 true, gX 27 (.load false 1) [.slot 26] [] [] 21 true, gF 28 2 3 21 true, gL 29 28 0 21 true, gX 30 (.bin .eql) (sl [27, 29]) [] [] 21 true, op 31 .pick [.slot 21, .slot 30, cB false]]) (.cond (.slot 31) (.seq (rG [mv 32 5, mv 4 32]) (.ret)) (.skip)))) (rG [mv 10 5, op 11 (.bin .add) [.slot 10, cI 1], mv 5 11]))
def yQ.c2 : XCode := .seq (rG [op 4 .move [cI (-1)]]) (.ret)
def yQ.x : XFunc := xF 33 1 [.val false 1, .val true 3] (no 4) [.tmp 4 false 1] [.imm] true (.pair (.list zAY) zBB) (.int .i64) <| .seq (rG [ow 3 (.box 0) [.slot 1] [0] [0], op 4 .move [cI 0]]) (.seq (.seq (rG [op 5 .move [cI 0]]) (.block 0 (.loop [.keep [0, 3, 5], .norm] (yQ.c1)))) (yQ.c2))
def yQ.env (_ : Nat) : Env := envOf (tbl [] noFS)
def yQ.F (N : Nat) (x : yT × Int × Int × Int) : Option Int := XFunc.run yQ.x (yQ.env N) N x
def yQ.fs (N : Nat) : FS := fS yQ.x true (yQ.F N)
def yQ.k2 (N : Nat) : Ex -> S -> Option Int := seqK (fun s => XCode.runK (yQ.env N) N (yQ.c2) s (XFunc.endK yQ.x)) (XFunc.endK yQ.x)
def yQ.k1 (N : Nat) : Ex -> S -> Option Int := y7 0 (yQ.k2 N)
def yQ.L1 (N : Nat) (n1 : Nat) (l_ : yT) (i : Int) (o00 : Int) (o01 : Int) (o02 : Int) : Option Int := loopK [.keep [0, 3, 5], .norm] (rK (yQ.env N) N yQ.c1) n1
 { t := jK 33 [(0, .one (.sl false zAY l_)), (3, .one (.ptr 0 0 0)), (5, .one (.int .i64 i))], h := [.box 0 false [.int .i64 o00, .int .i64 o01, .int .i64 o02]] }
 (yQ.k1 N)
theorem yQ.L1_eq (N : Nat) (n1 : Nat) (l_ : yT) (i : Int) (o00 : Int) (o01 : Int) (o02 : Int) : yQ.L1 N (n1 + 1) l_ i o00 o01 o02 =
bif decide (i < (l_.length : Int)) then
bif zG i (l_.length) then
bif ((((nth (0, (0, (0, (0, 0)))) l_ i).2).2).1) == o01 then
bif zG i (l_.length) then
bif (((((nth (0, (0, (0, (0, 0)))) l_ i).2).2).2).1) == o02 then
some i
else
yQ.L1 N n1 l_ (IntKind.wrap .i64 (i + 1)) o00 o01 o02
else none
else
yQ.L1 N n1 l_ (IntKind.wrap .i64 (i + 1)) o00 o01 o02
else none
else
some (-1 : Int) := by kernel_rfl
theorem yQ.F_eq (N : Nat) (l_ : yT) (x_ : Int × Int × Int) : yQ.F N (l_, x_) =
yQ.L1 N N l_ 0 x_.1 x_.2.1 x_.2.2 := by kernel_rfl
def y8.x : XFunc := xF 8 2 [.val true 3] (no 3) [.var 2 true 4] (iF 4) true (.pair (.int .i64) zBx) (.pair (.int .i64) zBB) <| .seq (rG [ow 1 (.box 0) [.slot 0] [0] [0], ow 2 (.alloc 1 [cZ, cZ, cZ, cZ]) [] [1] [1]]) (.seq (rG [fA 3 1 1, lN 4 3 0, fA 5 2 1, lN 6 5 0, op 7 (.build [cZ, cZ, cZ, cZ] [(0, 1), (1, 1), (2, 1)]) [cI 2, .slot 4, .slot 6], sT 4 2 7 1]) (.ret))
def y8.env (_ : Nat) : Env := envOf (tbl [] noFS)
def y8.F (N : Nat) (x : Int × Int × Int) : Option (Int × Int × Int × Int) := XFunc.run y8.x (y8.env N) N x
def y8.fs (N : Nat) : FS := fS y8.x true (y8.F N)
theorem y8.F_eq (N : Nat) (x_ : Int × Int × Int) : y8.F N x_ =
some (2, (x_.2.1, (x_.2.2, 0))) := by kernel_rfl
def yY.x : XFunc := xF 15 1 [.val false 1, .val false 1] (no 2) [.tmp 4 false 1] [.own 15] true (.pair (.list zAY) (.int .i64)) (.list zAY) <| .seq (rG [op 4 .move [.const (.one (.nil))]]) (.seq (.region true [ow 5 (.buildSlice false 0 15 zAY 0 [] [cZ, cZ, cZ, cZ, cZ]) [] [0] [0], mv 6 0, mv 7 1, o2 8 (.slice zAY false true) 6 7, ow 9 (.append false 0 15 zAY) (sl [5, 8]) [0] [0], mv 10 0, mv 11 1, op 12 (.bin .add) [.slot 11, cI 1], o2 13 (.slice zAY true false) 10 12, ow 14 (.append false 0 15 zAY) (sl [9, 13]) [0] [0], mv 4 14]) (.ret))
def yY.env (_ : Nat) : Env := envOf (tbl [] noFS)
def yY.F (N : Nat) (x : yT × Int) : Option yT := XFunc.run yY.x (yY.env N) N x
def yY.fs (N : Nat) : FS := fS yY.x true (yY.F N)
theorem yY.F_eq (N : Nat) (l_ : yT) (k_ : Int) : yY.F N (l_, k_) =
bif decide (0 <= k_) && decide (k_ <= (l_.length : Int)) then
bif decide (List.length ([] : List (Int × Int × Int × Int × Int)) + List.length (List.take (Int.toNat k_) l_) <= maxN) then
bif decide (0 <= IntKind.wrap .i64 (k_ + 1)) && decide (IntKind.wrap .i64 (k_ + 1) <= (l_.length : Int)) then
bif decide (List.length (([] : List (Int × Int × Int × Int × Int)) ++ (List.take (Int.toNat k_) l_)) + List.length (List.drop (Int.toNat (IntKind.wrap .i64 (k_ + 1))) l_) <= maxN) then
some ((([] : List (Int × Int × Int × Int × Int)) ++ (List.take (Int.toNat k_) l_)) ++ (List.drop (Int.toNat (IntKind.wrap .i64 (k_ + 1))) l_))
else none
else none
else none
else none := by kernel_rfl
def z7.c1 : XCode := .seq (.seq (rG [mv 8 4, mv 9 0, o1 10 .len 9, o2 11 (.bin .lss) 8 10]) (cX 11 0)) (.seq (.block 1 (.seq (rG [mv 14 0, mv 15 4, o2 16 (.indexAddr zBB) 14 15, o1 17 (.load true 3) 16, ow 5 (.alloc 1 [cZ, cZ, cZ]) [] [1] [1], sT 3 5 17 1]) (.seq (rG [mv 18 3, lU 19 3 5 1, ow 20 (cO 287 [.val false 1, .val true 3] 4 true) (sl [18, 19]) [0] [], mv 6 20]) (.seq (.seq (rG [fA 21 0 5, lN 22 21 1, op 23 (cO 1 (vs 3) 3 true) [.slot 22, cI 0, cI 2], o1 24 .not 23, sX 25 [.slot 24], gX 26 (.load true 3) [.slot 5] [1] [] 25 false, ⟨some 27, .call ⟨288, [.val true 3], no 3, [.val true 4], ims 4, true⟩, [.slot 26], [], [], some (25, false), false, .none⟩, ⟨some 28, cO 283 [.val true 4] 4 true, [.slot 27], [], [], some (25, false), false, .none⟩, gX 29 .not [.slot 28] [] [] 25 false, op 30 .pick [.slot 25, cB true, .slot 29], sX 31 [.slot 30], gF 32 0 5 31 false, gL 33 32 1 31 false, gX 34 (.bin .eql) [.slot 33, cI 2] [] [] 31 false, gM 35 6 31 false, gX 36 (.bin .geq) [.slot 35, cI 0] [] [] 31 false, gX 37 (.eqBool true) (sl [34, 36]) [] [] 31 false, op 38 .pick [.slot 31, cB true, .slot 37]]) (rI 38 2 false)) (.seq (rG [fA 39 0 5, lN 40 39 1]) (.block 2 (.seq (rG [op 42 (.bin .eql) [.slot 40, cI 1], mv 41 42]) (.cond (.slot 41) (rG [mv 43 3, lU 44 3 5 1, o1 45 (.call ⟨288, [.val true 3], no 3, [.val true 4], ims 4, true⟩) 44, o1 46 (.build [cZ, cZ, cZ, cZ, cZ] [(1, 4)]) 45, ow 47 (.buildSlice false 2 15 zAY 1 [(0, 5)] [cZ, cZ, cZ, cZ, cZ]) [.slot 46] [2] [2], ow 48 (.append false 0 15 zAY) (sl [43, 47]) [0, 2] [0], mv 3 48]) (.seq (rG [op 50 (.bin .eql) [.slot 40, cI 2], mv 49 50]) (.cond (.slot 49) (rG [mv 51 3, mv 52 6, ow 53 (.call ⟨289, vs 2, no 2, [.val false 1], [.own 3 15], true⟩) (sl [51, 52]) [0, 3] [3], mv 3 53]) (.skip))))))))))) (rG [mv 12 4, op 13 (.bin .add) [.slot 12, cI 1], mv 4 13]))
def z7.c2 : XCode := .seq (rG [mv 54 0, o1 55 .len 54, op 56 (.bin .leq) [.slot 55, cI 8], sX 57 [.slot 56], gM 58 3 57 true, gX 59 .len [.slot 58] [0] [] 57 true, gX 60 (.bin .eql) [.slot 59, cI 0] [] [] 57 true, op 61 .pick [.slot 57, .slot 60, cB false], mv 2 61]) (.ret)
def z7.x : XFunc := xF 62 4 [.val false 1] [none] [.tmp 2 false 1] [.imm] true (.list zBB) .bool <| .seq (rG [op 2 .move [cB false]]) (.seq (rG [ow 7 (.buildSlice false 0 15 zAY 0 [] [cZ, cZ, cZ, cZ, cZ]) [] [0] [0], mv 3 7]) (.seq (.seq (rG [op 4 .move [cI 0]]) (.block 0 (.loop [.rename 3 0, .keep [0, 3, 4], .drop 1, .drop 2, .drop 3, .norm] (z7.c1)))) (z7.c2)))
def z7.env (N : Nat) : Env := envOf (tbl [(283, yf.fs N), (1, zR.fs N), (288, y8.fs N), (287, yQ.fs N), (289, yY.fs N)] noFS)
def z7.F (N : Nat) (x : zAZ) : Option Bool := XFunc.run z7.x (z7.env N) N x
def z7.fs (N : Nat) : FS := fS z7.x true (z7.F N)
def z7.k2 (N : Nat) : Ex -> S -> Option Bool := seqK (fun s => XCode.runK (z7.env N) N (z7.c2) s (XFunc.endK z7.x)) (XFunc.endK z7.x)
def z7.k1 (N : Nat) : Ex -> S -> Option Bool := y7 0 (z7.k2 N)
def z7.L1 (N : Nat) (n1 : Nat) (l_ : zAZ) (i : Int) (o0 : yT) : Option Bool := loopK [.rename 3 0, .keep [0, 3, 4], .drop 1, .drop 2, .drop 3, .norm] (rK (z7.env N) N z7.c1) n1
 { t := jK 62 [(0, .one (.sl false zBB l_)), (3, .one (.ref 0 0 .all)), (4, .one (.int .i64 i))], h := [.row 0 false true 15 zAY o0, .absent 0, .absent 0, .absent 0] }
 (z7.k1 N)
theorem z7.L1_eq (N : Nat) (n1 : Nat) (l_ : zAZ) (i : Int) (o0 : yT) : z7.L1 N (n1 + 1) l_ i o0 =
bif decide (i < (l_.length : Int)) then
bif zG i (l_.length) then
bindO (yQ.F N (o0, ((nth (0, (0, 0)) l_ i).1, ((nth (0, (0, 0)) l_ i).2)))) fun r1 =>
bindO (zR.F N ((nth (0, (0, 0)) l_ i).1, (0, 2))) fun r2 =>
bif !r2 then
some false
else
bindO (y8.F N ((nth (0, (0, 0)) l_ i).1, ((nth (0, (0, 0)) l_ i).2))) fun r3 =>
bindO (yf.F N r3) fun r4 =>
bif !r4 then
some false
else
bif (((nth (0, (0, 0)) l_ i).1) == 2) != (decide (r1 >= 0)) then
some false
else
bif ((nth (0, (0, 0)) l_ i).1) == 1 then
bindO (y8.F N ((nth (0, (0, 0)) l_ i).1, ((nth (0, (0, 0)) l_ i).2))) fun r5 =>
bif decide (o0.length + List.length ([(0, r5)] : List (Int × Int × Int × Int × Int)) <= maxN) then
z7.L1 N n1 l_ (IntKind.wrap .i64 (i + 1)) (o0 ++ ([(0, r5)] : List (Int × Int × Int × Int × Int)))
else none
else
bif ((nth (0, (0, 0)) l_ i).1) == 2 then
bindO (yY.F N (o0, r1)) fun r6 =>
z7.L1 N n1 l_ (IntKind.wrap .i64 (i + 1)) r6
else
z7.L1 N n1 l_ (IntKind.wrap .i64 (i + 1)) o0
else none
else
bif decide ((l_.length : Int) <= 8) then
some ((o0.length : Int) == 0)
else
some false := by kernel_rfl
theorem z7.F_eq (N : Nat) (l_ : zAZ) : z7.F N l_ =
z7.L1 N N l_ 0 ([] : List (Int × Int × Int × Int × Int)) := by kernel_rfl
def zH.c1 : XCode := .seq (.seq (rG [mv 21 3, fA 22 2 1, lN 23 22 0, o1 24 .len 23, o2 25 (.bin .lss) 21 24]) (cX 25 0)) (.seq (.block 1 (.seq (rG [fA 28 2 1, lN 29 28 0, mv 30 3, o2 31 (.indexAddr (.list zBB)) 29 30, o1 32 (.load false 1) 31, o1 33 (cO 290 (vs 1) 1 true) 32, o1 34 .not 33]) (rI 34 2 false))) (rG [mv 26 3, op 27 (.bin .add) [.slot 26, cI 1], mv 3 27]))
def zH.c2 : XCode := .seq (.seq (rG [mv 35 4, fA 36 4 1, lN 37 36 0, o1 38 .len 37, o2 39 (.bin .lss) 35 38]) (cX 39 2)) (.seq (.block 3 (.seq (.region true [fA 42 4 1, lN 43 42 0, mv 44 4, o2 45 (.indexAddr zAY) 43 44, fA 46 0 45, o1 47 (.load false 1) 46, fA 48 0 1, fA 49 0 48, lN 50 49 0, o2 51 (.bin .geq) 47 50, sX 52 [.slot 51], gF 53 4 1 52 false, gL 54 53 0 52 false, gM 55 4 52 false, gX 56 (.indexAddr zAY) (sl [54, 55]) [] [] 52 false, gF 57 1 56 52 false, gF 58 0 57 52 false, gX 59 (.load false 1) [.slot 58] [] [] 52 false, gX 60 (.bin .neq) [.slot 59, cI 9] [] [] 52 false, ⟨some 61, .move, [.slot 60], [], [], some (52, false), true, .none⟩, gF 62 4 1 61 true, gL 63 62 0 61 true, gM 64 4 61 true, gX 65 (.indexAddr zAY) (sl [63, 64]) [] [] 61 true, gF 66 1 65 61 true, gF 67 3 66 61 true, gX 68 (.load false 1) [.slot 67] [] [] 61 true, gF 69 0 1 61 true, gF 70 1 69 61 true, gL 71 70 0 61 true, gX 72 .len [.slot 71] [] [] 61 true, gX 73 (.bin .geq) (sl [68, 72]) [] [] 61 true, gX 74 .pick [.slot 61, .slot 73, cB false] [] [] 52 false, op 75 .pick [.slot 52, cB true, .slot 74]]) (rI 75 2 false))) (rG [mv 40 4, op 41 (.bin .add) [.slot 40, cI 1], mv 4 41]))
def zH.c3 : XCode := .seq (.region true [fA 76 3 1, lN 77 76 0, fA 78 0 1, fA 79 1 78, lN 80 79 0, o1 81 .len 80, op 82 (.bin .shl) [cI 1, .slot 81], op 83 (.bin .sub) [.slot 82, cI 1], op 84 (cO 1 (vs 3) 3 true) [.slot 77, cI 0, .slot 83], sX 85 [.slot 84], gF 86 3 1 85 true, gL 87 86 0 85 true, gX 88 (.bin .rem) [.slot 87, cI 2] [] [] 85 true, gX 89 (.bin .eql) [.slot 88, cI 0] [] [] 85 true, op 90 .pick [.slot 85, .slot 89, cB false], sX 91 [.slot 90], gF 92 5 1 91 true, gL 93 92 0 91 true, ⟨some 94, cO 1 (vs 3) 3 true, [.slot 93, cI 0, cI 15], [], [], some (91, true), false, .none⟩, op 95 .pick [.slot 91, .slot 94, cB false], mv 2 95]) (.ret)
def zH.c4 : XCode := .seq (.seq (rG [op 4 .move [cI 0]]) (.block 2 (.loop [.keep [1, 4], .norm] (zH.c2)))) (zH.c3)
def zH.x : XFunc := xF 96 1 [.val true 7] (no 7) [.tmp 2 false 1] [.imm] true (.pair T10_30 T8_30) .bool <| .seq (rG [ow 1 (.box 0) [.slot 0] [0] [0], op 2 .move [cB false]]) (.seq (.seq (rG [fA 5 0 1, lU 6 2 5 0, o1 7 (cO 284 [.val true 2] 2 true) 6, o1 8 .not 7, sX 9 [.slot 8], gF 10 2 1 9 false, gL 11 10 0 9 false, gX 12 .len [.slot 11] [] [] 9 false, gX 13 (.bin .gtr) [.slot 12, cI 4] [] [] 9 false, op 14 .pick [.slot 9, cB true, .slot 13], sX 15 [.slot 14], gF 16 4 1 15 false, gL 17 16 0 15 false, ⟨some 18, cO 286 (vs 1) 1 true, [.slot 17], [], [], some (15, false), false, .none⟩, gX 19 .not [.slot 18] [] [] 15 false, op 20 .pick [.slot 15, cB true, .slot 19]]) (rI 20 2 false)) (.seq (.seq (rG [op 3 .move [cI 0]]) (.block 0 (.loop [.keep [1, 3], .norm] (zH.c1)))) (zH.c4)))
def zH.env (N : Nat) : Env := envOf (tbl [(286, z9.fs N), (284, zE.fs N), (290, z7.fs N), (1, zR.fs N)] noFS)
def zH.F (N : Nat) (x : (Int × List yZ) × (List zAZ) × Int × yT × Int × Bool) : Option Bool := XFunc.run zH.x (zH.env N) N x
def zH.fs (N : Nat) : FS := fS zH.x true (zH.F N)
def zH.k2 (N : Nat) : Ex -> S -> Option Bool := seqK (fun s => XCode.runK (zH.env N) N (zH.c4) s (XFunc.endK zH.x)) (XFunc.endK zH.x)
def zH.k1 (N : Nat) : Ex -> S -> Option Bool := y7 0 (zH.k2 N)
def zH.k4 (N : Nat) : Ex -> S -> Option Bool := seqK (fun s => XCode.runK (zH.env N) N (zH.c3) s (XFunc.endK zH.x)) (XFunc.endK zH.x)
def zH.k3 (N : Nat) : Ex -> S -> Option Bool := y7 2 (zH.k4 N)
def zH.L1 (N : Nat) (n1 : Nat) (i : Int) (o00 : Int) (o01 : List yZ) (o02 : List zAZ) (o03 : Int) (o04 : yT) (o05 : Int) (o06 : Bool) : Option Bool := loopK [.keep [1, 3], .norm] (rK (zH.env N) N zH.c1) n1
 { t := jK 96 [(1, .one (.ptr 0 0 0)), (3, .one (.int .i64 i))], h := [.box 0 false [.int .i64 o00, .sl false (.list zBA) o01, .sl false (.list zBB) o02, .int .i64 o03, .sl false zAY o04, .int .i64 o05, .bool o06]] }
 (zH.k1 N)
def zH.L2 (N : Nat) (n2 : Nat) (i : Int) (o00 : Int) (o01 : List yZ) (o02 : List zAZ) (o03 : Int) (o04 : yT) (o05 : Int) (o06 : Bool) : Option Bool := loopK [.keep [1, 4], .norm] (rK (zH.env N) N zH.c2) n2
 { t := jK 96 [(1, .one (.ptr 0 0 0)), (4, .one (.int .i64 i))], h := [.box 0 false [.int .i64 o00, .sl false (.list zBA) o01, .sl false (.list zBB) o02, .int .i64 o03, .sl false zAY o04, .int .i64 o05, .bool o06]] }
 (zH.k3 N)
theorem zH.L1_eq (N : Nat) (n1 : Nat) (i : Int) (o00 : Int) (o01 : List yZ) (o02 : List zAZ) (o03 : Int) (o04 : yT) (o05 : Int) (o06 : Bool) : zH.L1 N (n1 + 1) i o00 o01 o02 o03 o04 o05 o06 =
bif decide (i < (o02.length : Int)) then
bif zG i (o02.length) then
bindO (z7.F N (nth ([] : List (Int × Int × Int)) o02 i)) fun r3 =>
bif !r3 then
some false
else
zH.L1 N n1 (IntKind.wrap .i64 (i + 1)) o00 o01 o02 o03 o04 o05 o06
else none
else
zH.L2 N N 0 o00 o01 o02 o03 o04 o05 o06 := by kernel_rfl
theorem zH.L2_eq (N : Nat) (n2 : Nat) (i : Int) (o00 : Int) (o01 : List yZ) (o02 : List zAZ) (o03 : Int) (o04 : yT) (o05 : Int) (o06 : Bool) : zH.L2 N (n2 + 1) i o00 o01 o02 o03 o04 o05 o06 =
bif decide (i < (o04.length : Int)) then
bif zG i (o04.length) then
bif decide (((nth (0, (0, (0, (0, 0)))) o04 i).1) >= o00) then
some false
else
bif zG i (o04.length) then
bif (((nth (0, (0, (0, (0, 0)))) o04 i).2).1) != 9 then
bif zG i (o04.length) then
bif decide ((((((nth (0, (0, (0, (0, 0)))) o04 i).2).2).2).2) >= (o01.length : Int)) then
some false
else
zH.L2 N n2 (IntKind.wrap .i64 (i + 1)) o00 o01 o02 o03 o04 o05 o06
else none
else
zH.L2 N n2 (IntKind.wrap .i64 (i + 1)) o00 o01 o02 o03 o04 o05 o06
else none
else none
else
bif decide (0 <= (o01.length : Int)) then
bindO (zR.F N (o03, (0, IntKind.wrap .i64 ((zBS .i64 1 (o01.length : Int)) - 1)))) fun r4 =>
bif r4 then
bif (Int.tmod o03 2) == 0 then
bindO (zR.F N (o05, (0, 15))) fun r5 =>
some r5
else
some false
else
some false
else none := by kernel_rfl
theorem zH.F_eq (N : Nat) (e : (Int × List yZ) × (List zAZ) × Int × yT × Int × Bool) : zH.F N e =
bindO (zE.F N e.1) fun r1 =>
bif !r1 then
some false
else
bif decide ((List.length e.2.1 : Int) > 4) then
some false
else
bindO (z9.F N e.2.2.2.1) fun r2 =>
bif !r2 then
some false
else
zH.L1 N N 0 e.1.1 e.1.2 e.2.1 e.2.2.1 e.2.2.2.1 e.2.2.2.2.1 e.2.2.2.2.2 := by kernel_rfl
def zAI.x : XFunc := xF 16 1 [.val true 3] (no 3) [.tmp 2 false 1] [.imm] true (.pair (.int .i64) zBx) .bool <| .seq (rG [ow 1 (.box 0) [.slot 0] [0] [0], op 2 .move [cB false]]) (.seq (rG [fA 3 0 1, lN 4 3 0, op 5 (cO 1 (vs 3) 3 true) [.slot 4, cI 1, cI 1000], sX 6 [.slot 5], gF 7 1 1 6 true, gL 8 7 0 6 true, ⟨some 9, cO 1 (vs 3) 3 true, [.slot 8, cI 0, cI 1000], [], [], some (6, true), false, .none⟩, op 10 .pick [.slot 6, .slot 9, cB false], sX 11 [.slot 10], gF 12 2 1 11 true, gL 13 12 0 11 true, ⟨some 14, cO 1 (vs 3) 3 true, [.slot 13, cI 0, cI 2], [], [], some (11, true), false, .none⟩, op 15 .pick [.slot 11, .slot 14, cB false], mv 2 15]) (.ret))
def zAI.env (N : Nat) : Env := envOf (tbl [(1, zR.fs N)] noFS)
def zAI.F (N : Nat) (x : Int × Int × Int) : Option Bool := XFunc.run zAI.x (zAI.env N) N x
def zAI.fs (N : Nat) : FS := fS zAI.x true (zAI.F N)
theorem zAI.F_eq (N : Nat) (t : Int × Int × Int) : zAI.F N t =
bindO (zR.F N (t.1, (1, 1000))) fun r1 =>
bif r1 then
bindO (zR.F N (t.2.1, (0, 1000))) fun r2 =>
bif r2 then
bindO (zR.F N (t.2.2, (0, 2))) fun r3 =>
some r3
else
some false
else
some false := by kernel_rfl
def yJ.c1 : XCode := .seq (.seq (rG [mv 5 4, fA 6 4 1, lN 7 6 0, o1 8 .len 7, o2 9 (.bin .lss) 5 8]) (cX 9 0)) (.seq (.block 1 (rG [mv 12 3, fA 13 4 1, lN 14 13 0, mv 15 4, o2 16 (.indexAddr zAY) 14 15, fA 17 0 16, o1 18 (.load false 1) 17, o1 19 (cO 57 (vs 1) 1 true) 18, o2 20 (.bin .or) 12 19, mv 3 20])) (rG [mv 10 4, op 11 (.bin .add) [.slot 10, cI 1], mv 4 11]))
def yJ.c2 : XCode := .seq (rG [mv 21 3, mv 2 21]) (.ret)
def yJ.x : XFunc := xF 22 1 [.val true 7] (no 7) [.tmp 2 false 1] [.imm] true (.pair T10_30 T8_30) (.int .i64) <| .seq (rG [ow 1 (.box 0) [.slot 0] [0] [0], op 2 .move [cI 0]]) (.seq (rG [op 3 .move [cI 0]]) (.seq (.seq (rG [op 4 .move [cI 0]]) (.block 0 (.loop [.keep [1, 3, 4], .norm] (yJ.c1)))) (yJ.c2)))
def yJ.env (N : Nat) : Env := envOf (tbl [(57, zA3.fs N)] noFS)
def yJ.F (N : Nat) (x : (Int × List yZ) × (List zAZ) × Int × yT × Int × Bool) : Option Int := XFunc.run yJ.x (yJ.env N) N x
def yJ.fs (N : Nat) : FS := fS yJ.x true (yJ.F N)
def yJ.k2 (N : Nat) : Ex -> S -> Option Int := seqK (fun s => XCode.runK (yJ.env N) N (yJ.c2) s (XFunc.endK yJ.x)) (XFunc.endK yJ.x)
def yJ.k1 (N : Nat) : Ex -> S -> Option Int := y7 0 (yJ.k2 N)
def yJ.L1 (N : Nat) (n1 : Nat) (held : Int) (i : Int) (o00 : Int) (o01 : List yZ) (o02 : List zAZ) (o03 : Int) (o04 : yT) (o05 : Int) (o06 : Bool) : Option Int := loopK [.keep [1, 3, 4], .norm] (rK (yJ.env N) N yJ.c1) n1
 { t := jK 22 [(1, .one (.ptr 0 0 0)), (3, .one (.int .i64 held)), (4, .one (.int .i64 i))], h := [.box 0 false [.int .i64 o00, .sl false (.list zBA) o01, .sl false (.list zBB) o02, .int .i64 o03, .sl false zAY o04, .int .i64 o05, .bool o06]] }
 (yJ.k1 N)
theorem yJ.L1_eq (N : Nat) (n1 : Nat) (held : Int) (i : Int) (o00 : Int) (o01 : List yZ) (o02 : List zAZ) (o03 : Int) (o04 : yT) (o05 : Int) (o06 : Bool) : yJ.L1 N (n1 + 1) held i o00 o01 o02 o03 o04 o05 o06 =
bif decide (i < (o04.length : Int)) then
bif zG i (o04.length) then
bindO (zA3.F N ((nth (0, (0, (0, (0, 0)))) o04 i).1)) fun r1 =>
yJ.L1 N n1 (bitOr .i64 held r1) (IntKind.wrap .i64 (i + 1)) o00 o01 o02 o03 o04 o05 o06
else none
else
some held := by kernel_rfl
theorem yJ.F_eq (N : Nat) (e : (Int × List yZ) × (List zAZ) × Int × yT × Int × Bool) : yJ.F N e =
yJ.L1 N N 0 0 e.1.1 e.1.2 e.2.1 e.2.2.1 e.2.2.2.1 e.2.2.2.2.1 e.2.2.2.2.2 := by kernel_rfl
def zAT.x : XFunc := xF 72 1 [.val true 15] (no 15) [.tmp 2 false 1] [.imm] true (.pair T2_30 T9_30) .bool <| .seq (rG [ow 1 (.box 0) [.slot 0] [0] [0], op 2 .move [cB false]]) (.seq (.seq (rG [fA 3 0 1, lU 4 7 3 0, o1 5 (cO 291 [.val true 7] 7 true) 4, o1 6 .not 5, sX 7 [.slot 6], gF 8 7 1 7 false, gX 9 (.load true 3) [.slot 8] [0] [] 7 false, ⟨some 10, cO 296 [.val true 3] 3 true, [.slot 9], [], [], some (7, false), false, .none⟩, gX 11 .not [.slot 10] [] [] 7 false, op 12 .pick [.slot 7, cB true, .slot 11], sX 13 [.slot 12], gF 14 11 1 13 false, gL 15 14 0 13 false, ⟨some 16, cO 1 (vs 3) 3 true, [.slot 15, cI 0, cI 1000000], [], [], some (13, false), false, .none⟩, gX 17 .not [.slot 16] [] [] 13 false, op 18 .pick [.slot 13, cB true, .slot 17], sX 19 [.slot 18], gF 20 12 1 19 false, gL 21 20 0 19 false, gF 22 11 1 19 false, gL 23 22 0 19 false, ⟨some 24, cO 1 (vs 3) 3 true, [.slot 21, cI 0, .slot 23], [], [], some (19, false), false, .none⟩, gX 25 .not [.slot 24] [] [] 19 false, op 26 .pick [.slot 19, cB true, .slot 25]]) (rI 26 2 false)) (.seq (.seq (.region true [fA 27 10 1, lN 28 27 0, fA 29 0 1, lU 30 7 29 0, o1 31 (cO 297 [.val true 7] 7 true) 30, fA 32 0 1, fA 33 0 32, fA 34 0 33, lN 35 34 0, op 36 (cO 41 (vs 4) 4 true) [.slot 28, .slot 31, .slot 35, cI 0], o1 37 .not 36, sX 38 [.slot 37], gF 39 10 1 38 false, gL 40 39 0 38 false, gX 41 .len [.slot 40] [] [] 38 false, gX 42 (.bin .gtr) [.slot 41, cI 0] [] [] 38 false, ⟨some 43, .move, [.slot 42], [], [], some (38, false), true, .none⟩, gF 44 10 1 43 true, gL 45 44 0 43 true, gF 46 10 1 43 true, gL 47 46 0 43 true, gX 48 .len [.slot 47] [] [] 43 true, gX 49 (.bin .sub) [.slot 48, cI 1] [] [] 43 true, gX 50 (.indexAddr zCQ) (sl [45, 49]) [] [] 43 true, gF 51 0 50 43 true, gX 52 (.load false 1) [.slot 51] [] [] 43 true, gF 53 11 1 43 true, gL 54 53 0 43 true, gX 55 (.bin .gtr) (sl [52, 54]) [] [] 43 true, gX 56 .pick [.slot 43, .slot 55, cB false] [] [] 38 false, op 57 .pick [.slot 38, cB true, .slot 56]]) (rI 57 2 false)) (.seq (rG [fA 58 13 1, lN 59 58 0, fA 60 0 1, fA 61 0 60, fA 62 0 61, lN 63 62 0, op 64 (cO 1 (vs 3) 3 true) [.slot 59, cI 0, .slot 63], sX 65 [.slot 64], gF 66 14 1 65 true, gL 67 66 0 65 true, gF 68 11 1 65 true, gL 69 68 0 65 true, ⟨some 70, cO 1 (vs 3) 3 true, [.slot 67, cI 0, .slot 69], [], [], some (65, true), false, .none⟩, op 71 .pick [.slot 65, .slot 70, cB false], mv 2 71]) (.ret))))
def zAT.env (N : Nat) : Env := envOf (tbl [(291, zH.fs N), (296, zAI.fs N), (41, zU.fs N), (297, yJ.fs N), (1, zR.fs N)] noFS)
def zAT.F (N : Nat) (x : zBb × (Int × Int × Int) × zBa × Int × Int × Int × Int) : Option Bool := XFunc.run zAT.x (zAT.env N) N x
def zAT.fs (N : Nat) : FS := fS zAT.x true (zAT.F N)
theorem zAT.F_eq (N : Nat) (d : zBb × (Int × Int × Int) × zBa × Int × Int × Int × Int) : zAT.F N d =
bindO (zH.F N d.1) fun r1 =>
bif !r1 then
some false
else
bindO (zAI.F N d.2.1) fun r2 =>
bif !r2 then
some false
else
bindO (zR.F N (d.2.2.2.1, (0, 1000000))) fun r3 =>
bif !r3 then
some false
else
bindO (zR.F N (d.2.2.2.2.1, (0, d.2.2.2.1))) fun r4 =>
bif !r4 then
some false
else
bindO (yJ.F N d.1) fun r5 =>
bindO (zU.F N (d.2.2.1, (r5, (d.1.1.1, 0)))) fun r6 =>
bif !r6 then
some false
else
bif decide ((List.length d.2.2.1 : Int) > 0) then
bif zG (IntKind.wrap .i64 ((List.length d.2.2.1 : Int) - 1)) (List.length d.2.2.1) then
bif decide (((nth (0, (0, false)) d.2.2.1 (IntKind.wrap .i64 ((List.length d.2.2.1 : Int) - 1))).1) > d.2.2.2.1) then
some false
else
bindO (zR.F N (d.2.2.2.2.2.1, (0, d.1.1.1))) fun r7 =>
bif r7 then
bindO (zR.F N (d.2.2.2.2.2.2, (0, d.2.2.2.1))) fun r8 =>
some r8
else
some false
else none
else
bindO (zR.F N (d.2.2.2.2.2.1, (0, d.1.1.1))) fun r9 =>
bif r9 then
bindO (zR.F N (d.2.2.2.2.2.2, (0, d.2.2.2.1))) fun r10 =>
some r10
else
some false := by kernel_rfl
def ya.c1 : XCode := .seq (.seq (rG [mv 8 4, fA 9 1 1, lN 10 9 0, o1 11 .len 10, o2 12 (.bin .lss) 8 11]) (cX 12 0)) (.seq (.block 1 (.region true [fA 15 1 3, lN 16 15 2, ow 17 (.buildSlice false 3 8 zBA 0 [] [cZ, cZ, cZ, cZ]) [] [3] [3], fA 18 1 1, lN 19 18 0, mv 20 4, o2 21 (.indexAddr (.list zBA)) 19 20, o1 22 (.load false 1) 21, ow 23 (.append true 3 8 zBA) (sl [17, 22]) [3] [3], ow 24 (.buildSlice false 4 9 (.list zBA) 1 [(0, 1)] [.nil]) [.slot 23] [4] [4], ow 25 (.append false 5 9 (.list zBA)) (sl [16, 24]) [4, 5] [5], fA 26 1 3, sT 1 26 25 2])) (rG [mv 13 4, op 14 (.bin .add) [.slot 13, cI 1], mv 4 14]))
def ya.c2 : XCode := .seq (rG [lU 27 2 3 2, sT 2 2 27 1]) (.ret)
def ya.x : XFunc := xF 28 6 [.val true 2] (no 2) [.var 2 true 2] [.imm, .own 9] true (.pair (.int .i64) (.list (.list zBA))) (.pair (.int .i64) (.list (.list zBA))) <| .seq (rG [ow 1 (.box 0) [.slot 0] [0] [0], ow 2 (.alloc 1 [cZ, .nil]) [] [1] [1]]) (.seq (rG [fA 5 0 1, lN 6 5 0, o1 7 (.build [cZ, .nil] [(0, 1)]) 6, ow 3 (.alloc 2 [cZ, .nil]) [] [2] [2], sT 2 3 7 2]) (.seq (.seq (rG [op 4 .move [cI 0]]) (.block 0 (.loop [.mkrow (.boxc 2 1) 5 9 (.list zBA), .keep [1, 2, 3, 4], .drop 3, .drop 4, .norm] (ya.c1)))) (ya.c2)))
def ya.env (_ : Nat) : Env := envOf (tbl [] noFS)
def ya.F (N : Nat) (x : Int × List yZ) : Option (Int × List yZ) := XFunc.run ya.x (ya.env N) N x
def ya.fs (N : Nat) : FS := fS ya.x true (ya.F N)
def ya.k2 (N : Nat) : Ex -> S -> Option (Int × List yZ) := seqK (fun s => XCode.runK (ya.env N) N (ya.c2) s (XFunc.endK ya.x)) (XFunc.endK ya.x)
def ya.k1 (N : Nat) : Ex -> S -> Option (Int × List yZ) := y7 0 (ya.k2 N)
def ya.L1 (N : Nat) (n1 : Nat) (i : Int) (o00 : Int) (o01 : List yZ) (o20 : Int) (o5 : List yZ) : Option (Int × List yZ) := loopK [.mkrow (.boxc 2 1) 5 9 (.list zBA), .keep [1, 2, 3, 4], .drop 3, .drop 4, .norm] (rK (ya.env N) N ya.c1) n1
 { t := jK 28 [(1, .one (.ptr 0 0 0)), (2, .one (.ptr 1 0 0)), (3, .one (.ptr 2 0 0)), (4, .one (.int .i64 i))], h := [.box 0 false [.int .i64 o00, .sl false (.list zBA) o01], .box 0 false [cZ, .nil], .box 0 false [.int .i64 o20, .ref 5 0 .all], .absent 0, .absent 0, .row 0 false true 9 (.list zBA) o5] }
 (ya.k1 N)
theorem ya.L1_eq (N : Nat) (n1 : Nat) (i : Int) (o00 : Int) (o01 : List yZ) (o20 : Int) (o5 : List yZ) : ya.L1 N (n1 + 1) i o00 o01 o20 o5 =
bif decide (i < (o01.length : Int)) then
bif zG i (o01.length) then
bif decide (List.length ([] : List (Int × Int × Int × Int)) + List.length (nth ([] : List (Int × Int × Int × Int)) o01 i) <= maxN) then
bif decide (o5.length + List.length ([([] : List (Int × Int × Int × Int)) ++ (nth ([] : List (Int × Int × Int × Int)) o01 i)] : List yZ) <= maxN) then
ya.L1 N n1 (IntKind.wrap .i64 (i + 1)) o00 o01 o20 (o5 ++ ([([] : List (Int × Int × Int × Int)) ++ (nth ([] : List (Int × Int × Int × Int)) o01 i)] : List yZ))
else none
else none
else none
else
some (o20, o5) := by kernel_rfl
theorem ya.F_eq (N : Nat) (m : Int × List yZ) : ya.F N m =
ya.L1 N N 0 m.1 m.2 m.1 ([] : List yZ) := by kernel_rfl
def yI.c1 : XCode := .seq (.seq (rG [mv 12 4, fA 13 2 1, lN 14 13 0, o1 15 .len 14, o2 16 (.bin .lss) 12 15]) (cX 16 0)) (.seq (.block 1 (.region true [fA 19 2 3, lN 20 19 2, ow 21 (.buildSlice false 4 10 zBB 0 [] [cZ, cZ, cZ]) [] [4] [4], fA 22 2 1, lN 23 22 0, mv 24 4, o2 25 (.indexAddr (.list zBB)) 23 24, o1 26 (.load false 1) 25, ow 27 (.append true 4 10 zBB) (sl [21, 26]) [4] [4], ow 28 (.buildSlice false 5 11 (.list zBB) 1 [(0, 1)] [.nil]) [.slot 27] [5] [5], ow 29 (.append false 3 11 (.list zBB)) (sl [20, 28]) [3, 5] [3], fA 30 2 3, sT 1 30 29 2])) (rG [mv 17 4, op 18 (.bin .add) [.slot 17, cI 1], mv 4 18]))
def yI.c2 : XCode := .seq (rG [ow 31 (.buildSlice false 6 15 zAY 0 [] [cZ, cZ, cZ, cZ, cZ]) [] [6] [6], fA 32 4 1, lN 33 32 0, ow 34 (.append false 6 15 zAY) (sl [31, 33]) [6] [6], fA 35 4 3, sT 1 35 34 2]) (.seq (rG [lU 36 7 3 2, sT 7 2 36 1]) (.ret))
def yI.x : XFunc := xF 37 7 [.val true 7] (no 7) [.var 2 true 7] [.imm, .imm, .own 11, .imm, .own 15, .imm, .imm] true (.pair T10_30 T8_30) (.pair T10_30 T8_30) <| .seq (rG [ow 1 (.box 0) [.slot 0] [0] [0], ow 2 (.alloc 1 [cZ, .nil, .nil, cZ, .nil, cZ, .bool false]) [] [1] [1]]) (.seq (rG [lU 5 7 1 0, ow 3 (.alloc 2 [cZ, .nil, .nil, cZ, .nil, cZ, .bool false]) [] [2] [2], sT 7 3 5 2]) (.seq (rG [fA 6 0 1, lU 7 2 6 0, o1 8 (.call ⟨292, [.val true 2], no 2, [.val true 2], ims 2, true⟩) 7, fA 9 0 3, sT 2 9 8 2]) (.seq (rG [ow 10 (.buildSlice false 3 11 (.list zBB) 0 [] [.nil]) [] [3] [3], fA 11 2 3, sT 1 11 10 2]) (.seq (.seq (rG [op 4 .move [cI 0]]) (.block 0 (.loop [.keep [1, 2, 3, 4], .drop 4, .drop 5, .drop 6, .norm] (yI.c1)))) (yI.c2)))))
def yI.env (N : Nat) : Env := envOf (tbl [(292, ya.fs N)] noFS)
def yI.F (N : Nat) (x : (Int × List yZ) × (List zAZ) × Int × yT × Int × Bool) : Option zBb := XFunc.run yI.x (yI.env N) N x
def yI.fs (N : Nat) : FS := fS yI.x true (yI.F N)
def yI.k2 (N : Nat) : Ex -> S -> Option zBb := seqK (fun s => XCode.runK (yI.env N) N (yI.c2) s (XFunc.endK yI.x)) (XFunc.endK yI.x)
def yI.k1 (N : Nat) : Ex -> S -> Option zBb := y7 0 (yI.k2 N)
def yI.L1 (N : Nat) (n1 : Nat) (i : Int) (o00 : Int) (o01 : List yZ) (o02 : List zAZ) (o03 : Int) (o04 : yT) (o05 : Int) (o06 : Bool) (o20 : Int) (o21 : List yZ) (o23 : Int) (o24 : yT) (o25 : Int) (o26 : Bool) (o3 : List zAZ) : Option zBb := loopK [.keep [1, 2, 3, 4], .drop 4, .drop 5, .drop 6, .norm] (rK (yI.env N) N yI.c1) n1
 { t := jK 37 [(1, .one (.ptr 0 0 0)), (2, .one (.ptr 1 0 0)), (3, .one (.ptr 2 0 0)), (4, .one (.int .i64 i))], h := [.box 0 false [.int .i64 o00, .sl false (.list zBA) o01, .sl false (.list zBB) o02, .int .i64 o03, .sl false zAY o04, .int .i64 o05, .bool o06], .box 0 false [cZ, .nil, .nil, cZ, .nil, cZ, .bool false], .box 0 false [.int .i64 o20, .sl true (.list zBA) o21, .ref 3 0 .all, .int .i64 o23, .sl false zAY o24, .int .i64 o25, .bool o26], .row 0 false true 11 (.list zBB) o3, .absent 0, .absent 0, .absent 0] }
 (yI.k1 N)
theorem yI.L1_eq (N : Nat) (n1 : Nat) (i : Int) (o00 : Int) (o01 : List yZ) (o02 : List zAZ) (o03 : Int) (o04 : yT) (o05 : Int) (o06 : Bool) (o20 : Int) (o21 : List yZ) (o23 : Int) (o24 : yT) (o25 : Int) (o26 : Bool) (o3 : List zAZ) : yI.L1 N (n1 + 1) i o00 o01 o02 o03 o04 o05 o06 o20 o21 o23 o24 o25 o26 o3 =
bif decide (i < (o02.length : Int)) then
bif zG i (o02.length) then
bif decide (List.length ([] : List (Int × Int × Int)) + List.length (nth ([] : List (Int × Int × Int)) o02 i) <= maxN) then
bif decide (o3.length + List.length ([([] : List (Int × Int × Int)) ++ (nth ([] : List (Int × Int × Int)) o02 i)] : List zAZ) <= maxN) then
yI.L1 N n1 (IntKind.wrap .i64 (i + 1)) o00 o01 o02 o03 o04 o05 o06 o20 o21 o23 o24 o25 o26 (o3 ++ ([([] : List (Int × Int × Int)) ++ (nth ([] : List (Int × Int × Int)) o02 i)] : List zAZ))
else none
else none
else none
else
bif decide (List.length ([] : List (Int × Int × Int × Int × Int)) + o04.length <= maxN) then
some ((o20, o21), (o3, (o23, (([] : List (Int × Int × Int × Int × Int)) ++ o04, (o25, o26)))))
else none := by kernel_rfl
theorem yI.F_eq (N : Nat) (e : (Int × List yZ) × (List zAZ) × Int × yT × Int × Bool) : yI.F N e =
bindO (ya.F N e.1) fun r1 =>
yI.L1 N N 0 e.1.1 e.1.2 e.2.1 e.2.2.1 e.2.2.2.1 e.2.2.2.2.1 e.2.2.2.2.2 r1.1 r1.2 e.2.2.1 e.2.2.2.1 e.2.2.2.2.1 e.2.2.2.2.2 ([] : List zAZ) := by kernel_rfl
def zj.c1 : XCode := .seq (.seq (rG [mv 11 6, mv 12 1, o1 13 .len 12, o2 14 (.bin .lss) 11 13, sX 15 [.slot 14], gM 16 1 15 true, ⟨some 17, cO 286 (vs 1) 1 true, [.slot 16], [], [], some (15, true), false, .none⟩, op 18 .pick [.slot 15, .slot 17, cB false]]) (cX 18 0)) (.seq (.block 1 (.seq (rG [mv 21 1, mv 22 6, o2 23 (.indexAddr zAY) 21 22, fA 24 1 23, fA 25 0 24, o1 26 (.load false 1) 25, op 27 (.bin .eql) [.slot 26, cI 3]]) (.cond (.slot 27) (rG [mv 28 5, mv 29 1, mv 30 6, o2 31 (.indexAddr zAY) 29 30, fA 32 1 31, fA 33 3 32, o1 34 (.load false 1) 33, op 35 (.bin .shl) [cI 1, .slot 34], o2 36 (.bin .or) 28 35, mv 5 36]) (.skip)))) (rG [mv 19 6, op 20 (.bin .add) [.slot 19, cI 1], mv 6 20]))
def zj.c2 : XCode := .seq (rG [mv 37 5, mv 4 37]) (.ret)
def zj.x : XFunc := xF 38 0 [.val false 1, .val false 1] (no 2) [.tmp 4 false 1] [.imm] true (.pair (.int .i64) (.list zAY)) (.int .i64) <| .seq (rG [op 4 .move [cI 0]]) (.seq (rG [op 5 .move [cI 1]]) (.seq (.seq (rG [mv 7 0, op 8 (cO 1 (vs 3) 3 true) [.slot 7, cI 0, cI 15]]) (.cond (.slot 8) (rG [mv 9 0, op 10 (.bin .or) [cI 1, .slot 9], mv 5 10]) (.skip))) (.seq (.seq (rG [op 6 .move [cI 0]]) (.block 0 (.loop [.keep [1, 5, 6], .norm] (zj.c1)))) (zj.c2))))
def zj.env (N : Nat) : Env := envOf (tbl [(286, z9.fs N), (1, zR.fs N)] noFS)
def zj.F (N : Nat) (x : Int × List (Int × Int × Int × Int × Int)) : Option Int := XFunc.run zj.x (zj.env N) N x
def zj.fs (N : Nat) : FS := fS zj.x true (zj.F N)
def zj.k2 (N : Nat) : Ex -> S -> Option Int := seqK (fun s => XCode.runK (zj.env N) N (zj.c2) s (XFunc.endK zj.x)) (XFunc.endK zj.x)
def zj.k1 (N : Nat) : Ex -> S -> Option Int := y7 0 (zj.k2 N)
def zj.L1 (N : Nat) (n1 : Nat) (l_ : yT) (on : Int) (i : Int) : Option Int := loopK [.keep [1, 5, 6], .norm] (rK (zj.env N) N zj.c1) n1
 { t := jK 38 [(1, .one (.sl false zAY l_)), (5, .one (.int .i64 on)), (6, .one (.int .i64 i))], h := [] }
 (zj.k1 N)
theorem zj.L1_eq (N : Nat) (n1 : Nat) (l_ : yT) (on : Int) (i : Int) : zj.L1 N (n1 + 1) l_ on i =
bif decide (i < (l_.length : Int)) then
bindO (z9.F N l_) fun r2 =>
bif r2 then
bif zG i (l_.length) then
bif (((nth (0, (0, (0, (0, 0)))) l_ i).2).1) == 3 then
bif zG i (l_.length) then
bif decide (0 <= ((((nth (0, (0, (0, (0, 0)))) l_ i).2).2).2).2) then
zj.L1 N n1 l_ (bitOr .i64 on (zBS .i64 1 (((((nth (0, (0, (0, (0, 0)))) l_ i).2).2).2).2))) (IntKind.wrap .i64 (i + 1))
else none
else none
else
zj.L1 N n1 l_ on (IntKind.wrap .i64 (i + 1))
else none
else
some on
else
some on := by kernel_rfl
theorem zj.F_eq (N : Nat) (fixed : Int) (l_ : yT) : zj.F N (fixed, l_) =
bindO (zR.F N (fixed, (0, 15))) fun r1 =>
bif r1 then
zj.L1 N N l_ (bitOr .i64 1 fixed) 0
else
zj.L1 N N l_ 1 0 := by kernel_rfl
def yR.c1 : XCode := .seq (.seq (rG [mv 23 7, op 24 (.bin .gtr) [.slot 23, cI 0]]) (cX 24 0)) (.seq (.block 1 (.seq (rG [mv 27 1, mv 28 7, o2 29 (.bin .shr) 27 28, op 30 (.bin .and) [.slot 29, cI 1], op 31 (.bin .eql) [.slot 30, cI 1], sX 32 [.slot 31], gF 33 1 3 32 true, gL 34 33 0 32 true, gM 35 7 32 true, gX 36 (.indexAddr (.list zBA)) (sl [34, 35]) [] [] 32 true, gX 37 (.load false 1) [.slot 36] [] [] 32 true, gM 38 2 32 true, gX 39 (.indexAddr zBA) (sl [37, 38]) [] [] 32 true, gF 40 0 39 32 true, gX 41 (.load false 1) [.slot 40] [] [] 32 true, gX 42 (.bin .neq) [.slot 41, cI 1] [] [] 32 true, op 43 .pick [.slot 32, .slot 42, cB false]]) (.cond (.slot 43) (.seq (rG [mv 44 7, mv 6 44]) (.ret)) (.skip)))) (rG [mv 25 7, op 26 (.bin .sub) [.slot 25, cI 1], mv 7 26]))
def yR.c2 : XCode := .seq (rG [op 6 .move [cI 0]]) (.ret)
def yR.x : XFunc := xF 45 1 [.val true 2, .val false 1, .val false 1] (no 4) [.tmp 6 false 1] [.imm] true (.pair T10_30 zBx) (.int .i64) <| .seq (rG [ow 3 (.box 0) [.slot 0] [0] [0], op 6 .move [cI 0]]) (.seq (.seq (rG [lU 8 2 3 0, o1 9 (cO 284 [.val true 2] 2 true) 8, o1 10 .not 9, sX 11 [.slot 10], gM 12 2 11 false, gF 13 0 3 11 false, gL 14 13 0 11 false, gX 15 (.bin .sub) [.slot 14, cI 1] [] [] 11 false, ⟨some 16, cO 1 (vs 3) 3 true, [.slot 12, cI 0, .slot 15], [], [], some (11, false), false, .none⟩, gX 17 .not [.slot 16] [] [] 11 false, op 18 .pick [.slot 11, cB true, .slot 17]]) (.cond (.slot 18) (.seq (rG [op 6 .move [cI (-1)]]) (.ret)) (.skip))) (.seq (.seq (rG [fA 19 1 3, lN 20 19 0, o1 21 .len 20, op 22 (.bin .sub) [.slot 21, cI 1], mv 7 22]) (.block 0 (.loop [.keep [1, 2, 3, 7], .norm] (yR.c1)))) (yR.c2)))
def yR.env (N : Nat) : Env := envOf (tbl [(284, zE.fs N), (1, zR.fs N)] noFS)
def yR.F (N : Nat) (x : (Int × List yZ) × Int × Int) : Option Int := XFunc.run yR.x (yR.env N) N x
def yR.fs (N : Nat) : FS := fS yR.x true (yR.F N)
def yR.k2 (N : Nat) : Ex -> S -> Option Int := seqK (fun s => XCode.runK (yR.env N) N (yR.c2) s (XFunc.endK yR.x)) (XFunc.endK yR.x)
def yR.k1 (N : Nat) : Ex -> S -> Option Int := y7 0 (yR.k2 N)
def yR.L1 (N : Nat) (n1 : Nat) (on : Int) (key : Int) (i : Int) (o00 : Int) (o01 : List yZ) : Option Int := loopK [.keep [1, 2, 3, 7], .norm] (rK (yR.env N) N yR.c1) n1
 { t := jK 45 [(1, .one (.int .i64 on)), (2, .one (.int .i64 key)), (3, .one (.ptr 0 0 0)), (7, .one (.int .i64 i))], h := [.box 0 false [.int .i64 o00, .sl false (.list zBA) o01]] }
 (yR.k1 N)
theorem yR.L1_eq (N : Nat) (n1 : Nat) (on : Int) (key : Int) (i : Int) (o00 : Int) (o01 : List yZ) : yR.L1 N (n1 + 1) on key i o00 o01 =
bif decide (i > 0) then
bif decide (0 <= i) then
bif (zBo .i64 (zBy .i64 on i) 1) == 1 then
bif zG i (o01.length) then
bif zG key (List.length (nth ([] : List (Int × Int × Int × Int)) o01 i)) then
bif ((nth (0, (0, (0, 0))) (nth ([] : List (Int × Int × Int × Int)) o01 i) key).1) != 1 then
some i
else
yR.L1 N n1 on key (IntKind.wrap .i64 (i - 1)) o00 o01
else none
else none
else
yR.L1 N n1 on key (IntKind.wrap .i64 (i - 1)) o00 o01
else none
else
some 0 := by kernel_rfl
theorem yR.F_eq (N : Nat) (m : Int × List yZ) (on : Int) (key : Int) : yR.F N (m, on, key) =
bindO (zE.F N m) fun r1 =>
bif !r1 then
some (-1 : Int)
else
bindO (zR.F N (key, (0, IntKind.wrap .i64 (m.1 - 1)))) fun r2 =>
bif !r2 then
some (-1 : Int)
else
yR.L1 N N on key (IntKind.wrap .i64 ((List.length m.2 : Int) - 1)) m.1 m.2 := by kernel_rfl
def zAJ.x : XFunc := xF 23 2 [.val true 2, .val false 1, .val false 1] (no 4) [.var 6 true 4] (iF 4) true (.pair T10_30 zBx) (.pair (.int .i64) zBB) <| .seq (rG [ow 3 (.box 0) [.slot 0] [0] [0], ow 6 (.alloc 1 [cZ, cZ, cZ, cZ]) [] [1] [1]]) (.seq (rG [lU 8 2 3 0, mv 9 1, mv 10 2, op 11 (cO 302 [.val true 2, .val false 1, .val false 1] 4 true) (sl [8, 9, 10]), mv 7 11]) (.seq (.seq (rG [mv 12 7, op 13 (.bin .lss) [.slot 12, cI 0]]) (.cond (.slot 13) (.seq (rG [op 14 (.build [cZ, cZ, cZ, cZ] []) [], sT 4 6 14 1]) (.ret)) (.skip))) (.seq (rG [fA 15 1 3, lN 16 15 0, mv 17 7, o2 18 (.indexAddr (.list zBA)) 16 17, o1 19 (.load false 1) 18, mv 20 2, o2 21 (.indexAddr zBA) 19 20, o1 22 (.load true 4) 21, sT 4 6 22 1]) (.ret))))
def zAJ.env (N : Nat) : Env := envOf (tbl [(302, yR.fs N)] noFS)
def zAJ.F (N : Nat) (x : (Int × List yZ) × Int × Int) : Option (Int × Int × Int × Int) := XFunc.run zAJ.x (zAJ.env N) N x
def zAJ.fs (N : Nat) : FS := fS zAJ.x true (zAJ.F N)
theorem zAJ.F_eq (N : Nat) (m : Int × List yZ) (on : Int) (key : Int) : zAJ.F N (m, on, key) =
bindO (yR.F N (m, (on, key))) fun r1 =>
bif decide (r1 < 0) then
some (0, (0, (0, 0)))
else
bif zG r1 (List.length m.2) then
bif zG key (List.length (nth ([] : List (Int × Int × Int × Int)) m.2 r1)) then
some ((nth (0, (0, (0, 0))) (nth ([] : List (Int × Int × Int × Int)) m.2 r1) key).1, (((nth (0, (0, (0, 0))) (nth ([] : List (Int × Int × Int × Int)) m.2 r1) key).2).1, (((nth (0, (0, (0, 0))) (nth ([] : List (Int × Int × Int × Int)) m.2 r1) key).2).2)))
else none
else none := by kernel_rfl
def za.c1 : XCode := .seq (.seq (rG [mv 28 14, mv 29 3, o1 30 .len 29, o2 31 (.bin .lss) 28 30]) (cX 31 0)) (.seq (.block 1 (.seq (rG [mv 34 3, mv 35 14, o2 36 (.indexAddr zCQ) 34 35, o1 37 (.load true 3) 36, ow 15 (.alloc 1 [cZ, cZ, .bool false]) [] [1] [1], sT 3 15 37 1]) (.block 2 (.seq (rG [lU 39 3 15 1, o1 40 (cO 40 [.val true 3] 3 true) 39, o1 41 .not 40, mv 38 41]) (.cond (.slot 38) (.seq (rG [op 10 .move [cI 0], op 11 .move [cI 0]]) (.ret)) (.seq (rG [fA 43 0 15, lN 44 43 1, mv 45 12, o2 46 (.bin .geq) 44 45, mv 42 46]) (.cond (.slot 42) (.seq (rG [mv 47 12, op 10 .move [cI 2], mv 11 47]) (.ret)) (.seq (rG [fA 49 1 15, lN 50 49 1, mv 51 1, o2 52 (.bin .eql) 50 51, sX 53 [.slot 52], gF 54 2 15 53 true, gL 55 54 1 53 true, gX 56 .not [.slot 55] [] [] 53 true, op 57 .pick [.slot 53, .slot 56, cB false], mv 48 57]) (.cond (.slot 48) (.seq (.region true [fA 58 0 15, lN 59 58 1, op 10 .move [cI 1], mv 11 59]) (.ret)) (.seq (rG [fA 61 1 15, lN 62 61 1, mv 63 1, o2 64 (.bin .eql) 62 63, mv 60 64]) (.cond (.slot 60) (.exit 1) (.seq (rG [fA 66 2 15, lN 67 66 1, sX 68 [.slot 67], gF 69 2 5 68 true, gL 70 69 0 68 true, gX 71 (.bin .eql) [.slot 70, cI 1] [] [] 68 true, op 72 .pick [.slot 68, .slot 71, cB false], mv 65 72]) (.cond (.slot 65) (.seq (.region true [fA 73 0 15, lN 74 73 1, op 10 .move [cI 2], mv 11 74]) (.ret)) (.seq (rG [fA 76 2 15, lN 77 76 1, mv 75 77]) (.cond (.slot 75) (rG [mv 78 13, fA 79 1 15, lN 80 79 1, op 81 (.bin .shl) [cI 1, .slot 80], o2 82 (.bin .or) 78 81, mv 13 82]) (.seq (rG [fA 84 2 5, lN 85 84 0, op 86 (.bin .eql) [.slot 85, cI 2], sX 87 [.slot 86], gM 88 13 87 true, gF 89 1 15 87 true, gL 90 89 1 87 true, gX 91 (.bin .shr) (sl [88, 90]) [] [] 87 true, gX 92 (.bin .and) [.slot 91, cI 1] [] [] 87 true, gX 93 (.bin .eql) [.slot 92, cI 1] [] [] 87 true, op 94 .pick [.slot 87, .slot 93, cB false], mv 83 94]) (.cond (.slot 83) (.seq (.region true [fA 95 0 15, lN 96 95 1, op 10 .move [cI 2], mv 11 96]) (.ret)) (.skip)))))))))))))))))) (rG [mv 32 14, op 33 (.bin .add) [.slot 32, cI 1], mv 14 33]))
def za.c2 : XCode := .seq (.seq (rG [mv 97 4, mv 98 12, o2 99 (.bin .geq) 97 98]) (.cond (.slot 99) (.seq (rG [mv 100 12, op 10 .move [cI 2], mv 11 100]) (.ret)) (.skip))) (.seq (rG [op 10 .move [cI 0], op 11 .move [cI 0]]) (.ret))
def za.x : XFunc := xF 101 2 [.val true 3, .val false 1, .val false 1, .val false 1, .val false 1] (no 7) [.tmp 10 false 1, .tmp 11 false 1] (iF 2) true (.pair zBB (.pair (.int .i64) (.pair (.int .i64) T14_30))) (.pair (.int .i64) (.int .i64)) <| .seq (rG [ow 5 (.box 0) [.slot 0] [0] [0], op 10 .move [cI 0], op 11 .move [cI 0]]) (.seq (.seq (rG [lU 16 3 5 0, o1 17 (cO 296 [.val true 3] 3 true) 16, o1 18 .not 17, sX 19 [.slot 18], gM 20 2 19 false, ⟨some 21, cO 1 (vs 3) 3 true, [.slot 20, cI 0, cI 1000000], [], [], some (19, false), false, .none⟩, gX 22 .not [.slot 21] [] [] 19 false, op 23 .pick [.slot 19, cB true, .slot 22]]) (.cond (.slot 23) (.seq (rG [op 10 .move [cI 0], op 11 .move [cI 0]]) (.ret)) (.skip))) (.seq (rG [mv 24 2, fA 25 0 5, lN 26 25 0, o2 27 (.bin .add) 24 26, mv 12 27]) (.seq (rG [op 13 .move [cI 0]]) (.seq (.seq (rG [op 14 .move [cI 0]]) (.block 0 (.loop [.keep [1, 3, 4, 5, 12, 13, 14], .drop 1, .norm] (za.c1)))) (za.c2)))))
def za.env (N : Nat) : Env := envOf (tbl [(40, zAQ.fs N), (296, zAI.fs N), (1, zR.fs N)] noFS)
def za.F (N : Nat) (x : (Int × Int × Int) × Int × Int × zBa × Int) : Option (Int × Int) := XFunc.run za.x (za.env N) N x
def za.fs (N : Nat) : FS := fS za.x true (za.F N)
def za.k2 (N : Nat) : Ex -> S -> Option (Int × Int) := seqK (fun s => XCode.runK (za.env N) N (za.c2) s (XFunc.endK za.x)) (XFunc.endK za.x)
def za.k1 (N : Nat) : Ex -> S -> Option (Int × Int) := y7 0 (za.k2 N)
def za.L1 (N : Nat) (n1 : Nat) (key : Int) (rest : zBa) (now : Int) (end_ : Int) (others : Int) (i : Int) (o00 : Int) (o01 : Int) (o02 : Int) : Option (Int × Int) := loopK [.keep [1, 3, 4, 5, 12, 13, 14], .drop 1, .norm] (rK (za.env N) N za.c1) n1
 { t := jK 101 [(1, .one (.int .i64 key)), (3, .one (.sl false zCQ rest)), (4, .one (.int .i64 now)), (5, .one (.ptr 0 0 0)), (12, .one (.int .i64 end_)), (13, .one (.int .i64 others)), (14, .one (.int .i64 i))], h := [.box 0 false [.int .i64 o00, .int .i64 o01, .int .i64 o02], .absent 0] }
 (za.k1 N)
theorem za.L1_eq (N : Nat) (n1 : Nat) (key : Int) (rest : zBa) (now : Int) (end_ : Int) (others : Int) (i : Int) (o00 : Int) (o01 : Int) (o02 : Int) : za.L1 N (n1 + 1) key rest now end_ others i o00 o01 o02 =
bif decide (i < (rest.length : Int)) then
bif zG i (rest.length) then
bindO (zAQ.F N ((nth (0, (0, false)) rest i).1, ((nth (0, (0, false)) rest i).2))) fun r3 =>
bif !r3 then
some (0, 0)
else
bif decide (((nth (0, (0, false)) rest i).1) >= end_) then
some (2, end_)
else
bif (((nth (0, (0, false)) rest i).2).1) == key then
bif !(((nth (0, (0, false)) rest i).2).2) then
some (1, (nth (0, (0, false)) rest i).1)
else
bif (((nth (0, (0, false)) rest i).2).1) == key then
za.L1 N n1 key rest now end_ others (IntKind.wrap .i64 (i + 1)) o00 o01 o02
else
bif ((nth (0, (0, false)) rest i).2).2 then
bif o02 == 1 then
some (2, (nth (0, (0, false)) rest i).1)
else
bif ((nth (0, (0, false)) rest i).2).2 then
bif decide (0 <= ((nth (0, (0, false)) rest i).2).1) then
za.L1 N n1 key rest now end_ (bitOr .i64 others (zBS .i64 1 (((nth (0, (0, false)) rest i).2).1))) (IntKind.wrap .i64 (i + 1)) o00 o01 o02
else none
else
bif o02 == 2 then
bif decide (0 <= ((nth (0, (0, false)) rest i).2).1) then
bif (zBo .i64 (zBy .i64 others (((nth (0, (0, false)) rest i).2).1)) 1) == 1 then
some (2, (nth (0, (0, false)) rest i).1)
else
za.L1 N n1 key rest now end_ others (IntKind.wrap .i64 (i + 1)) o00 o01 o02
else none
else
za.L1 N n1 key rest now end_ others (IntKind.wrap .i64 (i + 1)) o00 o01 o02
else
bif ((nth (0, (0, false)) rest i).2).2 then
bif decide (0 <= ((nth (0, (0, false)) rest i).2).1) then
za.L1 N n1 key rest now end_ (bitOr .i64 others (zBS .i64 1 (((nth (0, (0, false)) rest i).2).1))) (IntKind.wrap .i64 (i + 1)) o00 o01 o02
else none
else
bif o02 == 2 then
bif decide (0 <= ((nth (0, (0, false)) rest i).2).1) then
bif (zBo .i64 (zBy .i64 others (((nth (0, (0, false)) rest i).2).1)) 1) == 1 then
some (2, (nth (0, (0, false)) rest i).1)
else
za.L1 N n1 key rest now end_ others (IntKind.wrap .i64 (i + 1)) o00 o01 o02
else none
else
za.L1 N n1 key rest now end_ others (IntKind.wrap .i64 (i + 1)) o00 o01 o02
else
bif (((nth (0, (0, false)) rest i).2).1) == key then
za.L1 N n1 key rest now end_ others (IntKind.wrap .i64 (i + 1)) o00 o01 o02
else
bif ((nth (0, (0, false)) rest i).2).2 then
bif o02 == 1 then
some (2, (nth (0, (0, false)) rest i).1)
else
bif ((nth (0, (0, false)) rest i).2).2 then
bif decide (0 <= ((nth (0, (0, false)) rest i).2).1) then
za.L1 N n1 key rest now end_ (bitOr .i64 others (zBS .i64 1 (((nth (0, (0, false)) rest i).2).1))) (IntKind.wrap .i64 (i + 1)) o00 o01 o02
else none
else
bif o02 == 2 then
bif decide (0 <= ((nth (0, (0, false)) rest i).2).1) then
bif (zBo .i64 (zBy .i64 others (((nth (0, (0, false)) rest i).2).1)) 1) == 1 then
some (2, (nth (0, (0, false)) rest i).1)
else
za.L1 N n1 key rest now end_ others (IntKind.wrap .i64 (i + 1)) o00 o01 o02
else none
else
za.L1 N n1 key rest now end_ others (IntKind.wrap .i64 (i + 1)) o00 o01 o02
else
bif ((nth (0, (0, false)) rest i).2).2 then
bif decide (0 <= ((nth (0, (0, false)) rest i).2).1) then
za.L1 N n1 key rest now end_ (bitOr .i64 others (zBS .i64 1 (((nth (0, (0, false)) rest i).2).1))) (IntKind.wrap .i64 (i + 1)) o00 o01 o02
else none
else
bif o02 == 2 then
bif decide (0 <= ((nth (0, (0, false)) rest i).2).1) then
bif (zBo .i64 (zBy .i64 others (((nth (0, (0, false)) rest i).2).1)) 1) == 1 then
some (2, (nth (0, (0, false)) rest i).1)
else
za.L1 N n1 key rest now end_ others (IntKind.wrap .i64 (i + 1)) o00 o01 o02
else none
else
za.L1 N n1 key rest now end_ others (IntKind.wrap .i64 (i + 1)) o00 o01 o02
else none
else
bif decide (now >= end_) then
some (2, end_)
else
some (0, 0) := by kernel_rfl
theorem za.F_eq (N : Nat) (t : Int × Int × Int) (key : Int) (time : Int) (rest : zBa) (now : Int) : za.F N (t, key, time, rest, now) =
bindO (zAI.F N t) fun r1 =>
bif !r1 then
some (0, 0)
else
bindO (zR.F N (time, (0, 1000000))) fun r2 =>
bif !r2 then
some (0, 0)
else
za.L1 N N key rest now (IntKind.wrap .i64 (time + t.1)) 0 0 t.1 t.2.1 t.2.2 := by kernel_rfl
def yV.c1 : XCode := .seq (.seq (rG [mv 6 5, fA 7 4 2, lN 8 7 0, o1 9 .len 8, o2 10 (.bin .lss) 6 9]) (cX 10 0)) (.seq (.block 1 (.seq (rG [fA 13 4 2, lN 14 13 0, mv 15 5, o2 16 (.indexAddr zAY) 14 15, fA 17 0 16, o1 18 (.load false 1) 17, mv 19 1, o2 20 (.bin .eql) 18 19]) (.cond (.slot 20) (.seq (rG [mv 21 5, mv 4 21]) (.ret)) (.skip)))) (rG [mv 11 5, op 12 (.bin .add) [.slot 11, cI 1], mv 5 12]))
def yV.c2 : XCode := .seq (rG [op 4 .move [cI (-1)]]) (.ret)
def yV.x : XFunc := xF 22 1 [.val true 7, .val false 1] (no 8) [.tmp 4 false 1] [.imm] true (.pair T2_30 (.int .i64)) (.int .i64) <| .seq (rG [ow 2 (.box 0) [.slot 0] [0] [0], op 4 .move [cI 0]]) (.seq (.seq (rG [op 5 .move [cI 0]]) (.block 0 (.loop [.keep [1, 2, 5], .norm] (yV.c1)))) (yV.c2))
def yV.env (_ : Nat) : Env := envOf (tbl [] noFS)
def yV.F (N : Nat) (x : zBb × Int) : Option Int := XFunc.run yV.x (yV.env N) N x
def yV.fs (N : Nat) : FS := fS yV.x true (yV.F N)
def yV.k2 (N : Nat) : Ex -> S -> Option Int := seqK (fun s => XCode.runK (yV.env N) N (yV.c2) s (XFunc.endK yV.x)) (XFunc.endK yV.x)
def yV.k1 (N : Nat) : Ex -> S -> Option Int := y7 0 (yV.k2 N)
def yV.L1 (N : Nat) (n1 : Nat) (key : Int) (i : Int) (o00 : Int) (o01 : List yZ) (o02 : List zAZ) (o03 : Int) (o04 : yT) (o05 : Int) (o06 : Bool) : Option Int := loopK [.keep [1, 2, 5], .norm] (rK (yV.env N) N yV.c1) n1
 { t := jK 22 [(1, .one (.int .i64 key)), (2, .one (.ptr 0 0 0)), (5, .one (.int .i64 i))], h := [.box 0 false [.int .i64 o00, .sl false (.list zBA) o01, .sl false (.list zBB) o02, .int .i64 o03, .sl false zAY o04, .int .i64 o05, .bool o06]] }
 (yV.k1 N)
theorem yV.L1_eq (N : Nat) (n1 : Nat) (key : Int) (i : Int) (o00 : Int) (o01 : List yZ) (o02 : List zAZ) (o03 : Int) (o04 : yT) (o05 : Int) (o06 : Bool) : yV.L1 N (n1 + 1) key i o00 o01 o02 o03 o04 o05 o06 =
bif decide (i < (o04.length : Int)) then
bif zG i (o04.length) then
bif ((nth (0, (0, (0, (0, 0)))) o04 i).1) == key then
some i
else
yV.L1 N n1 key (IntKind.wrap .i64 (i + 1)) o00 o01 o02 o03 o04 o05 o06
else none
else
some (-1 : Int) := by kernel_rfl
theorem yV.F_eq (N : Nat) (e : (Int × List yZ) × (List zAZ) × Int × yT × Int × Bool) (key : Int) : yV.F N (e, key) =
yV.L1 N N key 0 e.1.1 e.1.2 e.2.1 e.2.2.1 e.2.2.2.1 e.2.2.2.2.1 e.2.2.2.2.2 := by kernel_rfl
def zA4.x : XFunc := xF 16 2 [.val true 4] (no 4) [.var 2 true 4] (iF 4) true (.pair (.int .i64) zBB) (.pair (.int .i64) zBB) <| .seq (rG [ow 1 (.box 0) [.slot 0] [0] [0], ow 2 (.alloc 1 [cZ, cZ, cZ, cZ]) [] [1] [1]]) (.seq (.seq (rG [lU 3 4 1 0, o1 4 (cO 285 [.val true 4] 4 true) 3, o1 5 .not 4]) (.cond (.slot 5) (.seq (rG [lU 6 4 1 0, sT 4 2 6 1]) (.ret)) (.skip))) (.seq (.seq (rG [fA 7 0 1, lN 8 7 0, op 9 (.bin .eql) [.slot 8, cI 6]]) (.cond (.slot 9) (.seq (rG [fA 10 2 1, lN 11 10 0, op 12 (.build [cZ, cZ, cZ, cZ] [(0, 1), (2, 1)]) [cI 2, .slot 11], sT 4 2 12 1]) (.ret)) (.skip))) (.seq (rG [fA 13 3 1, lN 14 13 0, op 15 (.build [cZ, cZ, cZ, cZ] [(0, 1), (3, 1)]) [cI 3, .slot 14], sT 4 2 15 1]) (.ret))))
def zA4.env (N : Nat) : Env := envOf (tbl [(285, yU.fs N)] noFS)
def zA4.F (N : Nat) (x : Int × Int × Int × Int) : Option (Int × Int × Int × Int) := XFunc.run zA4.x (zA4.env N) N x
def zA4.fs (N : Nat) : FS := fS zA4.x true (zA4.F N)
theorem zA4.F_eq (N : Nat) (a : Int × Int × Int × Int) : zA4.F N a =
bindO (yU.F N a) fun r1 =>
bif !r1 then
some a
else
bif a.1 == 6 then
some (2, (0, (a.2.2.1, 0)))
else
some (3, (0, (0, a.2.2.2))) := by kernel_rfl
def zBC.x : XFunc := xF 10 2 [.val true 4] (no 4) [.var 2 true 4] (iF 4) true (.pair (.int .i64) zBB) (.pair (.int .i64) zBB) <| .seq (rG [ow 1 (.box 0) [.slot 0] [0] [0], ow 2 (.alloc 1 [cZ, cZ, cZ, cZ]) [] [1] [1]]) (.seq (.seq (rG [lU 3 4 1 0, o1 4 (cO 285 [.val true 4] 4 true) 3, o1 5 .not 4]) (.cond (.slot 5) (.seq (rG [lU 6 4 1 0, sT 4 2 6 1]) (.ret)) (.skip))) (.seq (rG [fA 7 1 1, lN 8 7 0, op 9 (.build [cZ, cZ, cZ, cZ] [(0, 1), (1, 1)]) [cI 2, .slot 8], sT 4 2 9 1]) (.ret)))
def zBC.env (N : Nat) : Env := envOf (tbl [(285, yU.fs N)] noFS)
def zBC.F (N : Nat) (x : Int × Int × Int × Int) : Option (Int × Int × Int × Int) := XFunc.run zBC.x (zBC.env N) N x
def zBC.fs (N : Nat) : FS := fS zBC.x true (zBC.F N)
theorem zBC.F_eq (N : Nat) (a : Int × Int × Int × Int) : zBC.F N a =
bindO (yU.F N a) fun r1 =>
bif !r1 then
some a
else
some (2, (a.2.1, (0, 0))) := by kernel_rfl
def zAC.x : XFunc := xF 13 0 [.val false 1] [none] [.tmp 2 false 1] [.imm] true (.int .i64) .bool <| .seq (rG [op 2 .move [cB false]]) (.seq (rG [mv 3 0, op 4 (cO 1 (vs 3) 3 true) [.slot 3, cI 1, cI 36], sX 5 [.slot 4], gM 6 0 5 false, gX 7 (.bin .eql) [.slot 6, cI 39] [] [] 5 false, op 8 .pick [.slot 5, cB true, .slot 7], sX 9 [.slot 8], gM 10 0 9 false, gX 11 (.bin .eql) [.slot 10, cI 42] [] [] 9 false, op 12 .pick [.slot 9, cB true, .slot 11], mv 2 12]) (.ret))
def zAC.env (N : Nat) : Env := envOf (tbl [(1, zR.fs N)] noFS)
def zAC.F (N : Nat) (x : Int) : Option Bool := XFunc.run zAC.x (zAC.env N) N x
def zAC.fs (N : Nat) : FS := fS zAC.x true (zAC.F N)
theorem zAC.F_eq (N : Nat) (code : Int) : zAC.F N code =
bindO (zR.F N (code, (1, 36))) fun r1 =>
bif r1 then
some true
else
bif code == 39 then
some true
else
some (code == 42) := by kernel_rfl
def zBG.x : XFunc := { nslots := 40, nobj := 4, pars := [.box 0 7, .val true 4], rowsIn := [none, none, none, none, some (1, 15), none, none, none, none, none, none], rets := [.var 4 true 4], outs := [.imm, .imm, .imm, .imm, .imm, .imm, .imm, .imm, .own 15, .imm, .imm], fresh := false, arg := .pair T2_30 zBA, ret := .pair zBA T2_30, body := .seq (rG [ow 3 (.box 2) [.slot 1] [2] [2], ow 4 (.alloc 3 [cZ, cZ, cZ, cZ]) [] [3] [3]]) (.seq (.region true [fA 5 2 3, lN 6 5 2, mv 7 0, o1 8 .nilck 7, fA 9 5 8, lN 10 9 0, o2 11 (.bin .or) 6 10, fA 12 2 3, sT 1 12 11 2]) (.seq (rG [mv 13 0, o1 14 .nilck 13, fA 15 5 14, on (.store 1) [.slot 15, cI 0] [0] [0]]) (.seq (.seq (rG [fA 16 1 3, lN 17 16 2, o1 18 (cO 308 (vs 1) 1 true) 17, o1 19 .not 18]) (.cond (.slot 19) (rG [mv 20 0, o1 21 .nilck 20, fA 22 6 21, on (.store 1) [.slot 22, cB false] [0] [0]]) (.skip))) (.seq (.seq (rG [mv 23 0, o1 24 .nilck 23, fA 25 6 24, lN 26 25 0, sX 27 [.slot 26], gF 28 1 3 27 true, gL 29 28 2 27 true, gX 30 (.bin .leq) [.slot 29, cI 26] [] [] 27 true, op 31 .pick [.slot 27, .slot 30, cB false], sX 32 [.slot 31], gF 33 2 3 32 true, gL 34 33 2 32 true, gX 35 (.bin .andNot) [.slot 34, cI 2] [] [] 32 true, gX 36 (.bin .eql) [.slot 35, cI 0] [] [] 32 true, op 37 .pick [.slot 32, .slot 36, cB false]]) (.cond (.slot 37) (rG [fA 38 2 3, on (.store 1) [.slot 38, cI 2] [2] [2]]) (.skip))) (.seq (rG [lU 39 4 3 2, sT 4 4 39 3]) (.ret)))))), keep := true }
def zBG.env (N : Nat) : Env := envOf (tbl [(308, zAC.fs N)] noFS)
def zBG.F (N : Nat) (x : zBb × Int × Int × Int × Int) : Option ((Int × Int × Int × Int) × (Int × List yZ) × (List zAZ) × Int × yT × Int × Bool) := XFunc.run zBG.x (zBG.env N) N x
def zBG.fs (N : Nat) : FS := { arg := zBG.x.arg, ret := zBG.x.ret, fresh := false, F := zBG.F N, keep := true }
theorem zBG.F_eq (N : Nat) (e : (Int × List yZ) × (List zAZ) × Int × yT × Int × Bool) (a : Int × Int × Int × Int) : zBG.F N (e, a) =
bindO (zAC.F N a.2.1) fun r1 =>
bif !r1 then
some ((a.1, (a.2.1, (bitOr .i64 a.2.2.1 e.2.2.2.2.1, a.2.2.2))), (e.1, (e.2.1, (e.2.2.1, (e.2.2.2.1, (0, false))))))
else
bif e.2.2.2.2.2 then
bif decide (a.2.1 <= 26) then
bif (zBM .i64 (bitOr .i64 a.2.2.1 e.2.2.2.2.1) 2) == 0 then
some ((a.1, (a.2.1, (2, a.2.2.2))), (e.1, (e.2.1, (e.2.2.1, (e.2.2.2.1, (0, e.2.2.2.2.2))))))
else
some ((a.1, (a.2.1, (bitOr .i64 a.2.2.1 e.2.2.2.2.1, a.2.2.2))), (e.1, (e.2.1, (e.2.2.1, (e.2.2.2.1, (0, e.2.2.2.2.2))))))
else
some ((a.1, (a.2.1, (bitOr .i64 a.2.2.1 e.2.2.2.2.1, a.2.2.2))), (e.1, (e.2.1, (e.2.2.1, (e.2.2.2.1, (0, e.2.2.2.2.2))))))
else
some ((a.1, (a.2.1, (bitOr .i64 a.2.2.1 e.2.2.2.2.1, a.2.2.2))), (e.1, (e.2.1, (e.2.2.1, (e.2.2.2.1, (0, e.2.2.2.2.2)))))) := by kernel_rfl
def zAa.x : XFunc := { nslots := 80, nobj := 5, pars := [.box 0 7, .val true 4], rowsIn := [none, none, none, none, some (1, 15), none, none, none, none, none, none], rets := [.var 4 true 4], outs := [.imm, .imm, .imm, .imm, .imm, .imm, .imm, .imm, .own 15, .imm, .imm], fresh := false, arg := .pair T2_30 zBA, ret := .pair zBA T2_30, body := .seq (rG [ow 3 (.box 2) [.slot 1] [2] [2], ow 4 (.alloc 3 [cZ, cZ, cZ, cZ]) [] [3] [3]]) (.seq (.seq (rG [fA 5 0 3, lN 6 5 2]) (.block 0 (.seq (rG [op 8 (.bin .eql) [.slot 6, cI 2], mv 7 8]) (.cond (.slot 7) (.seq (rG [fA 9 1 3, lN 10 9 2, op 11 (.bin .gtr) [.slot 10, cI 0]]) (.cond (.slot 11) (.seq (rG [mv 12 0, lU 13 4 3 2, ow 14 (.call ⟨309, [.box 0 7, .val true 4], [none, none, none, none, some (1, 15), none, none, none, none, none, none], [.val true 4], [.imm, .imm, .imm, .imm, .imm, .imm, .imm, .imm, .own 1 15, .imm, .imm], false⟩) (sl [12, 13]) [0, 1] [0, 1], sT 4 4 14 3]) (.ret)) (.skip))) (.seq (rG [op 16 (.bin .eql) [.slot 6, cI 4], mv 15 16]) (.cond (.slot 15) (.region true [mv 17 0, mv 18 0, o1 19 .nilck 18, fA 20 3 19, lN 21 20 0, fA 22 3 3, lN 23 22 2, op 24 (.bin .shl) [cI 1, .slot 23], o2 25 (.bin .xor) 21 24, o1 26 .nilck 17, fA 27 3 26, sT 1 27 25 0]) (.seq (rG [op 29 (.bin .eql) [.slot 6, cI 5], mv 28 29]) (.cond (.slot 28) (rG [mv 30 0, fA 31 3 3, lN 32 31 2, op 33 (.bin .shl) [cI 1, .slot 32], op 34 (.bin .andNot) [.slot 33, cI 1], o1 35 .nilck 30, fA 36 3 35, sT 1 36 34 0]) (.seq (rG [op 38 (.bin .eql) [.slot 6, cI 8], mv 37 38]) (.cond (.slot 37) (.seq (.region true [mv 39 0, o1 40 .nilck 39, fA 41 5 40, lN 42 41 0, fA 43 2 3, lN 44 43 2, o2 45 (.bin .and) 42 44, fA 46 2 3, lN 47 46 2, o2 48 (.bin .eql) 45 47]) (.cond (.slot 48) (.region true [mv 49 0, mv 50 0, o1 51 .nilck 50, fA 52 5 51, lN 53 52 0, fA 54 2 3, lN 55 54 2, o2 56 (.bin .andNot) 53 55, o1 57 .nilck 49, fA 58 5 57, sT 1 58 56 0]) (.region true [mv 59 0, mv 60 0, o1 61 .nilck 60, fA 62 5 61, lN 63 62 0, fA 64 2 3, lN 65 64 2, o2 66 (.bin .or) 63 65, o1 67 .nilck 59, fA 68 5 67, sT 1 68 66 0]))) (.seq (rG [op 70 (.bin .eql) [.slot 6, cI 10], mv 69 70]) (.cond (.slot 69) (rG [mv 71 0, mv 72 0, o1 73 .nilck 72, fA 74 6 73, lN 75 74 0, o1 76 .not 75, o1 77 .nilck 71, fA 78 6 77, sT 1 78 76 0]) (.skip))))))))))))) (.seq (rG [lU 79 4 3 2, sT 4 4 79 3]) (.ret))), keep := true }
def zAa.env (N : Nat) : Env := envOf (tbl [(309, zBG.fs N)] noFS)
def zAa.F (N : Nat) (x : zBb × Int × Int × Int × Int) : Option ((Int × Int × Int × Int) × (Int × List yZ) × (List zAZ) × Int × yT × Int × Bool) := XFunc.run zAa.x (zAa.env N) N x
def zAa.fs (N : Nat) : FS := { arg := zAa.x.arg, ret := zAa.x.ret, fresh := false, F := zAa.F N, keep := true }
theorem zAa.F_eq (N : Nat) (e : (Int × List yZ) × (List zAZ) × Int × yT × Int × Bool) (a : Int × Int × Int × Int) : zAa.F N (e, a) =
bif a.1 == 2 then
bif decide (a.2.1 > 0) then
bindO (zBG.F N (e, a)) fun r1 =>
some r1
else
some (a, e)
else
bif a.1 == 4 then
bif decide (0 <= a.2.2.2) then
some (a, (e.1, (e.2.1, (zBw .i64 e.2.2.1 (zBS .i64 1 a.2.2.2), e.2.2.2))))
else none
else
bif a.1 == 5 then
bif decide (0 <= a.2.2.2) then
some (a, (e.1, (e.2.1, (zBM .i64 (zBS .i64 1 a.2.2.2) 1, e.2.2.2))))
else none
else
bif a.1 == 8 then
bif (zBo .i64 e.2.2.2.2.1 a.2.2.1) == a.2.2.1 then
some (a, (e.1, (e.2.1, (e.2.2.1, (e.2.2.2.1, (zBM .i64 e.2.2.2.2.1 a.2.2.1, e.2.2.2.2.2))))))
else
some (a, (e.1, (e.2.1, (e.2.2.1, (e.2.2.2.1, (bitOr .i64 e.2.2.2.2.1 a.2.2.1, e.2.2.2.2.2))))))
else
bif a.1 == 10 then
some (a, (e.1, (e.2.1, (e.2.2.1, (e.2.2.2.1, (e.2.2.2.2.1, !e.2.2.2.2.2))))))
else
some (a, e) := by kernel_rfl
def zB.c1 : XCode := .seq (.seq (rG [mv 13 4, mv 14 0, o1 15 .len 14, o2 16 (.bin .lss) 13 15]) (cX 16 0)) (.seq (.block 1 (.seq (rG [mv 19 0, mv 20 4, o2 21 (.indexAddr zAY) 19 20, fA 22 1 21, fA 23 0 22, o1 24 (.load false 1) 23, op 25 (.bin .eql) [.slot 24, cI 2], sX 26 [.slot 25], gM 27 0 26 false, gM 28 4 26 false, gX 29 (.indexAddr zAY) (sl [27, 28]) [] [] 26 false, gF 30 1 29 26 false, gF 31 0 30 26 false, gX 32 (.load false 1) [.slot 31] [] [] 26 false, gX 33 (.bin .eql) [.slot 32, cI 8] [] [] 26 false, op 34 .pick [.slot 26, cB true, .slot 33]]) (.cond (.slot 34) (.region true [fA 35 0 3, lN 36 35 2, mv 37 0, mv 38 4, o2 39 (.indexAddr zAY) 37 38, fA 40 1 39, fA 41 2 40, o1 42 (.load false 1) 41, o2 43 (.bin .or) 36 42, fA 44 0 3, sT 1 44 43 2]) (.skip)))) (rG [mv 17 4, op 18 (.bin .add) [.slot 17, cI 1], mv 4 18]))
def zB.c2 : XCode := .seq (.seq (rG [mv 49 6, mv 50 0, o1 51 .len 50, o2 52 (.bin .lss) 49 51]) (cX 52 4)) (.seq (.block 5 (.seq (rG [mv 55 0, mv 56 6, o2 57 (.indexAddr zAY) 55 56, fA 58 1 57, fA 59 1 58, o1 60 (.load false 1) 59, mv 61 5, o2 62 (.bin .eql) 60 61]) (.cond (.slot 62) (.seq (rG [fA 63 1 3, lN 64 63 2, mv 65 5, ow 66 (.buildSlice false 3 2 (.int .i64) 1 [(0, 1)] [cZ]) [.slot 65] [3] [3], ow 67 (.append false 1 2 (.int .i64)) (sl [64, 66]) [1, 3] [1], fA 68 1 3, sT 1 68 67 2]) (.exit 4)) (.skip)))) (rG [mv 53 6, op 54 (.bin .add) [.slot 53, cI 1], mv 6 54]))
def zB.c3 : XCode := rG [mv 47 5, op 48 (.bin .add) [.slot 47, cI 1], mv 5 48]
def zB.c4 : XCode := .seq (.seq (rG [mv 45 5, op 46 (.bin .leq) [.slot 45, cI 56]]) (cX 46 2)) (.seq (.block 3 (.seq (rG [op 6 .move [cI 0]]) (.block 4 (.loop [.keep [0, 2, 3, 5, 6], .drop 3, .norm] (zB.c2))))) (zB.c3))
def zB.c5 : XCode := .seq (rG [lU 69 2 3 2, sT 2 2 69 0]) (.ret)
def zB.c6 : XCode := .seq (.seq (rG [op 5 .move [cI 1]]) (.block 2 (.loop [.keep [0, 2, 3, 5], .drop 3, .norm] (zB.c4)))) (zB.c5)
def zB.x : XFunc := xF 70 4 [.val false 1] [none] [.var 2 true 2] [.imm, .own 2] true (.list zAY) (.pair (.int .i64) (.list (.int .i64))) <| .seq (rG [ow 2 (.alloc 0 [cZ, .nil]) [] [0] [0]]) (.seq (rG [ow 7 (.buildSlice false 1 2 (.int .i64) 0 [] [cZ]) [] [1] [1], o1 8 (.build [cZ, .nil] [(1, 1)]) 7, ow 3 (.alloc 2 [cZ, .nil]) [] [2] [2], sT 2 3 8 2]) (.seq (.seq (rG [mv 9 0, o1 10 (cO 286 (vs 1) 1 true) 9, o1 11 .not 10]) (.cond (.slot 11) (.seq (rG [lU 12 2 3 2, sT 2 2 12 0]) (.ret)) (.skip))) (.seq (.seq (rG [op 4 .move [cI 0]]) (.block 0 (.loop [.keep [0, 2, 3, 4], .drop 3, .norm] (zB.c1)))) (zB.c6))))
def zB.env (N : Nat) : Env := envOf (tbl [(286, z9.fs N)] noFS)
def zB.F (N : Nat) (x : yT) : Option (Int × List Int) := XFunc.run zB.x (zB.env N) N x
def zB.fs (N : Nat) : FS := fS zB.x true (zB.F N)
def zB.k2 (N : Nat) : Ex -> S -> Option (Int × List Int) := seqK (fun s => XCode.runK (zB.env N) N (zB.c6) s (XFunc.endK zB.x)) (XFunc.endK zB.x)
def zB.k1 (N : Nat) : Ex -> S -> Option (Int × List Int) := y7 0 (zB.k2 N)
def zB.k4 (N : Nat) : Ex -> S -> Option (Int × List Int) := seqK (fun s => XCode.runK (zB.env N) N (zB.c5) s (XFunc.endK zB.x)) (XFunc.endK zB.x)
def zB.k3 (N : Nat) : Ex -> S -> Option (Int × List Int) := y7 2 (zB.k4 N)
def zB.k8 (N : Nat) (n2 : Nat) : Ex -> S -> Option (Int × List Int) := seqK (fun s => bindO (S.ghosts s [.keep [0, 2, 3, 5], .drop 3, .norm]) fun s1 => loopK [.keep [0, 2, 3, 5], .drop 3, .norm] (rK (zB.env N) N zB.c4) n2 s1 (zB.k3 N)) (zB.k3 N)
def zB.k7 (N : Nat) (n2 : Nat) : Ex -> S -> Option (Int × List Int) := seqK (fun s => XCode.runK (zB.env N) N (zB.c3) s (zB.k8 N n2)) (zB.k8 N n2)
def zB.k6 (N : Nat) (n2 : Nat) : Ex -> S -> Option (Int × List Int) := y7 3 (zB.k7 N n2)
def zB.k5 (N : Nat) (n2 : Nat) : Ex -> S -> Option (Int × List Int) := y7 4 (zB.k6 N n2)
def zB.L1 (N : Nat) (n1 : Nat) (l_ : yT) (i : Int) (o1 : List Int) (o20 : Int) : Option (Int × List Int) := loopK [.keep [0, 2, 3, 4], .drop 3, .norm] (rK (zB.env N) N zB.c1) n1
 { t := jK 70 [(0, .one (.sl false zAY l_)), (2, .one (.ptr 0 0 0)), (3, .one (.ptr 2 0 0)), (4, .one (.int .i64 i))], h := [.box 0 false [cZ, .nil], .row 0 false true 2 (.int .i64) o1, .box 0 false [.int .i64 o20, .ref 1 0 .all], .absent 0] }
 (zB.k1 N)
def zB.L2 (N : Nat) (n2 : Nat) (l_ : yT) (code : Int) (o1 : List Int) (o20 : Int) : Option (Int × List Int) := loopK [.keep [0, 2, 3, 5], .drop 3, .norm] (rK (zB.env N) N zB.c4) n2
 { t := jK 70 [(0, .one (.sl false zAY l_)), (2, .one (.ptr 0 0 0)), (3, .one (.ptr 2 0 0)), (5, .one (.int .i64 code))], h := [.box 0 false [cZ, .nil], .row 0 false true 2 (.int .i64) o1, .box 0 false [.int .i64 o20, .ref 1 0 .all], .absent 0] }
 (zB.k3 N)
def zB.L3 (N : Nat) (n2 : Nat) (n3 : Nat) (l_ : yT) (code : Int) (i : Int) (o1 : List Int) (o20 : Int) : Option (Int × List Int) := loopK [.keep [0, 2, 3, 5, 6], .drop 3, .norm] (rK (zB.env N) N zB.c2) n3
 { t := jK 70 [(0, .one (.sl false zAY l_)), (2, .one (.ptr 0 0 0)), (3, .one (.ptr 2 0 0)), (5, .one (.int .i64 code)), (6, .one (.int .i64 i))], h := [.box 0 false [cZ, .nil], .row 0 false true 2 (.int .i64) o1, .box 0 false [.int .i64 o20, .ref 1 0 .all], .absent 0] }
 (zB.k5 N n2)
theorem zB.L1_eq (N : Nat) (n1 : Nat) (l_ : yT) (i : Int) (o1 : List Int) (o20 : Int) : zB.L1 N (n1 + 1) l_ i o1 o20 =
bif decide (i < (l_.length : Int)) then
bif zG i (l_.length) then
bif (((nth (0, (0, (0, (0, 0)))) l_ i).2).1) == 2 then
bif zG i (l_.length) then
zB.L1 N n1 l_ (IntKind.wrap .i64 (i + 1)) o1 (bitOr .i64 o20 (((((nth (0, (0, (0, (0, 0)))) l_ i).2).2).2).1))
else none
else
bif zG i (l_.length) then
bif (((nth (0, (0, (0, (0, 0)))) l_ i).2).1) == 8 then
bif zG i (l_.length) then
zB.L1 N n1 l_ (IntKind.wrap .i64 (i + 1)) o1 (bitOr .i64 o20 (((((nth (0, (0, (0, (0, 0)))) l_ i).2).2).2).1))
else none
else
zB.L1 N n1 l_ (IntKind.wrap .i64 (i + 1)) o1 o20
else none
else none
else
zB.L2 N N l_ 1 o1 o20 := by kernel_rfl
theorem zB.L2_eq (N : Nat) (n2 : Nat) (l_ : yT) (code : Int) (o1 : List Int) (o20 : Int) : zB.L2 N (n2 + 1) l_ code o1 o20 =
bif decide (code <= 56) then
zB.L3 N n2 N l_ code 0 o1 o20
else
some (o20, o1) := by kernel_rfl
theorem zB.L3_eq (N : Nat) (n2 : Nat) (n3 : Nat) (l_ : yT) (code : Int) (i : Int) (o1 : List Int) (o20 : Int) : zB.L3 N n2 (n3 + 1) l_ code i o1 o20 =
bif decide (i < (l_.length : Int)) then
bif zG i (l_.length) then
bif ((((nth (0, (0, (0, (0, 0)))) l_ i).2).2).1) == code then
bif decide (o1.length + List.length ([code] : List Int) <= maxN) then
zB.L2 N n2 l_ (IntKind.wrap .i64 (code + 1)) (o1 ++ ([code] : List Int)) o20
else none
else
zB.L3 N n2 n3 l_ code (IntKind.wrap .i64 (i + 1)) o1 o20
else none
else
zB.L2 N n2 l_ (IntKind.wrap .i64 (code + 1)) o1 o20 := by kernel_rfl
theorem zB.F_eq (N : Nat) (l_ : yT) : zB.F N l_ =
bindO (z9.F N l_) fun r1 =>
bif !r1 then
some (0, ([] : List Int))
else
zB.L1 N N l_ 0 ([] : List Int) 0 := by kernel_rfl
def zA.c1 : XCode := .seq (.seq (rG [mv 14 6, mv 15 1, o1 16 .len 15, o2 17 (.bin .lss) 14 16]) (cX 17 0)) (.seq (.block 1 (.region true [fA 20 0 5, lN 21 20 1, mv 22 1, mv 23 6, o2 24 (.indexAddr zAY) 22 23, fA 25 1 24, fA 26 2 25, o1 27 (.load false 1) 26, o2 28 (.bin .or) 21 27, fA 29 0 5, sT 1 29 28 1])) (rG [mv 18 6, op 19 (.bin .add) [.slot 18, cI 1], mv 6 19]))
def zA.c2 : XCode := .seq (.seq (rG [mv 35 10, fA 36 1 5, lN 37 36 1, o1 38 .len 37, o2 39 (.bin .lss) 35 38]) (cX 39 4)) (.seq (.block 5 (rG [mv 42 9, sX 43 [.slot 42], gF 44 1 5 43 false, gL 45 44 1 43 false, gM 46 10 43 false, gX 47 (.indexAddr (.int .i64)) (sl [45, 46]) [] [] 43 false, gX 48 (.load false 1) [.slot 47] [] [] 43 false, gM 49 8 43 false, gX 50 (.bin .eql) (sl [48, 49]) [] [] 43 false, op 51 .pick [.slot 43, cB true, .slot 50], mv 9 51])) (rG [mv 40 10, op 41 (.bin .add) [.slot 40, cI 1], mv 10 41]))
def zA.c3 : XCode := .seq (.seq (rG [mv 52 11, mv 53 1, o1 54 .len 53, o2 55 (.bin .lss) 52 54]) (cX 55 6)) (.seq (.block 7 (rG [mv 58 9, sX 59 [.slot 58], gM 60 1 59 false, gM 61 11 59 false, gX 62 (.indexAddr zAY) (sl [60, 61]) [] [] 59 false, gF 63 1 62 59 false, gF 64 1 63 59 false, gX 65 (.load false 1) [.slot 64] [] [] 59 false, gM 66 8 59 false, gX 67 (.bin .eql) (sl [65, 66]) [] [] 59 false, op 68 .pick [.slot 59, cB true, .slot 67], mv 9 68])) (rG [mv 56 11, op 57 (.bin .add) [.slot 56, cI 1], mv 11 57]))
def zA.c4 : XCode := .seq (rG [mv 69 9]) (.cond (.slot 69) (rG [mv 70 7, mv 71 8, ow 72 (.buildSlice false 3 2 (.int .i64) 1 [(0, 1)] [cZ]) [.slot 71] [3] [3], ow 73 (.append false 2 2 (.int .i64)) (sl [70, 72]) [2, 3] [2], mv 7 73]) (.skip))
def zA.c5 : XCode := .seq (.seq (rG [op 11 .move [cI 0]]) (.block 6 (.loop [.keep [1, 4, 5, 7, 8, 9, 11], .drop 3, .norm] (zA.c3)))) (zA.c4)
def zA.c6 : XCode := rG [mv 33 8, op 34 (.bin .add) [.slot 33, cI 1], mv 8 34]
def zA.c7 : XCode := .seq (.seq (rG [mv 31 8, op 32 (.bin .leq) [.slot 31, cI 56]]) (cX 32 2)) (.seq (.block 3 (.seq (rG [op 9 .move [cB false]]) (.seq (.seq (rG [op 10 .move [cI 0]]) (.block 4 (.loop [.keep [1, 4, 5, 7, 8, 9, 10], .drop 3, .norm] (zA.c2)))) (zA.c5)))) (zA.c6))
def zA.c8 : XCode := .seq (rG [mv 74 7, fA 75 1 5, sT 1 75 74 1]) (.seq (rG [lU 76 2 5 1, sT 2 4 76 0]) (.ret))
def zA.c9 : XCode := .seq (rG [ow 30 (.buildSlice false 2 2 (.int .i64) 0 [] [cZ]) [] [2] [2], mv 7 30]) (.seq (.seq (rG [op 8 .move [cI 1]]) (.block 2 (.loop [.keep [1, 4, 5, 7, 8], .drop 3, .norm] (zA.c7)))) (zA.c8))
def zA.x : XFunc := xF 77 4 [.val false 1, .val false 1] (no 2) [.var 4 true 2] [.imm, .own 2] true (.pair (.list zAY) (.list zAY)) (.pair (.int .i64) (.list (.int .i64))) <| .seq (rG [ow 4 (.alloc 0 [cZ, .nil]) [] [0] [0]]) (.seq (rG [mv 12 0, o1 13 (.call ⟨311, vs 1, no 1, [.val true 2], ims 2, true⟩) 12, ow 5 (.alloc 1 [cZ, .nil]) [] [1] [1], sT 2 5 13 1]) (.seq (.seq (rG [op 6 .move [cI 0]]) (.block 0 (.loop [.keep [1, 4, 5, 6], .drop 2, .drop 3, .norm] (zA.c1)))) (zA.c9)))
def zA.env (N : Nat) : Env := envOf (tbl [(311, zB.fs N)] noFS)
def zA.F (N : Nat) (x : yT × List (Int × Int × Int × Int × Int)) : Option (Int × List Int) := XFunc.run zA.x (zA.env N) N x
def zA.fs (N : Nat) : FS := fS zA.x true (zA.F N)
def zA.k2 (N : Nat) : Ex -> S -> Option (Int × List Int) := seqK (fun s => XCode.runK (zA.env N) N (zA.c9) s (XFunc.endK zA.x)) (XFunc.endK zA.x)
def zA.k1 (N : Nat) : Ex -> S -> Option (Int × List Int) := y7 0 (zA.k2 N)
def zA.k4 (N : Nat) : Ex -> S -> Option (Int × List Int) := seqK (fun s => XCode.runK (zA.env N) N (zA.c8) s (XFunc.endK zA.x)) (XFunc.endK zA.x)
def zA.k3 (N : Nat) : Ex -> S -> Option (Int × List Int) := y7 2 (zA.k4 N)
def zA.k9 (N : Nat) (n2 : Nat) : Ex -> S -> Option (Int × List Int) := seqK (fun s => bindO (S.ghosts s [.keep [1, 4, 5, 7, 8], .drop 3, .norm]) fun s1 => loopK [.keep [1, 4, 5, 7, 8], .drop 3, .norm] (rK (zA.env N) N zA.c7) n2 s1 (zA.k3 N)) (zA.k3 N)
def zA.k8 (N : Nat) (n2 : Nat) : Ex -> S -> Option (Int × List Int) := seqK (fun s => XCode.runK (zA.env N) N (zA.c6) s (zA.k9 N n2)) (zA.k9 N n2)
def zA.k7 (N : Nat) (n2 : Nat) : Ex -> S -> Option (Int × List Int) := y7 3 (zA.k8 N n2)
def zA.k6 (N : Nat) (n2 : Nat) : Ex -> S -> Option (Int × List Int) := seqK (fun s => XCode.runK (zA.env N) N (zA.c5) s (zA.k7 N n2)) (zA.k7 N n2)
def zA.k5 (N : Nat) (n2 : Nat) : Ex -> S -> Option (Int × List Int) := y7 4 (zA.k6 N n2)
def zA.k11 (N : Nat) (n2 : Nat) : Ex -> S -> Option (Int × List Int) := seqK (fun s => XCode.runK (zA.env N) N (zA.c4) s (zA.k7 N n2)) (zA.k7 N n2)
def zA.k10 (N : Nat) (n2 : Nat) : Ex -> S -> Option (Int × List Int) := y7 6 (zA.k11 N n2)
def zA.L1 (N : Nat) (n1 : Nat) (down : yT) (i : Int) (o10 : Int) (o11 : List Int) : Option (Int × List Int) := loopK [.keep [1, 4, 5, 6], .drop 2, .drop 3, .norm] (rK (zA.env N) N zA.c1) n1
 { t := jK 77 [(1, .one (.sl false zAY down)), (4, .one (.ptr 0 0 0)), (5, .one (.ptr 1 0 0)), (6, .one (.int .i64 i))], h := [.box 0 false [cZ, .nil], .box 0 false [.int .i64 o10, .sl true (.int .i64) o11], .absent 0, .absent 0] }
 (zA.k1 N)
def zA.L2 (N : Nat) (n2 : Nat) (down : yT) (code : Int) (o10 : Int) (o11 : List Int) (o2 : List Int) : Option (Int × List Int) := loopK [.keep [1, 4, 5, 7, 8], .drop 3, .norm] (rK (zA.env N) N zA.c7) n2
 { t := jK 77 [(1, .one (.sl false zAY down)), (4, .one (.ptr 0 0 0)), (5, .one (.ptr 1 0 0)), (7, .one (.ref 2 0 .all)), (8, .one (.int .i64 code))], h := [.box 0 false [cZ, .nil], .box 0 false [.int .i64 o10, .sl true (.int .i64) o11], .row 0 false true 2 (.int .i64) o2, .absent 0] }
 (zA.k3 N)
def zA.L3 (N : Nat) (n2 : Nat) (n3 : Nat) (down : yT) (code : Int) (on : Bool) (i : Int) (o10 : Int) (o11 : List Int) (o2 : List Int) : Option (Int × List Int) := loopK [.keep [1, 4, 5, 7, 8, 9, 10], .drop 3, .norm] (rK (zA.env N) N zA.c2) n3
 { t := jK 77 [(1, .one (.sl false zAY down)), (4, .one (.ptr 0 0 0)), (5, .one (.ptr 1 0 0)), (7, .one (.ref 2 0 .all)), (8, .one (.int .i64 code)), (9, .one (.bool on)), (10, .one (.int .i64 i))], h := [.box 0 false [cZ, .nil], .box 0 false [.int .i64 o10, .sl true (.int .i64) o11], .row 0 false true 2 (.int .i64) o2, .absent 0] }
 (zA.k5 N n2)
def zA.L4 (N : Nat) (n2 : Nat) (n4 : Nat) (down : yT) (code : Int) (on : Bool) (i : Int) (o10 : Int) (o11 : List Int) (o2 : List Int) : Option (Int × List Int) := loopK [.keep [1, 4, 5, 7, 8, 9, 11], .drop 3, .norm] (rK (zA.env N) N zA.c3) n4
 { t := jK 77 [(1, .one (.sl false zAY down)), (4, .one (.ptr 0 0 0)), (5, .one (.ptr 1 0 0)), (7, .one (.ref 2 0 .all)), (8, .one (.int .i64 code)), (9, .one (.bool on)), (11, .one (.int .i64 i))], h := [.box 0 false [cZ, .nil], .box 0 false [.int .i64 o10, .sl true (.int .i64) o11], .row 0 false true 2 (.int .i64) o2, .absent 0] }
 (zA.k10 N n2)
theorem zA.L1_eq (N : Nat) (n1 : Nat) (down : yT) (i : Int) (o10 : Int) (o11 : List Int) : zA.L1 N (n1 + 1) down i o10 o11 =
bif decide (i < (down.length : Int)) then
bif zG i (down.length) then
zA.L1 N n1 down (IntKind.wrap .i64 (i + 1)) (bitOr .i64 o10 (((((nth (0, (0, (0, (0, 0)))) down i).2).2).2).1)) o11
else none
else
zA.L2 N N down 1 o10 o11 ([] : List Int) := by kernel_rfl
theorem zA.L2_eq (N : Nat) (n2 : Nat) (down : yT) (code : Int) (o10 : Int) (o11 : List Int) (o2 : List Int) : zA.L2 N (n2 + 1) down code o10 o11 o2 =
bif decide (code <= 56) then
zA.L3 N n2 N down code false 0 o10 o11 o2
else
some (o10, o2) := by kernel_rfl
theorem zA.L3_eq (N : Nat) (n2 : Nat) (n3 : Nat) (down : yT) (code : Int) (on : Bool) (i : Int) (o10 : Int) (o11 : List Int) (o2 : List Int) : zA.L3 N n2 (n3 + 1) down code on i o10 o11 o2 =
bif decide (i < (o11.length : Int)) then
bif on then
zA.L3 N n2 n3 down code true (IntKind.wrap .i64 (i + 1)) o10 o11 o2
else
bif zG i (o11.length) then
zA.L3 N n2 n3 down code ((nth 0 o11 i) == code) (IntKind.wrap .i64 (i + 1)) o10 o11 o2
else none
else
zA.L4 N n2 N down code on 0 o10 o11 o2 := by kernel_rfl
theorem zA.L4_eq (N : Nat) (n2 : Nat) (n4 : Nat) (down : yT) (code : Int) (on : Bool) (i : Int) (o10 : Int) (o11 : List Int) (o2 : List Int) : zA.L4 N n2 (n4 + 1) down code on i o10 o11 o2 =
bif decide (i < (down.length : Int)) then
bif on then
zA.L4 N n2 n4 down code true (IntKind.wrap .i64 (i + 1)) o10 o11 o2
else
bif zG i (down.length) then
zA.L4 N n2 n4 down code (((((nth (0, (0, (0, (0, 0)))) down i).2).2).1) == code) (IntKind.wrap .i64 (i + 1)) o10 o11 o2
else none
else
bif on then
bif decide (o2.length + List.length ([code] : List Int) <= maxN) then
zA.L2 N n2 down (IntKind.wrap .i64 (code + 1)) o10 o11 (o2 ++ ([code] : List Int))
else none
else
zA.L2 N n2 down (IntKind.wrap .i64 (code + 1)) o10 o11 o2 := by kernel_rfl
theorem zA.F_eq (N : Nat) (l_ : yT) (down : yT) : zA.F N (l_, down) =
bindO (zB.F N l_) fun r1 =>
zA.L1 N N down 0 r1.1 r1.2 := by kernel_rfl
def zK.c1 : XCode := .seq (.seq (rG [mv 20 7, mv 21 1, o1 22 .len 21, o2 23 (.bin .lss) 20 22]) (cX 23 0)) (.seq (.block 1 (.seq (rG [mv 26 1, mv 27 7, o2 28 (.indexAddr zBB) 26 27, o1 29 (.load true 3) 28, ow 8 (.alloc 2 [cZ, cZ, cZ]) [] [2] [2], sT 3 8 29 2]) (.seq (.seq (rG [fA 30 0 8, lN 31 30 2, op 32 (.bin .neq) [.slot 31, cI 2]]) (.cond (.slot 32) (.seq (rG [mv 33 6, lU 34 3 8 2, o1 35 (.call ⟨288, [.val true 3], no 3, [.val true 4], ims 4, true⟩) 34, o1 36 (.build [cZ, cZ, cZ, cZ, cZ] [(1, 4)]) 35, ow 37 (.buildSlice false 3 15 zAY 1 [(0, 5)] [cZ, cZ, cZ, cZ, cZ]) [.slot 36] [3] [3], ow 38 (.append false 1 15 zAY) (sl [33, 37]) [1, 3] [1], mv 6 38]) (rG [mv 39 5, mv 40 0, mv 41 6, ow 42 (.call ⟨312, vs 2, no 2, [.val true 2], ims 2, true⟩) (sl [40, 41]) [1] [], ow 43 (.buildSlice false 4 12 zBX 1 [(0, 2)] [cZ, .nil]) [.slot 42] [4] [4], ow 44 (.append false 0 12 zBX) (sl [39, 43]) [0, 4] [0], mv 5 44])) (.skip))) (.seq (rG [fA 45 0 8, lN 46 45 2, op 47 (.bin .neq) [.slot 46, cI 1]]) (.cond (.slot 47) (.seq (rG [mv 48 6, mv 49 6, lU 50 3 8 2, ow 51 (cO 287 [.val false 1, .val true 3] 4 true) (sl [49, 50]) [1] [], ow 52 (.call ⟨289, vs 2, no 2, [.val false 1], [.own 6 15], true⟩) (sl [48, 51]) [1, 6] [6], mv 6 52]) (rG [mv 53 5, mv 54 0, mv 55 6, ow 56 (.call ⟨312, vs 2, no 2, [.val true 2], ims 2, true⟩) (sl [54, 55]) [6] [], ow 57 (.buildSlice false 5 12 zBX 1 [(0, 2)] [cZ, .nil]) [.slot 56] [5] [5], ow 58 (.append false 0 12 zBX) (sl [53, 57]) [0, 5] [0], mv 5 58])) (.skip)))))) (rG [mv 24 7, op 25 (.bin .add) [.slot 24, cI 1], mv 7 25]))
def zK.c2 : XCode := .seq (rG [mv 59 5, mv 4 59]) (.ret)
def zK.x : XFunc := xF 60 7 [.val false 1, .val false 1] (no 2) [.tmp 4 false 1] [.own 12] true (.pair (.list zAY) (.list zBB)) (.list zBX) <| .seq (rG [op 4 .move [.const (.one (.nil))]]) (.seq (rG [ow 9 (.buildSlice false 0 12 zBX 0 [] [cZ, .nil]) [] [0] [0], mv 5 9]) (.seq (rG [ow 10 (.buildSlice false 1 15 zAY 0 [] [cZ, cZ, cZ, cZ, cZ]) [] [1] [1], mv 6 10]) (.seq (.seq (rG [mv 11 0, o1 12 (cO 286 (vs 1) 1 true) 11, o1 13 .not 12, sX 14 [.slot 13], gM 15 1 14 false, ⟨some 16, cO 290 (vs 1) 1 true, [.slot 15], [], [], some (14, false), false, .none⟩, gX 17 .not [.slot 16] [] [] 14 false, op 18 .pick [.slot 14, cB true, .slot 17]]) (.cond (.slot 18) (.seq (rG [mv 19 5, mv 4 19]) (.ret)) (.skip))) (.seq (.seq (rG [op 7 .move [cI 0]]) (.block 0 (.loop [.rename 6 1, .keep [0, 1, 5, 6, 7], .drop 2, .drop 3, .drop 4, .drop 5, .drop 6, .norm] (zK.c1)))) (zK.c2)))))
def zK.env (N : Nat) : Env := envOf (tbl [(286, z9.fs N), (290, z7.fs N), (288, y8.fs N), (287, yQ.fs N), (312, zA.fs N), (289, yY.fs N)] noFS)
def zK.F (N : Nat) (x : yT × List (Int × Int × Int)) : Option zBp := XFunc.run zK.x (zK.env N) N x
def zK.fs (N : Nat) : FS := fS zK.x true (zK.F N)
def zK.k2 (N : Nat) : Ex -> S -> Option zBp := seqK (fun s => XCode.runK (zK.env N) N (zK.c2) s (XFunc.endK zK.x)) (XFunc.endK zK.x)
def zK.k1 (N : Nat) : Ex -> S -> Option zBp := y7 0 (zK.k2 N)
def zK.L1 (N : Nat) (n1 : Nat) (l_ : yT) (steps : zAZ) (i : Int) (o0 : zBp) (o1 : yT) : Option zBp := loopK [.rename 6 1, .keep [0, 1, 5, 6, 7], .drop 2, .drop 3, .drop 4, .drop 5, .drop 6, .norm] (rK (zK.env N) N zK.c1) n1
 { t := jK 60 [(0, .one (.sl false zAY l_)), (1, .one (.sl false zBB steps)), (5, .one (.ref 0 0 .all)), (6, .one (.ref 1 0 .all)), (7, .one (.int .i64 i))], h := [.row 0 false true 12 zBX o0, .row 0 false true 15 zAY o1, .absent 0, .absent 0, .absent 0, .absent 0, .absent 0] }
 (zK.k1 N)
theorem zK.L1_eq (N : Nat) (n1 : Nat) (l_ : yT) (steps : zAZ) (i : Int) (o0 : zBp) (o1 : yT) : zK.L1 N (n1 + 1) l_ steps i o0 o1 =
bif decide (i < (steps.length : Int)) then
bif zG i (steps.length) then
bif ((nth (0, (0, 0)) steps i).1) != 2 then
bindO (y8.F N ((nth (0, (0, 0)) steps i).1, ((nth (0, (0, 0)) steps i).2))) fun r3 =>
bif decide (o1.length + List.length ([(0, r3)] : List (Int × Int × Int × Int × Int)) <= maxN) then
bindO (zA.F N (l_, o1 ++ ([(0, r3)] : List (Int × Int × Int × Int × Int)))) fun r4 =>
bif decide (o0.length + List.length ([r4] : List (Int × List Int)) <= maxN) then
bif ((nth (0, (0, 0)) steps i).1) != 1 then
bindO (yQ.F N (o1 ++ ([(0, r3)] : List (Int × Int × Int × Int × Int)), ((nth (0, (0, 0)) steps i).1, ((nth (0, (0, 0)) steps i).2)))) fun r5 =>
bindO (yY.F N (o1 ++ ([(0, r3)] : List (Int × Int × Int × Int × Int)), r5)) fun r6 =>
bindO (zA.F N (l_, r6)) fun r7 =>
bif decide (List.length (o0 ++ ([r4] : List (Int × List Int))) + List.length ([r7] : List (Int × List Int)) <= maxN) then
zK.L1 N n1 l_ steps (IntKind.wrap .i64 (i + 1)) ((o0 ++ ([r4] : List (Int × List Int))) ++ ([r7] : List (Int × List Int))) r6
else none
else
zK.L1 N n1 l_ steps (IntKind.wrap .i64 (i + 1)) (o0 ++ ([r4] : List (Int × List Int))) (o1 ++ ([(0, r3)] : List (Int × Int × Int × Int × Int)))
else none
else none
else
bif ((nth (0, (0, 0)) steps i).1) != 1 then
bindO (yQ.F N (o1, ((nth (0, (0, 0)) steps i).1, ((nth (0, (0, 0)) steps i).2)))) fun r8 =>
bindO (yY.F N (o1, r8)) fun r9 =>
bindO (zA.F N (l_, r9)) fun r10 =>
bif decide (o0.length + List.length ([r10] : List (Int × List Int)) <= maxN) then
zK.L1 N n1 l_ steps (IntKind.wrap .i64 (i + 1)) (o0 ++ ([r10] : List (Int × List Int))) r9
else none
else
zK.L1 N n1 l_ steps (IntKind.wrap .i64 (i + 1)) o0 o1
else none
else
some o0 := by kernel_rfl
theorem zK.F_eq (N : Nat) (l_ : yT) (steps : zAZ) : zK.F N (l_, steps) =
bindO (z9.F N l_) fun r1 =>
bif !r1 then
some ([] : List (Int × List Int))
else
bindO (z7.F N steps) fun r2 =>
bif !r2 then
some ([] : List (Int × List Int))
else
zK.L1 N N l_ steps 0 ([] : List (Int × List Int)) ([] : List (Int × Int × Int × Int × Int)) := by kernel_rfl
def zA2.x : XFunc := xF 10 3 [.val true 2] (no 2) [.var 2 true 2] [.imm, .own 2] true (.pair (.int .i64) (.list (.int .i64))) (.pair (.int .i64) (.list (.int .i64))) <| .seq (rG [ow 1 (.box 0) [.slot 0] [0] [0], ow 2 (.alloc 1 [cZ, .nil]) [] [1] [1]]) (.seq (.region true [fA 3 0 1, lN 4 3 0, ow 5 (.buildSlice false 2 2 (.int .i64) 0 [] [cZ]) [] [2] [2], fA 6 1 1, lN 7 6 0, ow 8 (.append false 2 2 (.int .i64)) (sl [5, 7]) [2] [2], o2 9 (.build [cZ, .nil] [(0, 1), (1, 1)]) 4 8, sT 2 2 9 1]) (.ret))
def zA2.env (_ : Nat) : Env := envOf (tbl [] noFS)
def zA2.F (N : Nat) (x : Int × List Int) : Option (Int × List Int) := XFunc.run zA2.x (zA2.env N) N x
def zA2.fs (N : Nat) : FS := fS zA2.x true (zA2.F N)
theorem zA2.F_eq (N : Nat) (r_ : Int × List Int) : zA2.F N r_ =
bif decide (List.length ([] : List Int) + List.length r_.2 <= maxN) then
some (r_.1, ([] : List Int) ++ r_.2)
else none := by kernel_rfl
def zP.c1 : XCode := .seq (.seq (rG [mv 8 6, mv 9 1, o1 10 .len 9, o2 11 (.bin .lss) 8 10]) (cX 11 0)) (.seq (.block 1 (.seq (.seq (.region true [lU 14 2 2 0, mv 15 1, mv 16 6, o2 17 (.indexAddr zBX) 15 16, o1 18 (.load true 2) 17, o2 19 (cO 277 [.val true 2, .val true 2] 4 true) 14 18, o1 20 .not 19]) (.cond (.slot 20) (rG [mv 21 5, mv 22 1, mv 23 6, o2 24 (.indexAddr zBX) 22 23, o1 25 (.load true 2) 24, o1 26 (.call ⟨314, [.val true 2], no 2, [.val true 2], ims 2, true⟩) 25, ow 27 (.buildSlice false 2 12 zBX 1 [(0, 2)] [cZ, .nil]) [.slot 26] [2] [2], ow 28 (.append false 1 12 zBX) (sl [21, 27]) [1, 2] [1], mv 5 28]) (.skip))) (rG [mv 29 1, mv 30 6, o2 31 (.indexAddr zBX) 29 30, o1 32 (.load true 2) 31, sT 2 2 32 0]))) (rG [mv 12 6, op 13 (.bin .add) [.slot 12, cI 1], mv 6 13]))
def zP.c2 : XCode := .seq (rG [mv 33 5, mv 4 33]) (.ret)
def zP.x : XFunc := xF 34 3 [.val true 2, .val false 1] (no 3) [.tmp 4 false 1] [.own 12] true (.pair zBX (.list zBX)) (.list zBX) <| .seq (rG [ow 2 (.box 0) [.slot 0] [0] [0], op 4 .move [.const (.one (.nil))]]) (.seq (rG [ow 7 (.buildSlice false 1 12 zBX 0 [] [cZ, .nil]) [] [1] [1], mv 5 7]) (.seq (.seq (rG [op 6 .move [cI 0]]) (.block 0 (.loop [.keep [1, 2, 5, 6], .drop 2, .norm] (zP.c1)))) (zP.c2)))
def zP.env (N : Nat) : Env := envOf (tbl [(277, zc.fs N), (314, zA2.fs N)] noFS)
def zP.F (N : Nat) (x : (Int × List Int) × List (Int × List Int)) : Option zBp := XFunc.run zP.x (zP.env N) N x
def zP.fs (N : Nat) : FS := fS zP.x true (zP.F N)
def zP.k2 (N : Nat) : Ex -> S -> Option zBp := seqK (fun s => XCode.runK (zP.env N) N (zP.c2) s (XFunc.endK zP.x)) (XFunc.endK zP.x)
def zP.k1 (N : Nat) : Ex -> S -> Option zBp := y7 0 (zP.k2 N)
def zP.L1 (N : Nat) (n1 : Nat) (l_ : zBp) (i : Int) (o00 : Int) (o01 : List Int) (o1 : zBp) : Option zBp := loopK [.keep [1, 2, 5, 6], .drop 2, .norm] (rK (zP.env N) N zP.c1) n1
 { t := jK 34 [(1, .one (.sl false zBX l_)), (2, .one (.ptr 0 0 0)), (5, .one (.ref 1 0 .all)), (6, .one (.int .i64 i))], h := [.box 0 false [.int .i64 o00, .sl false (.int .i64) o01], .row 0 false true 12 zBX o1, .absent 0] }
 (zP.k1 N)
theorem zP.L1_eq (N : Nat) (n1 : Nat) (l_ : zBp) (i : Int) (o00 : Int) (o01 : List Int) (o1 : zBp) : zP.L1 N (n1 + 1) l_ i o00 o01 o1 =
bif decide (i < (l_.length : Int)) then
bif zG i (l_.length) then
bindO (zc.F N ((o00, o01), (nth (0, ([] : List Int)) l_ i))) fun r1 =>
bif !r1 then
bif zG i (l_.length) then
bindO (zA2.F N (nth (0, ([] : List Int)) l_ i)) fun r2 =>
bif decide (o1.length + List.length ([r2] : List (Int × List Int)) <= maxN) then
bif zG i (l_.length) then
zP.L1 N n1 l_ (IntKind.wrap .i64 (i + 1)) ((nth (0, ([] : List Int)) l_ i).1) ((nth (0, ([] : List Int)) l_ i).2) (o1 ++ ([r2] : List (Int × List Int)))
else none
else none
else none
else
bif zG i (l_.length) then
zP.L1 N n1 l_ (IntKind.wrap .i64 (i + 1)) ((nth (0, ([] : List Int)) l_ i).1) ((nth (0, ([] : List Int)) l_ i).2) o1
else none
else none
else
some o1 := by kernel_rfl
theorem zP.F_eq (N : Nat) (last : Int × List Int) (l_ : zBp) : zP.F N (last, l_) =
zP.L1 N N l_ 0 last.1 last.2 ([] : List (Int × List Int)) := by kernel_rfl
def zAz.x : XFunc := xF 91 10 [.val true 7, .val false 1, .val false 1] (no 9) [.var 6 true 7, .tmp 7 false 1, .tmp 8 false 1] [.imm, .imm, .imm, .imm, .own 15, .imm, .imm, .imm, .imm] true (.pair T2_30 (.pair (.int .i64) (.bool))) (.pair T2_30 (.pair (.list zBX) (.bool))) <| .seq (rG [ow 3 (.box 0) [.slot 0] [0] [0], ow 6 (.alloc 1 [cZ, .nil, .nil, cZ, .nil, cZ, .bool false]) [] [1] [1], op 7 .move [.const (.one (.nil))], op 8 .move [cB false]]) (.seq (.seq (rG [lU 12 7 3 0, o1 13 (cO 291 [.val true 7] 7 true) 12, o1 14 .not 13, sX 15 [.slot 14], gM 16 1 15 false, gF 17 0 3 15 false, gF 18 0 17 15 false, gL 19 18 0 15 false, gX 20 (.bin .sub) [.slot 19, cI 1] [] [] 15 false, ⟨some 21, cO 1 (vs 3) 3 true, [.slot 16, cI 0, .slot 20], [], [], some (15, false), false, .none⟩, gX 22 .not [.slot 21] [] [] 15 false, op 23 .pick [.slot 15, cB true, .slot 22], sX 24 [.slot 23], gX 25 (.load true 7) [.slot 3] [0] [] 24 false, gM 26 1 24 false, ⟨some 27, cO 305 [.val true 7, .val false 1] 8 true, (sl [25, 26]), [], [], some (24, false), false, .none⟩, gX 28 (.bin .geq) [.slot 27, cI 0] [] [] 24 false, op 29 .pick [.slot 24, cB true, .slot 28]]) (.cond (.slot 29) (.seq (rG [op 30 (.build [cZ, .nil, .nil, cZ, .nil, cZ, .bool false] []) [], ow 31 (.buildSlice false 2 12 zBX 0 [] [cZ, .nil]) [] [2] [2], sT 7 6 30 1, mv 7 31, op 8 .move [cB false]]) (.ret)) (.skip))) (.seq (rG [lU 32 7 3 0, ow 33 (.call ⟨293, [.val true 7], no 7, [.val true 7], [.imm, .imm, .imm, .imm, .own 3 15, .imm, .imm], true⟩) [.slot 32] [3] [3], ow 9 (.alloc 4 [cZ, .nil, .nil, cZ, .nil, cZ, .bool false]) [] [4] [4], sT 7 9 33 4]) (.seq (.region true [fA 34 0 3, lU 35 2 34 0, fA 36 3 3, lN 37 36 0, fA 38 4 3, lN 39 38 0, o2 40 (cO 301 (vs 2) 2 true) 37 39, mv 41 1, op 42 (.call ⟨303, [.val true 2, .val false 1, .val false 1], no 4, [.val true 4], ims 4, true⟩) (sl [35, 40, 41]), ow 10 (.alloc 5 [cZ, cZ, cZ, cZ]) [] [5] [5], sT 4 10 42 5]) (.seq (.seq (rG [mv 43 2]) (.cond (.slot 43) (rG [lU 44 4 10 5, o1 45 (.call ⟨306, [.val true 4], no 4, [.val true 4], ims 4, true⟩) 44, sT 4 10 45 5]) (rG [lU 46 4 10 5, o1 47 (.call ⟨307, [.val true 4], no 4, [.val true 4], ims 4, true⟩) 46, sT 4 10 47 5]))) (.seq (rG [lU 48 4 10 5, ow 49 (.call ⟨310, [.box 4 7, .val true 4], [none, none, none, none, some (3, 15), none, none, none, none, none, none], [.val true 4], [.imm, .imm, .imm, .imm, .imm, .imm, .imm, .imm, .own 3 15, .imm, .imm], false⟩) (sl [9, 48]) [3, 4] [3, 4], sT 4 10 49 5]) (.seq (rG [fA 50 4 9, lN 51 50 4, mv 52 1, lU 53 4 10 5, o2 54 (.build [cZ, cZ, cZ, cZ, cZ] [(0, 1), (1, 4)]) 52 53, ow 55 (.buildSlice false 7 15 zAY 1 [(0, 5)] [cZ, cZ, cZ, cZ, cZ]) [.slot 54] [7] [7], ow 56 (.append false 3 15 zAY) (sl [51, 55]) [3, 7] [3], fA 57 4 9, sT 1 57 56 4]) (.seq (rG [ow 58 (.buildSlice false 8 12 zBX 0 [] [cZ, .nil]) [] [8] [8], mv 11 58]) (.seq (.seq (rG [fA 59 0 10, lN 60 59 5, op 61 (.bin .eql) [.slot 60, cI 9], sX 62 [.slot 61], gF 63 3 10 62 true, gL 64 63 5 62 true, gF 65 2 3 62 true, gL 66 65 0 62 true, gX 67 .len [.slot 66] [] [] 62 true, gX 68 (.bin .lss) (sl [64, 67]) [] [] 62 true, op 69 .pick [.slot 62, .slot 68, cB false]]) (.cond (.slot 69) (.region true [fA 70 4 9, lN 71 70 4, fA 72 2 3, lN 73 72 0, fA 74 3 10, lN 75 74 5, o2 76 (.indexAddr (.list zBB)) 73 75, o1 77 (.load false 1) 76, ow 78 (.call ⟨313, vs 2, no 2, [.val false 1], [.own 8 12], true⟩) (sl [71, 77]) [3, 8] [8], mv 11 78]) (.skip))) (.seq (rG [mv 79 11, fA 80 4 9, lN 81 80 4, ow 82 (.call ⟨311, vs 1, no 1, [.val true 2], ims 2, true⟩) [.slot 81] [3] [], ow 83 (.buildSlice false 9 12 zBX 1 [(0, 2)] [cZ, .nil]) [.slot 82] [9] [9], ow 84 (.append false 8 12 zBX) (sl [79, 83]) [8, 9] [8], mv 11 84]) (.seq (.region true [lU 85 7 9 4, fA 86 4 3, lN 87 86 0, o1 88 (.call ⟨311, vs 1, no 1, [.val true 2], ims 2, true⟩) 87, mv 89 11, ow 90 (cO 315 [.val true 2, .val false 1] 3 true) (sl [88, 89]) [8] [], sT 7 6 85 1, mv 7 90, op 8 .move [cB true]]) (.ret)))))))))))
def zAz.env (N : Nat) : Env := envOf (tbl [(303, zAJ.fs N), (305, yV.fs N), (306, zA4.fs N), (291, zH.fs N), (301, zj.fs N), (313, zK.fs N), (311, zB.fs N), (307, zBC.fs N), (1, zR.fs N), (315, zP.fs N), (293, yI.fs N), (310, zAa.fs N)] noFS)
def zAz.F (N : Nat) (x : zBb × Int × Bool) : Option (zBb × zBp × Bool) := XFunc.run zAz.x (zAz.env N) N x
def zAz.fs (N : Nat) : FS := fS zAz.x true (zAz.F N)
theorem zAz.F_eq (N : Nat) (e : (Int × List yZ) × (List zAZ) × Int × yT × Int × Bool) (key : Int) (hold : Bool) : zAz.F N (e, key, hold) =
bindO (zH.F N e) fun r1 =>
bif !r1 then
some (((0, ([] : List yZ)), (([] : List zAZ), (0, (([] : List (Int × Int × Int × Int × Int)), (0, false))))), (([] : List (Int × List Int)), false))
else
bindO (zR.F N (key, (0, IntKind.wrap .i64 (e.1.1 - 1)))) fun r2 =>
bif !r2 then
some (((0, ([] : List yZ)), (([] : List zAZ), (0, (([] : List (Int × Int × Int × Int × Int)), (0, false))))), (([] : List (Int × List Int)), false))
else
bindO (yV.F N (e, key)) fun r3 =>
bif decide (r3 >= 0) then
some (((0, ([] : List yZ)), (([] : List zAZ), (0, (([] : List (Int × Int × Int × Int × Int)), (0, false))))), (([] : List (Int × List Int)), false))
else
bindO (yI.F N e) fun r4 =>
bindO (zj.F N (e.2.2.1, e.2.2.2.1)) fun r5 =>
bindO (zAJ.F N (e.1, (r5, key))) fun r6 =>
bif hold then
bindO (zA4.F N r6) fun r7 =>
bindO (zAa.F N (r4, r7)) fun r8 =>
bif decide (List.length r8.2.2.2.2.1 + List.length ([(key, r8.1)] : List (Int × Int × Int × Int × Int)) <= maxN) then
bif r8.1.1 == 9 then
bif decide (r8.1.2.2.2 < (List.length e.2.1 : Int)) then
bif zG r8.1.2.2.2 (List.length e.2.1) then
bindO (zK.F N (r8.2.2.2.2.1 ++ ([(key, r8.1)] : List (Int × Int × Int × Int × Int)), nth ([] : List (Int × Int × Int)) e.2.1 r8.1.2.2.2)) fun r9 =>
bindO (zB.F N (r8.2.2.2.2.1 ++ ([(key, r8.1)] : List (Int × Int × Int × Int × Int)))) fun r10 =>
bif decide (r9.length + List.length ([r10] : List (Int × List Int)) <= maxN) then
bindO (zB.F N e.2.2.2.1) fun r11 =>
bindO (zP.F N (r11, r9 ++ ([r10] : List (Int × List Int)))) fun r12 =>
some ((r8.2.1, (r8.2.2.1, (r8.2.2.2.1, (r8.2.2.2.2.1 ++ ([(key, r8.1)] : List (Int × Int × Int × Int × Int)), r8.2.2.2.2.2)))), (r12, true))
else none
else none
else
bindO (zB.F N (r8.2.2.2.2.1 ++ ([(key, r8.1)] : List (Int × Int × Int × Int × Int)))) fun r13 =>
bif decide (List.length ([] : List (Int × List Int)) + List.length ([r13] : List (Int × List Int)) <= maxN) then
bindO (zB.F N e.2.2.2.1) fun r14 =>
bindO (zP.F N (r14, ([] : List (Int × List Int)) ++ ([r13] : List (Int × List Int)))) fun r15 =>
some ((r8.2.1, (r8.2.2.1, (r8.2.2.2.1, (r8.2.2.2.2.1 ++ ([(key, r8.1)] : List (Int × Int × Int × Int × Int)), r8.2.2.2.2.2)))), (r15, true))
else none
else
bindO (zB.F N (r8.2.2.2.2.1 ++ ([(key, r8.1)] : List (Int × Int × Int × Int × Int)))) fun r16 =>
bif decide (List.length ([] : List (Int × List Int)) + List.length ([r16] : List (Int × List Int)) <= maxN) then
bindO (zB.F N e.2.2.2.1) fun r17 =>
bindO (zP.F N (r17, ([] : List (Int × List Int)) ++ ([r16] : List (Int × List Int)))) fun r18 =>
some ((r8.2.1, (r8.2.2.1, (r8.2.2.2.1, (r8.2.2.2.2.1 ++ ([(key, r8.1)] : List (Int × Int × Int × Int × Int)), r8.2.2.2.2.2)))), (r18, true))
else none
else none
else
bindO (zBC.F N r6) fun r19 =>
bindO (zAa.F N (r4, r19)) fun r20 =>
bif decide (List.length r20.2.2.2.2.1 + List.length ([(key, r20.1)] : List (Int × Int × Int × Int × Int)) <= maxN) then
bif r20.1.1 == 9 then
bif decide (r20.1.2.2.2 < (List.length e.2.1 : Int)) then
bif zG r20.1.2.2.2 (List.length e.2.1) then
bindO (zK.F N (r20.2.2.2.2.1 ++ ([(key, r20.1)] : List (Int × Int × Int × Int × Int)), nth ([] : List (Int × Int × Int)) e.2.1 r20.1.2.2.2)) fun r21 =>
bindO (zB.F N (r20.2.2.2.2.1 ++ ([(key, r20.1)] : List (Int × Int × Int × Int × Int)))) fun r22 =>
bif decide (r21.length + List.length ([r22] : List (Int × List Int)) <= maxN) then
bindO (zB.F N e.2.2.2.1) fun r23 =>
bindO (zP.F N (r23, r21 ++ ([r22] : List (Int × List Int)))) fun r24 =>
some ((r20.2.1, (r20.2.2.1, (r20.2.2.2.1, (r20.2.2.2.2.1 ++ ([(key, r20.1)] : List (Int × Int × Int × Int × Int)), r20.2.2.2.2.2)))), (r24, true))
else none
else none
else
bindO (zB.F N (r20.2.2.2.2.1 ++ ([(key, r20.1)] : List (Int × Int × Int × Int × Int)))) fun r25 =>
bif decide (List.length ([] : List (Int × List Int)) + List.length ([r25] : List (Int × List Int)) <= maxN) then
bindO (zB.F N e.2.2.2.1) fun r26 =>
bindO (zP.F N (r26, ([] : List (Int × List Int)) ++ ([r25] : List (Int × List Int)))) fun r27 =>
some ((r20.2.1, (r20.2.2.1, (r20.2.2.2.1, (r20.2.2.2.2.1 ++ ([(key, r20.1)] : List (Int × Int × Int × Int × Int)), r20.2.2.2.2.2)))), (r27, true))
else none
else
bindO (zB.F N (r20.2.2.2.2.1 ++ ([(key, r20.1)] : List (Int × Int × Int × Int × Int)))) fun r28 =>
bif decide (List.length ([] : List (Int × List Int)) + List.length ([r28] : List (Int × List Int)) <= maxN) then
bindO (zB.F N e.2.2.2.1) fun r29 =>
bindO (zP.F N (r29, ([] : List (Int × List Int)) ++ ([r28] : List (Int × List Int)))) fun r30 =>
some ((r20.2.1, (r20.2.2.1, (r20.2.2.2.1, (r20.2.2.2.2.1 ++ ([(key, r20.1)] : List (Int × Int × Int × Int × Int)), r20.2.2.2.2.2)))), (r30, true))
else none
else none := by kernel_rfl
def zAr.x : XFunc := xF 126 5 [.box 0 15, .val true 3, .val false 1] (no 19) [.tmp 6 false 1, .tmp 7 false 1, .tmp 8 false 1] (iF 18) false (.pair (.pair T2_30 T9_30) (.pair zCQ (.int .i64))) (.pair (.list zBX) (.pair (.int .i64) (.pair (.bool) (.pair T2_30 T9_30)))) <| .seq (rG [ow 4 (.box 1) [.slot 1] [1] [1], op 6 .move [.const (.one (.nil))], op 7 .move [cI 0], op 8 .move [cB false]]) (.seq (.region true [mv 16 0, o1 17 .nilck 16, fA 18 0 17, fA 19 0 18, lU 20 2 19 0, mv 21 0, o1 22 .nilck 21, fA 23 0 22, fA 24 3 23, lN 25 24 0, mv 26 0, o1 27 .nilck 26, fA 28 0 27, fA 29 4 28, lN 30 29 0, o2 31 (cO 301 (vs 2) 2 true) 25 30, fA 32 1 4, lN 33 32 1, op 34 (.call ⟨303, [.val true 2, .val false 1, .val false 1], no 4, [.val true 4], ims 4, true⟩) (sl [20, 31, 33]), ow 9 (.alloc 2 [cZ, cZ, cZ, cZ]) [] [2] [2], sT 4 9 34 2]) (.seq (rG [op 10 .move [cB false]]) (.seq (.seq (rG [lU 35 4 9 2, o1 36 (cO 285 [.val true 4] 4 true) 35]) (.cond (.slot 36) (.seq (.region true [mv 38 0, o1 39 .nilck 38, fA 40 7 39, lU 41 3 40 0, fA 42 1 4, lN 43 42 1, fA 44 0 4, lN 45 44 1, mv 46 0, o1 47 .nilck 46, fA 48 10 47, lN 49 48 0, op 50 (.slice zCQ true false) [.slot 49, cI 1], mv 51 0, o1 52 .nilck 51, fA 53 11 52, lN 54 53 0, op 55 (.call ⟨304, [.val true 3, .val false 1, .val false 1, .val false 1, .val false 1], no 7, (rB 2), ims 2, true⟩) (sl [41, 43, 45, 50, 54]), mv 37 55, eX 56 0 37, eX 57 1 37, mv 11 56, mv 12 57]) (.seq (.seq (.region true [mv 58 0, o1 59 .nilck 58, fA 60 13 59, lN 61 60 0, fA 62 1 4, lN 63 62 1, op 64 (.bin .add) [.slot 63, cI 1], o2 65 (.bin .eql) 61 64, sX 66 [.slot 65], gF 67 0 4 66 true, gL 68 67 1 66 true, gM 69 0 66 true, gX 70 .nilck [.slot 69] [] [] 66 true, gF 71 14 70 66 true, gL 72 71 0 66 true, gX 73 (.bin .sub) (sl [68, 72]) [] [] 66 true, gM 74 0 66 true, gX 75 .nilck [.slot 74] [] [] 66 true, gF 76 7 75 66 true, gF 77 1 76 66 true, gL 78 77 0 66 true, gX 79 (.bin .lss) (sl [73, 78]) [] [] 66 true, op 80 .pick [.slot 66, .slot 79, cB false]]) (.cond (.slot 80) (.seq (rG [op 11 .move [cI 1]]) (rG [fA 81 0 4, lN 82 81 1, mv 12 82])) (.skip))) (.seq (.seq (rG [mv 83 11, op 84 (.bin .eql) [.slot 83, cI 0]]) (.cond (.slot 84) (.seq (rG [ow 85 (.buildSlice false 4 12 zBX 0 [] [cZ, .nil]) [] [4] [4], mv 86 2, mv 6 85, mv 7 86, op 8 .move [cB false]]) (.ret)) (.skip))) (.seq (rG [mv 87 11, op 88 (.bin .eql) [.slot 87, cI 2], mv 10 88]) (.seq (rG [mv 89 0, o1 90 .nilck 89, fA 91 13 90, on (.store 1) [.slot 91, cI 0] [0] [0]]) (.seq (.seq (rG [mv 92 10, o1 93 .not 92]) (.cond (.slot 93) (.seq (rG [mv 94 0, fA 95 1 4, lN 96 95 1, op 97 (.bin .add) [.slot 96, cI 1], o1 98 .nilck 94, fA 99 13 98, sT 1 99 97 0]) (rG [mv 100 0, fA 101 0 4, lN 102 101 1, o1 103 .nilck 100, fA 104 14 103, sT 1 104 102 0])) (.skip))) (rG [mv 105 2, mv 106 12, o2 107 .max 105 106, mv 2 107]))))))) (.skip))) (.seq (.region true [mv 109 0, o1 110 .nilck 109, fA 111 0 110, lU 112 7 111 0, fA 113 1 4, lN 114 113 1, mv 115 10, op 116 (.call ⟨316, [.val true 7, .val false 1, .val false 1], no 9, [.val true 7, .val false 1, .val false 1], ims 9, true⟩) (sl [112, 114, 115]), mv 108 116, eX 117 0 108, eX 118 1 108, eX 119 2 108, ow 13 (.alloc 3 [cZ, .nil, .nil, cZ, .nil, cZ, .bool false]) [] [3] [3], sT 7 13 117 3, mv 14 118, mv 15 119]) (.seq (rG [mv 120 0, lU 121 7 13 3, o1 122 .nilck 120, fA 123 0 122, sT 7 123 121 0]) (.seq (rG [mv 124 14, mv 125 2, mv 6 124, mv 7 125, op 8 .move [cB true]]) (.ret)))))))
def zAr.env (N : Nat) : Env := envOf (tbl [(303, zAJ.fs N), (304, za.fs N), (285, yU.fs N), (301, zj.fs N), (316, zAz.fs N)] noFS)
def zAr.F (N : Nat) (x : D19_30 × (Int × Int × Bool) × Int) : Option (zBp × Int × Bool × zBb × (Int × Int × Int) × zBa × Int × Int × Int × Int) := XFunc.run zAr.x (zAr.env N) N x
def zAr.fs (N : Nat) : FS := fS zAr.x false (zAr.F N)
theorem zAr.F_eq (N : Nat) (d : zBb × (Int × Int × Int) × zBa × Int × Int × Int × Int) (f : Int × Int × Bool) (w : Int) : zAr.F N (d, f, w) =
bindO (zj.F N (d.1.2.2.1, d.1.2.2.2.1)) fun r1 =>
bindO (zAJ.F N (d.1.1, (r1, f.2.1))) fun r2 =>
bindO (yU.F N r2) fun r3 =>
bif r3 then
bif decide (0 <= (1 : Int)) && decide (1 <= (List.length d.2.2.1 : Int)) then
bindO (za.F N (d.2.1, (f.2.1, (f.1, (List.drop 1 d.2.2.1, d.2.2.2.1))))) fun r4 =>
bif d.2.2.2.2.2.1 == (IntKind.wrap .i64 (f.2.1 + 1)) then
bif decide ((IntKind.wrap .i64 (f.1 - d.2.2.2.2.2.2)) < d.2.1.2.1) then
bindO (zAz.F N (d.1, (f.2.1, false))) fun r5 =>
some (r5.2.1, (maxI w f.1, (true, (r5.1, (d.2.1, (d.2.2.1, (d.2.2.2.1, (d.2.2.2.2.1, (IntKind.wrap .i64 (f.2.1 + 1), f.1)))))))))
else
bif r4.1 == 0 then
some (([] : List (Int × List Int)), (w, (false, d)))
else
bif !(r4.1 == 2) then
bindO (zAz.F N (d.1, (f.2.1, r4.1 == 2))) fun r6 =>
some (r6.2.1, (maxI w r4.2, (true, (r6.1, (d.2.1, (d.2.2.1, (d.2.2.2.1, (d.2.2.2.2.1, (IntKind.wrap .i64 (f.2.1 + 1), f.1)))))))))
else
bindO (zAz.F N (d.1, (f.2.1, r4.1 == 2))) fun r7 =>
some (r7.2.1, (maxI w r4.2, (true, (r7.1, (d.2.1, (d.2.2.1, (d.2.2.2.1, (d.2.2.2.2.1, (0, d.2.2.2.2.2.2)))))))))
else
bif r4.1 == 0 then
some (([] : List (Int × List Int)), (w, (false, d)))
else
bif !(r4.1 == 2) then
bindO (zAz.F N (d.1, (f.2.1, r4.1 == 2))) fun r8 =>
some (r8.2.1, (maxI w r4.2, (true, (r8.1, (d.2.1, (d.2.2.1, (d.2.2.2.1, (d.2.2.2.2.1, (IntKind.wrap .i64 (f.2.1 + 1), f.1)))))))))
else
bindO (zAz.F N (d.1, (f.2.1, r4.1 == 2))) fun r9 =>
some (r9.2.1, (maxI w r4.2, (true, (r9.1, (d.2.1, (d.2.2.1, (d.2.2.2.1, (d.2.2.2.2.1, (0, d.2.2.2.2.2.2)))))))))
else none
else
bindO (zAz.F N (d.1, (f.2.1, false))) fun r10 =>
some (r10.2.1, (w, (true, (r10.1, d.2)))) := by kernel_rfl
def zAs.x : XFunc := xF 37 5 [.val true 7, .val false 1] (no 8) [.var 4 true 7, .tmp 5 false 1, .tmp 6 false 1] (iF 9) true (.pair T2_30 (.int .i64)) (.pair T2_30 (.pair (.list zBX) (.bool))) <| .seq (rG [ow 2 (.box 0) [.slot 0] [0] [0], ow 4 (.alloc 1 [cZ, .nil, .nil, cZ, .nil, cZ, .bool false]) [] [1] [1], op 5 .move [.const (.one (.nil))], op 6 .move [cB false]]) (.seq (rG [lU 9 7 2 0, mv 10 1, o2 11 (cO 305 [.val true 7, .val false 1] 8 true) 9 10, mv 7 11]) (.seq (.seq (rG [lU 12 7 2 0, o1 13 (cO 291 [.val true 7] 7 true) 12, o1 14 .not 13, sX 15 [.slot 14], gM 16 7 15 false, gX 17 (.bin .lss) [.slot 16, cI 0] [] [] 15 false, op 18 .pick [.slot 15, cB true, .slot 17]]) (.cond (.slot 18) (.seq (rG [op 19 (.build [cZ, .nil, .nil, cZ, .nil, cZ, .bool false] []) [], ow 20 (.buildSlice false 2 12 zBX 0 [] [cZ, .nil]) [] [2] [2], sT 7 4 19 1, mv 5 20, op 6 .move [cB false]]) (.ret)) (.skip))) (.seq (rG [lU 21 7 2 0, o1 22 (.call ⟨293, [.val true 7], no 7, [.val true 7], ims 7, true⟩) 21, ow 8 (.alloc 3 [cZ, .nil, .nil, cZ, .nil, cZ, .bool false]) [] [3] [3], sT 7 8 22 3]) (.seq (rG [fA 23 4 8, lN 24 23 3, mv 25 7, o2 26 (cO 289 (vs 2) 2 true) 24 25, fA 27 4 8, sT 1 27 26 3]) (.seq (.region true [lU 28 7 8 3, fA 29 4 2, lN 30 29 0, o1 31 (.call ⟨311, vs 1, no 1, [.val true 2], ims 2, true⟩) 30, fA 32 4 8, lN 33 32 3, o1 34 (.call ⟨311, vs 1, no 1, [.val true 2], ims 2, true⟩) 33, ow 35 (.buildSlice false 4 12 zBX 1 [(0, 2)] [cZ, .nil]) [.slot 34] [4] [4], ow 36 (cO 315 [.val true 2, .val false 1] 3 true) (sl [31, 35]) [4] [], sT 7 4 28 1, mv 5 36, op 6 .move [cB true]]) (.ret))))))
def zAs.env (N : Nat) : Env := envOf (tbl [(305, yV.fs N), (291, zH.fs N), (311, zB.fs N), (289, yY.fs N), (315, zP.fs N), (293, yI.fs N)] noFS)
def zAs.F (N : Nat) (x : zBb × Int) : Option (zBb × zBp × Bool) := XFunc.run zAs.x (zAs.env N) N x
def zAs.fs (N : Nat) : FS := fS zAs.x true (zAs.F N)
theorem zAs.F_eq (N : Nat) (e : (Int × List yZ) × (List zAZ) × Int × yT × Int × Bool) (key : Int) : zAs.F N (e, key) =
bindO (yV.F N (e, key)) fun r1 =>
bindO (zH.F N e) fun r2 =>
bif !r2 then
some (((0, ([] : List yZ)), (([] : List zAZ), (0, (([] : List (Int × Int × Int × Int × Int)), (0, false))))), (([] : List (Int × List Int)), false))
else
bif decide (r1 < 0) then
some (((0, ([] : List yZ)), (([] : List zAZ), (0, (([] : List (Int × Int × Int × Int × Int)), (0, false))))), (([] : List (Int × List Int)), false))
else
bindO (yI.F N e) fun r3 =>
bindO (yY.F N (r3.2.2.2.1, r1)) fun r4 =>
bindO (zB.F N e.2.2.2.1) fun r5 =>
bindO (zB.F N r4) fun r6 =>
bindO (zP.F N (r5, ([r6] : List (Int × List Int)))) fun r7 =>
some ((r3.1, (r3.2.1, (r3.2.2.1, (r4, r3.2.2.2.2)))), (r7, true)) := by kernel_rfl
def zQ.c1 : XCode := .seq (.seq (rG [mv 79 13, mv 80 6, o1 81 .len 80, o2 82 (.bin .lss) 79 81]) (cX 82 2)) (.seq (.block 3 (rG [mv 85 3, mv 86 5, mv 87 6, mv 88 13, o2 89 (.indexAddr zBX) 87 88, o1 90 (.load true 2) 89, o2 91 (.build [cZ, cZ, .nil] [(0, 1), (1, 2)]) 86 90, ow 92 (.buildSlice false 4 13 T12_30 1 [(0, 3)] [cZ, cZ, .nil]) [.slot 91] [4] [4], ow 93 (.append false 1 13 T12_30) (sl [85, 92]) [1, 4] [1], mv 3 93])) (rG [mv 83 13, op 84 (.bin .add) [.slot 83, cI 1], mv 13 84]))
def zQ.c2 : XCode := .seq (rG [mv 94 0, mv 95 5, o1 96 .nilck 94, fA 97 12 96, sT 1 97 95 0]) (rG [mv 98 0, ow 99 (.buildSlice false 5 4 zCQ 0 [] [cZ, cZ, .bool false]) [] [5] [5], mv 100 0, o1 101 .nilck 100, fA 102 10 101, lN 103 102 0, op 104 (.slice zCQ true false) [.slot 103, cI 1], ow 105 (.append false 5 4 zCQ) (sl [99, 104]) [5] [5], o1 106 .nilck 98, fA 107 10 106, sT 1 107 105 0])
def zQ.c3 : XCode := .seq (.seq (rG [mv 15 0, o1 16 .nilck 15, fA 17 10 16, lN 18 17 0, o1 19 .len 18, op 20 (.bin .gtr) [.slot 19, cI 0]]) (cX 20 0)) (.block 1 (.seq (rG [mv 21 0, o1 22 .nilck 21, fA 23 10 22, lN 24 23 0, op 25 (.indexAddr zCQ) [.slot 24, cI 0], o1 26 (.load true 3) 25, ow 4 (.alloc 2 [cZ, cZ, .bool false]) [] [2] [2], sT 3 4 26 2]) (.seq (.region true [mv 27 0, o1 28 .nilck 27, fA 29 12 28, lN 30 29 0, fA 31 0 4, lN 32 31 2, o2 33 .max 30 32, mv 5 33]) (.seq (rG [ow 34 (.buildSlice false 3 12 zBX 0 [] [cZ, .nil]) [] [3] [3], mv 6 34]) (.seq (.seq (rG [fA 35 2 4, lN 36 35 2]) (.cond (.slot 36) (.seq (rG [mv 38 0, lU 39 3 4 2, mv 40 5, ow 41 (.call ⟨317, [.box 0 15, .val true 3, .val false 1], no 19, (rB 3), ims 18, false⟩) (sl [38, 39, 40]) [0] [0], mv 37 41, eX 42 0 37, eX 43 1 37, eX 44 2 37, mv 7 42, mv 8 43, mv 9 44]) (.seq (.seq (rG [mv 45 9, o1 46 .not 45]) (.cond (.slot 46) (.seq (rG [mv 47 3, mv 2 47]) (.ret)) (.skip))) (.seq (rG [mv 48 7, mv 6 48]) (rG [mv 49 8, mv 5 49])))) (.seq (.region true [mv 51 0, o1 52 .nilck 51, fA 53 0 52, lU 54 7 53 0, fA 55 1 4, lN 56 55 2, o2 57 (.call ⟨318, [.val true 7, .val false 1], no 8, [.val true 7, .val false 1, .val false 1], ims 9, true⟩) 54 56, mv 50 57, eX 58 0 50, eX 59 1 50, eX 60 2 50, ow 10 (.alloc 6 [cZ, .nil, .nil, cZ, .nil, cZ, .bool false]) [] [6] [6], sT 7 10 58 6, mv 11 59, mv 12 60]) (.seq (rG [mv 61 0, lU 62 7 10 6, o1 63 .nilck 61, fA 64 0 63, sT 7 64 62 0]) (.seq (rG [mv 65 11, mv 6 65]) (.seq (.region true [mv 66 0, o1 67 .nilck 66, fA 68 13 67, lN 69 68 0, fA 70 1 4, lN 71 70 2, op 72 (.bin .add) [.slot 71, cI 1], o2 73 (.bin .eql) 69 72]) (.cond (.slot 73) (rG [mv 74 0, fA 75 0 4, lN 76 75 2, o1 77 .nilck 74, fA 78 14 77, sT 1 78 76 0]) (.skip)))))))) (.seq (.seq (rG [op 13 .move [cI 0]]) (.block 2 (.loop [.keep [0, 3, 5, 6, 13], .drop 2, .drop 3, .drop 4, .drop 5, .drop 6, .weak, .norm] (zQ.c1)))) (zQ.c2)))))))
def zQ.c4 : XCode := .seq (rG [mv 108 3, mv 2 108]) (.ret)
def zQ.x : XFunc := xF 109 7 [.box 0 15] (no 15) [.tmp 2 false 1] [.own 13, .imm, .imm, .imm, .imm, .imm, .imm, .imm, .imm, .imm, .imm, .imm, .imm, .imm, .imm, .imm] false (.pair T2_30 T9_30) (.pair (.list T12_30) (.pair T2_30 T9_30)) <| .seq (rG [op 2 .move [.const (.one (.nil))]]) (.seq (rG [ow 14 (.buildSlice false 1 13 T12_30 0 [] [cZ, cZ, .nil]) [] [1] [1], mv 3 14]) (.seq (.block 0 (.loop [.freeze 5, .keep [0, 3], .drop 2, .drop 3, .drop 4, .drop 5, .drop 6, .weak, .norm] (zQ.c3))) (zQ.c4)))
def zQ.env (N : Nat) : Env := envOf (tbl [(318, zAs.fs N), (317, zAr.fs N)] noFS)
def zQ.F (N : Nat) (x : zBb × (Int × Int × Int) × zBa × Int × Int × Int × Int) : Option D20_30 := XFunc.run zQ.x (zQ.env N) N x
def zQ.fs (N : Nat) : FS := fS zQ.x false (zQ.F N)
def zQ.k2 (N : Nat) : Ex -> S -> Option D20_30 := seqK (fun s => XCode.runK (zQ.env N) N (zQ.c4) s (XFunc.endK zQ.x)) (XFunc.endK zQ.x)
def zQ.k1 (N : Nat) : Ex -> S -> Option D20_30 := y7 0 (zQ.k2 N)
def zQ.k6 (N : Nat) (n1 : Nat) : Ex -> S -> Option D20_30 := seqK (fun s => bindO (S.ghosts s [.freeze 5, .keep [0, 3], .drop 2, .drop 3, .drop 4, .drop 5, .drop 6, .weak, .norm]) fun s1 => loopK [.freeze 5, .keep [0, 3], .drop 2, .drop 3, .drop 4, .drop 5, .drop 6, .weak, .norm] (rK (zQ.env N) N zQ.c3) n1 s1 (zQ.k1 N)) (zQ.k1 N)
def zQ.k5 (N : Nat) (n1 : Nat) : Ex -> S -> Option D20_30 := y7 1 (zQ.k6 N n1)
def zQ.k4 (N : Nat) (n1 : Nat) : Ex -> S -> Option D20_30 := seqK (fun s => XCode.runK (zQ.env N) N (zQ.c2) s (zQ.k5 N n1)) (zQ.k5 N n1)
def zQ.k3 (N : Nat) (n1 : Nat) : Ex -> S -> Option D20_30 := y7 2 (zQ.k4 N n1)
def zQ.L1 (N : Nat) (n1 : Nat) (d0 : Int) (d1 : List yZ) (d2 : List zAZ) (d3 : Int) (d4 : yT) (d5 : Int) (d6 : Bool) (d7 : Int) (d8 : Int) (d9 : Int) (d10 : zBa) (d11 : Int) (d12 : Int) (d13 : Int) (d14 : Int) (o1 : D26_30) : Option D20_30 := loopK [.freeze 5, .keep [0, 3], .drop 2, .drop 3, .drop 4, .drop 5, .drop 6, .weak, .norm] (rK (zQ.env N) N zQ.c3) n1
 { t := jK 109 [(0, .one (.ptr 0 0 0)), (3, .one (.ref 1 0 .all))], h := [.box 0 true [.int .i64 d0, .sl false (.list zBA) d1, .sl false (.list zBB) d2, .int .i64 d3, .sl false zAY d4, .int .i64 d5, .bool d6, .int .i64 d7, .int .i64 d8, .int .i64 d9, .sl false zCQ d10, .int .i64 d11, .int .i64 d12, .int .i64 d13, .int .i64 d14], .row 0 false false 13 T12_30 o1, .absent 0, .absent 0, .absent 0, .absent 0, .absent 0] }
 (zQ.k1 N)
def zQ.L2 (N : Nat) (n1 : Nat) (n2 : Nat) (w : Int) (reports : zBp) (i : Int) (d0 : Int) (d1 : List yZ) (d2 : List zAZ) (d3 : Int) (d4 : yT) (d5 : Int) (d6 : Bool) (d7 : Int) (d8 : Int) (d9 : Int) (d10 : zBa) (d11 : Int) (d12 : Int) (d13 : Int) (d14 : Int) (o1 : D26_30) : Option D20_30 := loopK [.keep [0, 3, 5, 6, 13], .drop 2, .drop 3, .drop 4, .drop 5, .drop 6, .weak, .norm] (rK (zQ.env N) N zQ.c1) n2
 { t := jK 109 [(0, .one (.ptr 0 0 0)), (3, .one (.ref 1 0 .all)), (5, .one (.int .i64 w)), (6, .one (.sl false zBX reports)), (13, .one (.int .i64 i))], h := [.box 0 true [.int .i64 d0, .sl false (.list zBA) d1, .sl false (.list zBB) d2, .int .i64 d3, .sl false zAY d4, .int .i64 d5, .bool d6, .int .i64 d7, .int .i64 d8, .int .i64 d9, .sl false zCQ d10, .int .i64 d11, .int .i64 d12, .int .i64 d13, .int .i64 d14], .row 0 false false 13 T12_30 o1, .absent 0, .absent 0, .absent 0, .absent 0, .absent 0] }
 (zQ.k3 N n1)
theorem zQ.L1_eq (N : Nat) (n1 : Nat) (d0 : Int) (d1 : List yZ) (d2 : List zAZ) (d3 : Int) (d4 : yT) (d5 : Int) (d6 : Bool) (d7 : Int) (d8 : Int) (d9 : Int) (d10 : zBa) (d11 : Int) (d12 : Int) (d13 : Int) (d14 : Int) (o1 : D26_30) : zQ.L1 N (n1 + 1) d0 d1 d2 d3 d4 d5 d6 d7 d8 d9 d10 d11 d12 d13 d14 o1 =
bif decide ((d10.length : Int) > 0) then
bif zG 0 (d10.length) then
bif ((nth (0, (0, false)) d10 0).2).2 then
bindO (zAr.F N ((((d0, d1), (d2, (d3, (d4, (d5, d6))))), ((d7, (d8, d9)), (d10, (d11, (d12, (d13, d14)))))), (((nth (0, (0, false)) d10 0).1, ((nth (0, (0, false)) d10 0).2)), maxI d12 ((nth (0, (0, false)) d10 0).1)))) fun r1 =>
bif !r1.2.2.1 then
some (o1, r1.2.2.2)
else
zQ.L2 N n1 N r1.2.1 r1.1 0 r1.2.2.2.1.1.1 r1.2.2.2.1.1.2 r1.2.2.2.1.2.1 r1.2.2.2.1.2.2.1 r1.2.2.2.1.2.2.2.1 r1.2.2.2.1.2.2.2.2.1 r1.2.2.2.1.2.2.2.2.2 r1.2.2.2.2.1.1 r1.2.2.2.2.1.2.1 r1.2.2.2.2.1.2.2 r1.2.2.2.2.2.1 r1.2.2.2.2.2.2.1 r1.2.2.2.2.2.2.2.1 r1.2.2.2.2.2.2.2.2.1 r1.2.2.2.2.2.2.2.2.2 o1
else
bindO (zAs.F N (((d0, d1), (d2, (d3, (d4, (d5, d6))))), ((nth (0, (0, false)) d10 0).2).1)) fun r2 =>
bif d13 == (IntKind.wrap .i64 ((((nth (0, (0, false)) d10 0).2).1) + 1)) then
zQ.L2 N n1 N (maxI d12 ((nth (0, (0, false)) d10 0).1)) r2.2.1 0 r2.1.1.1 r2.1.1.2 r2.1.2.1 r2.1.2.2.1 r2.1.2.2.2.1 r2.1.2.2.2.2.1 r2.1.2.2.2.2.2 d7 d8 d9 d10 d11 d12 d13 ((nth (0, (0, false)) d10 0).1) o1
else
zQ.L2 N n1 N (maxI d12 ((nth (0, (0, false)) d10 0).1)) r2.2.1 0 r2.1.1.1 r2.1.1.2 r2.1.2.1 r2.1.2.2.1 r2.1.2.2.2.1 r2.1.2.2.2.2.1 r2.1.2.2.2.2.2 d7 d8 d9 d10 d11 d12 d13 d14 o1
else none
else
some (o1, (((d0, d1), (d2, (d3, (d4, (d5, d6))))), ((d7, (d8, d9)), (d10, (d11, (d12, (d13, d14))))))) := by kernel_rfl
theorem zQ.L2_eq (N : Nat) (n1 : Nat) (n2 : Nat) (w : Int) (reports : zBp) (i : Int) (d0 : Int) (d1 : List yZ) (d2 : List zAZ) (d3 : Int) (d4 : yT) (d5 : Int) (d6 : Bool) (d7 : Int) (d8 : Int) (d9 : Int) (d10 : zBa) (d11 : Int) (d12 : Int) (d13 : Int) (d14 : Int) (o1 : D26_30) : zQ.L2 N n1 (n2 + 1) w reports i d0 d1 d2 d3 d4 d5 d6 d7 d8 d9 d10 d11 d12 d13 d14 o1 =
bif decide (i < (reports.length : Int)) then
bif zG i (reports.length) then
bif decide (o1.length + List.length ([(w, (nth (0, ([] : List Int)) reports i))] : List (Int × Int × List Int)) <= maxN) then
zQ.L2 N n1 n2 w reports (IntKind.wrap .i64 (i + 1)) d0 d1 d2 d3 d4 d5 d6 d7 d8 d9 d10 d11 d12 d13 d14 (o1 ++ ([(w, (nth (0, ([] : List Int)) reports i))] : List (Int × Int × List Int)))
else none
else none
else
bif decide (0 <= (1 : Int)) && decide (1 <= (d10.length : Int)) then
bif decide (List.length ([] : List (Int × Int × Bool)) + List.length (List.drop 1 d10) <= maxN) then
zQ.L1 N n1 d0 d1 d2 d3 d4 d5 d6 d7 d8 d9 (([] : List (Int × Int × Bool)) ++ (List.drop 1 d10)) d11 w d13 d14 o1
else none
else none := by kernel_rfl
theorem zQ.F_eq (N : Nat) (d : zBb × (Int × Int × Int) × zBa × Int × Int × Int × Int) : zQ.F N d =
zQ.L1 N N d.1.1.1 d.1.1.2 d.1.2.1 d.1.2.2.1 d.1.2.2.2.1 d.1.2.2.2.2.1 d.1.2.2.2.2.2 d.2.1.1 d.2.1.2.1 d.2.1.2.2 d.2.2.1 d.2.2.2.1 d.2.2.2.2.1 d.2.2.2.2.2.1 d.2.2.2.2.2.2 ([] : List (Int × Int × List Int)) := by kernel_rfl
def zAB.x : XFunc := xF 79 6 [.val true 15, .val false 1, .val false 1] (no 17) [.var 6 true 15, .tmp 7 false 1, .tmp 8 false 1] (iF 17) false (.pair (.pair T2_30 T9_30) T14_30) (.pair (.pair T2_30 T9_30) (.pair (.list T12_30) (.bool))) <| .seq (rG [ow 3 (.box 0) [.slot 0] [0] [0], ow 6 (.alloc 1 [cZ, .nil, .nil, cZ, .nil, cZ, .bool false, cZ, cZ, cZ, .nil, cZ, cZ, cZ, cZ]) [] [1] [1], op 7 .move [.const (.one (.nil))], op 8 .move [cB false]]) (.seq (rG [ow 12 (.buildSlice false 2 4 zCQ 0 [] [cZ, cZ, .bool false]) [] [2] [2], fA 13 10 3, lN 14 13 0, ow 15 (.append false 2 4 zCQ) (sl [12, 14]) [2] [2], mv 16 1, ow 17 (.append false 2 4 zCQ) (sl [15, 16]) [2] [2], mv 9 17]) (.seq (.seq (.region true [lU 18 15 3 0, o1 19 (cO 298 [.val true 15] 15 true) 18, o1 20 .not 19, sX 21 [.slot 20], gM 22 2 21 false, gF 23 11 3 21 false, gL 24 23 0 21 false, ⟨some 25, cO 1 (vs 3) 3 true, [.slot 22, .slot 24, cI 1000000], [], [], some (21, false), false, .none⟩, gX 26 .not [.slot 25] [] [] 21 false, op 27 .pick [.slot 21, cB true, .slot 26], sX 28 [.slot 27], gM 29 9 28 false, gF 30 0 3 28 false, gX 31 (.load true 7) [.slot 30] [0] [] 28 false, ⟨some 32, cO 297 [.val true 7] 7 true, [.slot 31], [], [], some (28, false), false, .none⟩, gF 33 0 3 28 false, gF 34 0 33 28 false, gF 35 0 34 28 false, gL 36 35 0 28 false, ⟨some 37, cO 41 (vs 4) 4 true, [.slot 29, .slot 32, .slot 36, cI 0], [2], [], some (28, false), false, .none⟩, gX 38 .not [.slot 37] [] [] 28 false, op 39 .pick [.slot 28, cB true, .slot 38]]) (.cond (.slot 39) (.seq (rG [op 40 (.build [cZ, .nil, .nil, cZ, .nil, cZ, .bool false, cZ, cZ, cZ, .nil, cZ, cZ, cZ, cZ] []) [], ow 41 (.buildSlice false 3 13 T12_30 0 [] [cZ, cZ, .nil]) [] [3] [3], sT 15 6 40 1, mv 7 41, op 8 .move [cB false]]) (.ret)) (.skip))) (.seq (.seq (.region true [mv 42 1, o1 43 .len 42, op 44 (.bin .gtr) [.slot 43, cI 0], sX 45 [.slot 44], gM 46 1 45 true, gX 47 (.indexAddr zCQ) [.slot 46, cI 0] [] [] 45 true, gF 48 0 47 45 true, gX 49 (.load false 1) [.slot 48] [] [] 45 true, gF 50 11 3 45 true, gL 51 50 0 45 true, gX 52 (.bin .lss) (sl [49, 51]) [] [] 45 true, ⟨some 53, .move, [.slot 52], [], [], some (45, true), true, .none⟩, gM 54 1 53 false, gM 55 1 53 false, gX 56 .len [.slot 55] [] [] 53 false, gX 57 (.bin .sub) [.slot 56, cI 1] [] [] 53 false, gX 58 (.indexAddr zCQ) (sl [54, 57]) [] [] 53 false, gF 59 0 58 53 false, gX 60 (.load false 1) [.slot 59] [] [] 53 false, gM 61 2 53 false, gX 62 (.bin .gtr) (sl [60, 61]) [] [] 53 false, gX 63 .pick [.slot 53, cB true, .slot 62] [] [] 45 true, op 64 .pick [.slot 45, .slot 63, cB false]]) (.cond (.slot 64) (.seq (rG [op 65 (.build [cZ, .nil, .nil, cZ, .nil, cZ, .bool false, cZ, cZ, cZ, .nil, cZ, cZ, cZ, cZ] []) [], ow 66 (.buildSlice false 4 13 T12_30 0 [] [cZ, cZ, .nil]) [] [4] [4], sT 15 6 65 1, mv 7 66, op 8 .move [cB false]]) (.ret)) (.skip))) (.seq (rG [lU 67 15 3 0, ow 10 (.alloc 5 [cZ, .nil, .nil, cZ, .nil, cZ, .bool false, cZ, cZ, cZ, .nil, cZ, cZ, cZ, cZ]) [] [5] [5], sT 15 10 67 5]) (.seq (rG [fA 68 0 3, lU 69 7 68 0, o1 70 (.call ⟨293, [.val true 7], no 7, [.val true 7], ims 7, true⟩) 69, fA 71 0 10, sT 7 71 70 5]) (.seq (rG [mv 72 9, fA 73 10 10, sT 1 73 72 5]) (.seq (rG [mv 74 2, fA 75 11 10, sT 1 75 74 5]) (.seq (.adj [.freeze 2] (rG [ow 76 (.call ⟨319, [.box 5 15], no 15, [.val false 1], ims 16, false⟩) [.slot 10] [5] [5], mv 11 76])) (.seq (rG [lU 77 15 10 5, mv 78 11, sT 15 6 77 1, mv 7 78, op 8 .move [cB true]]) (.ret))))))))))
def zAB.env (N : Nat) : Env := envOf (tbl [(298, zAT.fs N), (41, zU.fs N), (297, yJ.fs N), (319, zQ.fs N), (1, zR.fs N), (293, yI.fs N)] noFS)
def zAB.F (N : Nat) (x : D19_30 × zBa × Int) : Option (D19_30 × D26_30 × Bool) := XFunc.run zAB.x (zAB.env N) N x
def zAB.fs (N : Nat) : FS := fS zAB.x false (zAB.F N)
theorem zAB.F_eq (N : Nat) (d : zBb × (Int × Int × Int) × zBa × Int × Int × Int × Int) (l_ : zBa) (end_ : Int) : zAB.F N (d, l_, end_) =
bif decide (List.length ([] : List (Int × Int × Bool)) + List.length d.2.2.1 <= maxN) then
bif decide (List.length (([] : List (Int × Int × Bool)) ++ d.2.2.1) + l_.length <= maxN) then
bindO (zAT.F N d) fun r1 =>
bif !r1 then
some ((((0, ([] : List yZ)), (([] : List zAZ), (0, (([] : List (Int × Int × Int × Int × Int)), (0, false))))), ((0, (0, 0)), (([] : List (Int × Int × Bool)), (0, (0, (0, 0)))))), (([] : List (Int × Int × List Int)), false))
else
bindO (zR.F N (end_, (d.2.2.2.1, 1000000))) fun r2 =>
bif !r2 then
some ((((0, ([] : List yZ)), (([] : List zAZ), (0, (([] : List (Int × Int × Int × Int × Int)), (0, false))))), ((0, (0, 0)), (([] : List (Int × Int × Bool)), (0, (0, (0, 0)))))), (([] : List (Int × Int × List Int)), false))
else
bindO (yJ.F N d.1) fun r3 =>
bindO (zU.F N ((([] : List (Int × Int × Bool)) ++ d.2.2.1) ++ l_, (r3, (d.1.1.1, 0)))) fun r4 =>
bif !r4 then
some ((((0, ([] : List yZ)), (([] : List zAZ), (0, (([] : List (Int × Int × Int × Int × Int)), (0, false))))), ((0, (0, 0)), (([] : List (Int × Int × Bool)), (0, (0, (0, 0)))))), (([] : List (Int × Int × List Int)), false))
else
bif decide ((l_.length : Int) > 0) then
bif zG 0 (l_.length) then
bif decide (((nth (0, (0, false)) l_ 0).1) < d.2.2.2.1) then
some ((((0, ([] : List yZ)), (([] : List zAZ), (0, (([] : List (Int × Int × Int × Int × Int)), (0, false))))), ((0, (0, 0)), (([] : List (Int × Int × Bool)), (0, (0, (0, 0)))))), (([] : List (Int × Int × List Int)), false))
else
bif zG (IntKind.wrap .i64 ((l_.length : Int) - 1)) (l_.length) then
bif decide (((nth (0, (0, false)) l_ (IntKind.wrap .i64 ((l_.length : Int) - 1))).1) > end_) then
some ((((0, ([] : List yZ)), (([] : List zAZ), (0, (([] : List (Int × Int × Int × Int × Int)), (0, false))))), ((0, (0, 0)), (([] : List (Int × Int × Bool)), (0, (0, (0, 0)))))), (([] : List (Int × Int × List Int)), false))
else
bindO (yI.F N d.1) fun r5 =>
bindO (zQ.F N (r5, (d.2.1, ((([] : List (Int × Int × Bool)) ++ d.2.2.1) ++ l_, (end_, d.2.2.2.2))))) fun r6 =>
some (r6.2, (r6.1, true))
else none
else none
else
bindO (yI.F N d.1) fun r7 =>
bindO (zQ.F N (r7, (d.2.1, ((([] : List (Int × Int × Bool)) ++ d.2.2.1) ++ l_, (end_, d.2.2.2.2))))) fun r8 =>
some (r8.2, (r8.1, true))
else none
else none := by kernel_rfl
def yn.x : XFunc := xF 9 0 [.val false 1] [none] [.tmp 2 false 1] [.imm] true (.int .i64) .bool <| .seq (rG [op 2 .move [cB false]]) (.seq (rG [mv 3 0, op 4 (.bin .geq) [.slot 3, cI 1], sX 5 [.slot 4], gM 6 0 5 true, gX 7 (.bin .leq) [.slot 6, cI 15] [] [] 5 true, op 8 .pick [.slot 5, .slot 7, cB false], mv 2 8]) (.ret))
def yn.env (_ : Nat) : Env := envOf (tbl [] noFS)
def yn.F (N : Nat) (x : Int) : Option Bool := XFunc.run yn.x (yn.env N) N x
def yn.fs (N : Nat) : FS := fS yn.x true (yn.F N)
theorem yn.F_eq (N : Nat) (n_ : Int) : yn.F N n_ =
bif decide (n_ >= 1) then
some (decide (n_ <= 15))
else
some false := by kernel_rfl
def yu.x : XFunc := xF 9 0 [.val false 1] [none] [.tmp 2 false 1] [.imm] true (.int .i64) .bool <| .seq (rG [op 2 .move [cB false]]) (.seq (rG [mv 3 0, op 4 (.bin .geq) [.slot 3, cI 1], sX 5 [.slot 4], gM 6 0 5 true, gX 7 (.bin .leq) [.slot 6, cI 3] [] [] 5 true, op 8 .pick [.slot 5, .slot 7, cB false], mv 2 8]) (.ret))
def yu.env (_ : Nat) : Env := envOf (tbl [] noFS)
def yu.F (N : Nat) (x : Int) : Option Bool := XFunc.run yu.x (yu.env N) N x
def yu.fs (N : Nat) : FS := fS yu.x true (yu.F N)
theorem yu.F_eq (N : Nat) (n_ : Int) : yu.F N n_ =
bif decide (n_ >= 1) then
some (decide (n_ <= 3))
else
some false := by kernel_rfl
def yg.x : XFunc := xF 158 1 [.val true 4] (no 4) [.tmp 2 false 1] [.imm] true (.pair (.int .i64) zBB) .bool <| .seq (rG [ow 1 (.box 0) [.slot 0] [0] [0], op 2 .move [cB false]]) (.seq (.seq (rG [fA 3 0 1, lN 4 3 0]) (.block 0 (.seq (.seq (rG [op 6 (.bin .eql) [.slot 4, cI 0], mv 5 6]) (.cond (.slot 5) (.skip) (.seq (rG [op 7 (.bin .eql) [.slot 4, cI 1], mv 5 7]) (.cond (.slot 5) (.skip) (rG [op 8 (.bin .eql) [.slot 4, cI 10], mv 5 8]))))) (.cond (.slot 5) (.seq (rG [fA 9 1 1, lN 10 9 0, op 11 (.bin .eql) [.slot 10, cI 0], sX 12 [.slot 11], gF 13 2 1 12 true, gL 14 13 0 12 true, gX 15 (.bin .eql) [.slot 14, cI 0] [] [] 12 true, op 16 .pick [.slot 12, .slot 15, cB false], sX 17 [.slot 16], gF 18 3 1 17 true, gL 19 18 0 17 true, gX 20 (.bin .eql) [.slot 19, cI 0] [] [] 17 true, op 21 .pick [.slot 17, .slot 20, cB false], mv 2 21]) (.ret)) (.seq (rG [op 23 (.bin .eql) [.slot 4, cI 2], mv 22 23]) (.cond (.slot 22) (.seq (rG [fA 24 3 1, lN 25 24 0, op 26 (.bin .eql) [.slot 25, cI 0], sX 27 [.slot 26], gF 28 1 1 27 true, gL 29 28 0 27 true, gX 30 (.bin .eql) [.slot 29, cI 0] [] [] 27 true, ⟨some 31, .move, [.slot 30], [], [], some (27, true), true, .none⟩, gF 32 1 1 31 false, gL 33 32 0 31 false, ⟨some 34, cO 153 (vs 1) 1 true, [.slot 33], [], [], some (31, false), false, .none⟩, gX 35 .pick [.slot 31, cB true, .slot 34] [] [] 27 true, op 36 .pick [.slot 27, .slot 35, cB false], sX 37 [.slot 36], gF 38 2 1 37 true, gL 39 38 0 37 true, gX 40 (.bin .eql) [.slot 39, cI 0] [] [] 37 true, ⟨some 41, .move, [.slot 40], [], [], some (37, true), true, .none⟩, gF 42 2 1 41 false, gL 43 42 0 41 false, ⟨some 44, cO 154 (vs 1) 1 true, [.slot 43], [], [], some (41, false), false, .none⟩, gX 45 .pick [.slot 41, cB true, .slot 44] [] [] 37 true, op 46 .pick [.slot 37, .slot 45, cB false], sX 47 [.slot 46], gF 48 1 1 47 true, gL 49 48 0 47 true, gX 50 (.bin .neq) [.slot 49, cI 0] [] [] 47 true, ⟨some 51, .move, [.slot 50], [], [], some (47, true), true, .none⟩, gF 52 2 1 51 false, gL 53 52 0 51 false, gX 54 (.bin .neq) [.slot 53, cI 0] [] [] 51 false, gX 55 .pick [.slot 51, cB true, .slot 54] [] [] 47 true, op 56 .pick [.slot 47, .slot 55, cB false], mv 2 56]) (.ret)) (.seq (.seq (rG [op 58 (.bin .eql) [.slot 4, cI 3], mv 57 58]) (.cond (.slot 57) (.skip) (rG [op 59 (.bin .eql) [.slot 4, cI 4], mv 57 59]))) (.cond (.slot 57) (.seq (rG [fA 60 1 1, lN 61 60 0, op 62 (.bin .eql) [.slot 61, cI 0], sX 63 [.slot 62], gF 64 2 1 63 true, gL 65 64 0 63 true, gX 66 (.bin .eql) [.slot 65, cI 0] [] [] 63 true, op 67 .pick [.slot 63, .slot 66, cB false], sX 68 [.slot 67], gF 69 3 1 68 true, gL 70 69 0 68 true, ⟨some 71, cO 155 (vs 1) 1 true, [.slot 70], [], [], some (68, true), false, .none⟩, op 72 .pick [.slot 68, .slot 71, cB false], mv 2 72]) (.ret)) (.seq (rG [op 74 (.bin .eql) [.slot 4, cI 5], mv 73 74]) (.cond (.slot 73) (.seq (rG [fA 75 1 1, lN 76 75 0, op 77 (.bin .eql) [.slot 76, cI 0], sX 78 [.slot 77], gF 79 2 1 78 true, gL 80 79 0 78 true, gX 81 (.bin .eql) [.slot 80, cI 0] [] [] 78 true, op 82 .pick [.slot 78, .slot 81, cB false], sX 83 [.slot 82], gF 84 3 1 83 true, gL 85 84 0 83 true, gX 86 (.bin .geq) [.slot 85, cI 0] [] [] 83 true, op 87 .pick [.slot 83, .slot 86, cB false], sX 88 [.slot 87], gF 89 3 1 88 true, gL 90 89 0 88 true, gX 91 (.bin .leq) [.slot 90, cI 3] [] [] 88 true, op 92 .pick [.slot 88, .slot 91, cB false], mv 2 92]) (.ret)) (.seq (rG [op 94 (.bin .eql) [.slot 4, cI 9], mv 93 94]) (.cond (.slot 93) (.seq (rG [fA 95 1 1, lN 96 95 0, op 97 (.bin .eql) [.slot 96, cI 0], sX 98 [.slot 97], gF 99 2 1 98 true, gL 100 99 0 98 true, gX 101 (.bin .eql) [.slot 100, cI 0] [] [] 98 true, op 102 .pick [.slot 98, .slot 101, cB false], sX 103 [.slot 102], gF 104 3 1 103 true, gL 105 104 0 103 true, gX 106 (.bin .geq) [.slot 105, cI 0] [] [] 103 true, op 107 .pick [.slot 103, .slot 106, cB false], sX 108 [.slot 107], gF 109 3 1 108 true, gL 110 109 0 108 true, gX 111 (.bin .leq) [.slot 110, cI 3] [] [] 108 true, op 112 .pick [.slot 108, .slot 111, cB false], mv 2 112]) (.ret)) (.seq (rG [op 114 (.bin .eql) [.slot 4, cI 6], mv 113 114]) (.cond (.slot 113) (.seq (rG [fA 115 1 1, lN 116 115 0, o1 117 (cO 153 (vs 1) 1 true) 116, sX 118 [.slot 117], gF 119 2 1 118 true, gL 120 119 0 118 true, ⟨some 121, cO 154 (vs 1) 1 true, [.slot 120], [], [], some (118, true), false, .none⟩, op 122 .pick [.slot 118, .slot 121, cB false], sX 123 [.slot 122], gF 124 3 1 123 true, gL 125 124 0 123 true, gX 126 (.bin .eql) [.slot 125, cI 0] [] [] 123 true, op 127 .pick [.slot 123, .slot 126, cB false], mv 2 127]) (.ret)) (.seq (rG [op 129 (.bin .eql) [.slot 4, cI 7], mv 128 129]) (.cond (.slot 128) (.seq (rG [fA 130 1 1, lN 131 130 0, o1 132 (cO 153 (vs 1) 1 true) 131, sX 133 [.slot 132], gF 134 2 1 133 true, gL 135 134 0 133 true, gX 136 (.bin .eql) [.slot 135, cI 0] [] [] 133 true, op 137 .pick [.slot 133, .slot 136, cB false], sX 138 [.slot 137], gF 139 3 1 138 true, gL 140 139 0 138 true, ⟨some 141, cO 155 (vs 1) 1 true, [.slot 140], [], [], some (138, true), false, .none⟩, op 142 .pick [.slot 138, .slot 141, cB false], mv 2 142]) (.ret)) (.seq (rG [op 144 (.bin .eql) [.slot 4, cI 8], mv 143 144]) (.cond (.slot 143) (.seq (rG [fA 145 1 1, lN 146 145 0, op 147 (.bin .eql) [.slot 146, cI 0], sX 148 [.slot 147], gF 149 2 1 148 true, gL 150 149 0 148 true, ⟨some 151, cO 154 (vs 1) 1 true, [.slot 150], [], [], some (148, true), false, .none⟩, op 152 .pick [.slot 148, .slot 151, cB false], sX 153 [.slot 152], gF 154 3 1 153 true, gL 155 154 0 153 true, gX 156 (.bin .eql) [.slot 155, cI 0] [] [] 153 true, op 157 .pick [.slot 153, .slot 156, cB false], mv 2 157]) (.ret)) (.skip))))))))))))))))))) (.seq (rG [op 2 .move [cB false]]) (.ret)))
def yg.env (N : Nat) : Env := envOf (tbl [(153, yx.fs N), (154, yn.fs N), (155, yu.fs N)] noFS)
def yg.F (N : Nat) (x : Int × Int × Int × Int) : Option Bool := XFunc.run yg.x (yg.env N) N x
def yg.fs (N : Nat) : FS := fS yg.x true (yg.F N)
theorem yg.F_eq (N : Nat) (a : Int × Int × Int × Int) : yg.F N a =
bif a.1 == 0 then
bif a.1 == 0 then
bif a.2.1 == 0 then
bif a.2.2.1 == 0 then
some (a.2.2.2 == 0)
else
some false
else
some false
else
bif a.1 == 2 then
bif a.2.2.2 == 0 then
bif a.2.1 == 0 then
bif a.2.2.1 == 0 then
bif a.2.1 != 0 then
some true
else
some (a.2.2.1 != 0)
else
bindO (yn.F N a.2.2.1) fun r1 =>
bif r1 then
bif a.2.1 != 0 then
some true
else
some (a.2.2.1 != 0)
else
some false
else
bindO (yx.F N a.2.1) fun r2 =>
bif r2 then
bif a.2.2.1 == 0 then
bif a.2.1 != 0 then
some true
else
some (a.2.2.1 != 0)
else
bindO (yn.F N a.2.2.1) fun r3 =>
bif r3 then
bif a.2.1 != 0 then
some true
else
some (a.2.2.1 != 0)
else
some false
else
some false
else
some false
else
bif a.1 == 3 then
bif a.1 == 3 then
bif a.2.1 == 0 then
bif a.2.2.1 == 0 then
bindO (yu.F N a.2.2.2) fun r4 =>
some r4
else
some false
else
some false
else
bif a.1 == 5 then
bif a.2.1 == 0 then
bif a.2.2.1 == 0 then
bif decide (a.2.2.2 >= 0) then
some (decide (a.2.2.2 <= 3))
else
some false
else
some false
else
some false
else
bif a.1 == 9 then
bif a.2.1 == 0 then
bif a.2.2.1 == 0 then
bif decide (a.2.2.2 >= 0) then
some (decide (a.2.2.2 <= 3))
else
some false
else
some false
else
some false
else
bif a.1 == 6 then
bindO (yx.F N a.2.1) fun r5 =>
bif r5 then
bindO (yn.F N a.2.2.1) fun r6 =>
bif r6 then
some (a.2.2.2 == 0)
else
some false
else
some false
else
bif a.1 == 7 then
bindO (yx.F N a.2.1) fun r7 =>
bif r7 then
bif a.2.2.1 == 0 then
bindO (yu.F N a.2.2.2) fun r8 =>
some r8
else
some false
else
some false
else
bif a.1 == 8 then
bif a.2.1 == 0 then
bindO (yn.F N a.2.2.1) fun r9 =>
bif r9 then
some (a.2.2.2 == 0)
else
some false
else
some false
else
some false
else
bif a.1 == 4 then
bif a.2.1 == 0 then
bif a.2.2.1 == 0 then
bindO (yu.F N a.2.2.2) fun r10 =>
some r10
else
some false
else
some false
else
bif a.1 == 5 then
bif a.2.1 == 0 then
bif a.2.2.1 == 0 then
bif decide (a.2.2.2 >= 0) then
some (decide (a.2.2.2 <= 3))
else
some false
else
some false
else
some false
else
bif a.1 == 9 then
bif a.2.1 == 0 then
bif a.2.2.1 == 0 then
bif decide (a.2.2.2 >= 0) then
some (decide (a.2.2.2 <= 3))
else
some false
else
some false
else
some false
else
bif a.1 == 6 then
bindO (yx.F N a.2.1) fun r11 =>
bif r11 then
bindO (yn.F N a.2.2.1) fun r12 =>
bif r12 then
some (a.2.2.2 == 0)
else
some false
else
some false
else
bif a.1 == 7 then
bindO (yx.F N a.2.1) fun r13 =>
bif r13 then
bif a.2.2.1 == 0 then
bindO (yu.F N a.2.2.2) fun r14 =>
some r14
else
some false
else
some false
else
bif a.1 == 8 then
bif a.2.1 == 0 then
bindO (yn.F N a.2.2.1) fun r15 =>
bif r15 then
some (a.2.2.2 == 0)
else
some false
else
some false
else
some false
else
bif a.1 == 1 then
bif a.1 == 1 then
bif a.2.1 == 0 then
bif a.2.2.1 == 0 then
some (a.2.2.2 == 0)
else
some false
else
some false
else
bif a.1 == 2 then
bif a.2.2.2 == 0 then
bif a.2.1 == 0 then
bif a.2.2.1 == 0 then
bif a.2.1 != 0 then
some true
else
some (a.2.2.1 != 0)
else
bindO (yn.F N a.2.2.1) fun r16 =>
bif r16 then
bif a.2.1 != 0 then
some true
else
some (a.2.2.1 != 0)
else
some false
else
bindO (yx.F N a.2.1) fun r17 =>
bif r17 then
bif a.2.2.1 == 0 then
bif a.2.1 != 0 then
some true
else
some (a.2.2.1 != 0)
else
bindO (yn.F N a.2.2.1) fun r18 =>
bif r18 then
bif a.2.1 != 0 then
some true
else
some (a.2.2.1 != 0)
else
some false
else
some false
else
some false
else
bif a.1 == 3 then
bif a.1 == 3 then
bif a.2.1 == 0 then
bif a.2.2.1 == 0 then
bindO (yu.F N a.2.2.2) fun r19 =>
some r19
else
some false
else
some false
else
bif a.1 == 5 then
bif a.2.1 == 0 then
bif a.2.2.1 == 0 then
bif decide (a.2.2.2 >= 0) then
some (decide (a.2.2.2 <= 3))
else
some false
else
some false
else
some false
else
bif a.1 == 9 then
bif a.2.1 == 0 then
bif a.2.2.1 == 0 then
bif decide (a.2.2.2 >= 0) then
some (decide (a.2.2.2 <= 3))
else
some false
else
some false
else
some false
else
bif a.1 == 6 then
bindO (yx.F N a.2.1) fun r20 =>
bif r20 then
bindO (yn.F N a.2.2.1) fun r21 =>
bif r21 then
some (a.2.2.2 == 0)
else
some false
else
some false
else
bif a.1 == 7 then
bindO (yx.F N a.2.1) fun r22 =>
bif r22 then
bif a.2.2.1 == 0 then
bindO (yu.F N a.2.2.2) fun r23 =>
some r23
else
some false
else
some false
else
bif a.1 == 8 then
bif a.2.1 == 0 then
bindO (yn.F N a.2.2.1) fun r24 =>
bif r24 then
some (a.2.2.2 == 0)
else
some false
else
some false
else
some false
else
bif a.1 == 4 then
bif a.2.1 == 0 then
bif a.2.2.1 == 0 then
bindO (yu.F N a.2.2.2) fun r25 =>
some r25
else
some false
else
some false
else
bif a.1 == 5 then
bif a.2.1 == 0 then
bif a.2.2.1 == 0 then
bif decide (a.2.2.2 >= 0) then
some (decide (a.2.2.2 <= 3))
else
some false
else
some false
else
some false
else
bif a.1 == 9 then
bif a.2.1 == 0 then
bif a.2.2.1 == 0 then
bif decide (a.2.2.2 >= 0) then
some (decide (a.2.2.2 <= 3))
else
some false
else
some false
else
some false
else
bif a.1 == 6 then
bindO (yx.F N a.2.1) fun r26 =>
bif r26 then
bindO (yn.F N a.2.2.1) fun r27 =>
bif r27 then
some (a.2.2.2 == 0)
else
some false
else
some false
else
bif a.1 == 7 then
bindO (yx.F N a.2.1) fun r28 =>
bif r28 then
bif a.2.2.1 == 0 then
bindO (yu.F N a.2.2.2) fun r29 =>
some r29
else
some false
else
some false
else
bif a.1 == 8 then
bif a.2.1 == 0 then
bindO (yn.F N a.2.2.1) fun r30 =>
bif r30 then
some (a.2.2.2 == 0)
else
some false
else
some false
else
some false
else
bif a.1 == 10 then
bif a.2.1 == 0 then
bif a.2.2.1 == 0 then
some (a.2.2.2 == 0)
else
some false
else
some false
else
bif a.1 == 2 then
bif a.2.2.2 == 0 then
bif a.2.1 == 0 then
bif a.2.2.1 == 0 then
bif a.2.1 != 0 then
some true
else
some (a.2.2.1 != 0)
else
bindO (yn.F N a.2.2.1) fun r31 =>
bif r31 then
bif a.2.1 != 0 then
some true
else
some (a.2.2.1 != 0)
else
some false
else
bindO (yx.F N a.2.1) fun r32 =>
bif r32 then
bif a.2.2.1 == 0 then
bif a.2.1 != 0 then
some true
else
some (a.2.2.1 != 0)
else
bindO (yn.F N a.2.2.1) fun r33 =>
bif r33 then
bif a.2.1 != 0 then
some true
else
some (a.2.2.1 != 0)
else
some false
else
some false
else
some false
else
bif a.1 == 3 then
bif a.1 == 3 then
bif a.2.1 == 0 then
bif a.2.2.1 == 0 then
bindO (yu.F N a.2.2.2) fun r34 =>
some r34
else
some false
else
some false
else
bif a.1 == 5 then
bif a.2.1 == 0 then
bif a.2.2.1 == 0 then
bif decide (a.2.2.2 >= 0) then
some (decide (a.2.2.2 <= 3))
else
some false
else
some false
else
some false
else
bif a.1 == 9 then
bif a.2.1 == 0 then
bif a.2.2.1 == 0 then
bif decide (a.2.2.2 >= 0) then
some (decide (a.2.2.2 <= 3))
else
some false
else
some false
else
some false
else
bif a.1 == 6 then
bindO (yx.F N a.2.1) fun r35 =>
bif r35 then
bindO (yn.F N a.2.2.1) fun r36 =>
bif r36 then
some (a.2.2.2 == 0)
else
some false
else
some false
else
bif a.1 == 7 then
bindO (yx.F N a.2.1) fun r37 =>
bif r37 then
bif a.2.2.1 == 0 then
bindO (yu.F N a.2.2.2) fun r38 =>
some r38
else
some false
else
some false
else
bif a.1 == 8 then
bif a.2.1 == 0 then
bindO (yn.F N a.2.2.1) fun r39 =>
bif r39 then
some (a.2.2.2 == 0)
else
some false
else
some false
else
some false
else
bif a.1 == 4 then
bif a.2.1 == 0 then
bif a.2.2.1 == 0 then
bindO (yu.F N a.2.2.2) fun r40 =>
some r40
else
some false
else
some false
else
bif a.1 == 5 then
bif a.2.1 == 0 then
bif a.2.2.1 == 0 then
bif decide (a.2.2.2 >= 0) then
some (decide (a.2.2.2 <= 3))
else
some false
else
some false
else
some false
else
bif a.1 == 9 then
bif a.2.1 == 0 then
bif a.2.2.1 == 0 then
bif decide (a.2.2.2 >= 0) then
some (decide (a.2.2.2 <= 3))
else
some false
else
some false
else
some false
else
bif a.1 == 6 then
bindO (yx.F N a.2.1) fun r41 =>
bif r41 then
bindO (yn.F N a.2.2.1) fun r42 =>
bif r42 then
some (a.2.2.2 == 0)
else
some false
else
some false
else
bif a.1 == 7 then
bindO (yx.F N a.2.1) fun r43 =>
bif r43 then
bif a.2.2.1 == 0 then
bindO (yu.F N a.2.2.2) fun r44 =>
some r44
else
some false
else
some false
else
bif a.1 == 8 then
bif a.2.1 == 0 then
bindO (yn.F N a.2.2.1) fun r45 =>
bif r45 then
some (a.2.2.2 == 0)
else
some false
else
some false
else
some false := by kernel_rfl
def zF.c1 : XCode := .seq (rG [o2 43 (.bin .lss) 42 41]) (.seq (cX 43 2) (.seq (.block 3 (.seq (rG [o2 44 (.indexAddr zBA) 40 42, o1 45 (.load true 4) 44, ow 6 (.alloc 1 [cZ, cZ, cZ, cZ]) [] [1] [1], sT 4 6 45 1]) (.seq (rG [lU 46 4 6 1, o1 47 (cO 156 [.val true 4] 4 true) 46, o1 48 .not 47, sX 49 [.slot 48], gM 50 3 49 false, gX 51 (.bin .eql) [.slot 50, cI 0] [] [] 49 false, ⟨some 52, .move, [.slot 51], [], [], some (49, false), true, .none⟩, gF 53 0 6 52 true, gL 54 53 1 52 true, gX 55 (.bin .eql) [.slot 54, cI 1] [] [] 52 true, gX 56 .pick [.slot 52, .slot 55, cB false] [] [] 49 false, op 57 .pick [.slot 49, cB true, .slot 56], sX 58 [.slot 57], gF 59 0 6 58 false, gL 60 59 1 58 false, gX 61 (.bin .neq) [.slot 60, cI 9] [] [] 58 false, ⟨some 62, .move, [.slot 61], [], [], some (58, false), true, .none⟩, gF 63 3 6 62 true, gL 64 63 1 62 true, gF 65 1 1 62 true, gL 66 65 0 62 true, gX 67 .len [.slot 66] [] [] 62 true, gX 68 (.bin .geq) (sl [64, 67]) [] [] 62 true, gX 69 .pick [.slot 62, .slot 68, cB false] [] [] 58 false, op 70 .pick [.slot 58, cB true, .slot 69]]) (rI 70 2 false)))) (rG [op 71 (.bin .add) [.slot 42, cI 1], mv 42 71])))
def zF.c2 : XCode := rG [op 72 (.bin .add) [.slot 30, cI 1], mv 30 72]
def zF.c3 : XCode := .seq (rG [o2 31 (.bin .lss) 30 29]) (.seq (cX 31 0) (.seq (.block 1 (.seq (rG [mv 32 30, o2 33 (.indexAddr (.list zBA)) 28 30, o1 34 (.load false 1) 33, mv 3 32, mv 4 34]) (.seq (.seq (rG [mv 35 4, o1 36 .len 35, fA 37 0 1, lN 38 37 0, o2 39 (.bin .neq) 36 38]) (rI 39 2 false)) (.seq (rG [mv 40 4, o1 41 .len 40, op 42 .move [cI 0]]) (.block 2 (.loop [.keep [1, 3, 28, 29, 30, 40, 41, 42], .drop 1, .norm] (zF.c1))))))) (zF.c2)))
def zF.c4 : XCode := .seq (rG [op 2 .move [cB true]]) (.ret)
def zF.x : XFunc := xF 73 2 [.val true 2] (no 2) [.tmp 2 false 1] [.imm] true (.pair (.int .i64) (.list (.list zBA))) .bool <| .seq (rG [ow 1 (.box 0) [.slot 0] [0] [0], op 2 .move [cB false]]) (.seq (.seq (rG [fA 7 0 1, lN 8 7 0, op 9 (.bin .lss) [.slot 8, cI 1], sX 10 [.slot 9], gF 11 0 1 10 false, gL 12 11 0 10 false, gX 13 (.bin .gtr) [.slot 12, cI 32] [] [] 10 false, op 14 .pick [.slot 10, cB true, .slot 13], sX 15 [.slot 14], gF 16 1 1 15 false, gL 17 16 0 15 false, gX 18 .len [.slot 17] [] [] 15 false, gX 19 (.bin .lss) [.slot 18, cI 1] [] [] 15 false, op 20 .pick [.slot 15, cB true, .slot 19], sX 21 [.slot 20], gF 22 1 1 21 false, gL 23 22 0 21 false, gX 24 .len [.slot 23] [] [] 21 false, gX 25 (.bin .gtr) [.slot 24, cI 4] [] [] 21 false, op 26 .pick [.slot 21, cB true, .slot 25]]) (rI 26 2 false)) (.seq (.seq (rG [fA 27 1 1, lN 28 27 0, o1 29 .len 28, op 30 .move [cI 0]]) (.block 0 (.loop [.keep [1, 28, 29, 30], .drop 1, .norm] (zF.c3)))) (zF.c4)))
def zF.env (N : Nat) : Env := envOf (tbl [(156, yg.fs N)] noFS)
def zF.F (N : Nat) (x : Int × List yZ) : Option Bool := XFunc.run zF.x (zF.env N) N x
def zF.fs (N : Nat) : FS := fS zF.x true (zF.F N)
def zF.k2 (N : Nat) : Ex -> S -> Option Bool := seqK (fun s => XCode.runK (zF.env N) N (zF.c4) s (XFunc.endK zF.x)) (XFunc.endK zF.x)
def zF.k1 (N : Nat) : Ex -> S -> Option Bool := y7 0 (zF.k2 N)
def zF.k6 (N : Nat) (n1 : Nat) : Ex -> S -> Option Bool := seqK (fun s => bindO (S.ghosts s [.keep [1, 28, 29, 30], .drop 1, .norm]) fun s1 => loopK [.keep [1, 28, 29, 30], .drop 1, .norm] (rK (zF.env N) N zF.c3) n1 s1 (zF.k1 N)) (zF.k1 N)
def zF.k5 (N : Nat) (n1 : Nat) : Ex -> S -> Option Bool := seqK (fun s => XCode.runK (zF.env N) N (zF.c2) s (zF.k6 N n1)) (zF.k6 N n1)
def zF.k4 (N : Nat) (n1 : Nat) : Ex -> S -> Option Bool := y7 1 (zF.k5 N n1)
def zF.k3 (N : Nat) (n1 : Nat) : Ex -> S -> Option Bool := y7 2 (zF.k4 N n1)
def zF.L1 (N : Nat) (n1 : Nat) (t28 : List yZ) (t29 : Int) (t30 : Int) (o00 : Int) (o01 : List yZ) : Option Bool := loopK [.keep [1, 28, 29, 30], .drop 1, .norm] (rK (zF.env N) N zF.c3) n1
 { t := jK 73 [(1, .one (.ptr 0 0 0)), (28, .one (.sl false (.list zBA) t28)), (29, .one (.int .i64 t29)), (30, .one (.int .i64 t30))], h := [.box 0 false [.int .i64 o00, .sl false (.list zBA) o01], .absent 0] }
 (zF.k1 N)
def zF.L2 (N : Nat) (n1 : Nat) (n2 : Nat) (i : Int) (t28 : List yZ) (t29 : Int) (t30 : Int) (t40 : yZ) (t41 : Int) (t42 : Int) (o00 : Int) (o01 : List yZ) : Option Bool := loopK [.keep [1, 3, 28, 29, 30, 40, 41, 42], .drop 1, .norm] (rK (zF.env N) N zF.c1) n2
 { t := jK 73 [(1, .one (.ptr 0 0 0)), (3, .one (.int .i64 i)), (28, .one (.sl false (.list zBA) t28)), (29, .one (.int .i64 t29)), (30, .one (.int .i64 t30)), (40, .one (.sl false zBA t40)), (41, .one (.int .i64 t41)), (42, .one (.int .i64 t42))], h := [.box 0 false [.int .i64 o00, .sl false (.list zBA) o01], .absent 0] }
 (zF.k3 N n1)
theorem zF.L1_eq (N : Nat) (n1 : Nat) (t28 : List yZ) (t29 : Int) (t30 : Int) (o00 : Int) (o01 : List yZ) : zF.L1 N (n1 + 1) t28 t29 t30 o00 o01 =
bif decide (t30 < t29) then
bif zG t30 (t28.length) then
bif (List.length (nth ([] : List (Int × Int × Int × Int)) t28 t30) : Int) != o00 then
some false
else
zF.L2 N n1 N t30 t28 t29 t30 (nth ([] : List (Int × Int × Int × Int)) t28 t30) (List.length (nth ([] : List (Int × Int × Int × Int)) t28 t30) : Int) 0 o00 o01
else none
else
some true := by kernel_rfl
theorem zF.L2_eq (N : Nat) (n1 : Nat) (n2 : Nat) (i : Int) (t28 : List yZ) (t29 : Int) (t30 : Int) (t40 : yZ) (t41 : Int) (t42 : Int) (o00 : Int) (o01 : List yZ) : zF.L2 N n1 (n2 + 1) i t28 t29 t30 t40 t41 t42 o00 o01 =
bif decide (t42 < t41) then
bif zG t42 (t40.length) then
bindO (yg.F N ((nth (0, (0, (0, 0))) t40 t42).1, (((nth (0, (0, (0, 0))) t40 t42).2).1, (((nth (0, (0, (0, 0))) t40 t42).2).2)))) fun r1 =>
bif !r1 then
some false
else
bif i == 0 then
bif ((nth (0, (0, (0, 0))) t40 t42).1) == 1 then
some false
else
bif ((nth (0, (0, (0, 0))) t40 t42).1) != 9 then
bif decide (((((nth (0, (0, (0, 0))) t40 t42).2).2).2) >= (o01.length : Int)) then
some false
else
zF.L2 N n1 n2 i t28 t29 t30 t40 t41 (IntKind.wrap .i64 (t42 + 1)) o00 o01
else
zF.L2 N n1 n2 i t28 t29 t30 t40 t41 (IntKind.wrap .i64 (t42 + 1)) o00 o01
else
bif ((nth (0, (0, (0, 0))) t40 t42).1) != 9 then
bif decide (((((nth (0, (0, (0, 0))) t40 t42).2).2).2) >= (o01.length : Int)) then
some false
else
zF.L2 N n1 n2 i t28 t29 t30 t40 t41 (IntKind.wrap .i64 (t42 + 1)) o00 o01
else
zF.L2 N n1 n2 i t28 t29 t30 t40 t41 (IntKind.wrap .i64 (t42 + 1)) o00 o01
else none
else
zF.L1 N n1 t28 t29 (IntKind.wrap .i64 (t30 + 1)) o00 o01 := by kernel_rfl
theorem zF.F_eq (N : Nat) (m : Int × List yZ) : zF.F N m =
bif decide (m.1 < 1) then
some false
else
bif decide (m.1 > 32) then
some false
else
bif decide ((List.length m.2 : Int) < 1) then
some false
else
bif decide ((List.length m.2 : Int) > 4) then
some false
else
zF.L1 N N m.2 (List.length m.2 : Int) 0 m.1 m.2 := by kernel_rfl
def z5.c1 : XCode := .seq (rG [o2 9 (.bin .lss) 8 7]) (.seq (cX 9 0) (.seq (.block 1 (.seq (rG [o2 10 (.indexAddr zAY) 6 8, o1 11 (.load true 5) 10, ow 5 (.alloc 0 [cZ, cZ, cZ, cZ, cZ]) [] [0] [0], sT 5 5 11 0]) (.seq (.seq (rG [fA 12 0 5, lN 13 12 0, op 14 (.bin .lss) [.slot 13, cI 0], sX 15 [.slot 14], gF 16 0 5 15 false, gL 17 16 0 15 false, gX 18 (.bin .gtr) [.slot 17, cI 31] [] [] 15 false, op 19 .pick [.slot 15, cB true, .slot 18], sX 20 [.slot 19], gM 21 3 20 false, gF 22 0 5 20 false, gL 23 22 0 20 false, ⟨some 24, cO 65 (vs 2) 2 true, (sl [21, 23]), [], [], some (20, false), false, .none⟩, gX 25 (.bin .eql) [.slot 24, cI 1] [] [] 20 false, op 26 .pick [.slot 20, cB true, .slot 25], sX 27 [.slot 26], gF 28 1 5 27 false, gX 29 (.load true 4) [.slot 28] [0] [] 27 false, ⟨some 30, cO 156 [.val true 4] 4 true, [.slot 29], [], [], some (27, false), false, .none⟩, gX 31 .not [.slot 30] [] [] 27 false, op 32 .pick [.slot 27, cB true, .slot 31]]) (rI 32 2 false)) (.seq (.seq (rG [fA 33 1 5, fA 34 0 33, lN 35 34 0]) (.block 2 (.seq (.seq (rG [op 37 (.bin .eql) [.slot 35, cI 1], mv 36 37]) (.cond (.slot 36) (.skip) (.seq (rG [op 38 (.bin .eql) [.slot 35, cI 6], mv 36 38]) (.cond (.slot 36) (.skip) (rG [op 39 (.bin .eql) [.slot 35, cI 7], mv 36 39]))))) (rI 36 2 false)))) (rG [mv 40 3, fA 41 0 5, lN 42 41 0, op 43 (.bin .shl) [cI 1, .slot 42], o2 44 (.bin .or) 40 43, mv 3 44]))))) (rG [op 45 (.bin .add) [.slot 8, cI 1], mv 8 45])))
def z5.c2 : XCode := .seq (rG [op 2 .move [cB true]]) (.ret)
def z5.x : XFunc := xF 46 1 [.val false 1] [none] [.tmp 2 false 1] [.imm] true (.list zAY) .bool <| .seq (rG [op 2 .move [cB false]]) (.seq (rG [op 3 .move [cI 0]]) (.seq (.seq (rG [mv 6 0, o1 7 .len 6, op 8 .move [cI 0]]) (.block 0 (.loop [.keep [3, 6, 7, 8], .drop 0, .norm] (z5.c1)))) (z5.c2)))
def z5.env (N : Nat) : Env := envOf (tbl [(156, yg.fs N), (65, zAx.fs N)] noFS)
def z5.F (N : Nat) (x : yT) : Option Bool := XFunc.run z5.x (z5.env N) N x
def z5.fs (N : Nat) : FS := fS z5.x true (z5.F N)
def z5.k2 (N : Nat) : Ex -> S -> Option Bool := seqK (fun s => XCode.runK (z5.env N) N (z5.c2) s (XFunc.endK z5.x)) (XFunc.endK z5.x)
def z5.k1 (N : Nat) : Ex -> S -> Option Bool := y7 0 (z5.k2 N)
def z5.L1 (N : Nat) (n1 : Nat) (seen : Int) (t6 : yT) (t7 : Int) (t8 : Int) : Option Bool := loopK [.keep [3, 6, 7, 8], .drop 0, .norm] (rK (z5.env N) N z5.c1) n1
 { t := jK 46 [(3, .one (.int .i64 seen)), (6, .one (.sl false zAY t6)), (7, .one (.int .i64 t7)), (8, .one (.int .i64 t8))], h := [.absent 0] }
 (z5.k1 N)
theorem z5.L1_eq (N : Nat) (n1 : Nat) (seen : Int) (t6 : yT) (t7 : Int) (t8 : Int) : z5.L1 N (n1 + 1) seen t6 t7 t8 =
bif decide (t8 < t7) then
bif zG t8 (t6.length) then
bif decide (((nth (0, (0, (0, (0, 0)))) t6 t8).1) < 0) then
some false
else
bif decide (((nth (0, (0, (0, (0, 0)))) t6 t8).1) > 31) then
some false
else
bindO (zAx.F N (seen, (nth (0, (0, (0, (0, 0)))) t6 t8).1)) fun r1 =>
bif r1 == 1 then
some false
else
bindO (yg.F N (((nth (0, (0, (0, (0, 0)))) t6 t8).2).1, ((((nth (0, (0, (0, (0, 0)))) t6 t8).2).2).1, ((((nth (0, (0, (0, (0, 0)))) t6 t8).2).2).2)))) fun r2 =>
bif !r2 then
some false
else
bif (((nth (0, (0, (0, (0, 0)))) t6 t8).2).1) == 1 then
bif (((nth (0, (0, (0, (0, 0)))) t6 t8).2).1) == 1 then
some false
else
bif decide (0 <= (nth (0, (0, (0, (0, 0)))) t6 t8).1) then
z5.L1 N n1 (bitOr .i64 seen (zBS .i64 1 ((nth (0, (0, (0, (0, 0)))) t6 t8).1))) t6 t7 (IntKind.wrap .i64 (t8 + 1))
else none
else
bif (((nth (0, (0, (0, (0, 0)))) t6 t8).2).1) == 6 then
bif (((nth (0, (0, (0, (0, 0)))) t6 t8).2).1) == 6 then
some false
else
bif decide (0 <= (nth (0, (0, (0, (0, 0)))) t6 t8).1) then
z5.L1 N n1 (bitOr .i64 seen (zBS .i64 1 ((nth (0, (0, (0, (0, 0)))) t6 t8).1))) t6 t7 (IntKind.wrap .i64 (t8 + 1))
else none
else
bif (((nth (0, (0, (0, (0, 0)))) t6 t8).2).1) == 7 then
some false
else
bif decide (0 <= (nth (0, (0, (0, (0, 0)))) t6 t8).1) then
z5.L1 N n1 (bitOr .i64 seen (zBS .i64 1 ((nth (0, (0, (0, (0, 0)))) t6 t8).1))) t6 t7 (IntKind.wrap .i64 (t8 + 1))
else none
else none
else
some true := by kernel_rfl
theorem z5.F_eq (N : Nat) (l_ : yT) : z5.F N l_ =
z5.L1 N N 0 l_ (l_.length : Int) 0 := by kernel_rfl
def yW.c1 : XCode := .seq (rG [o2 10 (.bin .lss) 9 8]) (.seq (cX 10 0) (.seq (.block 1 (.seq (rG [mv 11 9, o2 12 (.indexAddr zBx) 7 9, o1 13 (.load true 2) 12, ow 6 (.alloc 1 [cZ, cZ]) [] [1] [1], mv 5 11, sT 2 6 13 1]) (.seq (rG [lU 14 2 6 1, lU 15 2 3 0, o2 16 (.eqAgg false zBx) 14 15]) (.cond (.slot 16) (.seq (rG [mv 17 5, mv 4 17]) (.ret)) (.skip))))) (rG [op 18 (.bin .add) [.slot 9, cI 1], mv 9 18])))
def yW.c2 : XCode := .seq (rG [op 4 .move [cI (-1)]]) (.ret)
def yW.x : XFunc := xF 19 2 [.val false 1, .val true 2] (no 3) [.tmp 4 false 1] [.imm] true (.pair (.list zBx) zBx) (.int .i64) <| .seq (rG [ow 3 (.box 0) [.slot 1] [0] [0], op 4 .move [cI 0]]) (.seq (.seq (rG [mv 7 0, o1 8 .len 7, op 9 .move [cI 0]]) (.block 0 (.loop [.keep [3, 7, 8, 9], .drop 1, .norm] (yW.c1)))) (yW.c2))
def yW.env (_ : Nat) : Env := envOf (tbl [] noFS)
def yW.F (N : Nat) (x : (List (Int × Int)) × Int × Int) : Option Int := XFunc.run yW.x (yW.env N) N x
def yW.fs (N : Nat) : FS := fS yW.x true (yW.F N)
def yW.k2 (N : Nat) : Ex -> S -> Option Int := seqK (fun s => XCode.runK (yW.env N) N (yW.c2) s (XFunc.endK yW.x)) (XFunc.endK yW.x)
def yW.k1 (N : Nat) : Ex -> S -> Option Int := y7 0 (yW.k2 N)
def yW.L1 (N : Nat) (n1 : Nat) (t7 : List (Int × Int)) (t8 : Int) (t9 : Int) (o00 : Int) (o01 : Int) : Option Int := loopK [.keep [3, 7, 8, 9], .drop 1, .norm] (rK (yW.env N) N yW.c1) n1
 { t := jK 19 [(3, .one (.ptr 0 0 0)), (7, .one (.sl false zBx t7)), (8, .one (.int .i64 t8)), (9, .one (.int .i64 t9))], h := [.box 0 false [.int .i64 o00, .int .i64 o01], .absent 0] }
 (yW.k1 N)
theorem yW.L1_eq (N : Nat) (n1 : Nat) (t7 : List (Int × Int)) (t8 : Int) (t9 : Int) (o00 : Int) (o01 : Int) : yW.L1 N (n1 + 1) t7 t8 t9 o00 o01 =
bif decide (t9 < t8) then
bif zG t9 (t7.length) then
bif (((nth (0, 0) t7 t9).1) == o00) && (((nth (0, 0) t7 t9).2) == o01) then
some t9
else
yW.L1 N n1 t7 t8 (IntKind.wrap .i64 (t9 + 1)) o00 o01
else none
else
some (-1 : Int) := by kernel_rfl
theorem yW.F_eq (N : Nat) (l_ : List (Int × Int)) (p : Int × Int) : yW.F N (l_, p) =
yW.L1 N N l_ (l_.length : Int) 0 p.1 p.2 := by kernel_rfl
def zx.c1 : XCode := .seq (rG [o2 14 (.bin .lss) 13 12]) (.seq (cX 14 0) (.seq (.block 1 (.seq (rG [o2 15 (.indexAddr zBB) 11 13, o1 16 (.load true 3) 15, ow 5 (.alloc 0 [cZ, cZ, cZ]) [] [0] [0], sT 3 5 16 0]) (.seq (rG [fA 17 1 5, lN 18 17 0, fA 19 2 5, lN 20 19 0, o2 21 (.build [cZ, cZ] [(0, 1), (1, 1)]) 18 20, ow 6 (.alloc 1 [cZ, cZ]) [] [1] [1], sT 2 6 21 1]) (.seq (rG [mv 22 3, lU 23 2 6 1, ow 24 (cO 165 [.val false 1, .val true 2] 3 true) (sl [22, 23]) [3] [], mv 7 24]) (.seq (.seq (rG [fA 25 1 5, lN 26 25 0, fA 27 2 5, lN 28 27 0, op 29 (.build [cZ, cZ, cZ, cZ] [(0, 1), (1, 1), (2, 1)]) [cI 2, .slot 26, .slot 28], o1 30 (cO 156 [.val true 4] 4 true) 29, o1 31 .not 30]) (rI 31 2 false)) (.seq (rG [fA 32 0 5, lN 33 32 0]) (.block 2 (.seq (.seq (rG [op 35 (.bin .eql) [.slot 33, cI 0], mv 34 35]) (.cond (.slot 34) (.skip) (rG [op 36 (.bin .eql) [.slot 33, cI 1], mv 34 36]))) (.cond (.slot 34) (.seq (.seq (rG [mv 37 7, op 38 (.bin .geq) [.slot 37, cI 0]]) (rI 38 2 false)) (.seq (rG [fA 39 0 5, lN 40 39 0, op 41 (.bin .eql) [.slot 40, cI 1]]) (.cond (.slot 41) (rG [mv 42 3, lU 43 2 6 1, ow 44 (.buildSlice false 2 14 zBx 1 [(0, 2)] [cZ, cZ]) [.slot 43] [2] [2], ow 45 (.append false 3 14 zBx) (sl [42, 44]) [2, 3] [3], mv 3 45]) (.skip)))) (.seq (rG [op 47 (.bin .eql) [.slot 33, cI 2], mv 46 47]) (.cond (.slot 46) (.seq (.seq (rG [mv 48 7, op 49 (.bin .lss) [.slot 48, cI 0]]) (rI 49 2 false)) (.region true [mv 50 3, mv 51 7, ow 52 (.slice zBx false true) (sl [50, 51]) [3] [], mv 53 3, mv 54 7, op 55 (.bin .add) [.slot 54, cI 1], ow 56 (.slice zBx true false) (sl [53, 55]) [3] [], ow 57 (.appendDel 3 14 zBx) (sl [52, 56]) [3] [3], mv 3 57])) (.seq (rG [op 2 .move [cB false]]) (.ret))))))))))))) (rG [op 58 (.bin .add) [.slot 13, cI 1], mv 13 58])))
def zx.c2 : XCode := .seq (rG [mv 59 3, ow 60 .len [.slot 59] [3] [], op 61 (.bin .eql) [.slot 60, cI 0], mv 2 61]) (.ret)
def zx.x : XFunc := xF 62 4 [.val false 1] [none] [.tmp 2 false 1] [.imm] true (.list zBB) .bool <| .seq (rG [op 2 .move [cB false]]) (.seq (.seq (rG [mv 8 0, o1 9 .len 8, op 10 (.bin .gtr) [.slot 9, cI 8]]) (rI 10 2 false)) (.seq (rG [op 3 .move [.const (.one (.nil))]]) (.seq (.seq (rG [mv 11 0, o1 12 .len 11, op 13 .move [cI 0]]) (.block 0 (.loop [.mkrow (.slot 3) 3 14 zBx, .keep [3, 11, 12, 13], .drop 0, .drop 1, .drop 2, .norm] (zx.c1)))) (zx.c2))))
def zx.env (N : Nat) : Env := envOf (tbl [(156, yg.fs N), (165, yW.fs N)] noFS)
def zx.F (N : Nat) (x : zAZ) : Option Bool := XFunc.run zx.x (zx.env N) N x
def zx.fs (N : Nat) : FS := fS zx.x true (zx.F N)
def zx.k2 (N : Nat) : Ex -> S -> Option Bool := seqK (fun s => XCode.runK (zx.env N) N (zx.c2) s (XFunc.endK zx.x)) (XFunc.endK zx.x)
def zx.k1 (N : Nat) : Ex -> S -> Option Bool := y7 0 (zx.k2 N)
def zx.L1 (N : Nat) (n1 : Nat) (t11 : zAZ) (t12 : Int) (t13 : Int) (o3 : List (Int × Int)) : Option Bool := loopK [.mkrow (.slot 3) 3 14 zBx, .keep [3, 11, 12, 13], .drop 0, .drop 1, .drop 2, .norm] (rK (zx.env N) N zx.c1) n1
 { t := jK 62 [(3, .one (.ref 3 0 .all)), (11, .one (.sl false zBB t11)), (12, .one (.int .i64 t12)), (13, .one (.int .i64 t13))], h := [.absent 0, .absent 0, .absent 0, .row 0 false true 14 zBx o3] }
 (zx.k1 N)
theorem zx.L1_eq (N : Nat) (n1 : Nat) (t11 : zAZ) (t12 : Int) (t13 : Int) (o3 : List (Int × Int)) : zx.L1 N (n1 + 1) t11 t12 t13 o3 =
bif decide (t13 < t12) then
bif zG t13 (t11.length) then
bindO (yW.F N (o3, ((nth (0, (0, 0)) t11 t13).2))) fun r1 =>
bindO (yg.F N (2, (((nth (0, (0, 0)) t11 t13).2).1, (((nth (0, (0, 0)) t11 t13).2).2, 0)))) fun r2 =>
bif !r2 then
some false
else
bif ((nth (0, (0, 0)) t11 t13).1) == 0 then
bif ((nth (0, (0, 0)) t11 t13).1) == 0 then
bif decide (r1 >= 0) then
some false
else
bif ((nth (0, (0, 0)) t11 t13).1) == 1 then
bif decide (o3.length + List.length ([((nth (0, (0, 0)) t11 t13).2)] : List (Int × Int)) <= maxN) then
zx.L1 N n1 t11 t12 (IntKind.wrap .i64 (t13 + 1)) (o3 ++ ([((nth (0, (0, 0)) t11 t13).2)] : List (Int × Int)))
else none
else
zx.L1 N n1 t11 t12 (IntKind.wrap .i64 (t13 + 1)) o3
else
bif ((nth (0, (0, 0)) t11 t13).1) == 2 then
bif decide (r1 < 0) then
some false
else
bif decide (0 <= r1) && decide (r1 <= (o3.length : Int)) then
bif decide (0 <= IntKind.wrap .i64 (r1 + 1)) && decide (IntKind.wrap .i64 (r1 + 1) <= (o3.length : Int)) then
bif decide ((Int.toNat r1) <= (Int.toNat (IntKind.wrap .i64 (r1 + 1)))) && decide (o3.length <= maxN) then
zx.L1 N n1 t11 t12 (IntKind.wrap .i64 (t13 + 1)) (List.take (Int.toNat r1) o3 ++ List.drop (Int.toNat (IntKind.wrap .i64 (r1 + 1))) o3)
else none
else none
else none
else
some false
else
bif ((nth (0, (0, 0)) t11 t13).1) == 1 then
bif decide (r1 >= 0) then
some false
else
bif ((nth (0, (0, 0)) t11 t13).1) == 1 then
bif decide (o3.length + List.length ([((nth (0, (0, 0)) t11 t13).2)] : List (Int × Int)) <= maxN) then
zx.L1 N n1 t11 t12 (IntKind.wrap .i64 (t13 + 1)) (o3 ++ ([((nth (0, (0, 0)) t11 t13).2)] : List (Int × Int)))
else none
else
zx.L1 N n1 t11 t12 (IntKind.wrap .i64 (t13 + 1)) o3
else
bif ((nth (0, (0, 0)) t11 t13).1) == 2 then
bif decide (r1 < 0) then
some false
else
bif decide (0 <= r1) && decide (r1 <= (o3.length : Int)) then
bif decide (0 <= IntKind.wrap .i64 (r1 + 1)) && decide (IntKind.wrap .i64 (r1 + 1) <= (o3.length : Int)) then
bif decide ((Int.toNat r1) <= (Int.toNat (IntKind.wrap .i64 (r1 + 1)))) && decide (o3.length <= maxN) then
zx.L1 N n1 t11 t12 (IntKind.wrap .i64 (t13 + 1)) (List.take (Int.toNat r1) o3 ++ List.drop (Int.toNat (IntKind.wrap .i64 (r1 + 1))) o3)
else none
else none
else none
else
some false
else none
else
some ((o3.length : Int) == 0) := by kernel_rfl
theorem zx.F_eq (N : Nat) (l_ : zAZ) : zx.F N l_ =
bif decide ((l_.length : Int) > 8) then
some false
else
zx.L1 N N l_ (l_.length : Int) 0 ([] : List (Int × Int)) := by kernel_rfl
def zL.c1 : XCode := .seq (rG [o2 38 (.bin .lss) 37 36]) (.seq (cX 38 0) (.seq (.block 1 (.seq (rG [o2 39 (.indexAddr (.list zBB)) 35 37, o1 40 (.load false 1) 39, mv 4 40]) (.seq (rG [mv 41 4, o1 42 (cO 166 (vs 1) 1 true) 41, o1 43 .not 42]) (rI 43 2 false)))) (rG [op 44 (.bin .add) [.slot 37, cI 1], mv 37 44])))
def zL.c2 : XCode := .seq (rG [o2 53 (.bin .lss) 52 51]) (.seq (cX 53 2) (.seq (.block 3 (.seq (rG [o2 54 (.indexAddr zAY) 50 52, o1 55 (.load true 5) 54, ow 7 (.alloc 1 [cZ, cZ, cZ, cZ, cZ]) [] [1] [1], sT 5 7 55 1]) (.seq (rG [fA 56 0 7, lN 57 56 1, fA 58 0 1, fA 59 0 58, lN 60 59 0, o2 61 (.bin .geq) 57 60, sX 62 [.slot 61], gF 63 1 7 62 false, gF 64 0 63 62 false, gL 65 64 1 62 false, gX 66 (.bin .neq) [.slot 65, cI 9] [] [] 62 false, ⟨some 67, .move, [.slot 66], [], [], some (62, false), true, .none⟩, gF 68 1 7 67 true, gF 69 3 68 67 true, gL 70 69 1 67 true, gM 71 5 67 true, gX 72 (.bin .geq) (sl [70, 71]) [] [] 67 true, gX 73 .pick [.slot 67, .slot 72, cB false] [] [] 62 false, op 74 .pick [.slot 62, cB true, .slot 73]]) (rI 74 2 false)))) (rG [op 75 (.bin .add) [.slot 52, cI 1], mv 52 75])))
def zL.c3 : XCode := .seq (.region true [fA 76 3 1, lN 77 76 0, op 78 (.bin .geq) [.slot 77, cI 0], sX 79 [.slot 78], gF 80 3 1 79 true, gL 81 80 0 79 true, gX 82 (.bin .rem) [.slot 81, cI 2] [] [] 79 true, gX 83 (.bin .eql) [.slot 82, cI 0] [] [] 79 true, op 84 .pick [.slot 79, .slot 83, cB false], sX 85 [.slot 84], gF 86 3 1 85 true, gL 87 86 0 85 true, gM 88 5 85 true, gX 89 (.bin .shl) [cI 1, .slot 88] [] [] 85 true, gX 90 (.bin .lss) (sl [87, 89]) [] [] 85 true, op 91 .pick [.slot 85, .slot 90, cB false], mv 2 91]) (.ret)
def zL.c4 : XCode := .seq (rG [fA 45 0 1, fA 46 1 45, lN 47 46 0, o1 48 .len 47, mv 5 48]) (.seq (.seq (rG [fA 49 4 1, lN 50 49 0, o1 51 .len 50, op 52 .move [cI 0]]) (.block 2 (.loop [.keep [1, 5, 50, 51, 52], .drop 1, .norm] (zL.c2)))) (zL.c3))
def zL.x : XFunc := xF 92 2 [.val true 7] (no 7) [.tmp 2 false 1] [.imm] true (.pair T10_30 T8_30) .bool <| .seq (rG [ow 1 (.box 0) [.slot 0] [0] [0], op 2 .move [cB false]]) (.seq (.seq (rG [fA 8 0 1, lU 9 2 8 0, o1 10 (cO 163 [.val true 2] 2 true) 9, o1 11 .not 10, sX 12 [.slot 11], gF 13 2 1 12 false, gL 14 13 0 12 false, gX 15 .len [.slot 14] [] [] 12 false, gX 16 (.bin .gtr) [.slot 15, cI 4] [] [] 12 false, op 17 .pick [.slot 12, cB true, .slot 16], sX 18 [.slot 17], gF 19 4 1 18 false, gL 20 19 0 18 false, ⟨some 21, cO 164 (vs 1) 1 true, [.slot 20], [], [], some (18, false), false, .none⟩, gX 22 .not [.slot 21] [] [] 18 false, op 23 .pick [.slot 18, cB true, .slot 22], sX 24 [.slot 23], gF 25 5 1 24 false, gL 26 25 0 24 false, gX 27 (.bin .lss) [.slot 26, cI 0] [] [] 24 false, op 28 .pick [.slot 24, cB true, .slot 27], sX 29 [.slot 28], gF 30 5 1 29 false, gL 31 30 0 29 false, gX 32 (.bin .gtr) [.slot 31, cI 15] [] [] 29 false, op 33 .pick [.slot 29, cB true, .slot 32]]) (rI 33 2 false)) (.seq (.seq (rG [fA 34 2 1, lN 35 34 0, o1 36 .len 35, op 37 .move [cI 0]]) (.block 0 (.loop [.keep [1, 35, 36, 37], .drop 1, .norm] (zL.c1)))) (zL.c4)))
def zL.env (N : Nat) : Env := envOf (tbl [(164, z5.fs N), (163, zF.fs N), (166, zx.fs N)] noFS)
def zL.F (N : Nat) (x : (Int × List yZ) × (List zAZ) × Int × yT × Int × Bool) : Option Bool := XFunc.run zL.x (zL.env N) N x
def zL.fs (N : Nat) : FS := fS zL.x true (zL.F N)
def zL.k2 (N : Nat) : Ex -> S -> Option Bool := seqK (fun s => XCode.runK (zL.env N) N (zL.c4) s (XFunc.endK zL.x)) (XFunc.endK zL.x)
def zL.k1 (N : Nat) : Ex -> S -> Option Bool := y7 0 (zL.k2 N)
def zL.k4 (N : Nat) : Ex -> S -> Option Bool := seqK (fun s => XCode.runK (zL.env N) N (zL.c3) s (XFunc.endK zL.x)) (XFunc.endK zL.x)
def zL.k3 (N : Nat) : Ex -> S -> Option Bool := y7 2 (zL.k4 N)
def zL.L1 (N : Nat) (n1 : Nat) (t35 : List zAZ) (t36 : Int) (t37 : Int) (o00 : Int) (o01 : List yZ) (o02 : List zAZ) (o03 : Int) (o04 : yT) (o05 : Int) (o06 : Bool) : Option Bool := loopK [.keep [1, 35, 36, 37], .drop 1, .norm] (rK (zL.env N) N zL.c1) n1
 { t := jK 92 [(1, .one (.ptr 0 0 0)), (35, .one (.sl false (.list zBB) t35)), (36, .one (.int .i64 t36)), (37, .one (.int .i64 t37))], h := [.box 0 false [.int .i64 o00, .sl false (.list zBA) o01, .sl false (.list zBB) o02, .int .i64 o03, .sl false zAY o04, .int .i64 o05, .bool o06], .absent 0] }
 (zL.k1 N)
def zL.L2 (N : Nat) (n2 : Nat) (layers : Int) (t50 : yT) (t51 : Int) (t52 : Int) (o00 : Int) (o01 : List yZ) (o02 : List zAZ) (o03 : Int) (o04 : yT) (o05 : Int) (o06 : Bool) : Option Bool := loopK [.keep [1, 5, 50, 51, 52], .drop 1, .norm] (rK (zL.env N) N zL.c2) n2
 { t := jK 92 [(1, .one (.ptr 0 0 0)), (5, .one (.int .i64 layers)), (50, .one (.sl false zAY t50)), (51, .one (.int .i64 t51)), (52, .one (.int .i64 t52))], h := [.box 0 false [.int .i64 o00, .sl false (.list zBA) o01, .sl false (.list zBB) o02, .int .i64 o03, .sl false zAY o04, .int .i64 o05, .bool o06], .absent 0] }
 (zL.k3 N)
theorem zL.L1_eq (N : Nat) (n1 : Nat) (t35 : List zAZ) (t36 : Int) (t37 : Int) (o00 : Int) (o01 : List yZ) (o02 : List zAZ) (o03 : Int) (o04 : yT) (o05 : Int) (o06 : Bool) : zL.L1 N (n1 + 1) t35 t36 t37 o00 o01 o02 o03 o04 o05 o06 =
bif decide (t37 < t36) then
bif zG t37 (t35.length) then
bindO (zx.F N (nth ([] : List (Int × Int × Int)) t35 t37)) fun r3 =>
bif !r3 then
some false
else
zL.L1 N n1 t35 t36 (IntKind.wrap .i64 (t37 + 1)) o00 o01 o02 o03 o04 o05 o06
else none
else
zL.L2 N N (o01.length : Int) o04 (o04.length : Int) 0 o00 o01 o02 o03 o04 o05 o06 := by kernel_rfl
theorem zL.L2_eq (N : Nat) (n2 : Nat) (layers : Int) (t50 : yT) (t51 : Int) (t52 : Int) (o00 : Int) (o01 : List yZ) (o02 : List zAZ) (o03 : Int) (o04 : yT) (o05 : Int) (o06 : Bool) : zL.L2 N (n2 + 1) layers t50 t51 t52 o00 o01 o02 o03 o04 o05 o06 =
bif decide (t52 < t51) then
bif zG t52 (t50.length) then
bif decide (((nth (0, (0, (0, (0, 0)))) t50 t52).1) >= o00) then
some false
else
bif (((nth (0, (0, (0, (0, 0)))) t50 t52).2).1) != 9 then
bif decide ((((((nth (0, (0, (0, (0, 0)))) t50 t52).2).2).2).2) >= layers) then
some false
else
zL.L2 N n2 layers t50 t51 (IntKind.wrap .i64 (t52 + 1)) o00 o01 o02 o03 o04 o05 o06
else
zL.L2 N n2 layers t50 t51 (IntKind.wrap .i64 (t52 + 1)) o00 o01 o02 o03 o04 o05 o06
else none
else
bif decide (o03 >= 0) then
bif (Int.tmod o03 2) == 0 then
bif decide (0 <= layers) then
some (decide (o03 < (zBS .i64 1 layers)))
else none
else
some false
else
some false := by kernel_rfl
theorem zL.F_eq (N : Nat) (e : (Int × List yZ) × (List zAZ) × Int × yT × Int × Bool) : zL.F N e =
bindO (zF.F N e.1) fun r1 =>
bif !r1 then
some false
else
bif decide ((List.length e.2.1 : Int) > 4) then
some false
else
bindO (z5.F N e.2.2.2.1) fun r2 =>
bif !r2 then
some false
else
bif decide (e.2.2.2.2.1 < 0) then
some false
else
bif decide (e.2.2.2.2.1 > 15) then
some false
else
zL.L1 N N e.2.1 (List.length e.2.1 : Int) 0 e.1.1 e.1.2 e.2.1 e.2.2.1 e.2.2.2.1 e.2.2.2.2.1 e.2.2.2.2.2 := by kernel_rfl
def zAM.x : XFunc := xF 31 1 [.val true 3] (no 3) [.tmp 2 false 1] [.imm] true (.pair (.int .i64) zBx) .bool <| .seq (rG [ow 1 (.box 0) [.slot 0] [0] [0], op 2 .move [cB false]]) (.seq (rG [fA 3 0 1, lN 4 3 0, op 5 (.bin .geq) [.slot 4, cI 1], sX 6 [.slot 5], gF 7 0 1 6 true, gL 8 7 0 6 true, gX 9 (.bin .leq) [.slot 8, cI 1000] [] [] 6 true, op 10 .pick [.slot 6, .slot 9, cB false], sX 11 [.slot 10], gF 12 1 1 11 true, gL 13 12 0 11 true, gX 14 (.bin .geq) [.slot 13, cI 0] [] [] 11 true, op 15 .pick [.slot 11, .slot 14, cB false], sX 16 [.slot 15], gF 17 1 1 16 true, gL 18 17 0 16 true, gX 19 (.bin .leq) [.slot 18, cI 1000] [] [] 16 true, op 20 .pick [.slot 16, .slot 19, cB false], sX 21 [.slot 20], gF 22 2 1 21 true, gL 23 22 0 21 true, gX 24 (.bin .geq) [.slot 23, cI 0] [] [] 21 true, op 25 .pick [.slot 21, .slot 24, cB false], sX 26 [.slot 25], gF 27 2 1 26 true, gL 28 27 0 26 true, gX 29 (.bin .leq) [.slot 28, cI 2] [] [] 26 true, op 30 .pick [.slot 26, .slot 29, cB false], mv 2 30]) (.ret))
def zAM.env (_ : Nat) : Env := envOf (tbl [] noFS)
def zAM.F (N : Nat) (x : Int × Int × Int) : Option Bool := XFunc.run zAM.x (zAM.env N) N x
def zAM.fs (N : Nat) : FS := fS zAM.x true (zAM.F N)
theorem zAM.F_eq (N : Nat) (t : Int × Int × Int) : zAM.F N t =
bif decide (t.1 >= 1) then
bif decide (t.1 <= 1000) then
bif decide (t.2.1 >= 0) then
bif decide (t.2.1 <= 1000) then
bif decide (t.2.2 >= 0) then
some (decide (t.2.2 <= 2))
else
some false
else
some false
else
some false
else
some false
else
some false := by kernel_rfl
def zv.c1 : XCode := .seq (rG [o2 9 (.bin .lss) 8 7]) (.seq (cX 9 0) (.seq (.block 1 (.seq (rG [o2 10 (.indexAddr zAY) 6 8, o1 11 (.load true 5) 10, ow 5 (.alloc 0 [cZ, cZ, cZ, cZ, cZ]) [] [0] [0], sT 5 5 11 0]) (rG [mv 12 3, fA 13 0 5, lN 14 13 0, op 15 (.bin .shl) [cI 1, .slot 14], o2 16 (.bin .or) 12 15, mv 3 16]))) (rG [op 17 (.bin .add) [.slot 8, cI 1], mv 8 17])))
def zv.c2 : XCode := .seq (rG [mv 18 3, mv 2 18]) (.ret)
def zv.x : XFunc := xF 19 1 [.val false 1] [none] [.tmp 2 false 1] [.imm] true (.list zAY) (.int .i64) <| .seq (rG [op 2 .move [cI 0]]) (.seq (rG [op 3 .move [cI 0]]) (.seq (.seq (rG [mv 6 0, o1 7 .len 6, op 8 .move [cI 0]]) (.block 0 (.loop [.keep [3, 6, 7, 8], .drop 0, .norm] (zv.c1)))) (zv.c2)))
def zv.env (_ : Nat) : Env := envOf (tbl [] noFS)
def zv.F (N : Nat) (x : yT) : Option Int := XFunc.run zv.x (zv.env N) N x
def zv.fs (N : Nat) : FS := fS zv.x true (zv.F N)
def zv.k2 (N : Nat) : Ex -> S -> Option Int := seqK (fun s => XCode.runK (zv.env N) N (zv.c2) s (XFunc.endK zv.x)) (XFunc.endK zv.x)
def zv.k1 (N : Nat) : Ex -> S -> Option Int := y7 0 (zv.k2 N)
def zv.L1 (N : Nat) (n1 : Nat) (out : Int) (t6 : yT) (t7 : Int) (t8 : Int) : Option Int := loopK [.keep [3, 6, 7, 8], .drop 0, .norm] (rK (zv.env N) N zv.c1) n1
 { t := jK 19 [(3, .one (.int .i64 out)), (6, .one (.sl false zAY t6)), (7, .one (.int .i64 t7)), (8, .one (.int .i64 t8))], h := [.absent 0] }
 (zv.k1 N)
theorem zv.L1_eq (N : Nat) (n1 : Nat) (out : Int) (t6 : yT) (t7 : Int) (t8 : Int) : zv.L1 N (n1 + 1) out t6 t7 t8 =
bif decide (t8 < t7) then
bif zG t8 (t6.length) then
bif decide (0 <= (nth (0, (0, (0, (0, 0)))) t6 t8).1) then
zv.L1 N n1 (bitOr .i64 out (zBS .i64 1 ((nth (0, (0, (0, (0, 0)))) t6 t8).1))) t6 t7 (IntKind.wrap .i64 (t8 + 1))
else none
else none
else
some out := by kernel_rfl
theorem zv.F_eq (N : Nat) (l_ : yT) : zv.F N l_ =
zv.L1 N N 0 l_ (l_.length : Int) 0 := by kernel_rfl
def zAX.x : XFunc := xF 79 1 [.val true 15] (no 15) [.tmp 2 false 1] [.imm] true (.pair T2_30 T9_30) .bool <| .seq (rG [ow 1 (.box 0) [.slot 0] [0] [0], op 2 .move [cB false]]) (.seq (.seq (rG [fA 3 0 1, lU 4 7 3 0, o1 5 (cO 167 [.val true 7] 7 true) 4, o1 6 .not 5, sX 7 [.slot 6], gF 8 7 1 7 false, gX 9 (.load true 3) [.slot 8] [0] [] 7 false, ⟨some 10, cO 172 [.val true 3] 3 true, [.slot 9], [], [], some (7, false), false, .none⟩, gX 11 .not [.slot 10] [] [] 7 false, op 12 .pick [.slot 7, cB true, .slot 11], sX 13 [.slot 12], gF 14 11 1 13 false, gL 15 14 0 13 false, gX 16 (.bin .lss) [.slot 15, cI 0] [] [] 13 false, op 17 .pick [.slot 13, cB true, .slot 16], sX 18 [.slot 17], gF 19 11 1 18 false, gL 20 19 0 18 false, gX 21 (.bin .gtr) [.slot 20, cI 1000000] [] [] 18 false, op 22 .pick [.slot 18, cB true, .slot 21], sX 23 [.slot 22], gF 24 12 1 23 false, gL 25 24 0 23 false, gX 26 (.bin .lss) [.slot 25, cI 0] [] [] 23 false, op 27 .pick [.slot 23, cB true, .slot 26], sX 28 [.slot 27], gF 29 12 1 28 false, gL 30 29 0 28 false, gF 31 11 1 28 false, gL 32 31 0 28 false, gX 33 (.bin .gtr) (sl [30, 32]) [] [] 28 false, op 34 .pick [.slot 28, cB true, .slot 33]]) (rI 34 2 false)) (.seq (.seq (.region true [fA 35 10 1, lN 36 35 0, fA 37 0 1, fA 38 4 37, lN 39 38 0, o1 40 (cO 173 (vs 1) 1 true) 39, fA 41 0 1, fA 42 0 41, fA 43 0 42, lN 44 43 0, op 45 (cO 70 (vs 3) 3 true) (sl [36, 40, 44]), o1 46 .not 45, sX 47 [.slot 46], gF 48 10 1 47 false, gL 49 48 0 47 false, gF 50 11 1 47 false, gL 51 50 0 47 false, ⟨some 52, cO 71 (vs 2) 2 true, (sl [49, 51]), [], [], some (47, false), false, .none⟩, gX 53 .not [.slot 52] [] [] 47 false, op 54 .pick [.slot 47, cB true, .slot 53]]) (rI 54 2 false)) (.seq (rG [fA 55 13 1, lN 56 55 0, op 57 (.bin .geq) [.slot 56, cI 0], sX 58 [.slot 57], gF 59 13 1 58 true, gL 60 59 0 58 true, gF 61 0 1 58 true, gF 62 0 61 58 true, gF 63 0 62 58 true, gL 64 63 0 58 true, gX 65 (.bin .leq) (sl [60, 64]) [] [] 58 true, op 66 .pick [.slot 58, .slot 65, cB false], sX 67 [.slot 66], gF 68 14 1 67 true, gL 69 68 0 67 true, gX 70 (.bin .geq) [.slot 69, cI 0] [] [] 67 true, op 71 .pick [.slot 67, .slot 70, cB false], sX 72 [.slot 71], gF 73 14 1 72 true, gL 74 73 0 72 true, gF 75 11 1 72 true, gL 76 75 0 72 true, gX 77 (.bin .leq) (sl [74, 76]) [] [] 72 true, op 78 .pick [.slot 72, .slot 77, cB false], mv 2 78]) (.ret))))
def zAX.env (N : Nat) : Env := envOf (tbl [(167, zL.fs N), (172, zAM.fs N), (173, zv.fs N), (71, yt.fs N), (70, zh.fs N)] noFS)
def zAX.F (N : Nat) (x : zBb × (Int × Int × Int) × zBa × Int × Int × Int × Int) : Option Bool := XFunc.run zAX.x (zAX.env N) N x
def zAX.fs (N : Nat) : FS := fS zAX.x true (zAX.F N)
theorem zAX.F_eq (N : Nat) (d : zBb × (Int × Int × Int) × zBa × Int × Int × Int × Int) : zAX.F N d =
bindO (zL.F N d.1) fun r1 =>
bif !r1 then
some false
else
bindO (zAM.F N d.2.1) fun r2 =>
bif !r2 then
some false
else
bif decide (d.2.2.2.1 < 0) then
some false
else
bif decide (d.2.2.2.1 > 1000000) then
some false
else
bif decide (d.2.2.2.2.1 < 0) then
some false
else
bif decide (d.2.2.2.2.1 > d.2.2.2.1) then
some false
else
bindO (zv.F N d.1.2.2.2.1) fun r3 =>
bindO (zh.F N (d.2.2.1, (r3, d.1.1.1))) fun r4 =>
bif !r4 then
some false
else
bindO (yt.F N (d.2.2.1, d.2.2.2.1)) fun r5 =>
bif !r5 then
some false
else
bif decide (d.2.2.2.2.2.1 >= 0) then
bif decide (d.2.2.2.2.2.1 <= d.1.1.1) then
bif decide (d.2.2.2.2.2.2 >= 0) then
some (decide (d.2.2.2.2.2.2 <= d.2.2.2.1))
else
some false
else
some false
else
some false := by kernel_rfl
def yd.c1 : XCode := .seq (rG [o2 11 (.bin .lss) 10 9]) (.seq (cX 11 0) (.seq (.block 1 (.seq (rG [mv 12 10, o2 13 (.indexAddr zAY) 8 10, o1 14 (.load true 5) 13, ow 6 (.alloc 1 [cZ, cZ, cZ, cZ, cZ]) [] [1] [1], mv 5 12, sT 5 6 14 1]) (.seq (rG [fA 15 0 6, lN 16 15 1, mv 17 1, o2 18 (.bin .eql) 16 17]) (.cond (.slot 18) (.seq (rG [mv 19 5, mv 4 19]) (.ret)) (.skip))))) (rG [op 20 (.bin .add) [.slot 10, cI 1], mv 10 20])))
def yd.c2 : XCode := .seq (rG [op 4 .move [cI (-1)]]) (.ret)
def yd.x : XFunc := xF 21 2 [.val true 7, .val false 1] (no 8) [.tmp 4 false 1] [.imm] true (.pair T2_30 (.int .i64)) (.int .i64) <| .seq (rG [ow 2 (.box 0) [.slot 0] [0] [0], op 4 .move [cI 0]]) (.seq (.seq (rG [fA 7 4 2, lN 8 7 0, o1 9 .len 8, op 10 .move [cI 0]]) (.block 0 (.loop [.keep [1, 8, 9, 10], .drop 0, .drop 1, .norm] (yd.c1)))) (yd.c2))
def yd.env (_ : Nat) : Env := envOf (tbl [] noFS)
def yd.F (N : Nat) (x : zBb × Int) : Option Int := XFunc.run yd.x (yd.env N) N x
def yd.fs (N : Nat) : FS := fS yd.x true (yd.F N)
def yd.k2 (N : Nat) : Ex -> S -> Option Int := seqK (fun s => XCode.runK (yd.env N) N (yd.c2) s (XFunc.endK yd.x)) (XFunc.endK yd.x)
def yd.k1 (N : Nat) : Ex -> S -> Option Int := y7 0 (yd.k2 N)
def yd.L1 (N : Nat) (n1 : Nat) (key : Int) (t8 : yT) (t9 : Int) (t10 : Int) : Option Int := loopK [.keep [1, 8, 9, 10], .drop 0, .drop 1, .norm] (rK (yd.env N) N yd.c1) n1
 { t := jK 21 [(1, .one (.int .i64 key)), (8, .one (.sl false zAY t8)), (9, .one (.int .i64 t9)), (10, .one (.int .i64 t10))], h := [.absent 0, .absent 0] }
 (yd.k1 N)
theorem yd.L1_eq (N : Nat) (n1 : Nat) (key : Int) (t8 : yT) (t9 : Int) (t10 : Int) : yd.L1 N (n1 + 1) key t8 t9 t10 =
bif decide (t10 < t9) then
bif zG t10 (t8.length) then
bif ((nth (0, (0, (0, (0, 0)))) t8 t10).1) == key then
some t10
else
yd.L1 N n1 key t8 t9 (IntKind.wrap .i64 (t10 + 1))
else none
else
some (-1 : Int) := by kernel_rfl
theorem yd.F_eq (N : Nat) (e : (Int × List yZ) × (List zAZ) × Int × yT × Int × Bool) (key : Int) : yd.F N (e, key) =
yd.L1 N N key e.2.2.2.1 (List.length e.2.2.2.1 : Int) 0 := by kernel_rfl
def zAL.x : XFunc := xF 5 1 [.val false 1] [none] [.tmp 2 false 1] [.own 2] true (.list (.int .i64)) (.list (.int .i64)) <| .seq (rG [op 2 .move [.const (.one (.nil))]]) (.seq (rG [mv 3 0, ow 4 (.append false 0 2 (.int .i64)) [.const (.one (.nil)), .slot 3] [0] [0], mv 2 4]) (.ret))
def zAL.env (_ : Nat) : Env := envOf (tbl [] noFS)
def zAL.F (N : Nat) (x : List Int) : Option (List Int) := XFunc.run zAL.x (zAL.env N) N x
def zAL.fs (N : Nat) : FS := fS zAL.x true (zAL.F N)
theorem zAL.F_eq (N : Nat) (l_ : List Int) : zAL.F N l_ =
bif decide (l_.length <= maxN) then
some l_
else none := by kernel_rfl
end Go.Kb
