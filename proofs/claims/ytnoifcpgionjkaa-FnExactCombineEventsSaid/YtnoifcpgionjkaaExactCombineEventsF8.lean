/- The texts of functions, printed by a program, and the equations of their runs. -/
import Derived.Test.YtnoifcpgionjkaaExactCombineEventsF1
import Derived.Test.YtnoifcpgionjkaaExactCombineEventsF2
import Derived.Test.YtnoifcpgionjkaaExactCombineEventsF3
import Derived.Test.YtnoifcpgionjkaaExactCombineEventsF4
import Derived.Test.YtnoifcpgionjkaaExactCombineEventsF5
import Derived.Test.YtnoifcpgionjkaaExactCombineEventsF6
import Derived.Test.YtnoifcpgionjkaaExactCombineEventsF7
import Derived.KernelRfl
namespace Go.Kb
def laws_toCombiner2.x : XFunc := { nslots := 29, nobj := 6, pars := [.val true 7], rowsIn := [none, none, none, none, none, none, none], rets := [.var 2 true 7], outs := [.own 3, .imm, .own 4, .imm, .imm, .imm, .own 5], fresh := true, arg := .pair (.list (.pair (.int .i64) (.int .i64))) (.pair (.int .i64) (.pair (.list (.pair (.int .i64) (.pair (.int .i64) (.bool)))) (.pair (.int .i64) (.pair (.int .i64) (.pair (.int .i64) (.list (.pair (.int .i64) (.pair (.int .i64) (.bool))))))))), ret := .pair (.list (.pair (.int .i64) (.int .i64))) (.pair (.int .i64) (.pair (.list (.pair (.int .i64) (.pair (.int .i64) (.bool)))) (.pair (.int .i64) (.pair (.int .i64) (.pair (.int .i64) (.list (.pair (.int .i64) (.pair (.int .i64) (.bool))))))))), body := .seq (.region false [ow 1 (.box 0) [.slot 0] [0] [0], ow 2 (.alloc 1 [.nil, .int .i64 (0 : Int), .nil, .int .i64 (0 : Int), .int .i64 (0 : Int), .int .i64 (0 : Int), .nil]) [] [1] [1]]) (.seq (.region false [ow 3 (.alloc 2 [.nil, .int .i64 (0 : Int), .nil, .int .i64 (0 : Int), .int .i64 (0 : Int), .int .i64 (0 : Int), .nil]) [] [2] [2]]) (.seq (.region false [o1 4 (.fieldAddr 0) 1, ow 5 (.load false 1) [.slot 4] [0] [], ow 6 (.call ⟨127, vs 1, no 1, [.val false 1], [.own 3 3], true⟩) [.slot 5] [3] [3], o1 7 (.fieldAddr 0) 3, on (.store 1) [.slot 7, .slot 6] [2] [2]]) (.seq (.region false [o1 8 (.fieldAddr 1) 1, ow 9 (.load false 1) [.slot 8] [0] [], o1 10 (.fieldAddr 1) 3, on (.store 1) [.slot 10, .slot 9] [2] [2]]) (.seq (.region false [o1 11 (.fieldAddr 2) 1, ow 12 (.load false 1) [.slot 11] [0] [], ow 13 (.call ⟨129, vs 1, no 1, [.val false 1], [.own 4 4], true⟩) [.slot 12] [4] [4], o1 14 (.fieldAddr 2) 3, on (.store 1) [.slot 14, .slot 13] [2] [2]]) (.seq (.region false [o1 15 (.fieldAddr 3) 1, ow 16 (.load false 1) [.slot 15] [0] [], o1 17 (.fieldAddr 3) 3, on (.store 1) [.slot 17, .slot 16] [2] [2]]) (.seq (.region false [o1 18 (.fieldAddr 4) 1, ow 19 (.load false 1) [.slot 18] [0] [], o1 20 (.fieldAddr 4) 3, on (.store 1) [.slot 20, .slot 19] [2] [2]]) (.seq (.region false [o1 21 (.fieldAddr 5) 1, ow 22 (.load false 1) [.slot 21] [0] [], o1 23 (.fieldAddr 5) 3, on (.store 1) [.slot 23, .slot 22] [2] [2]]) (.seq (.region false [o1 24 (.fieldAddr 6) 1, ow 25 (.load false 1) [.slot 24] [0] [], ow 26 (.call ⟨131, vs 1, no 1, [.val false 1], [.own 5 5], true⟩) [.slot 25] [5] [5], o1 27 (.fieldAddr 6) 3, on (.store 1) [.slot 27, .slot 26] [2] [2]]) (.seq (.region false [ow 28 (.load true 7) [.slot 3] [2] [], on (.store 7) [.slot 2, .slot 28] [1] [1]]) (.ret)))))))))) }
def laws_toCombiner2.env (N : Nat) : Env := envOf (tbl [(131, laws_toActiveS.fs N), (127, laws_toComboS.fs N), (129, laws_toEventS.fs N)] noFS)
def laws_toCombiner2.F (N : Nat) (x : (List (Int × Int)) × Int × (List (Int × Int × Bool)) × Int × Int × Int × List (Int × Int × Bool)) : Option ((List (Int × Int)) × Int × (List (Int × Int × Bool)) × Int × Int × Int × List (Int × Int × Bool)) := XFunc.run laws_toCombiner2.x (laws_toCombiner2.env N) N x
def laws_toCombiner2.fs (N : Nat) : FS := { arg := .pair (.list (.pair (.int .i64) (.int .i64))) (.pair (.int .i64) (.pair (.list (.pair (.int .i64) (.pair (.int .i64) (.bool)))) (.pair (.int .i64) (.pair (.int .i64) (.pair (.int .i64) (.list (.pair (.int .i64) (.pair (.int .i64) (.bool))))))))), ret := .pair (.list (.pair (.int .i64) (.int .i64))) (.pair (.int .i64) (.pair (.list (.pair (.int .i64) (.pair (.int .i64) (.bool)))) (.pair (.int .i64) (.pair (.int .i64) (.pair (.int .i64) (.list (.pair (.int .i64) (.pair (.int .i64) (.bool))))))))), fresh := true, F := laws_toCombiner2.F N }

theorem laws_toCombiner2.F_eq (N : Nat) (a : (List (Int × Int)) × Int × (List (Int × Int × Bool)) × Int × Int × Int × List (Int × Int × Bool)) : laws_toCombiner2.F N a =
    bindO (laws_toComboS.F N a.1) fun r1 =>
    bindO (laws_toEventS.F N a.2.2.1) fun r2 =>
    bindO (laws_toActiveS.F N a.2.2.2.2.2.2) fun r3 =>
    some (r1, (a.2.1, (r2, (a.2.2.2.1, (a.2.2.2.2.1, (a.2.2.2.2.2.1, r3)))))) := by kernel_rfl

def laws_FnExactCombineEvents.x : XFunc := { nslots := 161, nobj := 13, pars := [.val true 7, .val false 1, .val false 1], rowsIn := [none, none, none, none, none, none, none, none, none], rets := [.tmp 6 false 1], outs := [.imm], fresh := true, arg := .pair (.pair (.list (.pair (.int .i64) (.int .i64))) (.pair (.int .i64) (.pair (.list (.pair (.int .i64) (.pair (.int .i64) (.bool)))) (.pair (.int .i64) (.pair (.int .i64) (.pair (.int .i64) (.list (.pair (.int .i64) (.pair (.int .i64) (.bool)))))))))) (.pair (.list (.pair (.int .i64) (.pair (.int .i64) (.bool)))) (.int .i64)), ret := .bool, body := .seq (.region false [ow 3 (.box 0) [.slot 0] [0] [0], op 6 .move [.const (.one (.bool false))]]) (.seq (.region false [op 7 .move [.const (.one (.int .i64 (1048576 : Int)))]]) (.seq (.region false [ow 22 (.load true 7) [.slot 3] [0] [], mv 23 7, o2 24 (.call ⟨125, [.val true 7, .val false 1], no 8, [.val false 1], ims 1, true⟩) 22 23, mv 7 24]) (.seq (.seq (.region false [mv 25 7, op 26 (.bin .lss) [.slot 25, .const (.one (.int .i64 (0 : Int)))]]) (.cond (.slot 26) (.seq (.region false [op 6 .move [.const (.one (.bool true))]]) (.ret)) (.skip))) (.seq (.region false [mv 27 1, mv 28 7, o2 29 (.call ⟨123, vs 2, no 2, [.val false 1], ims 1, true⟩) 27 28, mv 7 29]) (.seq (.seq (.region false [mv 30 7, op 31 (.bin .lss) [.slot 30, .const (.one (.int .i64 (0 : Int)))]]) (.cond (.slot 31) (.seq (.region false [op 6 .move [.const (.one (.bool true))]]) (.ret)) (.skip))) (.seq (.region false [ow 33 (.load true 7) [.slot 3] [0] [], o1 34 (.call ⟨132, [.val true 7], no 7, [.val true 7], ims 7, true⟩) 33, mv 35 1, o1 36 (.call ⟨129, vs 1, no 1, [.val false 1], ims 1, true⟩) 35, mv 37 2, op 38 (.call ⟨55, [.val true 7, .val false 1, .val false 1], no 9, [.val true 7, .val false 1, .val false 1], ims 9, false⟩) [.slot 34, .slot 36, .slot 37], mv 32 38, o1 39 (.extract 0) 32, o1 40 (.extract 1) 32, o1 41 (.extract 2) 32, ow 8 (.alloc 1 [.nil, .int .i64 (0 : Int), .nil, .int .i64 (0 : Int), .int .i64 (0 : Int), .int .i64 (0 : Int), .nil]) [] [1] [1], on (.store 7) [.slot 8, .slot 39] [1] [1], mv 9 40, mv 10 41]) (.seq (.region false [ow 42 (.load true 7) [.slot 3] [0] [], ow 43 (.call ⟨132, [.val true 7], no 7, [.val true 7], [.own 4 3, .imm, .own 5 4, .imm, .imm, .imm, .own 6 5], true⟩) [.slot 42] [4, 5, 6] [4, 5, 6], ow 11 (.alloc 2 [.nil, .int .i64 (0 : Int), .nil, .int .i64 (0 : Int), .int .i64 (0 : Int), .int .i64 (0 : Int), .nil]) [] [2] [2], on (.store 7) [.slot 11, .slot 43] [2] [2]]) (.seq (.region false [mv 44 1, ow 45 (.call ⟨129, vs 1, no 1, [.val false 1], [.own 7 4], true⟩) [.slot 44] [7] [7], mv 12 45]) (.seq (.region false [ow 47 (.load true 7) [.slot 11] [2] [], mv 48 12, mv 49 2, ow 50 (.call ⟨80, [.val true 7, .val false 1, .val false 1], no 9, [.val true 7, .val false 1, .val false 1], [.own 8 3, .imm, .own 9 4, .imm, .imm, .imm, .own 10 5, .own 11 4, .imm], true⟩) [.slot 47, .slot 48, .slot 49] [4, 5, 6, 7, 8, 9, 10, 11] [8, 9, 10, 11], mv 46 50, o1 51 (.extract 0) 46, o1 52 (.extract 1) 46, o1 53 (.extract 2) 46, ow 13 (.alloc 3 [.nil, .int .i64 (0 : Int), .nil, .int .i64 (0 : Int), .int .i64 (0 : Int), .int .i64 (0 : Int), .nil]) [] [3] [3], on (.store 7) [.slot 13, .slot 51] [3] [3], mv 14 52, mv 15 53]) (.seq (.seq (.region false [ow 54 (.load true 7) [.slot 13] [3] [], ow 55 (.load true 7) [.slot 8] [1] [], ow 56 (.call ⟨139, [.val true 7, .val true 7], no 14, [.val false 1], ims 1, true⟩) [.slot 54, .slot 55] [8, 9, 10] [], o1 57 .not 56, ⟨some 58, .move, [.slot 57], [], [], none, true⟩, ⟨some 59, .move, [.slot 14], [], [], some (58, false), false⟩, ⟨some 60, .move, [.slot 9], [], [], some (58, false), false⟩, ⟨some 61, .call ⟨136, vs 2, no 2, [.val false 1], ims 1, true⟩, [.slot 59, .slot 60], [11], [], some (58, false), false⟩, ⟨some 62, .not, [.slot 61], [], [], some (58, false), false⟩, op 63 .pick [.slot 58, .const (.one (.bool true)), .slot 62], ⟨some 64, .move, [.slot 63], [], [], none, true⟩, ⟨some 65, .move, [.slot 15], [], [], some (64, false), false⟩, ⟨some 66, .move, [.slot 10], [], [], some (64, false), false⟩, ⟨some 67, .eqBool true, [.slot 65, .slot 66], [], [], some (64, false), false⟩, op 68 .pick [.slot 64, .const (.one (.bool true)), .slot 67]]) (.cond (.slot 68) (.seq (.region false [op 6 .move [.const (.one (.bool false))]]) (.ret)) (.skip))) (.seq (.seq (.region true [ow 69 (.load true 7) [.slot 11] [2] [], ow 70 (.load true 7) [.slot 3] [0] [], o1 71 (.call ⟨132, [.val true 7], no 7, [.val true 7], ims 7, true⟩) 70, ow 72 (.call ⟨139, [.val true 7, .val true 7], no 14, [.val false 1], ims 1, true⟩) [.slot 69, .slot 71] [4, 5, 6] [], o1 73 .not 72]) (.cond (.slot 73) (.seq (.region false [op 6 .move [.const (.one (.bool false))]]) (.ret)) (.skip))) (.seq (.seq (.region false [mv 74 12, mv 75 1, o1 76 (.call ⟨129, vs 1, no 1, [.val false 1], ims 1, true⟩) 75, ow 77 (.call ⟨136, vs 2, no 2, [.val false 1], ims 1, true⟩) [.slot 74, .slot 76] [7] [], o1 78 .not 77]) (.cond (.slot 78) (.seq (.region false [op 6 .move [.const (.one (.bool false))]]) (.ret)) (.skip))) (.seq (.region false [op 16 .move [.const (.one (.int .i64 (1 : Int)))]]) (.seq (.region false [ow 79 (.load true 7) [.slot 11] [2] [], mv 80 16, ow 81 (.call ⟨143, [.val true 7, .val false 1], [some (4, 3), none, some (5, 4), none, none, none, some (6, 5), none], [.val false 1], [.imm, .back 4, .back 5, .back 6], false⟩) [.slot 79, .slot 80] [4, 5, 6] [4, 5, 6], mv 16 81]) (.seq (.region false [mv 82 12, mv 83 16, ow 84 (.call ⟨141, vs 2, [some (7, 4), none], [.val false 1], [.imm, .back 7], false⟩) [.slot 82, .slot 83] [7] [7], mv 16 84]) (.seq (.seq (.region false [mv 85 16, op 86 (.bin .lss) [.slot 85, .const (.one (.int .i64 (0 : Int)))], ⟨some 87, .move, [.slot 86], [], [], none, true⟩, ⟨some 88, .load true 7, [.slot 13], [3], [], some (87, false), false⟩, ⟨some 89, .load true 7, [.slot 8], [1], [], some (87, false), false⟩, ⟨some 90, .call ⟨139, [.val true 7, .val true 7], no 14, [.val false 1], ims 1, true⟩, [.slot 88, .slot 89], [8, 9, 10], [], some (87, false), false⟩, ⟨some 91, .not, [.slot 90], [], [], some (87, false), false⟩, op 92 .pick [.slot 87, .const (.one (.bool true)), .slot 91], ⟨some 93, .move, [.slot 92], [], [], none, true⟩, ⟨some 94, .move, [.slot 14], [], [], some (93, false), false⟩, ⟨some 95, .move, [.slot 9], [], [], some (93, false), false⟩, ⟨some 96, .call ⟨136, vs 2, no 2, [.val false 1], ims 1, true⟩, [.slot 94, .slot 95], [11], [], some (93, false), false⟩, ⟨some 97, .not, [.slot 96], [], [], some (93, false), false⟩, op 98 .pick [.slot 93, .const (.one (.bool true)), .slot 97], ⟨some 99, .move, [.slot 98], [], [], none, true⟩, ⟨some 100, .move, [.slot 15], [], [], some (99, false), false⟩, ⟨some 101, .move, [.slot 10], [], [], some (99, false), false⟩, ⟨some 102, .eqBool true, [.slot 100, .slot 101], [], [], some (99, false), false⟩, op 103 .pick [.slot 99, .const (.one (.bool true)), .slot 102]]) (.cond (.slot 103) (.seq (.region false [op 6 .move [.const (.one (.bool false))]]) (.ret)) (.skip))) (.seq (.region false [op 17 .move [.const (.one (.int .i64 (1 : Int)))]]) (.seq (.region false [ow 104 (.load true 7) [.slot 13] [3] [], mv 105 17, ow 106 (.call ⟨143, [.val true 7, .val false 1], [some (8, 3), none, some (9, 4), none, none, none, some (10, 5), none], [.val false 1], [.imm, .back 8, .back 9, .back 10], false⟩) [.slot 104, .slot 105] [8, 9, 10] [8, 9, 10], mv 17 106]) (.seq (.region false [mv 107 14, mv 108 17, ow 109 (.call ⟨141, vs 2, [some (11, 4), none], [.val false 1], [.imm, .back 11], false⟩) [.slot 107, .slot 108] [11] [11], mv 17 109]) (.seq (.region false [op 18 .move [.const (.one (.int .i64 (1 : Int)))]]) (.seq (.region false [ow 110 (.load true 7) [.slot 13] [3] [], mv 111 18, ow 112 (.call ⟨147, [.val true 7, .val false 1], no 8, [.val false 1], ims 1, true⟩) [.slot 110, .slot 111] [8, 9, 10] [], mv 18 112]) (.seq (.seq (.region false [mv 113 18, op 114 (.bin .lss) [.slot 113, .const (.one (.int .i64 (0 : Int)))]]) (.cond (.slot 114) (.seq (.region false [op 6 .move [.const (.one (.bool false))]]) (.ret)) (.skip))) (.seq (.region false [mv 115 14, mv 116 18, ow 117 (.call ⟨145, vs 2, no 2, [.val false 1], ims 1, true⟩) [.slot 115, .slot 116] [11] [], mv 18 117]) (.seq (.seq (.region false [mv 118 18, op 119 (.bin .lss) [.slot 118, .const (.one (.int .i64 (0 : Int)))]]) (.cond (.slot 119) (.seq (.region false [op 6 .move [.const (.one (.bool false))]]) (.ret)) (.skip))) (.seq (.seq (.region false [mv 120 18, mv 121 17, o2 122 (.bin .neq) 120 121]) (.cond (.slot 122) (.seq (.region false [op 6 .move [.const (.one (.bool false))]]) (.ret)) (.skip))) (.seq (.region false [ow 124 (.load true 7) [.slot 3] [0] [], o1 125 (.call ⟨132, [.val true 7], no 7, [.val true 7], ims 7, true⟩) 124, mv 126 1, o1 127 (.call ⟨129, vs 1, no 1, [.val false 1], ims 1, true⟩) 126, mv 128 2, op 129 (.call ⟨80, [.val true 7, .val false 1, .val false 1], no 9, [.val true 7, .val false 1, .val false 1], ims 9, true⟩) [.slot 125, .slot 127, .slot 128], mv 123 129, o1 130 (.extract 0) 123, o1 131 (.extract 1) 123, o1 132 (.extract 2) 123, ow 19 (.alloc 12 [.nil, .int .i64 (0 : Int), .nil, .int .i64 (0 : Int), .int .i64 (0 : Int), .int .i64 (0 : Int), .nil]) [] [12] [12], on (.store 7) [.slot 19, .slot 130] [12] [12], mv 20 131, mv 21 132]) (.seq (.seq (.region false [ow 133 (.load true 7) [.slot 19] [12] [], ow 134 (.load true 7) [.slot 8] [1] [], o2 135 (.call ⟨139, [.val true 7, .val true 7], no 14, [.val false 1], ims 1, true⟩) 133 134, o1 136 .not 135, ⟨some 137, .move, [.slot 136], [], [], none, true⟩, ⟨some 138, .move, [.slot 20], [], [], some (137, false), false⟩, ⟨some 139, .move, [.slot 9], [], [], some (137, false), false⟩, ⟨some 140, .call ⟨136, vs 2, no 2, [.val false 1], ims 1, true⟩, [.slot 138, .slot 139], [], [], some (137, false), false⟩, ⟨some 141, .not, [.slot 140], [], [], some (137, false), false⟩, op 142 .pick [.slot 137, .const (.one (.bool true)), .slot 141], ⟨some 143, .move, [.slot 142], [], [], none, true⟩, ⟨some 144, .move, [.slot 21], [], [], some (143, false), false⟩, ⟨some 145, .move, [.slot 10], [], [], some (143, false), false⟩, ⟨some 146, .eqBool true, [.slot 144, .slot 145], [], [], some (143, false), false⟩, op 147 .pick [.slot 143, .const (.one (.bool true)), .slot 146]]) (.cond (.slot 147) (.seq (.region false [op 6 .move [.const (.one (.bool false))]]) (.ret)) (.skip))) (.seq (.region false [op 18 .move [.const (.one (.int .i64 (1 : Int)))]]) (.seq (.region false [ow 148 (.load true 7) [.slot 13] [3] [], mv 149 18, ow 150 (.call ⟨147, [.val true 7, .val false 1], no 8, [.val false 1], ims 1, true⟩) [.slot 148, .slot 149] [8, 9, 10] [], mv 18 150]) (.seq (.seq (.region false [mv 151 18, op 152 (.bin .lss) [.slot 151, .const (.one (.int .i64 (0 : Int)))]]) (.cond (.slot 152) (.seq (.region false [op 6 .move [.const (.one (.bool false))]]) (.ret)) (.skip))) (.seq (.region false [mv 153 14, mv 154 18, ow 155 (.call ⟨145, vs 2, no 2, [.val false 1], ims 1, true⟩) [.slot 153, .slot 154] [11] [], mv 18 155]) (.seq (.seq (.region false [mv 156 18, op 157 (.bin .lss) [.slot 156, .const (.one (.int .i64 (0 : Int)))]]) (.cond (.slot 157) (.seq (.region false [op 6 .move [.const (.one (.bool false))]]) (.ret)) (.skip))) (.seq (.seq (.region false [mv 158 18, mv 159 17, o2 160 (.bin .neq) 158 159]) (.cond (.slot 160) (.seq (.region false [op 6 .move [.const (.one (.bool false))]]) (.ret)) (.skip))) (.seq (.region false [op 6 .move [.const (.one (.bool true))]]) (.ret))))))))))))))))))))))))))))))))))) }
def laws_FnExactCombineEvents.env (N : Nat) : Env := envOf (tbl [(80, impl_CombineEvents.fs N), (139, laws_eqCombiner.fs N), (136, laws_eqEventS.fs N), (147, laws_heldCombiner.fs N), (145, laws_heldEventS.fs N), (143, laws_markCombiner.fs N), (141, laws_markEventS.fs N), (125, laws_szCombiner.fs N), (123, laws_szEventS.fs N), (132, laws_toCombiner2.fs N), (129, laws_toEventS.fs N), (55, spec_CombineEvents.fs N)] noFS)
def laws_FnExactCombineEvents.F (N : Nat) (x : ((List (Int × Int)) × Int × (List (Int × Int × Bool)) × Int × Int × Int × List (Int × Int × Bool)) × (List (Int × Int × Bool)) × Int) : Option Bool := XFunc.run laws_FnExactCombineEvents.x (laws_FnExactCombineEvents.env N) N x
def laws_FnExactCombineEvents.fs (N : Nat) : FS := { arg := .pair (.pair (.list (.pair (.int .i64) (.int .i64))) (.pair (.int .i64) (.pair (.list (.pair (.int .i64) (.pair (.int .i64) (.bool)))) (.pair (.int .i64) (.pair (.int .i64) (.pair (.int .i64) (.list (.pair (.int .i64) (.pair (.int .i64) (.bool)))))))))) (.pair (.list (.pair (.int .i64) (.pair (.int .i64) (.bool)))) (.int .i64)), ret := .bool, fresh := true, F := laws_FnExactCombineEvents.F N }

theorem laws_FnExactCombineEvents.F_eq (N : Nat) (aC : (List (Int × Int)) × Int × (List (Int × Int × Bool)) × Int × Int × Int × List (Int × Int × Bool)) (aL : List (Int × Int × Bool)) (aEnd : Int) : laws_FnExactCombineEvents.F N (aC, aL, aEnd) =
    bindO (laws_szCombiner.F N (aC, (1048576 : Int))) fun r1 =>
    bif decide (r1 < (0 : Int)) then
      some true
    else
      bindO (laws_szEventS.F N (aL, r1)) fun r2 =>
      bif decide (r2 < (0 : Int)) then
        some true
      else
        bindO (laws_toCombiner2.F N aC) fun r3 =>
        bindO (laws_toEventS.F N aL) fun r4 =>
        bindO (spec_CombineEvents.F N (r3, (r4, aEnd))) fun r5 =>
        bindO (laws_toCombiner2.F N aC) fun r6 =>
        bindO (laws_toEventS.F N aL) fun r7 =>
        bindO (impl_CombineEvents.F N (r6, (r7, aEnd))) fun r8 =>
        bindO (laws_eqCombiner.F N (r8.1, r5.1)) fun r9 =>
        bif !r9 then
          some false
        else
          bindO (laws_eqEventS.F N (r8.2.1, r5.2.1)) fun r10 =>
          bif !r10 then
            some false
          else
            bif r8.2.2 != r5.2.2 then
              some false
            else
              bindO (laws_toCombiner2.F N aC) fun r11 =>
              bindO (laws_eqCombiner.F N (r6, r11)) fun r12 =>
              bif !r12 then
                some false
              else
                bindO (laws_toEventS.F N aL) fun r13 =>
                bindO (laws_eqEventS.F N (r7, r13)) fun r14 =>
                bif !r14 then
                  some false
                else
                  bindO (laws_markCombiner.F N (r6, (1 : Int))) fun r15 =>
                  bindO (laws_markEventS.F N (r7, r15.1)) fun r16 =>
                  bif decide (r16.1 < (0 : Int)) then
                    some false
                  else
                    bindO (laws_eqCombiner.F N (r8.1, r5.1)) fun r17 =>
                    bif !r17 then
                      some false
                    else
                      bindO (laws_eqEventS.F N (r8.2.1, r5.2.1)) fun r18 =>
                      bif !r18 then
                        some false
                      else
                        bif r8.2.2 != r5.2.2 then
                          some false
                        else
                          bindO (laws_markCombiner.F N (r8.1, (1 : Int))) fun r19 =>
                          bindO (laws_markEventS.F N (r8.2.1, r19.1)) fun r20 =>
                          bindO (laws_heldCombiner.F N ((r19.2.1, (r8.1.2.1, (r19.2.2.1, (r8.1.2.2.2.1, (r8.1.2.2.2.2.1, (r8.1.2.2.2.2.2.1, r19.2.2.2)))))), (1 : Int))) fun r21 =>
                          bif decide (r21 < (0 : Int)) then
                            some false
                          else
                            bindO (laws_heldEventS.F N (r20.2, r21)) fun r22 =>
                            bif decide (r22 < (0 : Int)) then
                              some false
                            else
                              bif r22 != r20.1 then
                                some false
                              else
                                bindO (laws_toCombiner2.F N aC) fun r23 =>
                                bindO (laws_toEventS.F N aL) fun r24 =>
                                bindO (impl_CombineEvents.F N (r23, (r24, aEnd))) fun r25 =>
                                bindO (laws_eqCombiner.F N (r25.1, r5.1)) fun r26 =>
                                bif !r26 then
                                  some false
                                else
                                  bindO (laws_eqEventS.F N (r25.2.1, r5.2.1)) fun r27 =>
                                  bif !r27 then
                                    some false
                                  else
                                    bif r25.2.2 != r5.2.2 then
                                      some false
                                    else
                                      bindO (laws_heldCombiner.F N ((r19.2.1, (r8.1.2.1, (r19.2.2.1, (r8.1.2.2.2.1, (r8.1.2.2.2.2.1, (r8.1.2.2.2.2.2.1, r19.2.2.2)))))), (1 : Int))) fun r28 =>
                                      bif decide (r28 < (0 : Int)) then
                                        some false
                                      else
                                        bindO (laws_heldEventS.F N (r20.2, r28)) fun r29 =>
                                        bif decide (r29 < (0 : Int)) then
                                          some false
                                        else
                                          bif r29 != r20.1 then
                                            some false
                                          else
                                            some true := by kernel_rfl

end Go.Kb
