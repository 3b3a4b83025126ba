/- The texts of functions, printed by a program, and the equations of their runs. -/
import Derived.Test.YtnoifcpgionjkaaComboEventsF1
import Derived.Test.YtnoifcpgionjkaaComboEventsF2
import Derived.Test.YtnoifcpgionjkaaComboEventsF3
import Derived.Test.YtnoifcpgionjkaaComboEventsF4
import Derived.Test.YtnoifcpgionjkaaComboEventsF5
import Derived.Test.YtnoifcpgionjkaaComboEventsF6
import Derived.KernelRfl
namespace Go.Kb
def impl_IsEvents.x : XFunc := { nslots := 11, nobj := 0, pars := [.val false 1], rowsIn := [none], rets := [.tmp 2 false 1], outs := [.imm], fresh := true, arg := .list (.pair (.int .i64) (.pair (.int .i64) (.bool))), ret := .bool, body := .seq (.region false [op 2 .move [.const (.one (.bool false))]]) (.seq (.region false [mv 6 0, op 7 (.call ⟨69, vs 2, no 2, [.val false 1, .val false 1], ims 2, true⟩) [.slot 6, .const (.one (.int .i64 (0 : Int)))], mv 5 7, o1 8 (.extract 0) 5, o1 9 (.extract 1) 5, mv 3 8, mv 4 9]) (.seq (.region false [mv 10 4, mv 2 10]) (.ret))) }
def impl_IsEvents.env (N : Nat) : Env := envOf (tbl [(69, impl_follow.fs N)] noFS)
def impl_IsEvents.F (N : Nat) (x : List (Int × Int × Bool)) : Option Bool := XFunc.run impl_IsEvents.x (impl_IsEvents.env N) N x
def impl_IsEvents.fs (N : Nat) : FS := { arg := .list (.pair (.int .i64) (.pair (.int .i64) (.bool))), ret := .bool, fresh := true, F := impl_IsEvents.F N }

theorem impl_IsEvents.F_eq (N : Nat) (l_ : List (Int × Int × Bool)) : impl_IsEvents.F N l_ =
    bindO (impl_follow.F N (l_, (0 : Int))) fun r1 =>
    some r1.2 := by kernel_rfl

def impl_eventsBetween.c1 : XCode := .seq (.seq (.region false [mv 9 8, op 10 (.bin .leq) [.slot 9, .const (.one (.int .i64 (31 : Int)))]]) (.cond (.slot 10) (.skip) (.exit 0))) (.seq (.block 1 (.seq (.region false [mv 13 0, mv 14 8, o2 15 (.call ⟨65, vs 2, no 2, [.val false 1], ims 1, true⟩) 13 14, mv 16 1, mv 17 8, o2 18 (.call ⟨65, vs 2, no 2, [.val false 1], ims 1, true⟩) 16 17, o2 19 (.bin .neq) 15 18]) (.cond (.slot 19) (.region false [mv 20 7, mv 21 2, mv 22 8, mv 23 1, mv 24 8, o2 25 (.call ⟨65, vs 2, no 2, [.val false 1], ims 1, true⟩) 23 24, op 26 (.bin .eql) [.slot 25, .const (.one (.int .i64 (1 : Int)))], op 27 (.build [.int .i64 (0 : Int), .int .i64 (0 : Int), .bool false] [(0, 1), (1, 1), (2, 1)]) [.slot 21, .slot 22, .slot 26], ow 28 (.buildSlice false 0 4 (.pair (.int .i64) (.pair (.int .i64) (.bool))) 1 [(0, 3)] [.int .i64 (0 : Int), .int .i64 (0 : Int), .bool false]) [.slot 27] [0] [0], ow 29 (.append false 1 4 (.pair (.int .i64) (.pair (.int .i64) (.bool)))) [.slot 20, .slot 28] [0, 1] [1], mv 7 29]) (.skip)))) (.region false [mv 11 8, op 12 (.bin .add) [.slot 11, .const (.one (.int .i64 (1 : Int)))], mv 8 12]))
def impl_eventsBetween.c2 : XCode := .seq (.region false [mv 30 7, mv 6 30]) (.ret)
def impl_eventsBetween.x : XFunc := { nslots := 31, nobj := 2, pars := [.val false 1, .val false 1, .val false 1], rowsIn := [none, none, none], rets := [.tmp 6 false 1], outs := [.own 4], fresh := true, arg := .pair (.int .i64) (.pair (.int .i64) (.int .i64)), ret := .list (.pair (.int .i64) (.pair (.int .i64) (.bool))), body := .seq (.region false [op 6 .move [.const (.one (.nil))]]) (.seq (.region false [op 7 .move [.const (.one (.nil))]]) (.seq (.seq (.region false [op 8 .move [.const (.one (.int .i64 (0 : Int)))]]) (.block 0 (.loop [.mkrow (.slot 7) 1 4 (.pair (.int .i64) (.pair (.int .i64) (.bool))), .keep [0, 1, 2, 7, 8], .drop 0, .norm] (impl_eventsBetween.c1)))) (impl_eventsBetween.c2))) }
def impl_eventsBetween.env (N : Nat) : Env := envOf (tbl [(65, impl_bit.fs N)] noFS)
def impl_eventsBetween.F (N : Nat) (x : Int × Int × Int) : Option (List (Int × Int × Bool)) := XFunc.run impl_eventsBetween.x (impl_eventsBetween.env N) N x
def impl_eventsBetween.fs (N : Nat) : FS := { arg := .pair (.int .i64) (.pair (.int .i64) (.int .i64)), ret := .list (.pair (.int .i64) (.pair (.int .i64) (.bool))), fresh := true, F := impl_eventsBetween.F N }
def impl_eventsBetween.k2 (N : Nat) : Ex → S → Option (List (Int × Int × Bool)) := seqK (fun s => XCode.runK (impl_eventsBetween.env N) N (impl_eventsBetween.c2) s (XFunc.endK impl_eventsBetween.x)) (XFunc.endK impl_eventsBetween.x)
def impl_eventsBetween.k1 (N : Nat) : Ex → S → Option (List (Int × Int × Bool)) := blockK 0 (impl_eventsBetween.k2 N)
def impl_eventsBetween.L1 (N : Nat) (n1 : Nat) (last : Int) (mask : Int) (time : Int) (key : Int) (o1 : List (Int × Int × Bool)) : Option (List (Int × Int × Bool)) := loopK [.mkrow (.slot 7) 1 4 (.pair (.int .i64) (.pair (.int .i64) (.bool))), .keep [0, 1, 2, 7, 8], .drop 0, .norm] (fun s k => XCode.runK (impl_eventsBetween.env N) N impl_eventsBetween.c1 s k) n1
  { t := [.one (.int .i64 last), .one (.int .i64 mask), .one (.int .i64 time), .junk, .junk, .junk, .junk, .one (.ref 1 0 .all), .one (.int .i64 key), .junk, .junk, .junk, .junk, .junk, .junk, .junk, .junk, .junk, .junk, .junk, .junk, .junk, .junk, .junk, .junk, .junk, .junk, .junk, .junk, .junk, .junk], h := [.absent 0, .row 0 false true 4 (.pair (.int .i64) (.pair (.int .i64) (.bool))) o1] }
  (impl_eventsBetween.k1 N)

theorem impl_eventsBetween.L1_eq (N : Nat) (n1 : Nat) (last : Int) (mask : Int) (time : Int) (key : Int) (o1 : List (Int × Int × Bool)) : impl_eventsBetween.L1 N (n1 + 1) last mask time key o1 =
    bif decide (key ≤ (31 : Int)) then
      bindO (impl_bit.F N (last, key)) fun r1 =>
      bindO (impl_bit.F N (mask, key)) fun r2 =>
      bif r1 != r2 then
        bindO (impl_bit.F N (mask, key)) fun r3 =>
        bif decide (List.length o1 + List.length ([(time, (key, r3 == (1 : Int)))] : List (Int × Int × Bool)) ≤ maxN) then
        impl_eventsBetween.L1 N n1 last mask time (IntKind.wrap .i64 (key + (1 : Int))) (o1 ++ ([(time, (key, r3 == (1 : Int)))] : List (Int × Int × Bool)))
        else none
      else
        impl_eventsBetween.L1 N n1 last mask time (IntKind.wrap .i64 (key + (1 : Int))) o1
    else
      some o1 := by kernel_rfl
theorem impl_eventsBetween.F_eq (N : Nat) (last : Int) (mask : Int) (time : Int) : impl_eventsBetween.F N (last, mask, time) =
    impl_eventsBetween.L1 N N last mask time (0 : Int) ([] : List (Int × Int × Bool)) := by kernel_rfl

def impl_ReleaseAll.x : XFunc := { nslots := 45, nobj := 1, pars := [.val false 1, .val false 1], rowsIn := [none, none], rets := [.tmp 4 false 1, .tmp 5 false 1], outs := [.own 4, .imm], fresh := true, arg := .pair (.list (.pair (.int .i64) (.pair (.int .i64) (.bool)))) (.int .i64), ret := .pair (.list (.pair (.int .i64) (.pair (.int .i64) (.bool)))) (.bool), body := .seq (.region false [op 4 .move [.const (.one (.nil))], op 5 .move [.const (.one (.bool false))]]) (.seq (.seq (.region false [mv 7 0, o1 8 (.call ⟨231, vs 1, no 1, [.val false 1], ims 1, true⟩) 7, o1 9 .not 8, ⟨some 10, .move, [.slot 9], [], [], none, true⟩, ⟨some 11, .move, [.slot 1], [], [], some (10, false), false⟩, ⟨some 12, .bin .lss, [.slot 11, .const (.one (.int .i64 (0 : Int)))], [], [], some (10, false), false⟩, op 13 .pick [.slot 10, .const (.one (.bool true)), .slot 12], ⟨some 14, .move, [.slot 13], [], [], none, true⟩, ⟨some 15, .move, [.slot 1], [], [], some (14, false), false⟩, ⟨some 16, .bin .gtr, [.slot 15, .const (.one (.int .i64 (1000000 : Int)))], [], [], some (14, false), false⟩, op 17 .pick [.slot 14, .const (.one (.bool true)), .slot 16], ⟨some 18, .move, [.slot 17], [], [], none, true⟩, ⟨some 19, .move, [.slot 0], [], [], some (18, false), false⟩, ⟨some 20, .len, [.slot 19], [], [], some (18, false), false⟩, ⟨some 21, .bin .gtr, [.slot 20, .const (.one (.int .i64 (0 : Int)))], [], [], some (18, false), false⟩, ⟨some 22, .move, [.slot 21], [], [], some (18, false), true⟩, ⟨some 23, .move, [.slot 1], [], [], some (22, true), false⟩, ⟨some 24, .move, [.slot 0], [], [], some (22, true), false⟩, ⟨some 25, .move, [.slot 0], [], [], some (22, true), false⟩, ⟨some 26, .len, [.slot 25], [], [], some (22, true), false⟩, ⟨some 27, .bin .sub, [.slot 26, .const (.one (.int .i64 (1 : Int)))], [], [], some (22, true), false⟩, ⟨some 28, .indexAddr (.pair (.int .i64) (.pair (.int .i64) (.bool))), [.slot 24, .slot 27], [], [], some (22, true), false⟩, ⟨some 29, .fieldAddr 0, [.slot 28], [], [], some (22, true), false⟩, ⟨some 30, .load false 1, [.slot 29], [], [], some (22, true), false⟩, ⟨some 31, .bin .lss, [.slot 23, .slot 30], [], [], some (22, true), false⟩, ⟨some 32, .pick, [.slot 22, .slot 31, .const (.one (.bool false))], [], [], some (18, false), false⟩, op 33 .pick [.slot 18, .const (.one (.bool true)), .slot 32]]) (.cond (.slot 33) (.seq (.region false [op 4 .move [.const (.one (.nil))], op 5 .move [.const (.one (.bool false))]]) (.ret)) (.skip))) (.seq (.region false [mv 34 0, ow 35 (.append false 0 4 (.pair (.int .i64) (.pair (.int .i64) (.bool)))) [.const (.one (.nil)), .slot 34] [0] [0], mv 36 0, o1 37 (.call ⟨232, vs 1, no 1, [.val false 1], ims 1, true⟩) 36, mv 38 1, op 39 (.call ⟨233, vs 3, no 3, [.val false 1], ims 1, true⟩) [.slot 37, .const (.one (.int .i64 (0 : Int))), .slot 38], ow 40 (.append false 0 4 (.pair (.int .i64) (.pair (.int .i64) (.bool)))) [.slot 35, .slot 39] [0] [0], mv 6 40]) (.seq (.seq (.region false [mv 41 6, ow 42 (.call ⟨231, vs 1, no 1, [.val false 1], ims 1, true⟩) [.slot 41] [0] [], o1 43 .not 42]) (.cond (.slot 43) (.seq (.region false [op 4 .move [.const (.one (.nil))], op 5 .move [.const (.one (.bool false))]]) (.ret)) (.skip))) (.seq (.region false [mv 44 6, mv 4 44, op 5 .move [.const (.one (.bool true))]]) (.ret))))) }
def impl_ReleaseAll.env (N : Nat) : Env := envOf (tbl [(232, impl_HeldAfter.fs N), (231, impl_IsEvents.fs N), (233, impl_eventsBetween.fs N)] noFS)
def impl_ReleaseAll.F (N : Nat) (x : (List (Int × Int × Bool)) × Int) : Option ((List (Int × Int × Bool)) × Bool) := XFunc.run impl_ReleaseAll.x (impl_ReleaseAll.env N) N x
def impl_ReleaseAll.fs (N : Nat) : FS := { arg := .pair (.list (.pair (.int .i64) (.pair (.int .i64) (.bool)))) (.int .i64), ret := .pair (.list (.pair (.int .i64) (.pair (.int .i64) (.bool)))) (.bool), fresh := true, F := impl_ReleaseAll.F N }

theorem impl_ReleaseAll.F_eq (N : Nat) (l_ : List (Int × Int × Bool)) (time : Int) : impl_ReleaseAll.F N (l_, time) =
    bindO (impl_IsEvents.F N l_) fun r1 =>
    bif !r1 then
      some (([] : List (Int × Int × Bool)), false)
    else
      bif decide (time < (0 : Int)) then
        some (([] : List (Int × Int × Bool)), false)
      else
        bif decide (time > (1000000 : Int)) then
          some (([] : List (Int × Int × Bool)), false)
        else
          bif decide ((List.length l_ : Int) > (0 : Int)) then
            bif inRange (IntKind.wrap .i64 ((List.length l_ : Int) - (1 : Int))) (List.length l_) then
            bif decide (time < ((nth ((0 : Int), ((0 : Int), false)) l_ (IntKind.wrap .i64 ((List.length l_ : Int) - (1 : Int)))).1)) then
              some (([] : List (Int × Int × Bool)), false)
            else
              bif decide (List.length l_ ≤ maxN) then
              bindO (impl_HeldAfter.F N l_) fun r2 =>
              bindO (impl_eventsBetween.F N (r2, ((0 : Int), time))) fun r3 =>
              bif decide (List.length l_ + List.length r3 ≤ maxN) then
              bindO (impl_IsEvents.F N (l_ ++ r3)) fun r4 =>
              bif !r4 then
                some (([] : List (Int × Int × Bool)), false)
              else
                some (l_ ++ r3, true)
              else none
              else none
            else none
          else
            bif decide (List.length l_ ≤ maxN) then
            bindO (impl_HeldAfter.F N l_) fun r5 =>
            bindO (impl_eventsBetween.F N (r5, ((0 : Int), time))) fun r6 =>
            bif decide (List.length l_ + List.length r6 ≤ maxN) then
            bindO (impl_IsEvents.F N (l_ ++ r6)) fun r7 =>
            bif !r7 then
              some (([] : List (Int × Int × Bool)), false)
            else
              some (l_ ++ r6, true)
            else none
            else none := by kernel_rfl

def laws_FnComboEvents.c1 : XCode := .seq (.seq (.region false [mv 66 11, mv 67 9, o1 68 .len 67, o2 69 (.bin .lss) 66 68]) (.cond (.slot 69) (.skip) (.exit 0))) (.seq (.block 1 (.seq (.region false [mv 72 9, mv 73 11, o2 74 (.indexAddr (.pair (.int .i64) (.pair (.int .i64) (.bool)))) 72 73, o1 75 (.fieldAddr 0) 74, o1 76 (.load false 1) 75, mv 77 5, o2 78 (.bin .gtr) 76 77]) (.cond (.slot 78) (.seq (.region false [op 2 .move [.const (.one (.bool false))]]) (.ret)) (.skip)))) (.region false [mv 70 11, op 71 (.bin .add) [.slot 70, .const (.one (.int .i64 (1 : Int)))], mv 11 71]))
def laws_FnComboEvents.c2 : XCode := .seq (.region false [o1 79 (.fieldAddr 2) 8, ow 80 (.load false 1) [.slot 79] [1] [], o1 81 .len 80, op 82 (.bin .eql) [.slot 81, .const (.one (.int .i64 (0 : Int)))], ⟨some 83, .move, [.slot 82], [], [], none, true⟩, ⟨some 84, .fieldAddr 6, [.slot 8], [], [], some (83, true), false⟩, ⟨some 85, .load false 1, [.slot 84], [1], [], some (83, true), false⟩, ⟨some 86, .len, [.slot 85], [], [], some (83, true), false⟩, ⟨some 87, .bin .eql, [.slot 86, .const (.one (.int .i64 (0 : Int)))], [], [], some (83, true), false⟩, op 88 .pick [.slot 83, .slot 87, .const (.one (.bool false))], ⟨some 89, .move, [.slot 88], [], [], none, true⟩, ⟨some 90, .fieldAddr 5, [.slot 8], [], [], some (89, true), false⟩, ⟨some 91, .load false 1, [.slot 90], [1], [], some (89, true), false⟩, ⟨some 92, .bin .eql, [.slot 91, .const (.one (.int .i64 (0 : Int)))], [], [], some (89, true), false⟩, op 93 .pick [.slot 89, .slot 92, .const (.one (.bool false))], mv 2 93]) (.ret)
def laws_FnComboEvents.x : XFunc := { nslots := 94, nobj := 2, pars := [.val false 1], rowsIn := [none], rets := [.tmp 2 false 1], outs := [.imm], fresh := true, arg := .list (.int .u8), ret := .bool, body := .seq (.region false [op 2 .move [.const (.one (.bool false))]]) (.seq (.seq (.region false [mv 12 0, o1 13 (.call ⟨31, vs 1, no 1, [.val false 1], ims 1, true⟩) 12]) (.cond (.slot 13) (.seq (.region false [op 2 .move [.const (.one (.bool true))]]) (.ret)) (.skip))) (.seq (.region false [mv 15 0, o1 16 (.call ⟨230, vs 1, no 1, [.val true 7, .val false 1], ims 8, false⟩) 15, mv 14 16, o1 17 (.extract 0) 14, o1 18 (.extract 1) 14, ow 3 (.alloc 0 [.nil, .int .i64 (0 : Int), .nil, .int .i64 (0 : Int), .int .i64 (0 : Int), .int .i64 (0 : Int), .nil]) [] [0] [0], on (.store 7) [.slot 3, .slot 17] [0] [0], mv 4 18]) (.seq (.region false [op 5 .move [.const (.one (.int .i64 (0 : Int)))]]) (.seq (.seq (.region false [mv 19 4, o1 20 .len 19, op 21 (.bin .gtr) [.slot 20, .const (.one (.int .i64 (0 : Int)))]]) (.cond (.slot 21) (.region false [mv 22 4, mv 23 4, o1 24 .len 23, op 25 (.bin .sub) [.slot 24, .const (.one (.int .i64 (1 : Int)))], o2 26 (.indexAddr (.pair (.int .i64) (.pair (.int .i64) (.bool)))) 22 25, o1 27 (.fieldAddr 0) 26, o1 28 (.load false 1) 27, mv 5 28]) (.skip))) (.seq (.region false [mv 30 4, mv 31 5, o2 32 (.call ⟨234, vs 2, no 2, [.val false 1, .val false 1], ims 2, true⟩) 30 31, mv 29 32, o1 33 (.extract 0) 29, o1 34 (.extract 1) 29, mv 6 33, mv 7 34]) (.seq (.region false [ow 36 (.load true 7) [.slot 3] [0] [], mv 37 6, mv 38 5, op 39 (.call ⟨80, [.val true 7, .val false 1, .val false 1], no 9, [.val true 7, .val false 1, .val false 1], ims 9, true⟩) [.slot 36, .slot 37, .slot 38], mv 35 39, o1 40 (.extract 0) 35, o1 41 (.extract 1) 35, o1 42 (.extract 2) 35, ow 8 (.alloc 1 [.nil, .int .i64 (0 : Int), .nil, .int .i64 (0 : Int), .int .i64 (0 : Int), .int .i64 (0 : Int), .nil]) [] [1] [1], on (.store 7) [.slot 8, .slot 40] [1] [1], mv 9 41, mv 10 42]) (.seq (.seq (.region false [mv 43 7, o1 44 .not 43, ⟨some 45, .move, [.slot 44], [], [], none, true⟩, ⟨some 46, .move, [.slot 10], [], [], some (45, false), false⟩, ⟨some 47, .not, [.slot 46], [], [], some (45, false), false⟩, op 48 .pick [.slot 45, .const (.one (.bool true)), .slot 47], ⟨some 49, .move, [.slot 48], [], [], none, true⟩, ⟨some 50, .move, [.slot 9], [], [], some (49, false), false⟩, ⟨some 51, .call ⟨231, vs 1, no 1, [.val false 1], ims 1, true⟩, [.slot 50], [], [], some (49, false), false⟩, ⟨some 52, .not, [.slot 51], [], [], some (49, false), false⟩, op 53 .pick [.slot 49, .const (.one (.bool true)), .slot 52], ⟨some 54, .move, [.slot 53], [], [], none, true⟩, ⟨some 55, .move, [.slot 9], [], [], some (54, false), false⟩, ⟨some 56, .call ⟨232, vs 1, no 1, [.val false 1], ims 1, true⟩, [.slot 55], [], [], some (54, false), false⟩, ⟨some 57, .bin .neq, [.slot 56, .const (.one (.int .i64 (0 : Int)))], [], [], some (54, false), false⟩, op 58 .pick [.slot 54, .const (.one (.bool true)), .slot 57], ⟨some 59, .move, [.slot 58], [], [], none, true⟩, ⟨some 60, .move, [.slot 9], [], [], some (59, false), false⟩, ⟨some 61, .len, [.slot 60], [], [], some (59, false), false⟩, ⟨some 62, .move, [.slot 6], [], [], some (59, false), false⟩, ⟨some 63, .len, [.slot 62], [], [], some (59, false), false⟩, ⟨some 64, .bin .gtr, [.slot 61, .slot 63], [], [], some (59, false), false⟩, op 65 .pick [.slot 59, .const (.one (.bool true)), .slot 64]]) (.cond (.slot 65) (.seq (.region false [op 2 .move [.const (.one (.bool false))]]) (.ret)) (.skip))) (.seq (.seq (.region false [op 11 .move [.const (.one (.int .i64 (0 : Int)))]]) (.block 0 (.loop [.keep [5, 8, 9, 11], .drop 0, .norm] (laws_FnComboEvents.c1)))) (laws_FnComboEvents.c2))))))))) }
def laws_FnComboEvents.env (N : Nat) : Env := envOf (tbl [(80, impl_CombineEvents.fs N), (232, impl_HeldAfter.fs N), (231, impl_IsEvents.fs N), (234, impl_ReleaseAll.fs N), (31, laws_big.fs N), (230, spec_MakeFresh.fs N)] noFS)
def laws_FnComboEvents.F (N : Nat) (x : List Int) : Option Bool := XFunc.run laws_FnComboEvents.x (laws_FnComboEvents.env N) N x
def laws_FnComboEvents.fs (N : Nat) : FS := { arg := .list (.int .u8), ret := .bool, fresh := true, F := laws_FnComboEvents.F N }
def laws_FnComboEvents.k2 (N : Nat) : Ex → S → Option Bool := seqK (fun s => XCode.runK (laws_FnComboEvents.env N) N (laws_FnComboEvents.c2) s (XFunc.endK laws_FnComboEvents.x)) (XFunc.endK laws_FnComboEvents.x)
def laws_FnComboEvents.k1 (N : Nat) : Ex → S → Option Bool := blockK 0 (laws_FnComboEvents.k2 N)
def laws_FnComboEvents.L1 (N : Nat) (n1 : Nat) (end_ : Int) (got : List (Int × Int × Bool)) (i : Int) (o10 : List (Int × Int)) (o11 : Int) (o12 : List (Int × Int × Bool)) (o13 : Int) (o14 : Int) (o15 : Int) (o16 : List (Int × Int × Bool)) : Option Bool := loopK [.keep [5, 8, 9, 11], .drop 0, .norm] (fun s k => XCode.runK (laws_FnComboEvents.env N) N laws_FnComboEvents.c1 s k) n1
  { t := [.junk, .junk, .junk, .junk, .junk, .one (.int .i64 end_), .junk, .junk, .one (.ptr 1 0 0), .one (.sl true (.pair (.int .i64) (.pair (.int .i64) (.bool))) got), .junk, .one (.int .i64 i), .junk, .junk, .junk, .junk, .junk, .junk, .junk, .junk, .junk, .junk, .junk, .junk, .junk, .junk, .junk, .junk, .junk, .junk, .junk, .junk, .junk, .junk, .junk, .junk, .junk, .junk, .junk, .junk, .junk, .junk, .junk, .junk, .junk, .junk, .junk, .junk, .junk, .junk, .junk, .junk, .junk, .junk, .junk, .junk, .junk, .junk, .junk, .junk, .junk, .junk, .junk, .junk, .junk, .junk, .junk, .junk, .junk, .junk, .junk, .junk, .junk, .junk, .junk, .junk, .junk, .junk, .junk, .junk, .junk, .junk, .junk, .junk, .junk, .junk, .junk, .junk, .junk, .junk, .junk, .junk, .junk, .junk], h := [.absent 0, .box 0 false [.sl true (.pair (.int .i64) (.int .i64)) o10, .int .i64 o11, .sl true (.pair (.int .i64) (.pair (.int .i64) (.bool))) o12, .int .i64 o13, .int .i64 o14, .int .i64 o15, .sl true (.pair (.int .i64) (.pair (.int .i64) (.bool))) o16]] }
  (laws_FnComboEvents.k1 N)

theorem laws_FnComboEvents.L1_eq (N : Nat) (n1 : Nat) (end_ : Int) (got : List (Int × Int × Bool)) (i : Int) (o10 : List (Int × Int)) (o11 : Int) (o12 : List (Int × Int × Bool)) (o13 : Int) (o14 : Int) (o15 : Int) (o16 : List (Int × Int × Bool)) : laws_FnComboEvents.L1 N (n1 + 1) end_ got i o10 o11 o12 o13 o14 o15 o16 =
    bif decide (i < (List.length got : Int)) then
      bif inRange i (List.length got) then
      bif decide (((nth ((0 : Int), ((0 : Int), false)) got i).1) > end_) then
        some false
      else
        laws_FnComboEvents.L1 N n1 end_ got (IntKind.wrap .i64 (i + (1 : Int))) o10 o11 o12 o13 o14 o15 o16
      else none
    else
      bif (List.length o12 : Int) == (0 : Int) then
        bif (List.length o16 : Int) == (0 : Int) then
          some (o15 == (0 : Int))
        else
          some false
      else
        some false := by kernel_rfl
theorem laws_FnComboEvents.F_eq (N : Nat) (code : List Int) : laws_FnComboEvents.F N code =
    bindO (laws_big.F N code) fun r1 =>
    bif r1 then
      some true
    else
      bindO (spec_MakeFresh.F N code) fun r2 =>
      bif decide ((List.length r2.2 : Int) > (0 : Int)) then
        bif inRange (IntKind.wrap .i64 ((List.length r2.2 : Int) - (1 : Int))) (List.length r2.2) then
        bindO (impl_ReleaseAll.F N (r2.2, (nth ((0 : Int), ((0 : Int), false)) r2.2 (IntKind.wrap .i64 ((List.length r2.2 : Int) - (1 : Int)))).1)) fun r3 =>
        bindO (impl_CombineEvents.F N (r2.1, (r3.1, (nth ((0 : Int), ((0 : Int), false)) r2.2 (IntKind.wrap .i64 ((List.length r2.2 : Int) - (1 : Int)))).1))) fun r4 =>
        bif !r3.2 then
          some false
        else
          bif !r4.2.2 then
            some false
          else
            bindO (impl_IsEvents.F N r4.2.1) fun r5 =>
            bif !r5 then
              some false
            else
              bindO (impl_HeldAfter.F N r4.2.1) fun r6 =>
              bif r6 != (0 : Int) then
                some false
              else
                bif decide ((List.length r4.2.1 : Int) > (List.length r3.1 : Int)) then
                  some false
                else
                  laws_FnComboEvents.L1 N N ((nth ((0 : Int), ((0 : Int), false)) r2.2 (IntKind.wrap .i64 ((List.length r2.2 : Int) - (1 : Int)))).1) r4.2.1 (0 : Int) r4.1.1 r4.1.2.1 r4.1.2.2.1 r4.1.2.2.2.1 r4.1.2.2.2.2.1 r4.1.2.2.2.2.2.1 r4.1.2.2.2.2.2.2
        else none
      else
        bindO (impl_ReleaseAll.F N (r2.2, (0 : Int))) fun r7 =>
        bindO (impl_CombineEvents.F N (r2.1, (r7.1, (0 : Int)))) fun r8 =>
        bif !r7.2 then
          some false
        else
          bif !r8.2.2 then
            some false
          else
            bindO (impl_IsEvents.F N r8.2.1) fun r9 =>
            bif !r9 then
              some false
            else
              bindO (impl_HeldAfter.F N r8.2.1) fun r10 =>
              bif r10 != (0 : Int) then
                some false
              else
                bif decide ((List.length r8.2.1 : Int) > (List.length r7.1 : Int)) then
                  some false
                else
                  laws_FnComboEvents.L1 N N (0 : Int) r8.2.1 (0 : Int) r8.1.1 r8.1.2.1 r8.1.2.2.1 r8.1.2.2.2.1 r8.1.2.2.2.2.1 r8.1.2.2.2.2.2.1 r8.1.2.2.2.2.2.2 := by kernel_rfl

def spec_l11Switch.x : XFunc := { nslots := 10, nobj := 1, pars := [.val true 3], rowsIn := [none, none, none], rets := [.tmp 2 false 1], outs := [.imm], fresh := true, arg := .pair (.int .i64) (.pair (.int .i64) (.bool)), ret := .bool, body := .seq (.region false [ow 1 (.box 0) [.slot 0] [0] [0], op 2 .move [.const (.one (.bool false))]]) (.seq (.region false [ow 3 (.load true 3) [.slot 1] [0] [], o1 4 (.call ⟨40, [.val true 3], no 3, [.val false 1], ims 1, true⟩) 3, ⟨some 5, .move, [.slot 4], [], [], none, true⟩, ⟨some 6, .fieldAddr 1, [.slot 1], [], [], some (5, true), false⟩, ⟨some 7, .load false 1, [.slot 6], [0], [], some (5, true), false⟩, ⟨some 8, .bin .lss, [.slot 7, .const (.one (.int .i64 (24 : Int)))], [], [], some (5, true), false⟩, op 9 .pick [.slot 5, .slot 8, .const (.one (.bool false))], mv 2 9]) (.ret)) }
def spec_l11Switch.env (N : Nat) : Env := envOf (tbl [(40, spec_IsEvent.fs N)] noFS)
def spec_l11Switch.F (N : Nat) (x : Int × Int × Bool) : Option Bool := XFunc.run spec_l11Switch.x (spec_l11Switch.env N) N x
def spec_l11Switch.fs (N : Nat) : FS := { arg := .pair (.int .i64) (.pair (.int .i64) (.bool)), ret := .bool, fresh := true, F := spec_l11Switch.F N }

theorem spec_l11Switch.F_eq (N : Nat) (e : Int × Int × Bool) : spec_l11Switch.F N e =
    bindO (spec_IsEvent.F N e) fun r1 =>
    bif r1 then
      some (decide (e.2.1 < (24 : Int)))
    else
      some false := by kernel_rfl

def spec_l11Fits.c1 : XCode := .seq (.seq (.region false [mv 6 5, mv 7 0, o1 8 .len 7, o2 9 (.bin .lss) 6 8]) (.cond (.slot 9) (.skip) (.exit 0))) (.seq (.block 1 (.seq (.region false [mv 12 1, mv 13 0, mv 14 5, o2 15 (.indexAddr (.pair (.int .i64) (.int .i64))) 13 14, o1 16 (.fieldAddr 0) 15, o1 17 (.load false 1) 16, o2 18 (.bin .andNot) 12 17, op 19 (.bin .eql) [.slot 18, .const (.one (.int .i64 (0 : Int)))]]) (.cond (.slot 19) (.seq (.region false [op 4 .move [.const (.one (.bool true))]]) (.ret)) (.skip)))) (.region false [mv 10 5, op 11 (.bin .add) [.slot 10, .const (.one (.int .i64 (1 : Int)))], mv 5 11]))
def spec_l11Fits.c2 : XCode := .seq (.region false [op 4 .move [.const (.one (.bool false))]]) (.ret)
def spec_l11Fits.x : XFunc := { nslots := 20, nobj := 0, pars := [.val false 1, .val false 1], rowsIn := [none, none], rets := [.tmp 4 false 1], outs := [.imm], fresh := true, arg := .pair (.list (.pair (.int .i64) (.int .i64))) (.int .i64), ret := .bool, body := .seq (.region false [op 4 .move [.const (.one (.bool false))]]) (.seq (.seq (.region false [op 5 .move [.const (.one (.int .i64 (0 : Int)))]]) (.block 0 (.loop [.keep [0, 1, 5], .norm] (spec_l11Fits.c1)))) (spec_l11Fits.c2)) }
def spec_l11Fits.env (_ : Nat) : Env := envOf (tbl [] noFS)
def spec_l11Fits.F (N : Nat) (x : (List (Int × Int)) × Int) : Option Bool := XFunc.run spec_l11Fits.x (spec_l11Fits.env N) N x
def spec_l11Fits.fs (N : Nat) : FS := { arg := .pair (.list (.pair (.int .i64) (.int .i64))) (.int .i64), ret := .bool, fresh := true, F := spec_l11Fits.F N }
def spec_l11Fits.k2 (N : Nat) : Ex → S → Option Bool := seqK (fun s => XCode.runK (spec_l11Fits.env N) N (spec_l11Fits.c2) s (XFunc.endK spec_l11Fits.x)) (XFunc.endK spec_l11Fits.x)
def spec_l11Fits.k1 (N : Nat) : Ex → S → Option Bool := blockK 0 (spec_l11Fits.k2 N)
def spec_l11Fits.L1 (N : Nat) (n1 : Nat) (l_ : List (Int × Int)) (mask : Int) (i : Int) : Option Bool := loopK [.keep [0, 1, 5], .norm] (fun s k => XCode.runK (spec_l11Fits.env N) N spec_l11Fits.c1 s k) n1
  { t := [.one (.sl false (.pair (.int .i64) (.int .i64)) l_), .one (.int .i64 mask), .junk, .junk, .junk, .one (.int .i64 i), .junk, .junk, .junk, .junk, .junk, .junk, .junk, .junk, .junk, .junk, .junk, .junk, .junk, .junk], h := [] }
  (spec_l11Fits.k1 N)

theorem spec_l11Fits.L1_eq (N : Nat) (n1 : Nat) (l_ : List (Int × Int)) (mask : Int) (i : Int) : spec_l11Fits.L1 N (n1 + 1) l_ mask i =
    bif decide (i < (List.length l_ : Int)) then
      bif inRange i (List.length l_) then
      bif (bitAndNot .i64 mask ((nth ((0 : Int), (0 : Int)) l_ i).1)) == (0 : Int) then
        some true
      else
        spec_l11Fits.L1 N n1 l_ mask (IntKind.wrap .i64 (i + (1 : Int)))
      else none
    else
      some false := by kernel_rfl
theorem spec_l11Fits.F_eq (N : Nat) (l_ : List (Int × Int)) (mask : Int) : spec_l11Fits.F N (l_, mask) =
    spec_l11Fits.L1 N N l_ mask (0 : Int) := by kernel_rfl

def spec_l11Out.c1 : XCode := .seq (.seq (.region false [mv 9 8, mv 10 0, o1 11 .len 10, o2 12 (.bin .lss) 9 11]) (.cond (.slot 12) (.skip) (.exit 0))) (.seq (.block 1 (.seq (.region false [mv 15 1, mv 16 0, mv 17 8, o2 18 (.indexAddr (.pair (.int .i64) (.int .i64))) 16 17, o1 19 (.fieldAddr 0) 18, o1 20 (.load false 1) 19, o2 21 (.bin .eql) 15 20]) (.cond (.slot 21) (.region false [mv 22 0, mv 23 8, o2 24 (.indexAddr (.pair (.int .i64) (.int .i64))) 22 23, o1 25 (.fieldAddr 1) 24, o1 26 (.load false 1) 25, mv 6 26]) (.seq (.region false [mv 27 1, mv 28 0, mv 29 8, o2 30 (.indexAddr (.pair (.int .i64) (.int .i64))) 28 29, o1 31 (.fieldAddr 0) 30, o1 32 (.load false 1) 31, o2 33 (.bin .andNot) 27 32, op 34 (.bin .eql) [.slot 33, .const (.one (.int .i64 (0 : Int)))]]) (.cond (.slot 34) (.region false [op 7 .move [.const (.one (.bool true))]]) (.skip)))))) (.region false [mv 13 8, op 14 (.bin .add) [.slot 13, .const (.one (.int .i64 (1 : Int)))], mv 8 14]))
def spec_l11Out.c2 : XCode := .seq (.region false [mv 35 6, mv 36 7, mv 4 35, mv 5 36]) (.ret)
def spec_l11Out.x : XFunc := { nslots := 37, nobj := 0, pars := [.val false 1, .val false 1], rowsIn := [none, none], rets := [.tmp 4 false 1, .tmp 5 false 1], outs := [.imm, .imm], fresh := true, arg := .pair (.list (.pair (.int .i64) (.int .i64))) (.int .i64), ret := .pair (.int .i64) (.bool), body := .seq (.region false [op 4 .move [.const (.one (.int .i64 (0 : Int)))], op 5 .move [.const (.one (.bool false))]]) (.seq (.region false [op 6 .move [.const (.one (.int .i64 (-1 : Int)))]]) (.seq (.region false [op 7 .move [.const (.one (.bool false))]]) (.seq (.seq (.region false [op 8 .move [.const (.one (.int .i64 (0 : Int)))]]) (.block 0 (.loop [.keep [0, 1, 6, 7, 8], .norm] (spec_l11Out.c1)))) (spec_l11Out.c2)))) }
def spec_l11Out.env (_ : Nat) : Env := envOf (tbl [] noFS)
def spec_l11Out.F (N : Nat) (x : (List (Int × Int)) × Int) : Option (Int × Bool) := XFunc.run spec_l11Out.x (spec_l11Out.env N) N x
def spec_l11Out.fs (N : Nat) : FS := { arg := .pair (.list (.pair (.int .i64) (.int .i64))) (.int .i64), ret := .pair (.int .i64) (.bool), fresh := true, F := spec_l11Out.F N }
def spec_l11Out.k2 (N : Nat) : Ex → S → Option (Int × Bool) := seqK (fun s => XCode.runK (spec_l11Out.env N) N (spec_l11Out.c2) s (XFunc.endK spec_l11Out.x)) (XFunc.endK spec_l11Out.x)
def spec_l11Out.k1 (N : Nat) : Ex → S → Option (Int × Bool) := blockK 0 (spec_l11Out.k2 N)
def spec_l11Out.L1 (N : Nat) (n1 : Nat) (l_ : List (Int × Int)) (mask : Int) (out : Int) (more : Bool) (i : Int) : Option (Int × Bool) := loopK [.keep [0, 1, 6, 7, 8], .norm] (fun s k => XCode.runK (spec_l11Out.env N) N spec_l11Out.c1 s k) n1
  { t := [.one (.sl false (.pair (.int .i64) (.int .i64)) l_), .one (.int .i64 mask), .junk, .junk, .junk, .junk, .one (.int .i64 out), .one (.bool more), .one (.int .i64 i), .junk, .junk, .junk, .junk, .junk, .junk, .junk, .junk, .junk, .junk, .junk, .junk, .junk, .junk, .junk, .junk, .junk, .junk, .junk, .junk, .junk, .junk, .junk, .junk, .junk, .junk, .junk, .junk], h := [] }
  (spec_l11Out.k1 N)

theorem spec_l11Out.L1_eq (N : Nat) (n1 : Nat) (l_ : List (Int × Int)) (mask : Int) (out : Int) (more : Bool) (i : Int) : spec_l11Out.L1 N (n1 + 1) l_ mask out more i =
    bif decide (i < (List.length l_ : Int)) then
      bif inRange i (List.length l_) then
      bif mask == ((nth ((0 : Int), (0 : Int)) l_ i).1) then
        bif inRange i (List.length l_) then
        spec_l11Out.L1 N n1 l_ mask ((nth ((0 : Int), (0 : Int)) l_ i).2) more (IntKind.wrap .i64 (i + (1 : Int)))
        else none
      else
        bif inRange i (List.length l_) then
        bif (bitAndNot .i64 mask ((nth ((0 : Int), (0 : Int)) l_ i).1)) == (0 : Int) then
          spec_l11Out.L1 N n1 l_ mask out true (IntKind.wrap .i64 (i + (1 : Int)))
        else
          spec_l11Out.L1 N n1 l_ mask out more (IntKind.wrap .i64 (i + (1 : Int)))
        else none
      else none
    else
      some (out, more) := by kernel_rfl
theorem spec_l11Out.F_eq (N : Nat) (l_ : List (Int × Int)) (mask : Int) : spec_l11Out.F N (l_, mask) =
    spec_l11Out.L1 N N l_ mask (-1 : Int) false (0 : Int) := by kernel_rfl

def spec_MatchCombo.c1 : XCode := .block 1 (.seq (.seq (.region false [mv 67 13, mv 68 2, o1 69 .len 68, o2 70 (.bin .eql) 67 69]) (.cond (.slot 70) (.seq (.seq (.region false [mv 71 3, mv 72 12, o2 73 (.bin .lss) 71 72]) (.cond (.slot 73) (.seq (.region false [op 8 .move [.const (.one (.int .i64 (0 : Int)))], op 9 .move [.const (.one (.int .i64 (0 : Int)))], op 10 .move [.const (.one (.int .i64 (-1 : Int)))]]) (.ret)) (.skip))) (.exit 0)) (.skip))) (.seq (.region false [mv 74 2, mv 75 13, o2 76 (.indexAddr (.pair (.int .i64) (.pair (.int .i64) (.bool)))) 74 75, o1 77 (.load true 3) 76, ow 15 (.alloc 0 [.int .i64 (0 : Int), .int .i64 (0 : Int), .bool false]) [] [0] [0], on (.store 3) [.slot 15, .slot 77] [0] [0]]) (.seq (.seq (.region false [ow 78 (.load true 3) [.slot 15] [0] [], o1 79 (.call ⟨49, [.val true 3], no 3, [.val false 1], ims 1, true⟩) 78, o1 80 .not 79]) (.cond (.slot 80) (.seq (.region false [op 8 .move [.const (.one (.int .i64 (0 : Int)))], op 9 .move [.const (.one (.int .i64 (0 : Int)))], op 10 .move [.const (.one (.int .i64 (-1 : Int)))]]) (.ret)) (.skip))) (.seq (.seq (.region false [o1 81 (.fieldAddr 0) 15, ow 82 (.load false 1) [.slot 81] [0] [], mv 83 12, o2 84 (.bin .geq) 82 83]) (.cond (.slot 84) (.exit 0) (.skip))) (.seq (.seq (.region false [o1 85 (.fieldAddr 2) 15, ow 86 (.load false 1) [.slot 85] [0] [], o1 87 .not 86, ⟨some 88, .move, [.slot 87], [], [], none, true⟩, ⟨some 89, .move, [.slot 0], [], [], some (88, false), false⟩, ⟨some 90, .move, [.slot 11], [], [], some (88, false), false⟩, ⟨some 91, .fieldAddr 1, [.slot 15], [], [], some (88, false), false⟩, ⟨some 92, .load false 1, [.slot 91], [0], [], some (88, false), false⟩, ⟨some 93, .bin .shl, [.const (.one (.int .i64 (1 : Int))), .slot 92], [], [], some (88, false), false⟩, ⟨some 94, .bin .or, [.slot 90, .slot 93], [], [], some (88, false), false⟩, ⟨some 95, .call ⟨50, vs 2, no 2, [.val false 1], ims 1, true⟩, [.slot 89, .slot 94], [], [], some (88, false), false⟩, ⟨some 96, .not, [.slot 95], [], [], some (88, false), false⟩, op 97 .pick [.slot 88, .const (.one (.bool true)), .slot 96]]) (.cond (.slot 97) (.seq (.region false [o1 98 (.fieldAddr 0) 15, ow 99 (.load false 1) [.slot 98] [0] [], mv 14 99]) (.exit 0)) (.skip))) (.seq (.region false [mv 100 11, o1 101 (.fieldAddr 1) 15, ow 102 (.load false 1) [.slot 101] [0] [], op 103 (.bin .shl) [.const (.one (.int .i64 (1 : Int))), .slot 102], o2 104 (.bin .or) 100 103, mv 11 104]) (.seq (.region false [mv 105 13, op 106 (.bin .add) [.slot 105, .const (.one (.int .i64 (1 : Int)))], mv 13 106]) (.seq (.region false [mv 108 0, mv 109 11, o2 110 (.call ⟨51, vs 2, no 2, [.val false 1, .val false 1], ims 2, true⟩) 108 109, mv 107 110, o1 111 (.extract 0) 107, o1 112 (.extract 1) 107, mv 16 111, mv 17 112]) (.seq (.region false [mv 113 16, op 114 (.bin .geq) [.slot 113, .const (.one (.int .i64 (0 : Int)))], ⟨some 115, .move, [.slot 114], [], [], none, true⟩, ⟨some 116, .move, [.slot 17], [], [], some (115, true), false⟩, ⟨some 117, .not, [.slot 116], [], [], some (115, true), false⟩, op 118 .pick [.slot 115, .slot 117, .const (.one (.bool false))]]) (.cond (.slot 118) (.seq (.region true [mv 119 13, o1 120 (.fieldAddr 0) 15, ow 121 (.load false 1) [.slot 120] [0] [], mv 122 16, mv 8 119, mv 9 121, mv 10 122]) (.ret)) (.skip)))))))))))
def spec_MatchCombo.c2 : XCode := .seq (.region false [mv 124 0, mv 125 11, o2 126 (.call ⟨51, vs 2, no 2, [.val false 1, .val false 1], ims 2, true⟩) 124 125, mv 123 126, o1 127 (.extract 0) 123, o1 128 (.extract 1) 123, mv 18 127, mv 19 128]) (.seq (.seq (.region false [mv 129 18, op 130 (.bin .lss) [.slot 129, .const (.one (.int .i64 (0 : Int)))]]) (.cond (.slot 130) (.region false [op 13 .move [.const (.one (.int .i64 (1 : Int)))]]) (.skip))) (.seq (.region false [mv 131 13, mv 132 14, mv 133 18, mv 8 131, mv 9 132, mv 10 133]) (.ret)))
def spec_MatchCombo.x : XFunc := { nslots := 134, nobj := 1, pars := [.val false 1, .val false 1, .val false 1, .val false 1], rowsIn := [none, none, none, none], rets := [.tmp 8 false 1, .tmp 9 false 1, .tmp 10 false 1], outs := [.imm, .imm, .imm], fresh := true, arg := .pair (.list (.pair (.int .i64) (.int .i64))) (.pair (.int .i64) (.pair (.list (.pair (.int .i64) (.pair (.int .i64) (.bool)))) (.int .i64))), ret := .pair (.int .i64) (.pair (.int .i64) (.int .i64)), body := .seq (.region false [op 8 .move [.const (.one (.int .i64 (0 : Int)))], op 9 .move [.const (.one (.int .i64 (0 : Int)))], op 10 .move [.const (.one (.int .i64 (0 : Int)))]]) (.seq (.seq (.region false [mv 20 0, o1 21 (.call ⟨36, vs 1, no 1, [.val false 1], ims 1, true⟩) 20, o1 22 .not 21, ⟨some 23, .move, [.slot 22], [], [], none, true⟩, ⟨some 24, .move, [.slot 1], [], [], some (23, false), false⟩, ⟨some 25, .call ⟨1, vs 3, no 3, [.val false 1], ims 1, true⟩, [.slot 24, .const (.one (.int .i64 (1 : Int))), .const (.one (.int .i64 (200 : Int)))], [], [], some (23, false), false⟩, ⟨some 26, .not, [.slot 25], [], [], some (23, false), false⟩, op 27 .pick [.slot 23, .const (.one (.bool true)), .slot 26], ⟨some 28, .move, [.slot 27], [], [], none, true⟩, ⟨some 29, .move, [.slot 2], [], [], some (28, false), false⟩, ⟨some 30, .len, [.slot 29], [], [], some (28, false), false⟩, ⟨some 31, .bin .eql, [.slot 30, .const (.one (.int .i64 (0 : Int)))], [], [], some (28, false), false⟩, op 32 .pick [.slot 28, .const (.one (.bool true)), .slot 31], ⟨some 33, .move, [.slot 32], [], [], none, true⟩, ⟨some 34, .move, [.slot 2], [], [], some (33, false), false⟩, ⟨some 35, .indexAddr (.pair (.int .i64) (.pair (.int .i64) (.bool))), [.slot 34, .const (.one (.int .i64 (0 : Int)))], [], [], some (33, false), false⟩, ⟨some 36, .load true 3, [.slot 35], [], [], some (33, false), false⟩, ⟨some 37, .call ⟨49, [.val true 3], no 3, [.val false 1], ims 1, true⟩, [.slot 36], [], [], some (33, false), false⟩, ⟨some 38, .not, [.slot 37], [], [], some (33, false), false⟩, op 39 .pick [.slot 33, .const (.one (.bool true)), .slot 38], ⟨some 40, .move, [.slot 39], [], [], none, true⟩, ⟨some 41, .move, [.slot 2], [], [], some (40, false), false⟩, ⟨some 42, .indexAddr (.pair (.int .i64) (.pair (.int .i64) (.bool))), [.slot 41, .const (.one (.int .i64 (0 : Int)))], [], [], some (40, false), false⟩, ⟨some 43, .fieldAddr 2, [.slot 42], [], [], some (40, false), false⟩, ⟨some 44, .load false 1, [.slot 43], [], [], some (40, false), false⟩, ⟨some 45, .not, [.slot 44], [], [], some (40, false), false⟩, op 46 .pick [.slot 40, .const (.one (.bool true)), .slot 45]]) (.cond (.slot 46) (.seq (.region false [op 8 .move [.const (.one (.int .i64 (0 : Int)))], op 9 .move [.const (.one (.int .i64 (0 : Int)))], op 10 .move [.const (.one (.int .i64 (-1 : Int)))]]) (.ret)) (.skip))) (.seq (.region false [mv 47 2, op 48 (.indexAddr (.pair (.int .i64) (.pair (.int .i64) (.bool)))) [.slot 47, .const (.one (.int .i64 (0 : Int)))], o1 49 (.fieldAddr 1) 48, o1 50 (.load false 1) 49, op 51 (.bin .shl) [.const (.one (.int .i64 (1 : Int))), .slot 50], mv 11 51]) (.seq (.region false [mv 52 2, op 53 (.indexAddr (.pair (.int .i64) (.pair (.int .i64) (.bool)))) [.slot 52, .const (.one (.int .i64 (0 : Int)))], o1 54 (.fieldAddr 0) 53, o1 55 (.load false 1) 54, mv 56 1, o2 57 (.bin .add) 55 56, mv 12 57]) (.seq (.seq (.region false [mv 58 0, mv 59 11, o2 60 (.call ⟨50, vs 2, no 2, [.val false 1], ims 1, true⟩) 58 59, o1 61 .not 60]) (.cond (.slot 61) (.seq (.region true [mv 62 2, op 63 (.indexAddr (.pair (.int .i64) (.pair (.int .i64) (.bool)))) [.slot 62, .const (.one (.int .i64 (0 : Int)))], o1 64 (.fieldAddr 0) 63, o1 65 (.load false 1) 64, op 8 .move [.const (.one (.int .i64 (1 : Int)))], mv 9 65, op 10 .move [.const (.one (.int .i64 (-1 : Int)))]]) (.ret)) (.skip))) (.seq (.region false [op 13 .move [.const (.one (.int .i64 (1 : Int)))]]) (.seq (.region false [mv 66 12, mv 14 66]) (.seq (.block 0 (.loop [.keep [0, 2, 3, 11, 12, 13, 14], .drop 0, .norm] (spec_MatchCombo.c1))) (spec_MatchCombo.c2)))))))) }
def spec_MatchCombo.env (N : Nat) : Env := envOf (tbl [(36, spec_IsCombos.fs N), (50, spec_l11Fits.fs N), (51, spec_l11Out.fs N), (49, spec_l11Switch.fs N), (1, spec_l1In.fs N)] noFS)
def spec_MatchCombo.F (N : Nat) (x : (List (Int × Int)) × Int × (List (Int × Int × Bool)) × Int) : Option (Int × Int × Int) := XFunc.run spec_MatchCombo.x (spec_MatchCombo.env N) N x
def spec_MatchCombo.fs (N : Nat) : FS := { arg := .pair (.list (.pair (.int .i64) (.int .i64))) (.pair (.int .i64) (.pair (.list (.pair (.int .i64) (.pair (.int .i64) (.bool)))) (.int .i64))), ret := .pair (.int .i64) (.pair (.int .i64) (.int .i64)), fresh := true, F := spec_MatchCombo.F N }
def spec_MatchCombo.k2 (N : Nat) : Ex → S → Option (Int × Int × Int) := seqK (fun s => XCode.runK (spec_MatchCombo.env N) N (spec_MatchCombo.c2) s (XFunc.endK spec_MatchCombo.x)) (XFunc.endK spec_MatchCombo.x)
def spec_MatchCombo.k1 (N : Nat) : Ex → S → Option (Int × Int × Int) := blockK 0 (spec_MatchCombo.k2 N)
def spec_MatchCombo.L1 (N : Nat) (n1 : Nat) (l_ : List (Int × Int)) (queue : List (Int × Int × Bool)) (now : Int) (set_ : Int) (end_ : Int) (n_ : Int) (at_ : Int) : Option (Int × Int × Int) := loopK [.keep [0, 2, 3, 11, 12, 13, 14], .drop 0, .norm] (fun s k => XCode.runK (spec_MatchCombo.env N) N spec_MatchCombo.c1 s k) n1
  { t := [.one (.sl false (.pair (.int .i64) (.int .i64)) l_), .junk, .one (.sl false (.pair (.int .i64) (.pair (.int .i64) (.bool))) queue), .one (.int .i64 now), .junk, .junk, .junk, .junk, .junk, .junk, .junk, .one (.int .i64 set_), .one (.int .i64 end_), .one (.int .i64 n_), .one (.int .i64 at_), .junk, .junk, .junk, .junk, .junk, .junk, .junk, .junk, .junk, .junk, .junk, .junk, .junk, .junk, .junk, .junk, .junk, .junk, .junk, .junk, .junk, .junk, .junk, .junk, .junk, .junk, .junk, .junk, .junk, .junk, .junk, .junk, .junk, .junk, .junk, .junk, .junk, .junk, .junk, .junk, .junk, .junk, .junk, .junk, .junk, .junk, .junk, .junk, .junk, .junk, .junk, .junk, .junk, .junk, .junk, .junk, .junk, .junk, .junk, .junk, .junk, .junk, .junk, .junk, .junk, .junk, .junk, .junk, .junk, .junk, .junk, .junk, .junk, .junk, .junk, .junk, .junk, .junk, .junk, .junk, .junk, .junk, .junk, .junk, .junk, .junk, .junk, .junk, .junk, .junk, .junk, .junk, .junk, .junk, .junk, .junk, .junk, .junk, .junk, .junk, .junk, .junk, .junk, .junk, .junk, .junk, .junk, .junk, .junk, .junk, .junk, .junk, .junk, .junk, .junk, .junk, .junk, .junk, .junk], h := [.absent 0] }
  (spec_MatchCombo.k1 N)

theorem spec_MatchCombo.L1_eq (N : Nat) (n1 : Nat) (l_ : List (Int × Int)) (queue : List (Int × Int × Bool)) (now : Int) (set_ : Int) (end_ : Int) (n_ : Int) (at_ : Int) : spec_MatchCombo.L1 N (n1 + 1) l_ queue now set_ end_ n_ at_ =
    bif n_ == (List.length queue : Int) then
      bif decide (now < end_) then
        some ((0 : Int), ((0 : Int), (-1 : Int)))
      else
        bindO (spec_l11Out.F N (l_, set_)) fun r5 =>
        bif decide (r5.1 < (0 : Int)) then
          some ((1 : Int), (at_, r5.1))
        else
          some (n_, (at_, r5.1))
    else
      bif inRange n_ (List.length queue) then
      bindO (spec_l11Switch.F N ((nth ((0 : Int), ((0 : Int), false)) queue n_).1, ((nth ((0 : Int), ((0 : Int), false)) queue n_).2))) fun r6 =>
      bif !r6 then
        some ((0 : Int), ((0 : Int), (-1 : Int)))
      else
        bif decide (((nth ((0 : Int), ((0 : Int), false)) queue n_).1) ≥ end_) then
          bindO (spec_l11Out.F N (l_, set_)) fun r7 =>
          bif decide (r7.1 < (0 : Int)) then
            some ((1 : Int), (at_, r7.1))
          else
            some (n_, (at_, r7.1))
        else
          bif !(((nth ((0 : Int), ((0 : Int), false)) queue n_).2).2) then
            bindO (spec_l11Out.F N (l_, set_)) fun r8 =>
            bif decide (r8.1 < (0 : Int)) then
              some ((1 : Int), ((nth ((0 : Int), ((0 : Int), false)) queue n_).1, r8.1))
            else
              some (n_, ((nth ((0 : Int), ((0 : Int), false)) queue n_).1, r8.1))
          else
            bif decide (0 ≤ ((nth ((0 : Int), ((0 : Int), false)) queue n_).2).1) then
            bindO (spec_l11Fits.F N (l_, bitOr .i64 set_ (shiftL .i64 (1 : Int) (((nth ((0 : Int), ((0 : Int), false)) queue n_).2).1)))) fun r9 =>
            bif !r9 then
              bindO (spec_l11Out.F N (l_, set_)) fun r10 =>
              bif decide (r10.1 < (0 : Int)) then
                some ((1 : Int), ((nth ((0 : Int), ((0 : Int), false)) queue n_).1, r10.1))
              else
                some (n_, ((nth ((0 : Int), ((0 : Int), false)) queue n_).1, r10.1))
            else
              bif decide (0 ≤ ((nth ((0 : Int), ((0 : Int), false)) queue n_).2).1) then
              bindO (spec_l11Out.F N (l_, bitOr .i64 set_ (shiftL .i64 (1 : Int) (((nth ((0 : Int), ((0 : Int), false)) queue n_).2).1)))) fun r11 =>
              bif decide (r11.1 ≥ (0 : Int)) then
                bif !r11.2 then
                  some (IntKind.wrap .i64 (n_ + (1 : Int)), ((nth ((0 : Int), ((0 : Int), false)) queue n_).1, r11.1))
                else
                  spec_MatchCombo.L1 N n1 l_ queue now (bitOr .i64 set_ (shiftL .i64 (1 : Int) (((nth ((0 : Int), ((0 : Int), false)) queue n_).2).1))) end_ (IntKind.wrap .i64 (n_ + (1 : Int))) at_
              else
                spec_MatchCombo.L1 N n1 l_ queue now (bitOr .i64 set_ (shiftL .i64 (1 : Int) (((nth ((0 : Int), ((0 : Int), false)) queue n_).2).1))) end_ (IntKind.wrap .i64 (n_ + (1 : Int))) at_
              else none
            else none
      else none := by kernel_rfl
theorem spec_MatchCombo.F_eq (N : Nat) (l_ : List (Int × Int)) (term_ : Int) (queue : List (Int × Int × Bool)) (now : Int) : spec_MatchCombo.F N (l_, term_, queue, now) =
    bindO (spec_IsCombos.F N l_) fun r1 =>
    bif !r1 then
      some ((0 : Int), ((0 : Int), (-1 : Int)))
    else
      bindO (spec_l1In.F N (term_, ((1 : Int), (200 : Int)))) fun r2 =>
      bif !r2 then
        some ((0 : Int), ((0 : Int), (-1 : Int)))
      else
        bif (List.length queue : Int) == (0 : Int) then
          some ((0 : Int), ((0 : Int), (-1 : Int)))
        else
          bif inRange (0 : Int) (List.length queue) then
          bindO (spec_l11Switch.F N ((nth ((0 : Int), ((0 : Int), false)) queue (0 : Int)).1, ((nth ((0 : Int), ((0 : Int), false)) queue (0 : Int)).2))) fun r3 =>
          bif !r3 then
            some ((0 : Int), ((0 : Int), (-1 : Int)))
          else
            bif inRange (0 : Int) (List.length queue) then
            bif !(((nth ((0 : Int), ((0 : Int), false)) queue (0 : Int)).2).2) then
              some ((0 : Int), ((0 : Int), (-1 : Int)))
            else
              bif inRange (0 : Int) (List.length queue) then
              bif decide (0 ≤ ((nth ((0 : Int), ((0 : Int), false)) queue (0 : Int)).2).1) then
              bif inRange (0 : Int) (List.length queue) then
              bindO (spec_l11Fits.F N (l_, shiftL .i64 (1 : Int) (((nth ((0 : Int), ((0 : Int), false)) queue (0 : Int)).2).1))) fun r4 =>
              bif !r4 then
                bif inRange (0 : Int) (List.length queue) then
                some ((1 : Int), ((nth ((0 : Int), ((0 : Int), false)) queue (0 : Int)).1, (-1 : Int)))
                else none
              else
                spec_MatchCombo.L1 N N l_ queue now (shiftL .i64 (1 : Int) (((nth ((0 : Int), ((0 : Int), false)) queue (0 : Int)).2).1)) (IntKind.wrap .i64 (((nth ((0 : Int), ((0 : Int), false)) queue (0 : Int)).1) + term_)) (1 : Int) (IntKind.wrap .i64 (((nth ((0 : Int), ((0 : Int), false)) queue (0 : Int)).1) + term_))
              else none
              else none
              else none
            else none
          else none := by kernel_rfl

def spec_l11Up.c1 : XCode := .seq (.seq (.region false [mv 10 7, mv 11 0, o1 12 .nilck 11, o1 13 (.fieldAddr 6) 12, ow 14 (.load false 1) [.slot 13] [0] [], ow 15 .len [.slot 14] [4] [], o2 16 (.bin .lss) 10 15]) (.cond (.slot 16) (.skip) (.exit 0))) (.seq (.block 1 (.seq (.region false [mv 19 0, o1 20 .nilck 19, o1 21 (.fieldAddr 6) 20, ow 22 (.load false 1) [.slot 21] [0] [], mv 23 7, ow 24 (.indexAddr (.pair (.int .i64) (.pair (.int .i64) (.bool)))) [.slot 22, .slot 23] [4] [], ow 25 (.load true 3) [.slot 24] [4] [], ow 8 (.alloc 1 [.int .i64 (0 : Int), .int .i64 (0 : Int), .bool false]) [] [1] [1], on (.store 3) [.slot 8, .slot 25] [1] [1]]) (.seq (.seq (.region false [o1 26 (.fieldAddr 1) 8, ow 27 (.load false 1) [.slot 26] [1] [], mv 28 1, o2 29 (.bin .shr) 27 28, op 30 (.bin .and) [.slot 29, .const (.one (.int .i64 (1 : Int)))], op 31 (.bin .eql) [.slot 30, .const (.one (.int .i64 (0 : Int)))]]) (.cond (.slot 31) (.exit 1) (.skip))) (.seq (.region false [ow 32 (.buildSlice false 2 4 (.pair (.int .i64) (.pair (.int .i64) (.bool))) 0 [] [.int .i64 (0 : Int), .int .i64 (0 : Int), .bool false]) [] [2] [2], mv 9 32]) (.seq (.seq (.region false [o1 33 (.fieldAddr 2) 8, ow 34 (.load false 1) [.slot 33] [1] []]) (.cond (.slot 34) (.region false [mv 35 9, mv 36 2, o1 37 (.fieldAddr 0) 8, ow 38 (.load false 1) [.slot 37] [1] [], o2 39 (.build [.int .i64 (0 : Int), .int .i64 (0 : Int), .bool false] [(0, 1), (1, 1)]) 36 38, ow 40 (.buildSlice false 3 4 (.pair (.int .i64) (.pair (.int .i64) (.bool))) 1 [(0, 3)] [.int .i64 (0 : Int), .int .i64 (0 : Int), .bool false]) [.slot 39] [3] [3], ow 41 (.append false 2 4 (.pair (.int .i64) (.pair (.int .i64) (.bool)))) [.slot 35, .slot 40] [2, 3] [2], mv 9 41]) (.skip))) (.seq (.region false [o1 42 (.fieldAddr 2) 8, on (.store 1) [.slot 42, .const (.one (.bool false))] [1] [1]]) (.seq (.region true [o1 43 (.fieldAddr 1) 8, ow 44 (.load false 1) [.slot 43] [1] [], mv 45 1, op 46 (.bin .shl) [.const (.one (.int .i64 (1 : Int))), .slot 45], o2 47 (.bin .andNot) 44 46, o1 48 (.fieldAddr 1) 8, on (.store 1) [.slot 48, .slot 47] [1] [1]]) (.seq (.region true [mv 49 0, o1 50 .nilck 49, o1 51 (.fieldAddr 6) 50, ow 52 (.load false 1) [.slot 51] [0] [], mv 53 7, ow 54 (.load true 3) [.slot 8] [1] [], ow 55 (.indexAddr (.pair (.int .i64) (.pair (.int .i64) (.bool)))) [.slot 52, .slot 53] [4] [], on (.store 3) [.slot 55, .slot 54] [4] [4]]) (.seq (.seq (.region false [o1 56 (.fieldAddr 1) 8, ow 57 (.load false 1) [.slot 56] [1] [], op 58 (.bin .eql) [.slot 57, .const (.one (.int .i64 (0 : Int)))]]) (.cond (.slot 58) (.region true [mv 59 0, ow 60 (.buildSlice false 5 5 (.pair (.int .i64) (.pair (.int .i64) (.bool))) 0 [] [.int .i64 (0 : Int), .int .i64 (0 : Int), .bool false]) [] [5] [5], mv 61 0, o1 62 .nilck 61, o1 63 (.fieldAddr 6) 62, ow 64 (.load false 1) [.slot 63] [0] [], mv 65 7, ow 66 (.slice (.pair (.int .i64) (.pair (.int .i64) (.bool))) false true) [.slot 64, .slot 65] [4] [], ow 67 (.append false 5 5 (.pair (.int .i64) (.pair (.int .i64) (.bool)))) [.slot 60, .slot 66] [4, 5] [5], mv 68 0, o1 69 .nilck 68, o1 70 (.fieldAddr 6) 69, ow 71 (.load false 1) [.slot 70] [0] [], mv 72 7, op 73 (.bin .add) [.slot 72, .const (.one (.int .i64 (1 : Int)))], ow 74 (.slice (.pair (.int .i64) (.pair (.int .i64) (.bool))) true false) [.slot 71, .slot 73] [4] [], ow 75 (.append false 5 5 (.pair (.int .i64) (.pair (.int .i64) (.bool)))) [.slot 67, .slot 74] [4, 5] [5], o1 76 .nilck 59, o1 77 (.fieldAddr 6) 76, on (.store 1) [.slot 77, .slot 75] [0] [0]]) (.skip))) (.seq (.region false [mv 78 9, mv 6 78]) (.ret))))))))))) (.region false [mv 17 7, op 18 (.bin .add) [.slot 17, .const (.one (.int .i64 (1 : Int)))], mv 7 18]))
def spec_l11Up.c2 : XCode := .seq (.region true [mv 79 0, mv 80 0, o1 81 .nilck 80, o1 82 (.fieldAddr 5) 81, ow 83 (.load false 1) [.slot 82] [0] [], mv 84 1, op 85 (.bin .shl) [.const (.one (.int .i64 (1 : Int))), .slot 84], o2 86 (.bin .andNot) 83 85, o1 87 .nilck 79, o1 88 (.fieldAddr 5) 87, on (.store 1) [.slot 88, .slot 86] [0] [0]]) (.seq (.region false [mv 89 2, mv 90 1, o2 91 (.build [.int .i64 (0 : Int), .int .i64 (0 : Int), .bool false] [(0, 1), (1, 1)]) 89 90, ow 92 (.buildSlice false 6 4 (.pair (.int .i64) (.pair (.int .i64) (.bool))) 1 [(0, 3)] [.int .i64 (0 : Int), .int .i64 (0 : Int), .bool false]) [.slot 91] [6] [6], mv 6 92]) (.ret))
def spec_l11Up.x : XFunc := { nslots := 93, nobj := 7, pars := [.box 0 7, .val false 1, .val false 1], rowsIn := [none, none, none, none, none, none, some (4, 5), none, none], rets := [.tmp 6 false 1], outs := [.own 4, .imm, .imm, .imm, .imm, .imm, .imm, .own 5], fresh := false, arg := .pair (.pair (.list (.pair (.int .i64) (.int .i64))) (.pair (.int .i64) (.pair (.list (.pair (.int .i64) (.pair (.int .i64) (.bool)))) (.pair (.int .i64) (.pair (.int .i64) (.pair (.int .i64) (.list (.pair (.int .i64) (.pair (.int .i64) (.bool)))))))))) (.pair (.int .i64) (.int .i64)), ret := .pair (.list (.pair (.int .i64) (.pair (.int .i64) (.bool)))) (.pair (.list (.pair (.int .i64) (.int .i64))) (.pair (.int .i64) (.pair (.list (.pair (.int .i64) (.pair (.int .i64) (.bool)))) (.pair (.int .i64) (.pair (.int .i64) (.pair (.int .i64) (.list (.pair (.int .i64) (.pair (.int .i64) (.bool)))))))))), body := .seq (.region false [op 6 .move [.const (.one (.nil))]]) (.seq (.seq (.region false [op 7 .move [.const (.one (.int .i64 (0 : Int)))]]) (.block 0 (.loop [.keep [0, 1, 2, 7], .drop 1, .drop 2, .drop 3, .drop 5, .drop 6, .norm] (spec_l11Up.c1)))) (spec_l11Up.c2)) }
def spec_l11Up.env (_ : Nat) : Env := envOf (tbl [] noFS)
def spec_l11Up.F (N : Nat) (x : ((List (Int × Int)) × Int × (List (Int × Int × Bool)) × Int × Int × Int × List (Int × Int × Bool)) × Int × Int) : Option ((List (Int × Int × Bool)) × (List (Int × Int)) × Int × (List (Int × Int × Bool)) × Int × Int × Int × List (Int × Int × Bool)) := XFunc.run spec_l11Up.x (spec_l11Up.env N) N x
def spec_l11Up.fs (N : Nat) : FS := { arg := .pair (.pair (.list (.pair (.int .i64) (.int .i64))) (.pair (.int .i64) (.pair (.list (.pair (.int .i64) (.pair (.int .i64) (.bool)))) (.pair (.int .i64) (.pair (.int .i64) (.pair (.int .i64) (.list (.pair (.int .i64) (.pair (.int .i64) (.bool)))))))))) (.pair (.int .i64) (.int .i64)), ret := .pair (.list (.pair (.int .i64) (.pair (.int .i64) (.bool)))) (.pair (.list (.pair (.int .i64) (.int .i64))) (.pair (.int .i64) (.pair (.list (.pair (.int .i64) (.pair (.int .i64) (.bool)))) (.pair (.int .i64) (.pair (.int .i64) (.pair (.int .i64) (.list (.pair (.int .i64) (.pair (.int .i64) (.bool)))))))))), fresh := false, F := spec_l11Up.F N }
def spec_l11Up.k2 (N : Nat) : Ex → S → Option ((List (Int × Int × Bool)) × (List (Int × Int)) × Int × (List (Int × Int × Bool)) × Int × Int × Int × List (Int × Int × Bool)) := seqK (fun s => XCode.runK (spec_l11Up.env N) N (spec_l11Up.c2) s (XFunc.endK spec_l11Up.x)) (XFunc.endK spec_l11Up.x)
def spec_l11Up.k1 (N : Nat) : Ex → S → Option ((List (Int × Int × Bool)) × (List (Int × Int)) × Int × (List (Int × Int × Bool)) × Int × Int × Int × List (Int × Int × Bool)) := blockK 0 (spec_l11Up.k2 N)
def spec_l11Up.L1 (N : Nat) (n1 : Nat) (key : Int) (w : Int) (i : Int) (c0 : List (Int × Int)) (c1 : Int) (c2 : List (Int × Int × Bool)) (c3 : Int) (c4 : Int) (c5 : Int) (o4 : List (Int × Int × Bool)) : Option ((List (Int × Int × Bool)) × (List (Int × Int)) × Int × (List (Int × Int × Bool)) × Int × Int × Int × List (Int × Int × Bool)) := loopK [.keep [0, 1, 2, 7], .drop 1, .drop 2, .drop 3, .drop 5, .drop 6, .norm] (fun s k => XCode.runK (spec_l11Up.env N) N spec_l11Up.c1 s k) n1
  { t := [.one (.ptr 0 0 0), .one (.int .i64 key), .one (.int .i64 w), .junk, .junk, .junk, .junk, .one (.int .i64 i), .junk, .junk, .junk, .junk, .junk, .junk, .junk, .junk, .junk, .junk, .junk, .junk, .junk, .junk, .junk, .junk, .junk, .junk, .junk, .junk, .junk, .junk, .junk, .junk, .junk, .junk, .junk, .junk, .junk, .junk, .junk, .junk, .junk, .junk, .junk, .junk, .junk, .junk, .junk, .junk, .junk, .junk, .junk, .junk, .junk, .junk, .junk, .junk, .junk, .junk, .junk, .junk, .junk, .junk, .junk, .junk, .junk, .junk, .junk, .junk, .junk, .junk, .junk, .junk, .junk, .junk, .junk, .junk, .junk, .junk, .junk, .junk, .junk, .junk, .junk, .junk, .junk, .junk, .junk, .junk, .junk, .junk, .junk, .junk, .junk], h := [.box 0 true [.sl false (.pair (.int .i64) (.int .i64)) c0, .int .i64 c1, .sl false (.pair (.int .i64) (.pair (.int .i64) (.bool))) c2, .int .i64 c3, .int .i64 c4, .int .i64 c5, .ref 4 0 .all], .absent 0, .absent 0, .absent 0, .row 0 true false 5 (.pair (.int .i64) (.pair (.int .i64) (.bool))) o4, .absent 0, .absent 0] }
  (spec_l11Up.k1 N)

theorem spec_l11Up.L1_eq (N : Nat) (n1 : Nat) (key : Int) (w : Int) (i : Int) (c0 : List (Int × Int)) (c1 : Int) (c2 : List (Int × Int × Bool)) (c3 : Int) (c4 : Int) (c5 : Int) (o4 : List (Int × Int × Bool)) : spec_l11Up.L1 N (n1 + 1) key w i c0 c1 c2 c3 c4 c5 o4 =
    bif decide (i < (List.length o4 : Int)) then
      bif inRange i (List.length o4) then
      bif decide (0 ≤ key) then
      bif (bitAnd .i64 (shiftR .i64 (((List.getD o4 (Int.toNat i) ((0 : Int), ((0 : Int), false))).2).1) key) (1 : Int)) == (0 : Int) then
        spec_l11Up.L1 N n1 key w (IntKind.wrap .i64 (i + (1 : Int))) c0 c1 c2 c3 c4 c5 o4
      else
        bif ((List.getD o4 (Int.toNat i) ((0 : Int), ((0 : Int), false))).2).2 then
          bif decide (List.length ([] : List (Int × Int × Bool)) + List.length ([(w, ((List.getD o4 (Int.toNat i) ((0 : Int), ((0 : Int), false))).1, false))] : List (Int × Int × Bool)) ≤ maxN) then
          bif decide (0 ≤ key) then
          bif inRange i (List.length o4) then
          bif (bitAndNot .i64 (((List.getD o4 (Int.toNat i) ((0 : Int), ((0 : Int), false))).2).1) (shiftL .i64 (1 : Int) key)) == (0 : Int) then
            bif decide (0 ≤ i) && decide (i ≤ (List.length (List.set o4 (Int.toNat i) ((List.getD o4 (Int.toNat i) ((0 : Int), ((0 : Int), false))).1, (bitAndNot .i64 (((List.getD o4 (Int.toNat i) ((0 : Int), ((0 : Int), false))).2).1) (shiftL .i64 (1 : Int) key), false))) : Int)) then
            bif decide (List.length ([] : List (Int × Int × Bool)) + List.length (List.drop 0 (List.take (Int.toNat i) (List.set o4 (Int.toNat i) ((List.getD o4 (Int.toNat i) ((0 : Int), ((0 : Int), false))).1, (bitAndNot .i64 (((List.getD o4 (Int.toNat i) ((0 : Int), ((0 : Int), false))).2).1) (shiftL .i64 (1 : Int) key), false))))) ≤ maxN) then
            bif decide (0 ≤ IntKind.wrap .i64 (i + (1 : Int))) && decide (IntKind.wrap .i64 (i + (1 : Int)) ≤ (List.length (List.set o4 (Int.toNat i) ((List.getD o4 (Int.toNat i) ((0 : Int), ((0 : Int), false))).1, (bitAndNot .i64 (((List.getD o4 (Int.toNat i) ((0 : Int), ((0 : Int), false))).2).1) (shiftL .i64 (1 : Int) key), false))) : Int)) then
            bif decide (List.length (([] : List (Int × Int × Bool)) ++ (List.drop 0 (List.take (Int.toNat i) (List.set o4 (Int.toNat i) ((List.getD o4 (Int.toNat i) ((0 : Int), ((0 : Int), false))).1, (bitAndNot .i64 (((List.getD o4 (Int.toNat i) ((0 : Int), ((0 : Int), false))).2).1) (shiftL .i64 (1 : Int) key), false)))))) + List.length (List.drop (Int.toNat (IntKind.wrap .i64 (i + (1 : Int)))) (List.set o4 (Int.toNat i) ((List.getD o4 (Int.toNat i) ((0 : Int), ((0 : Int), false))).1, (bitAndNot .i64 (((List.getD o4 (Int.toNat i) ((0 : Int), ((0 : Int), false))).2).1) (shiftL .i64 (1 : Int) key), false)))) ≤ maxN) then
            some (([] : List (Int × Int × Bool)) ++ ([(w, ((List.getD o4 (Int.toNat i) ((0 : Int), ((0 : Int), false))).1, false))] : List (Int × Int × Bool)), (c0, (c1, (c2, (c3, (c4, (c5, (([] : List (Int × Int × Bool)) ++ (List.drop 0 (List.take (Int.toNat i) (List.set o4 (Int.toNat i) ((List.getD o4 (Int.toNat i) ((0 : Int), ((0 : Int), false))).1, (bitAndNot .i64 (((List.getD o4 (Int.toNat i) ((0 : Int), ((0 : Int), false))).2).1) (shiftL .i64 (1 : Int) key), false)))))) ++ (List.drop (Int.toNat (IntKind.wrap .i64 (i + (1 : Int)))) (List.set o4 (Int.toNat i) ((List.getD o4 (Int.toNat i) ((0 : Int), ((0 : Int), false))).1, (bitAndNot .i64 (((List.getD o4 (Int.toNat i) ((0 : Int), ((0 : Int), false))).2).1) (shiftL .i64 (1 : Int) key), false)))))))))))
            else none
            else none
            else none
            else none
          else
            some (([] : List (Int × Int × Bool)) ++ ([(w, ((List.getD o4 (Int.toNat i) ((0 : Int), ((0 : Int), false))).1, false))] : List (Int × Int × Bool)), (c0, (c1, (c2, (c3, (c4, (c5, List.set o4 (Int.toNat i) ((List.getD o4 (Int.toNat i) ((0 : Int), ((0 : Int), false))).1, (bitAndNot .i64 (((List.getD o4 (Int.toNat i) ((0 : Int), ((0 : Int), false))).2).1) (shiftL .i64 (1 : Int) key), false)))))))))
          else none
          else none
          else none
        else
          bif decide (0 ≤ key) then
          bif inRange i (List.length o4) then
          bif (bitAndNot .i64 (((List.getD o4 (Int.toNat i) ((0 : Int), ((0 : Int), false))).2).1) (shiftL .i64 (1 : Int) key)) == (0 : Int) then
            bif decide (0 ≤ i) && decide (i ≤ (List.length (List.set o4 (Int.toNat i) ((List.getD o4 (Int.toNat i) ((0 : Int), ((0 : Int), false))).1, (bitAndNot .i64 (((List.getD o4 (Int.toNat i) ((0 : Int), ((0 : Int), false))).2).1) (shiftL .i64 (1 : Int) key), false))) : Int)) then
            bif decide (List.length ([] : List (Int × Int × Bool)) + List.length (List.drop 0 (List.take (Int.toNat i) (List.set o4 (Int.toNat i) ((List.getD o4 (Int.toNat i) ((0 : Int), ((0 : Int), false))).1, (bitAndNot .i64 (((List.getD o4 (Int.toNat i) ((0 : Int), ((0 : Int), false))).2).1) (shiftL .i64 (1 : Int) key), false))))) ≤ maxN) then
            bif decide (0 ≤ IntKind.wrap .i64 (i + (1 : Int))) && decide (IntKind.wrap .i64 (i + (1 : Int)) ≤ (List.length (List.set o4 (Int.toNat i) ((List.getD o4 (Int.toNat i) ((0 : Int), ((0 : Int), false))).1, (bitAndNot .i64 (((List.getD o4 (Int.toNat i) ((0 : Int), ((0 : Int), false))).2).1) (shiftL .i64 (1 : Int) key), false))) : Int)) then
            bif decide (List.length (([] : List (Int × Int × Bool)) ++ (List.drop 0 (List.take (Int.toNat i) (List.set o4 (Int.toNat i) ((List.getD o4 (Int.toNat i) ((0 : Int), ((0 : Int), false))).1, (bitAndNot .i64 (((List.getD o4 (Int.toNat i) ((0 : Int), ((0 : Int), false))).2).1) (shiftL .i64 (1 : Int) key), false)))))) + List.length (List.drop (Int.toNat (IntKind.wrap .i64 (i + (1 : Int)))) (List.set o4 (Int.toNat i) ((List.getD o4 (Int.toNat i) ((0 : Int), ((0 : Int), false))).1, (bitAndNot .i64 (((List.getD o4 (Int.toNat i) ((0 : Int), ((0 : Int), false))).2).1) (shiftL .i64 (1 : Int) key), false)))) ≤ maxN) then
            some (([] : List (Int × Int × Bool)), (c0, (c1, (c2, (c3, (c4, (c5, (([] : List (Int × Int × Bool)) ++ (List.drop 0 (List.take (Int.toNat i) (List.set o4 (Int.toNat i) ((List.getD o4 (Int.toNat i) ((0 : Int), ((0 : Int), false))).1, (bitAndNot .i64 (((List.getD o4 (Int.toNat i) ((0 : Int), ((0 : Int), false))).2).1) (shiftL .i64 (1 : Int) key), false)))))) ++ (List.drop (Int.toNat (IntKind.wrap .i64 (i + (1 : Int)))) (List.set o4 (Int.toNat i) ((List.getD o4 (Int.toNat i) ((0 : Int), ((0 : Int), false))).1, (bitAndNot .i64 (((List.getD o4 (Int.toNat i) ((0 : Int), ((0 : Int), false))).2).1) (shiftL .i64 (1 : Int) key), false)))))))))))
            else none
            else none
            else none
            else none
          else
            some (([] : List (Int × Int × Bool)), (c0, (c1, (c2, (c3, (c4, (c5, List.set o4 (Int.toNat i) ((List.getD o4 (Int.toNat i) ((0 : Int), ((0 : Int), false))).1, (bitAndNot .i64 (((List.getD o4 (Int.toNat i) ((0 : Int), ((0 : Int), false))).2).1) (shiftL .i64 (1 : Int) key), false)))))))))
          else none
          else none
      else none
      else none
    else
      bif decide (0 ≤ key) then
      some (([(w, (key, false))] : List (Int × Int × Bool)), (c0, (c1, (c2, (c3, (c4, (bitAndNot .i64 c5 (shiftL .i64 (1 : Int) key), o4)))))))
      else none := by kernel_rfl
theorem spec_l11Up.F_eq (N : Nat) (c : (List (Int × Int)) × Int × (List (Int × Int × Bool)) × Int × Int × Int × List (Int × Int × Bool)) (key : Int) (w : Int) : spec_l11Up.F N (c, key, w) =
    spec_l11Up.L1 N N key w (0 : Int) c.1 c.2.1 c.2.2.1 c.2.2.2.1 c.2.2.2.2.1 c.2.2.2.2.2.1 c.2.2.2.2.2.2 := by kernel_rfl

def spec_l11Run.c1 : XCode := .seq (.seq (.region false [mv 12 0, o1 13 .nilck 12, o1 14 (.fieldAddr 2) 13, ow 15 (.load false 1) [.slot 14] [0] [], o1 16 .len 15, op 17 (.bin .gtr) [.slot 16, .const (.one (.int .i64 (0 : Int)))]]) (.cond (.slot 17) (.skip) (.exit 0))) (.block 1 (.seq (.region false [mv 18 0, o1 19 .nilck 18, o1 20 (.fieldAddr 2) 19, ow 21 (.load false 1) [.slot 20] [0] [], op 22 (.indexAddr (.pair (.int .i64) (.pair (.int .i64) (.bool)))) [.slot 21, .const (.one (.int .i64 (0 : Int)))], o1 23 (.load true 3) 22, ow 4 (.alloc 2 [.int .i64 (0 : Int), .int .i64 (0 : Int), .bool false]) [] [2] [2], on (.store 3) [.slot 4, .slot 23] [2] [2]]) (.seq (.region true [mv 24 0, o1 25 .nilck 24, o1 26 (.fieldAddr 4) 25, ow 27 (.load false 1) [.slot 26] [0] [], o1 28 (.fieldAddr 0) 4, ow 29 (.load false 1) [.slot 28] [2] [], o2 30 .max 27 29, mv 5 30]) (.seq (.region false [op 6 .move [.const (.one (.int .i64 (1 : Int)))]]) (.seq (.seq (.region false [o1 31 (.fieldAddr 2) 4, ow 32 (.load false 1) [.slot 31] [2] []]) (.cond (.slot 32) (.seq (.region true [mv 34 0, o1 35 .nilck 34, o1 36 (.fieldAddr 0) 35, ow 37 (.load false 1) [.slot 36] [0] [], mv 38 0, o1 39 .nilck 38, o1 40 (.fieldAddr 1) 39, ow 41 (.load false 1) [.slot 40] [0] [], mv 42 0, o1 43 .nilck 42, o1 44 (.fieldAddr 2) 43, ow 45 (.load false 1) [.slot 44] [0] [], mv 46 0, o1 47 .nilck 46, o1 48 (.fieldAddr 3) 47, ow 49 (.load false 1) [.slot 48] [0] [], op 50 (.call ⟨52, vs 4, no 4, [.val false 1, .val false 1, .val false 1], ims 3, true⟩) [.slot 37, .slot 41, .slot 45, .slot 49], mv 33 50, o1 51 (.extract 0) 33, o1 52 (.extract 1) 33, o1 53 (.extract 2) 33, mv 7 51, mv 8 52, mv 9 53]) (.seq (.seq (.region false [mv 54 7, op 55 (.bin .eql) [.slot 54, .const (.one (.int .i64 (0 : Int)))]]) (.cond (.slot 55) (.seq (.region false [mv 56 3, mv 2 56]) (.ret)) (.skip))) (.seq (.region false [mv 57 7, mv 6 57]) (.seq (.region false [mv 58 5, mv 59 8, o2 60 .max 58 59, mv 5 60]) (.seq (.region false [mv 61 9, op 62 (.bin .geq) [.slot 61, .const (.one (.int .i64 (0 : Int)))]]) (.cond (.slot 62) (.seq (.region false [mv 63 3, mv 64 5, mv 65 9, op 66 (.build [.int .i64 (0 : Int), .int .i64 (0 : Int), .bool false] [(0, 1), (1, 1), (2, 1)]) [.slot 64, .slot 65, .const (.one (.bool true))], ow 67 (.buildSlice false 3 4 (.pair (.int .i64) (.pair (.int .i64) (.bool))) 1 [(0, 3)] [.int .i64 (0 : Int), .int .i64 (0 : Int), .bool false]) [.slot 66] [3] [3], ow 68 (.append false 1 4 (.pair (.int .i64) (.pair (.int .i64) (.bool)))) [.slot 63, .slot 67] [1, 3] [1], mv 3 68]) (.seq (.region false [mv 69 0, o1 70 .nilck 69, o1 71 (.fieldAddr 0) 70, ow 72 (.load false 1) [.slot 71] [0] [], mv 73 9, o2 74 (.call ⟨37, vs 2, no 2, [.val false 1], ims 1, true⟩) 72 73, mv 10 74]) (.region false [mv 75 0, ow 76 (.buildSlice false 4 5 (.pair (.int .i64) (.pair (.int .i64) (.bool))) 0 [] [.int .i64 (0 : Int), .int .i64 (0 : Int), .bool false]) [] [4] [4], mv 77 0, o1 78 .nilck 77, o1 79 (.fieldAddr 6) 78, ow 80 (.load false 1) [.slot 79] [0] [], ow 81 (.append false 4 5 (.pair (.int .i64) (.pair (.int .i64) (.bool)))) [.slot 76, .slot 80] [4, 8] [4], mv 82 9, mv 83 10, op 84 (.build [.int .i64 (0 : Int), .int .i64 (0 : Int), .bool false] [(0, 1), (1, 1), (2, 1)]) [.slot 82, .slot 83, .const (.one (.bool true))], ow 85 (.buildSlice false 5 5 (.pair (.int .i64) (.pair (.int .i64) (.bool))) 1 [(0, 3)] [.int .i64 (0 : Int), .int .i64 (0 : Int), .bool false]) [.slot 84] [5] [5], ow 86 (.append false 4 5 (.pair (.int .i64) (.pair (.int .i64) (.bool)))) [.slot 81, .slot 85] [4, 5] [4], o1 87 .nilck 75, o1 88 (.fieldAddr 6) 87, on (.store 1) [.slot 88, .slot 86] [0] [0]]))) (.seq (.region false [mv 89 3, mv 90 5, o1 91 (.fieldAddr 1) 4, ow 92 (.load false 1) [.slot 91] [2] [], op 93 (.build [.int .i64 (0 : Int), .int .i64 (0 : Int), .bool false] [(0, 1), (1, 1), (2, 1)]) [.slot 90, .slot 92, .const (.one (.bool true))], ow 94 (.buildSlice false 7 4 (.pair (.int .i64) (.pair (.int .i64) (.bool))) 1 [(0, 3)] [.int .i64 (0 : Int), .int .i64 (0 : Int), .bool false]) [.slot 93] [7] [7], ow 95 (.append false 1 4 (.pair (.int .i64) (.pair (.int .i64) (.bool)))) [.slot 89, .slot 94] [1, 7] [1], mv 3 95]) (.region true [mv 96 0, mv 97 0, o1 98 .nilck 97, o1 99 (.fieldAddr 5) 98, ow 100 (.load false 1) [.slot 99] [0] [], o1 101 (.fieldAddr 1) 4, ow 102 (.load false 1) [.slot 101] [2] [], op 103 (.bin .shl) [.const (.one (.int .i64 (1 : Int))), .slot 102], o2 104 (.bin .or) 100 103, o1 105 .nilck 96, o1 106 (.fieldAddr 5) 105, on (.store 1) [.slot 106, .slot 104] [0] [0]])))))))) (.region false [mv 107 3, mv 108 0, o1 109 (.fieldAddr 1) 4, ow 110 (.load false 1) [.slot 109] [2] [], mv 111 5, ow 112 (.call ⟨53, [.box 0 7, .val false 1, .val false 1], [none, none, none, none, none, none, some (8, 5), none, none], [.val false 1], [.imm, .imm, .imm, .imm, .imm, .imm, .imm, .own 8 5], false⟩) [.slot 108, .slot 110, .slot 111] [0, 8] [0, 8], ow 113 (.append false 1 4 (.pair (.int .i64) (.pair (.int .i64) (.bool)))) [.slot 107, .slot 112] [1] [1], mv 3 113]))) (.seq (.region false [mv 114 0, mv 115 5, o1 116 .nilck 114, o1 117 (.fieldAddr 4) 116, on (.store 1) [.slot 117, .slot 115] [0] [0]]) (.region false [mv 118 0, ow 119 (.buildSlice false 6 4 (.pair (.int .i64) (.pair (.int .i64) (.bool))) 0 [] [.int .i64 (0 : Int), .int .i64 (0 : Int), .bool false]) [] [6] [6], mv 120 0, o1 121 .nilck 120, o1 122 (.fieldAddr 2) 121, ow 123 (.load false 1) [.slot 122] [0] [], mv 124 6, o2 125 (.slice (.pair (.int .i64) (.pair (.int .i64) (.bool))) true false) 123 124, ow 126 (.append false 6 4 (.pair (.int .i64) (.pair (.int .i64) (.bool)))) [.slot 119, .slot 125] [6] [6], o1 127 .nilck 118, o1 128 (.fieldAddr 2) 127, on (.store 1) [.slot 128, .slot 126] [0] [0]])))))))
def spec_l11Run.c2 : XCode := .seq (.region false [mv 129 3, mv 2 129]) (.ret)
def spec_l11Run.x : XFunc := { nslots := 130, nobj := 10, pars := [.box 0 7], rowsIn := [none, none, none, none, none, none, some (8, 5)], rets := [.tmp 2 false 1], outs := [.own 4, .imm, .imm, .imm, .imm, .imm, .imm, .own 5], fresh := false, arg := .pair (.list (.pair (.int .i64) (.int .i64))) (.pair (.int .i64) (.pair (.list (.pair (.int .i64) (.pair (.int .i64) (.bool)))) (.pair (.int .i64) (.pair (.int .i64) (.pair (.int .i64) (.list (.pair (.int .i64) (.pair (.int .i64) (.bool))))))))), ret := .pair (.list (.pair (.int .i64) (.pair (.int .i64) (.bool)))) (.pair (.list (.pair (.int .i64) (.int .i64))) (.pair (.int .i64) (.pair (.list (.pair (.int .i64) (.pair (.int .i64) (.bool)))) (.pair (.int .i64) (.pair (.int .i64) (.pair (.int .i64) (.list (.pair (.int .i64) (.pair (.int .i64) (.bool)))))))))), body := .seq (.region false [op 2 .move [.const (.one (.nil))]]) (.seq (.region false [ow 11 (.buildSlice false 1 4 (.pair (.int .i64) (.pair (.int .i64) (.bool))) 0 [] [.int .i64 (0 : Int), .int .i64 (0 : Int), .bool false]) [] [1] [1], mv 3 11]) (.seq (.block 0 (.loop [.freeze 6, .rename 4 8, .away 8, .keep [0, 3], .drop 2, .drop 3, .drop 4, .drop 5, .drop 6, .drop 7, .drop 9, .weak, .norm] (spec_l11Run.c1))) (spec_l11Run.c2))) }
def spec_l11Run.env (N : Nat) : Env := envOf (tbl [(52, spec_MatchCombo.fs N), (37, spec_l11Keys.fs N), (53, spec_l11Up.fs N)] noFS)
def spec_l11Run.F (N : Nat) (x : (List (Int × Int)) × Int × (List (Int × Int × Bool)) × Int × Int × Int × List (Int × Int × Bool)) : Option ((List (Int × Int × Bool)) × (List (Int × Int)) × Int × (List (Int × Int × Bool)) × Int × Int × Int × List (Int × Int × Bool)) := XFunc.run spec_l11Run.x (spec_l11Run.env N) N x
def spec_l11Run.k2 (N : Nat) : Ex → S → Option ((List (Int × Int × Bool)) × (List (Int × Int)) × Int × (List (Int × Int × Bool)) × Int × Int × Int × List (Int × Int × Bool)) := seqK (fun s => XCode.runK (spec_l11Run.env N) N (spec_l11Run.c2) s (XFunc.endK spec_l11Run.x)) (XFunc.endK spec_l11Run.x)
def spec_l11Run.k1 (N : Nat) : Ex → S → Option ((List (Int × Int × Bool)) × (List (Int × Int)) × Int × (List (Int × Int × Bool)) × Int × Int × Int × List (Int × Int × Bool)) := blockK 0 (spec_l11Run.k2 N)
def spec_l11Run.L1 (N : Nat) (n1 : Nat) (c0 : List (Int × Int)) (c1 : Int) (c2 : List (Int × Int × Bool)) (c3 : Int) (c4 : Int) (c5 : Int) (o1 : List (Int × Int × Bool)) (o8 : List (Int × Int × Bool)) : Option ((List (Int × Int × Bool)) × (List (Int × Int)) × Int × (List (Int × Int × Bool)) × Int × Int × Int × List (Int × Int × Bool)) := loopK [.freeze 6, .rename 4 8, .away 8, .keep [0, 3], .drop 2, .drop 3, .drop 4, .drop 5, .drop 6, .drop 7, .drop 9, .weak, .norm] (fun s k => XCode.runK (spec_l11Run.env N) N spec_l11Run.c1 s k) n1
  { t := [.one (.ptr 0 0 0), .junk, .junk, .one (.ref 1 0 .all), .junk, .junk, .junk, .junk, .junk, .junk, .junk, .junk, .junk, .junk, .junk, .junk, .junk, .junk, .junk, .junk, .junk, .junk, .junk, .junk, .junk, .junk, .junk, .junk, .junk, .junk, .junk, .junk, .junk, .junk, .junk, .junk, .junk, .junk, .junk, .junk, .junk, .junk, .junk, .junk, .junk, .junk, .junk, .junk, .junk, .junk, .junk, .junk, .junk, .junk, .junk, .junk, .junk, .junk, .junk, .junk, .junk, .junk, .junk, .junk, .junk, .junk, .junk, .junk, .junk, .junk, .junk, .junk, .junk, .junk, .junk, .junk, .junk, .junk, .junk, .junk, .junk, .junk, .junk, .junk, .junk, .junk, .junk, .junk, .junk, .junk, .junk, .junk, .junk, .junk, .junk, .junk, .junk, .junk, .junk, .junk, .junk, .junk, .junk, .junk, .junk, .junk, .junk, .junk, .junk, .junk, .junk, .junk, .junk, .junk, .junk, .junk, .junk, .junk, .junk, .junk, .junk, .junk, .junk, .junk, .junk, .junk, .junk, .junk, .junk, .junk], h := [.box 0 true [.sl false (.pair (.int .i64) (.int .i64)) c0, .int .i64 c1, .sl false (.pair (.int .i64) (.pair (.int .i64) (.bool))) c2, .int .i64 c3, .int .i64 c4, .int .i64 c5, .ref 8 0 .all], .row 0 false false 4 (.pair (.int .i64) (.pair (.int .i64) (.bool))) o1, .absent 0, .absent 0, .absent 0, .absent 0, .absent 0, .absent 0, .row 0 false false 5 (.pair (.int .i64) (.pair (.int .i64) (.bool))) o8, .absent 0] }
  (spec_l11Run.k1 N)

theorem spec_l11Run.L1_eq (N : Nat) (n1 : Nat) (c0 : List (Int × Int)) (c1 : Int) (c2 : List (Int × Int × Bool)) (c3 : Int) (c4 : Int) (c5 : Int) (o1 : List (Int × Int × Bool)) (o8 : List (Int × Int × Bool)) : spec_l11Run.L1 N (n1 + 1) c0 c1 c2 c3 c4 c5 o1 o8 =
    bif decide ((List.length c2 : Int) > (0 : Int)) then
      bif inRange (0 : Int) (List.length c2) then
      bif ((nth ((0 : Int), ((0 : Int), false)) c2 (0 : Int)).2).2 then
        bindO (spec_MatchCombo.F N (c0, (c1, (c2, c3)))) fun r1 =>
        bif r1.1 == (0 : Int) then
          some (o1, (c0, (c1, (c2, (c3, (c4, (c5, o8)))))))
        else
          bif decide (r1.2.2 ≥ (0 : Int)) then
            bif decide (List.length o1 + List.length ([(maxI (maxI c4 ((nth ((0 : Int), ((0 : Int), false)) c2 (0 : Int)).1)) r1.2.1, (r1.2.2, true))] : List (Int × Int × Bool)) ≤ maxN) then
            bindO (spec_l11Keys.F N (c0, r1.2.2)) fun r2 =>
            bif decide (List.length ([] : List (Int × Int × Bool)) + List.length o8 ≤ maxN) then
            bif decide (List.length (([] : List (Int × Int × Bool)) ++ o8) + List.length ([(r1.2.2, (r2, true))] : List (Int × Int × Bool)) ≤ maxN) then
            bif decide (0 ≤ r1.1) && decide (r1.1 ≤ (List.length c2 : Int)) then
            bif decide (List.length ([] : List (Int × Int × Bool)) + List.length (List.drop (Int.toNat r1.1) c2) ≤ maxN) then
            spec_l11Run.L1 N n1 c0 c1 (([] : List (Int × Int × Bool)) ++ (List.drop (Int.toNat r1.1) c2)) c3 (maxI (maxI c4 ((nth ((0 : Int), ((0 : Int), false)) c2 (0 : Int)).1)) r1.2.1) c5 (o1 ++ ([(maxI (maxI c4 ((nth ((0 : Int), ((0 : Int), false)) c2 (0 : Int)).1)) r1.2.1, (r1.2.2, true))] : List (Int × Int × Bool))) ((([] : List (Int × Int × Bool)) ++ o8) ++ ([(r1.2.2, (r2, true))] : List (Int × Int × Bool)))
            else none
            else none
            else none
            else none
            else none
          else
            bif decide (List.length o1 + List.length ([(maxI (maxI c4 ((nth ((0 : Int), ((0 : Int), false)) c2 (0 : Int)).1)) r1.2.1, (((nth ((0 : Int), ((0 : Int), false)) c2 (0 : Int)).2).1, true))] : List (Int × Int × Bool)) ≤ maxN) then
            bif decide (0 ≤ ((nth ((0 : Int), ((0 : Int), false)) c2 (0 : Int)).2).1) then
            bif decide (0 ≤ r1.1) && decide (r1.1 ≤ (List.length c2 : Int)) then
            bif decide (List.length ([] : List (Int × Int × Bool)) + List.length (List.drop (Int.toNat r1.1) c2) ≤ maxN) then
            spec_l11Run.L1 N n1 c0 c1 (([] : List (Int × Int × Bool)) ++ (List.drop (Int.toNat r1.1) c2)) c3 (maxI (maxI c4 ((nth ((0 : Int), ((0 : Int), false)) c2 (0 : Int)).1)) r1.2.1) (bitOr .i64 c5 (shiftL .i64 (1 : Int) (((nth ((0 : Int), ((0 : Int), false)) c2 (0 : Int)).2).1))) (o1 ++ ([(maxI (maxI c4 ((nth ((0 : Int), ((0 : Int), false)) c2 (0 : Int)).1)) r1.2.1, (((nth ((0 : Int), ((0 : Int), false)) c2 (0 : Int)).2).1, true))] : List (Int × Int × Bool))) o8
            else none
            else none
            else none
            else none
      else
        bindO (spec_l11Up.F N ((c0, (c1, (c2, (c3, (c4, (c5, o8)))))), (((nth ((0 : Int), ((0 : Int), false)) c2 (0 : Int)).2).1, maxI c4 ((nth ((0 : Int), ((0 : Int), false)) c2 (0 : Int)).1)))) fun r3 =>
        bif decide (List.length o1 + List.length r3.1 ≤ maxN) then
        bif decide (0 ≤ (1 : Int)) && decide ((1 : Int) ≤ (List.length r3.2.2.2.1 : Int)) then
        bif decide (List.length ([] : List (Int × Int × Bool)) + List.length (List.drop 1 r3.2.2.2.1) ≤ maxN) then
        spec_l11Run.L1 N n1 r3.2.1 r3.2.2.1 (([] : List (Int × Int × Bool)) ++ (List.drop 1 r3.2.2.2.1)) r3.2.2.2.2.1 (maxI c4 ((nth ((0 : Int), ((0 : Int), false)) c2 (0 : Int)).1)) r3.2.2.2.2.2.2.1 (o1 ++ r3.1) r3.2.2.2.2.2.2.2
        else none
        else none
        else none
      else none
    else
      some (o1, (c0, (c1, (c2, (c3, (c4, (c5, o8))))))) := by kernel_rfl
theorem spec_l11Run.F_eq (N : Nat) (c : (List (Int × Int)) × Int × (List (Int × Int × Bool)) × Int × Int × Int × List (Int × Int × Bool)) : spec_l11Run.F N c =
    spec_l11Run.L1 N N c.1 c.2.1 c.2.2.1 c.2.2.2.1 c.2.2.2.2.1 c.2.2.2.2.2.1 ([] : List (Int × Int × Bool)) c.2.2.2.2.2.2 := by kernel_rfl

end Go.Kb
