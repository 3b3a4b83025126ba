/- The texts of functions, printed by a program, and the equations of their runs. -/
import Derived.Test.YtipjdpnpahhndaaDoorCharactersF1
import Derived.Test.YtipjdpnpahhndaaDoorCharactersF2
import Derived.Test.YtipjdpnpahhndaaDoorCharactersF3
import Derived.Test.YtipjdpnpahhndaaDoorCharactersF4
import Derived.Test.YtipjdpnpahhndaaDoorCharactersF5
import Derived.Test.YtipjdpnpahhndaaDoorCharactersF6
import Derived.Test.YtipjdpnpahhndaaDoorCharactersF7
import Derived.Test.YtipjdpnpahhndaaDoorCharactersF8
import Derived.Test.YtipjdpnpahhndaaDoorKd
import Derived.KernelRfl
namespace Go.Kb
def impl_CodeName.x : XFunc := { nslots := 14, nobj := 0, pars := [.val false 1], rowsIn := [none], rets := [.tmp 2 false 1], outs := [.imm], fresh := true, arg := .int .i64, ret := .str, body := .seq (.region false [op 2 .move [.const (.one (.str ([] : List UInt8)))]]) (.seq (.seq (.region false [mv 3 0, op 4 (.bin .lss) [.slot 3, .const (.one (.int .i64 (1 : Int)))], ⟨some 5, .move, [.slot 4], [], [], none, true⟩, ⟨some 6, .move, [.slot 0], [], [], some (5, false), false⟩, ⟨some 7, .bin .gtr, [.slot 6, .const (.one (.int .i64 (56 : Int)))], [], [], some (5, false), false⟩, op 8 .pick [.slot 5, .const (.one (.bool true)), .slot 7]]) (.cond (.slot 8) (.seq (.region false [op 2 .move [.const (.one (.str ([] : List UInt8)))]]) (.ret)) (.skip))) (.seq (.region false [op 9 (.call ⟨372, vs 2, no 2, [.val false 1], ims 1, true⟩) [.const (.one (.str ([97, 32, 98, 32, 99, 32, 100, 32, 101, 32, 102, 32, 103, 32, 104, 32, 105, 32, 106, 32, 107, 32, 108, 32, 109, 32, 110, 32, 111, 32, 112, 32, 113, 32, 114, 32, 115, 32, 116, 32, 117, 32, 118, 32, 119, 32, 120, 32, 121, 32, 122, 32, 49, 32, 50, 32, 51, 32, 52, 32, 53, 32, 54, 32, 55, 32, 56, 32, 57, 32, 48, 32, 101, 110, 116, 101, 114, 32, 101, 115, 99, 32, 98, 97, 99, 107, 32, 116, 97, 98, 32, 115, 112, 97, 99, 101, 32, 109, 105, 110, 117, 115, 32, 101, 113, 117, 97, 108, 32, 108, 101, 102, 116, 32, 114, 105, 103, 104, 116, 32, 117, 112, 32, 100, 111, 119, 110, 32, 102, 49, 32, 102, 50, 32, 102, 51, 32, 102, 52, 32, 102, 53, 32, 102, 54, 32, 102, 55, 32, 102, 56, 32, 102, 57] : List UInt8))), .const (.one (.str ([32] : List UInt8)))], mv 10 0, op 11 (.bin .sub) [.slot 10, .const (.one (.int .i64 (1 : Int)))], o2 12 (.indexAddr (.str)) 9 11, o1 13 (.load false 1) 12, mv 2 13]) (.ret))) }
def impl_CodeName.env (N : Nat) : Env := envOf (tbl [(372, ext_strings_Split.fs N)] noFS)
def impl_CodeName.F (N : Nat) (x : Int) : Option (List UInt8) := XFunc.run impl_CodeName.x (impl_CodeName.env N) N x
def impl_CodeName.fs (N : Nat) : FS := { arg := .int .i64, ret := .str, fresh := true, F := impl_CodeName.F N }

theorem impl_CodeName.F_eq (N : Nat) (code : Int) : impl_CodeName.F N code =
    bif decide (code < (1 : Int)) then
      some ([] : List UInt8)
    else
      bif decide (code > (56 : Int)) then
        some ([] : List UInt8)
      else
        bindO (ext_strings_Split.F N (([97, 32, 98, 32, 99, 32, 100, 32, 101, 32, 102, 32, 103, 32, 104, 32, 105, 32, 106, 32, 107, 32, 108, 32, 109, 32, 110, 32, 111, 32, 112, 32, 113, 32, 114, 32, 115, 32, 116, 32, 117, 32, 118, 32, 119, 32, 120, 32, 121, 32, 122, 32, 49, 32, 50, 32, 51, 32, 52, 32, 53, 32, 54, 32, 55, 32, 56, 32, 57, 32, 48, 32, 101, 110, 116, 101, 114, 32, 101, 115, 99, 32, 98, 97, 99, 107, 32, 116, 97, 98, 32, 115, 112, 97, 99, 101, 32, 109, 105, 110, 117, 115, 32, 101, 113, 117, 97, 108, 32, 108, 101, 102, 116, 32, 114, 105, 103, 104, 116, 32, 117, 112, 32, 100, 111, 119, 110, 32, 102, 49, 32, 102, 50, 32, 102, 51, 32, 102, 52, 32, 102, 53, 32, 102, 54, 32, 102, 55, 32, 102, 56, 32, 102, 57] : List UInt8), ([32] : List UInt8))) fun r1 =>
        bif inRange (IntKind.wrap .i64 (code - (1 : Int))) (List.length r1) then
        some (nth ([] : List UInt8) r1 (IntKind.wrap .i64 (code - (1 : Int))))
        else none := by kernel_rfl

def impl_CharOf.x : XFunc := { nslots := 66, nobj := 1, pars := [.val false 1, .val false 1], rowsIn := [none, none], rets := [.tmp 4 false 1], outs := [.imm], fresh := true, arg := .pair (.int .i64) (.int .i64), ret := .str, body := .seq (.region false [op 4 .move [.const (.one (.str ([] : List UInt8)))]]) (.seq (.seq (.region false [mv 6 0, o1 7 (.call ⟨153, vs 1, no 1, [.val false 1], ims 1, true⟩) 6, o1 8 .not 7, ⟨some 9, .move, [.slot 8], [], [], none, true⟩, ⟨some 10, .move, [.slot 1], [], [], some (9, false), false⟩, ⟨some 11, .bin .neq, [.slot 10, .const (.one (.int .i64 (0 : Int)))], [], [], some (9, false), false⟩, ⟨some 12, .move, [.slot 11], [], [], some (9, false), true⟩, ⟨some 13, .move, [.slot 1], [], [], some (12, true), false⟩, ⟨some 14, .bin .neq, [.slot 13, .const (.one (.int .i64 (2 : Int)))], [], [], some (12, true), false⟩, ⟨some 15, .pick, [.slot 12, .slot 14, .const (.one (.bool false))], [], [], some (9, false), false⟩, op 16 .pick [.slot 9, .const (.one (.bool true)), .slot 15]]) (.cond (.slot 16) (.seq (.region false [op 4 .move [.const (.one (.str ([] : List UInt8)))]]) (.ret)) (.skip))) (.seq (.region false [mv 17 1, op 18 (.bin .eql) [.slot 17, .const (.one (.int .i64 (2 : Int)))], mv 5 18]) (.seq (.block 0 (.seq (.region false [mv 20 0, op 21 (.bin .leq) [.slot 20, .const (.one (.int .i64 (26 : Int)))], ⟨some 22, .move, [.slot 21], [], [], none, true⟩, ⟨some 23, .move, [.slot 5], [], [], some (22, true), false⟩, op 24 .pick [.slot 22, .slot 23, .const (.one (.bool false))], mv 19 24]) (.cond (.slot 19) (.seq (.region false [mv 25 0, op 26 (.bin .add) [.const (.one (.int .i64 (65 : Int))), .slot 25], op 27 (.bin .sub) [.slot 26, .const (.one (.int .i64 (1 : Int)))], o1 28 (.conv .u8) 27, ow 29 (.buildSlice false 0 1 (.int .u8) 1 [(0, 1)] [.int .u8 (0 : Int)]) [.slot 28] [0] [0], ow 30 .b2s [.slot 29] [0] [], mv 4 30]) (.ret)) (.seq (.region false [mv 32 0, op 33 (.bin .leq) [.slot 32, .const (.one (.int .i64 (26 : Int)))], mv 31 33]) (.cond (.slot 31) (.seq (.region false [mv 34 0, o1 35 (.call ⟨373, vs 1, no 1, [.val false 1], ims 1, true⟩) 34, mv 4 35]) (.ret)) (.seq (.region false [mv 37 0, op 38 (.bin .leq) [.slot 37, .const (.one (.int .i64 (36 : Int)))], ⟨some 39, .move, [.slot 38], [], [], none, true⟩, ⟨some 40, .move, [.slot 5], [], [], some (39, true), false⟩, op 41 .pick [.slot 39, .slot 40, .const (.one (.bool false))], mv 36 41]) (.cond (.slot 36) (.seq (.region false [mv 42 0, op 43 (.bin .sub) [.slot 42, .const (.one (.int .i64 (27 : Int)))], mv 44 0, op 45 (.bin .sub) [.slot 44, .const (.one (.int .i64 (26 : Int)))], op 46 (.strSlice true true) [.const (.one (.str ([33, 64, 35, 36, 37, 94, 38, 42, 40, 41] : List UInt8))), .slot 43, .slot 45], mv 4 46]) (.ret)) (.seq (.region false [mv 48 0, op 49 (.bin .leq) [.slot 48, .const (.one (.int .i64 (36 : Int)))], mv 47 49]) (.cond (.slot 47) (.seq (.region false [mv 50 0, o1 51 (.call ⟨373, vs 1, no 1, [.val false 1], ims 1, true⟩) 50, mv 4 51]) (.ret)) (.skip)))))))))) (.seq (.seq (.region false [mv 52 0, o1 53 (.call ⟨373, vs 1, no 1, [.val false 1], ims 1, true⟩) 52]) (.block 1 (.seq (.region false [op 55 (.bin .eql) [.slot 53, .const (.one (.str ([101, 110, 116, 101, 114] : List UInt8)))], mv 54 55]) (.cond (.slot 54) (.seq (.region false [op 4 .move [.const (.one (.str ([10] : List UInt8)))]]) (.ret)) (.seq (.region false [op 57 (.bin .eql) [.slot 53, .const (.one (.str ([116, 97, 98] : List UInt8)))], mv 56 57]) (.cond (.slot 56) (.seq (.region false [op 4 .move [.const (.one (.str ([9] : List UInt8)))]]) (.ret)) (.seq (.region false [op 59 (.bin .eql) [.slot 53, .const (.one (.str ([115, 112, 97, 99, 101] : List UInt8)))], mv 58 59]) (.cond (.slot 58) (.seq (.region false [op 4 .move [.const (.one (.str ([32] : List UInt8)))]]) (.ret)) (.seq (.region false [op 61 (.bin .eql) [.slot 53, .const (.one (.str ([109, 105, 110, 117, 115] : List UInt8)))], mv 60 61]) (.cond (.slot 60) (.seq (.seq (.region false [mv 62 5]) (.cond (.slot 62) (.seq (.region false [op 4 .move [.const (.one (.str ([95] : List UInt8)))]]) (.ret)) (.skip))) (.seq (.region false [op 4 .move [.const (.one (.str ([45] : List UInt8)))]]) (.ret))) (.seq (.region false [op 64 (.bin .eql) [.slot 53, .const (.one (.str ([101, 113, 117, 97, 108] : List UInt8)))], mv 63 64]) (.cond (.slot 63) (.seq (.seq (.region false [mv 65 5]) (.cond (.slot 65) (.seq (.region false [op 4 .move [.const (.one (.str ([43] : List UInt8)))]]) (.ret)) (.skip))) (.seq (.region false [op 4 .move [.const (.one (.str ([61] : List UInt8)))]]) (.ret))) (.skip))))))))))))) (.seq (.region false [op 4 .move [.const (.one (.str ([] : List UInt8)))]]) (.ret)))))) }
def impl_CharOf.env (N : Nat) : Env := envOf (tbl [(373, impl_CodeName.fs N), (153, impl_isCode.fs N)] noFS)
def impl_CharOf.F (N : Nat) (x : Int × Int) : Option (List UInt8) := XFunc.run impl_CharOf.x (impl_CharOf.env N) N x
def impl_CharOf.fs (N : Nat) : FS := { arg := .pair (.int .i64) (.int .i64), ret := .str, fresh := true, F := impl_CharOf.F N }

theorem impl_CharOf.F_eq (N : Nat) (code : Int) (mods : Int) : impl_CharOf.F N (code, mods) =
    bindO (impl_isCode.F N code) fun r1 =>
    bif !r1 then
      some ([] : List UInt8)
    else
      bif mods != (0 : Int) then
        bif mods != (2 : Int) then
          some ([] : List UInt8)
        else
          bif decide (code ≤ (26 : Int)) then
            bif mods == (2 : Int) then
              some (bytesOf ([IntKind.wrap .u8 (IntKind.wrap .i64 ((IntKind.wrap .i64 ((65 : Int) + code)) - (1 : Int)))] : List Int))
            else
              bif decide (code ≤ (26 : Int)) then
                bindO (impl_CodeName.F N code) fun r2 =>
                some r2
              else
                bif decide (code ≤ (36 : Int)) then
                  bif mods == (2 : Int) then
                    bif bounds (IntKind.wrap .i64 (code - (27 : Int))) (IntKind.wrap .i64 (code - (26 : Int))) (List.length ([33, 64, 35, 36, 37, 94, 38, 42, 40, 41] : List UInt8)) then
                    some (List.drop (Int.toNat (IntKind.wrap .i64 (code - (27 : Int)))) (List.take (Int.toNat (IntKind.wrap .i64 (code - (26 : Int)))) ([33, 64, 35, 36, 37, 94, 38, 42, 40, 41] : List UInt8)))
                    else none
                  else
                    bif decide (code ≤ (36 : Int)) then
                      bindO (impl_CodeName.F N code) fun r3 =>
                      some r3
                    else
                      bindO (impl_CodeName.F N code) fun r4 =>
                      bif r4 == ([101, 110, 116, 101, 114] : List UInt8) then
                        some ([10] : List UInt8)
                      else
                        bif r4 == ([116, 97, 98] : List UInt8) then
                          some ([9] : List UInt8)
                        else
                          bif r4 == ([115, 112, 97, 99, 101] : List UInt8) then
                            some ([32] : List UInt8)
                          else
                            bif r4 == ([109, 105, 110, 117, 115] : List UInt8) then
                              bif mods == (2 : Int) then
                                some ([95] : List UInt8)
                              else
                                some ([45] : List UInt8)
                            else
                              bif r4 == ([101, 113, 117, 97, 108] : List UInt8) then
                                bif mods == (2 : Int) then
                                  some ([43] : List UInt8)
                                else
                                  some ([61] : List UInt8)
                              else
                                some ([] : List UInt8)
                else
                  bif decide (code ≤ (36 : Int)) then
                    bindO (impl_CodeName.F N code) fun r5 =>
                    some r5
                  else
                    bindO (impl_CodeName.F N code) fun r6 =>
                    bif r6 == ([101, 110, 116, 101, 114] : List UInt8) then
                      some ([10] : List UInt8)
                    else
                      bif r6 == ([116, 97, 98] : List UInt8) then
                        some ([9] : List UInt8)
                      else
                        bif r6 == ([115, 112, 97, 99, 101] : List UInt8) then
                          some ([32] : List UInt8)
                        else
                          bif r6 == ([109, 105, 110, 117, 115] : List UInt8) then
                            bif mods == (2 : Int) then
                              some ([95] : List UInt8)
                            else
                              some ([45] : List UInt8)
                          else
                            bif r6 == ([101, 113, 117, 97, 108] : List UInt8) then
                              bif mods == (2 : Int) then
                                some ([43] : List UInt8)
                              else
                                some ([61] : List UInt8)
                            else
                              some ([] : List UInt8)
          else
            bif decide (code ≤ (26 : Int)) then
              bindO (impl_CodeName.F N code) fun r7 =>
              some r7
            else
              bif decide (code ≤ (36 : Int)) then
                bif mods == (2 : Int) then
                  bif bounds (IntKind.wrap .i64 (code - (27 : Int))) (IntKind.wrap .i64 (code - (26 : Int))) (List.length ([33, 64, 35, 36, 37, 94, 38, 42, 40, 41] : List UInt8)) then
                  some (List.drop (Int.toNat (IntKind.wrap .i64 (code - (27 : Int)))) (List.take (Int.toNat (IntKind.wrap .i64 (code - (26 : Int)))) ([33, 64, 35, 36, 37, 94, 38, 42, 40, 41] : List UInt8)))
                  else none
                else
                  bif decide (code ≤ (36 : Int)) then
                    bindO (impl_CodeName.F N code) fun r8 =>
                    some r8
                  else
                    bindO (impl_CodeName.F N code) fun r9 =>
                    bif r9 == ([101, 110, 116, 101, 114] : List UInt8) then
                      some ([10] : List UInt8)
                    else
                      bif r9 == ([116, 97, 98] : List UInt8) then
                        some ([9] : List UInt8)
                      else
                        bif r9 == ([115, 112, 97, 99, 101] : List UInt8) then
                          some ([32] : List UInt8)
                        else
                          bif r9 == ([109, 105, 110, 117, 115] : List UInt8) then
                            bif mods == (2 : Int) then
                              some ([95] : List UInt8)
                            else
                              some ([45] : List UInt8)
                          else
                            bif r9 == ([101, 113, 117, 97, 108] : List UInt8) then
                              bif mods == (2 : Int) then
                                some ([43] : List UInt8)
                              else
                                some ([61] : List UInt8)
                            else
                              some ([] : List UInt8)
              else
                bif decide (code ≤ (36 : Int)) then
                  bindO (impl_CodeName.F N code) fun r10 =>
                  some r10
                else
                  bindO (impl_CodeName.F N code) fun r11 =>
                  bif r11 == ([101, 110, 116, 101, 114] : List UInt8) then
                    some ([10] : List UInt8)
                  else
                    bif r11 == ([116, 97, 98] : List UInt8) then
                      some ([9] : List UInt8)
                    else
                      bif r11 == ([115, 112, 97, 99, 101] : List UInt8) then
                        some ([32] : List UInt8)
                      else
                        bif r11 == ([109, 105, 110, 117, 115] : List UInt8) then
                          bif mods == (2 : Int) then
                            some ([95] : List UInt8)
                          else
                            some ([45] : List UInt8)
                        else
                          bif r11 == ([101, 113, 117, 97, 108] : List UInt8) then
                            bif mods == (2 : Int) then
                              some ([43] : List UInt8)
                            else
                              some ([61] : List UInt8)
                          else
                            some ([] : List UInt8)
      else
        bif decide (code ≤ (26 : Int)) then
          bif mods == (2 : Int) then
            some (bytesOf ([IntKind.wrap .u8 (IntKind.wrap .i64 ((IntKind.wrap .i64 ((65 : Int) + code)) - (1 : Int)))] : List Int))
          else
            bif decide (code ≤ (26 : Int)) then
              bindO (impl_CodeName.F N code) fun r12 =>
              some r12
            else
              bif decide (code ≤ (36 : Int)) then
                bif mods == (2 : Int) then
                  bif bounds (IntKind.wrap .i64 (code - (27 : Int))) (IntKind.wrap .i64 (code - (26 : Int))) (List.length ([33, 64, 35, 36, 37, 94, 38, 42, 40, 41] : List UInt8)) then
                  some (List.drop (Int.toNat (IntKind.wrap .i64 (code - (27 : Int)))) (List.take (Int.toNat (IntKind.wrap .i64 (code - (26 : Int)))) ([33, 64, 35, 36, 37, 94, 38, 42, 40, 41] : List UInt8)))
                  else none
                else
                  bif decide (code ≤ (36 : Int)) then
                    bindO (impl_CodeName.F N code) fun r13 =>
                    some r13
                  else
                    bindO (impl_CodeName.F N code) fun r14 =>
                    bif r14 == ([101, 110, 116, 101, 114] : List UInt8) then
                      some ([10] : List UInt8)
                    else
                      bif r14 == ([116, 97, 98] : List UInt8) then
                        some ([9] : List UInt8)
                      else
                        bif r14 == ([115, 112, 97, 99, 101] : List UInt8) then
                          some ([32] : List UInt8)
                        else
                          bif r14 == ([109, 105, 110, 117, 115] : List UInt8) then
                            bif mods == (2 : Int) then
                              some ([95] : List UInt8)
                            else
                              some ([45] : List UInt8)
                          else
                            bif r14 == ([101, 113, 117, 97, 108] : List UInt8) then
                              bif mods == (2 : Int) then
                                some ([43] : List UInt8)
                              else
                                some ([61] : List UInt8)
                            else
                              some ([] : List UInt8)
              else
                bif decide (code ≤ (36 : Int)) then
                  bindO (impl_CodeName.F N code) fun r15 =>
                  some r15
                else
                  bindO (impl_CodeName.F N code) fun r16 =>
                  bif r16 == ([101, 110, 116, 101, 114] : List UInt8) then
                    some ([10] : List UInt8)
                  else
                    bif r16 == ([116, 97, 98] : List UInt8) then
                      some ([9] : List UInt8)
                    else
                      bif r16 == ([115, 112, 97, 99, 101] : List UInt8) then
                        some ([32] : List UInt8)
                      else
                        bif r16 == ([109, 105, 110, 117, 115] : List UInt8) then
                          bif mods == (2 : Int) then
                            some ([95] : List UInt8)
                          else
                            some ([45] : List UInt8)
                        else
                          bif r16 == ([101, 113, 117, 97, 108] : List UInt8) then
                            bif mods == (2 : Int) then
                              some ([43] : List UInt8)
                            else
                              some ([61] : List UInt8)
                          else
                            some ([] : List UInt8)
        else
          bif decide (code ≤ (26 : Int)) then
            bindO (impl_CodeName.F N code) fun r17 =>
            some r17
          else
            bif decide (code ≤ (36 : Int)) then
              bif mods == (2 : Int) then
                bif bounds (IntKind.wrap .i64 (code - (27 : Int))) (IntKind.wrap .i64 (code - (26 : Int))) (List.length ([33, 64, 35, 36, 37, 94, 38, 42, 40, 41] : List UInt8)) then
                some (List.drop (Int.toNat (IntKind.wrap .i64 (code - (27 : Int)))) (List.take (Int.toNat (IntKind.wrap .i64 (code - (26 : Int)))) ([33, 64, 35, 36, 37, 94, 38, 42, 40, 41] : List UInt8)))
                else none
              else
                bif decide (code ≤ (36 : Int)) then
                  bindO (impl_CodeName.F N code) fun r18 =>
                  some r18
                else
                  bindO (impl_CodeName.F N code) fun r19 =>
                  bif r19 == ([101, 110, 116, 101, 114] : List UInt8) then
                    some ([10] : List UInt8)
                  else
                    bif r19 == ([116, 97, 98] : List UInt8) then
                      some ([9] : List UInt8)
                    else
                      bif r19 == ([115, 112, 97, 99, 101] : List UInt8) then
                        some ([32] : List UInt8)
                      else
                        bif r19 == ([109, 105, 110, 117, 115] : List UInt8) then
                          bif mods == (2 : Int) then
                            some ([95] : List UInt8)
                          else
                            some ([45] : List UInt8)
                        else
                          bif r19 == ([101, 113, 117, 97, 108] : List UInt8) then
                            bif mods == (2 : Int) then
                              some ([43] : List UInt8)
                            else
                              some ([61] : List UInt8)
                          else
                            some ([] : List UInt8)
            else
              bif decide (code ≤ (36 : Int)) then
                bindO (impl_CodeName.F N code) fun r20 =>
                some r20
              else
                bindO (impl_CodeName.F N code) fun r21 =>
                bif r21 == ([101, 110, 116, 101, 114] : List UInt8) then
                  some ([10] : List UInt8)
                else
                  bif r21 == ([116, 97, 98] : List UInt8) then
                    some ([9] : List UInt8)
                  else
                    bif r21 == ([115, 112, 97, 99, 101] : List UInt8) then
                      some ([32] : List UInt8)
                    else
                      bif r21 == ([109, 105, 110, 117, 115] : List UInt8) then
                        bif mods == (2 : Int) then
                          some ([95] : List UInt8)
                        else
                          some ([45] : List UInt8)
                      else
                        bif r21 == ([101, 113, 117, 97, 108] : List UInt8) then
                          bif mods == (2 : Int) then
                            some ([43] : List UInt8)
                          else
                            some ([61] : List UInt8)
                        else
                          some ([] : List UInt8) := by kernel_rfl

def impl_KeyOf.c1 : XCode := .seq (.seq (.region false [mv 13 6, op 14 (.bin .leq) [.slot 13, .const (.one (.int .i64 (56 : Int)))]]) (.cond (.slot 14) (.skip) (.exit 2))) (.seq (.block 3 (.seq (.region true [mv 17 6, mv 18 5, o2 19 (.call ⟨374, vs 2, no 2, [.val false 1], ims 1, true⟩) 17 18, mv 20 0, ow 21 (.buildSlice false 1 1 (.int .u8) 1 [(0, 1)] [.int .u8 (0 : Int)]) [.slot 20] [1] [1], ow 22 .b2s [.slot 21] [1] [], o2 23 (.bin .eql) 19 22]) (.cond (.slot 23) (.seq (.region false [mv 24 6, mv 25 5, mv 2 24, mv 3 25]) (.ret)) (.skip)))) (.region false [mv 15 6, op 16 (.bin .add) [.slot 15, .const (.one (.int .i64 (1 : Int)))], mv 6 16]))
def impl_KeyOf.c2 : XCode := .region false [op 26 (.bin .add) [.slot 9, .const (.one (.int .i64 (1 : Int)))], mv 9 26]
def impl_KeyOf.c3 : XCode := .seq (.region false [o2 10 (.bin .lss) 9 8]) (.seq (.cond (.slot 10) (.skip) (.exit 0)) (.seq (.block 1 (.seq (.region false [ow 11 (.indexAddr (.int .i64)) [.slot 7, .slot 9] [0] [], ow 12 (.load false 1) [.slot 11] [0] [], mv 5 12]) (.seq (.region false [op 6 .move [.const (.one (.int .i64 (1 : Int)))]]) (.block 2 (.loop [.keep [0, 5, 6, 7, 8, 9], .drop 1, .norm] (impl_KeyOf.c1)))))) (impl_KeyOf.c2)))
def impl_KeyOf.c4 : XCode := .seq (.region false [op 2 .move [.const (.one (.int .i64 (0 : Int)))], op 3 .move [.const (.one (.int .i64 (0 : Int)))]]) (.ret)
def impl_KeyOf.x : XFunc := { nslots := 27, nobj := 2, pars := [.val false 1], rowsIn := [none], rets := [.tmp 2 false 1, .tmp 3 false 1], outs := [.imm, .imm], fresh := true, arg := .int .u8, ret := .pair (.int .i64) (.int .i64), body := .seq (.region false [op 2 .move [.const (.one (.int .i64 (0 : Int)))], op 3 .move [.const (.one (.int .i64 (0 : Int)))]]) (.seq (.seq (.region false [ow 7 (.buildSlice false 0 2 (.int .i64) 2 [(0, 1), (1, 1)] [.int .i64 (0 : Int)]) [.const (.one (.int .i64 (0 : Int))), .const (.one (.int .i64 (2 : Int)))] [0] [0], ow 8 .len [.slot 7] [0] [], op 9 .move [.const (.one (.int .i64 (0 : Int)))]]) (.block 0 (.loop [.keep [0, 7, 8, 9], .drop 1, .norm] (impl_KeyOf.c3)))) (impl_KeyOf.c4)) }
def impl_KeyOf.env (N : Nat) : Env := envOf (tbl [(374, impl_CharOf.fs N)] noFS)
def impl_KeyOf.F (N : Nat) (x : Int) : Option (Int × Int) := XFunc.run impl_KeyOf.x (impl_KeyOf.env N) N x
def impl_KeyOf.fs (N : Nat) : FS := { arg := .int .u8, ret := .pair (.int .i64) (.int .i64), fresh := true, F := impl_KeyOf.F N }
def impl_KeyOf.k2 (N : Nat) : Ex → S → Option (Int × Int) := seqK (fun s => XCode.runK (impl_KeyOf.env N) N (impl_KeyOf.c4) s (XFunc.endK impl_KeyOf.x)) (XFunc.endK impl_KeyOf.x)
def impl_KeyOf.k1 (N : Nat) : Ex → S → Option (Int × Int) := blockK 0 (impl_KeyOf.k2 N)
def impl_KeyOf.k6 (N : Nat) (n1 : Nat) : Ex → S → Option (Int × Int) := seqK (fun s => bindO (S.ghosts s [.keep [0, 7, 8, 9], .drop 1, .norm]) fun s1 => loopK [.keep [0, 7, 8, 9], .drop 1, .norm] (fun s k => XCode.runK (impl_KeyOf.env N) N impl_KeyOf.c3 s k) n1 s1 (impl_KeyOf.k1 N)) (impl_KeyOf.k1 N)
def impl_KeyOf.k5 (N : Nat) (n1 : Nat) : Ex → S → Option (Int × Int) := seqK (fun s => XCode.runK (impl_KeyOf.env N) N (impl_KeyOf.c2) s (impl_KeyOf.k6 N n1)) (impl_KeyOf.k6 N n1)
def impl_KeyOf.k4 (N : Nat) (n1 : Nat) : Ex → S → Option (Int × Int) := blockK 1 (impl_KeyOf.k5 N n1)
def impl_KeyOf.k3 (N : Nat) (n1 : Nat) : Ex → S → Option (Int × Int) := blockK 2 (impl_KeyOf.k4 N n1)
def impl_KeyOf.L1 (N : Nat) (n1 : Nat) (char : Int) (t8 : Int) (t9 : Int) (o0 : List Int) : Option (Int × Int) := loopK [.keep [0, 7, 8, 9], .drop 1, .norm] (fun s k => XCode.runK (impl_KeyOf.env N) N impl_KeyOf.c3 s k) n1
  { t := [.one (.int .u8 char), .junk, .junk, .junk, .junk, .junk, .junk, .one (.ref 0 0 .all), .one (.int .i64 t8), .one (.int .i64 t9), .junk, .junk, .junk, .junk, .junk, .junk, .junk, .junk, .junk, .junk, .junk, .junk, .junk, .junk, .junk, .junk, .junk], h := [.row 0 false true 2 (.int .i64) o0, .absent 0] }
  (impl_KeyOf.k1 N)
def impl_KeyOf.L2 (N : Nat) (n1 : Nat) (n2 : Nat) (char : Int) (mods : Int) (code : Int) (t8 : Int) (t9 : Int) (o0 : List Int) : Option (Int × Int) := loopK [.keep [0, 5, 6, 7, 8, 9], .drop 1, .norm] (fun s k => XCode.runK (impl_KeyOf.env N) N impl_KeyOf.c1 s k) n2
  { t := [.one (.int .u8 char), .junk, .junk, .junk, .junk, .one (.int .i64 mods), .one (.int .i64 code), .one (.ref 0 0 .all), .one (.int .i64 t8), .one (.int .i64 t9), .junk, .junk, .junk, .junk, .junk, .junk, .junk, .junk, .junk, .junk, .junk, .junk, .junk, .junk, .junk, .junk, .junk], h := [.row 0 false true 2 (.int .i64) o0, .absent 0] }
  (impl_KeyOf.k3 N n1)

theorem impl_KeyOf.L1_eq (N : Nat) (n1 : Nat) (char : Int) (t8 : Int) (t9 : Int) (o0 : List Int) : impl_KeyOf.L1 N (n1 + 1) char t8 t9 o0 =
    bif decide (t9 < t8) then
      bif inRange t9 (List.length o0) then
      impl_KeyOf.L2 N n1 N char (List.getD o0 (Int.toNat t9) (0 : Int)) (1 : Int) t8 t9 o0
      else none
    else
      some ((0 : Int), (0 : Int)) := by kernel_rfl
theorem impl_KeyOf.L2_eq (N : Nat) (n1 : Nat) (n2 : Nat) (char : Int) (mods : Int) (code : Int) (t8 : Int) (t9 : Int) (o0 : List Int) : impl_KeyOf.L2 N n1 (n2 + 1) char mods code t8 t9 o0 =
    bif decide (code ≤ (56 : Int)) then
      bindO (impl_CharOf.F N (code, mods)) fun r1 =>
      bif r1 == (bytesOf ([char] : List Int)) then
        some (code, mods)
      else
        impl_KeyOf.L2 N n1 n2 char mods (IntKind.wrap .i64 (code + (1 : Int))) t8 t9 o0
    else
      impl_KeyOf.L1 N n1 char t8 (IntKind.wrap .i64 (t9 + (1 : Int))) o0 := by kernel_rfl
theorem impl_KeyOf.F_eq (N : Nat) (char : Int) : impl_KeyOf.F N char =
    impl_KeyOf.L1 N N char (List.length ([(0 : Int), (2 : Int)] : List Int) : Int) (0 : Int) ([(0 : Int), (2 : Int)] : List Int) := by kernel_rfl

def impl_TextMacro.c1 : XCode := .seq (.seq (.region false [mv 11 5, mv 12 0, o1 13 .strLen 12, o2 14 (.bin .lss) 11 13]) (.cond (.slot 14) (.skip) (.exit 0))) (.seq (.block 1 (.seq (.region false [mv 18 0, mv 19 5, o2 20 .strIndex 18 19, o1 21 (.call ⟨377, vs 1, no 1, [.val false 1, .val false 1], ims 2, true⟩) 20, mv 17 21, o1 22 (.extract 0) 17, o1 23 (.extract 1) 17, mv 6 22, mv 7 23]) (.seq (.seq (.region false [mv 24 6, op 25 (.bin .eql) [.slot 24, .const (.one (.int .i64 (0 : Int)))]]) (.cond (.slot 25) (.seq (.region false [op 2 .move [.const (.one (.nil))], op 3 .move [.const (.one (.bool false))]]) (.ret)) (.skip))) (.region false [mv 26 4, mv 27 6, mv 28 7, op 29 (.build [.int .i64 (0 : Int), .int .i64 (0 : Int), .int .i64 (0 : Int)] [(0, 1), (1, 1), (2, 1)]) [.const (.one (.int .i64 (0 : Int))), .slot 27, .slot 28], ow 30 (.buildSlice false 0 10 (.pair (.int .i64) (.pair (.int .i64) (.int .i64))) 1 [(0, 3)] [.int .i64 (0 : Int), .int .i64 (0 : Int), .int .i64 (0 : Int)]) [.slot 29] [0] [0], ow 31 (.append false 1 10 (.pair (.int .i64) (.pair (.int .i64) (.int .i64)))) [.slot 26, .slot 30] [0, 1] [1], mv 4 31])))) (.region false [mv 15 5, op 16 (.bin .add) [.slot 15, .const (.one (.int .i64 (1 : Int)))], mv 5 16]))
def impl_TextMacro.c2 : XCode := .seq (.region false [mv 32 4, mv 2 32, op 3 .move [.const (.one (.bool true))]]) (.ret)
def impl_TextMacro.x : XFunc := { nslots := 33, nobj := 2, pars := [.val false 1], rowsIn := [none], rets := [.tmp 2 false 1, .tmp 3 false 1], outs := [.own 10, .imm], fresh := true, arg := .str, ret := .pair (.list (.pair (.int .i64) (.pair (.int .i64) (.int .i64)))) (.bool), body := .seq (.region false [op 2 .move [.const (.one (.nil))], op 3 .move [.const (.one (.bool false))]]) (.seq (.seq (.region false [mv 8 0, o1 9 .strLen 8, op 10 (.bin .gtr) [.slot 9, .const (.one (.int .i64 (8 : Int)))]]) (.cond (.slot 10) (.seq (.region false [op 2 .move [.const (.one (.nil))], op 3 .move [.const (.one (.bool false))]]) (.ret)) (.skip))) (.seq (.region false [op 4 .move [.const (.one (.nil))]]) (.seq (.seq (.region false [op 5 .move [.const (.one (.int .i64 (0 : Int)))]]) (.block 0 (.loop [.mkrow (.slot 4) 1 10 (.pair (.int .i64) (.pair (.int .i64) (.int .i64))), .keep [0, 4, 5], .drop 0, .norm] (impl_TextMacro.c1)))) (impl_TextMacro.c2)))) }
def impl_TextMacro.env (N : Nat) : Env := envOf (tbl [(377, impl_KeyOf.fs N)] noFS)
def impl_TextMacro.F (N : Nat) (x : List UInt8) : Option ((List (Int × Int × Int)) × Bool) := XFunc.run impl_TextMacro.x (impl_TextMacro.env N) N x
def impl_TextMacro.fs (N : Nat) : FS := { arg := .str, ret := .pair (.list (.pair (.int .i64) (.pair (.int .i64) (.int .i64)))) (.bool), fresh := true, F := impl_TextMacro.F N }
def impl_TextMacro.k2 (N : Nat) : Ex → S → Option ((List (Int × Int × Int)) × Bool) := seqK (fun s => XCode.runK (impl_TextMacro.env N) N (impl_TextMacro.c2) s (XFunc.endK impl_TextMacro.x)) (XFunc.endK impl_TextMacro.x)
def impl_TextMacro.k1 (N : Nat) : Ex → S → Option ((List (Int × Int × Int)) × Bool) := blockK 0 (impl_TextMacro.k2 N)
def impl_TextMacro.L1 (N : Nat) (n1 : Nat) (s_ : List UInt8) (i : Int) (o1 : List (Int × Int × Int)) : Option ((List (Int × Int × Int)) × Bool) := loopK [.mkrow (.slot 4) 1 10 (.pair (.int .i64) (.pair (.int .i64) (.int .i64))), .keep [0, 4, 5], .drop 0, .norm] (fun s k => XCode.runK (impl_TextMacro.env N) N impl_TextMacro.c1 s k) n1
  { t := [.one (.str s_), .junk, .junk, .junk, .one (.ref 1 0 .all), .one (.int .i64 i), .junk, .junk, .junk, .junk, .junk, .junk, .junk, .junk, .junk, .junk, .junk, .junk, .junk, .junk, .junk, .junk, .junk, .junk, .junk, .junk, .junk, .junk, .junk, .junk, .junk, .junk, .junk], h := [.absent 0, .row 0 false true 10 (.pair (.int .i64) (.pair (.int .i64) (.int .i64))) o1] }
  (impl_TextMacro.k1 N)

theorem impl_TextMacro.L1_eq (N : Nat) (n1 : Nat) (s_ : List UInt8) (i : Int) (o1 : List (Int × Int × Int)) : impl_TextMacro.L1 N (n1 + 1) s_ i o1 =
    bif decide (i < (List.length s_ : Int)) then
      bif inRange i (List.length s_) then
      bindO (impl_KeyOf.F N (UInt8.toNat (nth (0 : UInt8) s_ i) : Int)) fun r1 =>
      bif r1.1 == (0 : Int) then
        some (([] : List (Int × Int × Int)), false)
      else
        bif decide (List.length o1 + List.length ([((0 : Int), r1)] : List (Int × Int × Int)) ≤ maxN) then
        impl_TextMacro.L1 N n1 s_ (IntKind.wrap .i64 (i + (1 : Int))) (o1 ++ ([((0 : Int), r1)] : List (Int × Int × Int)))
        else none
      else none
    else
      some (o1, true) := by kernel_rfl
theorem impl_TextMacro.F_eq (N : Nat) (s_ : List UInt8) : impl_TextMacro.F N s_ =
    bif decide ((List.length s_ : Int) > (8 : Int)) then
      some (([] : List (Int × Int × Int)), false)
    else
      impl_TextMacro.L1 N N s_ (0 : Int) ([] : List (Int × Int × Int)) := by kernel_rfl

end Go.Kb
