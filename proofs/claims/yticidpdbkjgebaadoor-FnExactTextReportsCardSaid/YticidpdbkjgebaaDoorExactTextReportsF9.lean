/- The texts of functions, printed by a program, and the equations of their runs. -/
import Derived.Test.YticidpdbkjgebaaDoorExactTextReportsF1
import Derived.Test.YticidpdbkjgebaaDoorExactTextReportsF2
import Derived.Test.YticidpdbkjgebaaDoorExactTextReportsF3
import Derived.Test.YticidpdbkjgebaaDoorExactTextReportsF4
import Derived.Test.YticidpdbkjgebaaDoorExactTextReportsF5
import Derived.Test.YticidpdbkjgebaaDoorExactTextReportsF6
import Derived.Test.YticidpdbkjgebaaDoorExactTextReportsF7
import Derived.Test.YticidpdbkjgebaaDoorExactTextReportsF8
import Derived.Test.YticidpdbkjgebaaDoorKd
import Derived.KernelRfl
namespace Go.Kb
def spec_SplitText.c1 : XCode := .seq (.seq (.region false [mv 9 7, mv 10 0, o1 11 .strLen 10, o2 12 (.bin .leq) 9 11]) (.cond (.slot 12) (.skip) (.exit 0))) (.seq (.block 1 (.seq (.region false [mv 15 7, mv 16 0, o1 17 .strLen 16, o2 18 (.bin .eql) 15 17, ⟨some 19, .move, [.slot 18], [], [], none, true, .none⟩, ⟨some 20, .move, [.slot 0], [], [], some (19, false), false, .none⟩, ⟨some 21, .move, [.slot 7], [], [], some (19, false), false, .none⟩, ⟨some 22, .strIndex, [.slot 20, .slot 21], [], [], some (19, false), false, .none⟩, ⟨some 23, .move, [.slot 1], [], [], some (19, false), false, .none⟩, ⟨some 24, .bin .eql, [.slot 22, .slot 23], [], [], some (19, false), false, .none⟩, op 25 .pick [.slot 19, .const (.one (.bool true)), .slot 24]]) (.cond (.slot 25) (.seq (.region false [mv 26 5, mv 27 0, mv 28 6, mv 29 7, op 30 (.strSlice true true) [.slot 27, .slot 28, .slot 29], ow 31 (.buildSlice false 1 16 (.str) 1 [(0, 1)] [.str ([] : List UInt8)]) [.slot 30] [1] [1], ow 32 (.append false 0 16 (.str)) [.slot 26, .slot 31] [0, 1] [0], mv 5 32]) (.region false [mv 33 7, op 34 (.bin .add) [.slot 33, .const (.one (.int .i64 (1 : Int)))], mv 6 34])) (.skip)))) (.region false [mv 13 7, op 14 (.bin .add) [.slot 13, .const (.one (.int .i64 (1 : Int)))], mv 7 14]))
def spec_SplitText.c2 : XCode := .seq (.region false [mv 35 5, mv 4 35]) (.ret)
def spec_SplitText.x : XFunc := { nslots := 36, nobj := 2, pars := [.val false 1, .val false 1], rowsIn := [none, none], rets := [.tmp 4 false 1], outs := [.own 16], fresh := true, arg := .pair (.str) (.int .u8), ret := .list (.str), body := .seq (.region false [op 4 .move [.const (.one (.nil))]]) (.seq (.region false [ow 8 (.buildSlice false 0 16 (.str) 0 [] [.str ([] : List UInt8)]) [] [0] [0], mv 5 8]) (.seq (.region false [op 6 .move [.const (.one (.int .i64 (0 : Int)))]]) (.seq (.seq (.region false [op 7 .move [.const (.one (.int .i64 (0 : Int)))]]) (.block 0 (.loop [.keep [0, 1, 5, 6, 7], .drop 1, .norm] (spec_SplitText.c1)))) (spec_SplitText.c2)))) }
def spec_SplitText.env (_ : Nat) : Env := envOf (tbl [] noFS)
def spec_SplitText.F (N : Nat) (x : (List UInt8) × Int) : Option (List (List UInt8)) := XFunc.run spec_SplitText.x (spec_SplitText.env N) N x
def spec_SplitText.fs (N : Nat) : FS := { arg := .pair (.str) (.int .u8), ret := .list (.str), fresh := true, F := spec_SplitText.F N }
def spec_SplitText.k2 (N : Nat) : Ex → S → Option (List (List UInt8)) := seqK (fun s => XCode.runK (spec_SplitText.env N) N (spec_SplitText.c2) s (XFunc.endK spec_SplitText.x)) (XFunc.endK spec_SplitText.x)
def spec_SplitText.k1 (N : Nat) : Ex → S → Option (List (List UInt8)) := blockK 0 (spec_SplitText.k2 N)
def spec_SplitText.L1 (N : Nat) (n1 : Nat) (s_ : List UInt8) (by_ : Int) (from_ : Int) (i : Int) (o0 : List (List UInt8)) : Option (List (List UInt8)) := loopK [.keep [0, 1, 5, 6, 7], .drop 1, .norm] (fun s k => XCode.runK (spec_SplitText.env N) N spec_SplitText.c1 s k) n1
  { t := [.one (.str s_), .one (.int .u8 by_), .junk, .junk, .junk, .one (.ref 0 0 .all), .one (.int .i64 from_), .one (.int .i64 i), .junk, .junk, .junk, .junk, .junk, .junk, .junk, .junk, .junk, .junk, .junk, .junk, .junk, .junk, .junk, .junk, .junk, .junk, .junk, .junk, .junk, .junk, .junk, .junk, .junk, .junk, .junk, .junk], h := [.row 0 false true 16 (.str) o0, .absent 0] }
  (spec_SplitText.k1 N)

theorem spec_SplitText.L1_eq (N : Nat) (n1 : Nat) (s_ : List UInt8) (by_ : Int) (from_ : Int) (i : Int) (o0 : List (List UInt8)) : spec_SplitText.L1 N (n1 + 1) s_ by_ from_ i o0 =
    bif decide (i ≤ (List.length s_ : Int)) then
      bif i == (List.length s_ : Int) then
        bif bounds from_ i (List.length s_) then
        bif decide (List.length o0 + List.length ([List.drop (Int.toNat from_) (List.take (Int.toNat i) s_)] : List (List UInt8)) ≤ maxN) then
        spec_SplitText.L1 N n1 s_ by_ (IntKind.wrap .i64 (i + (1 : Int))) (IntKind.wrap .i64 (i + (1 : Int))) (o0 ++ ([List.drop (Int.toNat from_) (List.take (Int.toNat i) s_)] : List (List UInt8)))
        else none
        else none
      else
        bif inRange i (List.length s_) then
        bif (UInt8.toNat (nth (0 : UInt8) s_ i) : Int) == by_ then
          bif bounds from_ i (List.length s_) then
          bif decide (List.length o0 + List.length ([List.drop (Int.toNat from_) (List.take (Int.toNat i) s_)] : List (List UInt8)) ≤ maxN) then
          spec_SplitText.L1 N n1 s_ by_ (IntKind.wrap .i64 (i + (1 : Int))) (IntKind.wrap .i64 (i + (1 : Int))) (o0 ++ ([List.drop (Int.toNat from_) (List.take (Int.toNat i) s_)] : List (List UInt8)))
          else none
          else none
        else
          spec_SplitText.L1 N n1 s_ by_ from_ (IntKind.wrap .i64 (i + (1 : Int))) o0
        else none
    else
      some o0 := by kernel_rfl
theorem spec_SplitText.F_eq (N : Nat) (s_ : List UInt8) (by_ : Int) : spec_SplitText.F N (s_, by_) =
    spec_SplitText.L1 N N s_ by_ (0 : Int) (0 : Int) ([] : List (List UInt8)) := by kernel_rfl

def spec_l5Names.x : XFunc := { nslots := 2, nobj := 0, pars := [], rowsIn := [], rets := [.tmp 0 false 1], outs := [.imm], fresh := true, arg := .unit, ret := .list (.str), body := .seq (.region false [op 0 .move [.const (.one (.nil))]]) (.seq (.region false [op 1 (.call ⟨356, vs 2, no 2, [.val false 1], ims 1, true⟩) [.const (.one (.str ([97, 32, 98, 32, 99, 32, 100, 32, 101, 32, 102, 32, 103, 32, 104, 32, 105, 32, 106, 32, 107, 32, 108, 32, 109, 32, 110, 32, 111, 32, 112, 32, 113, 32, 114, 32, 115, 32, 116, 32, 117, 32, 118, 32, 119, 32, 120, 32, 121, 32, 122, 32, 49, 32, 50, 32, 51, 32, 52, 32, 53, 32, 54, 32, 55, 32, 56, 32, 57, 32, 48, 32, 101, 110, 116, 101, 114, 32, 101, 115, 99, 32, 98, 97, 99, 107, 32, 116, 97, 98, 32, 115, 112, 97, 99, 101, 32, 109, 105, 110, 117, 115, 32, 101, 113, 117, 97, 108, 32, 108, 101, 102, 116, 32, 114, 105, 103, 104, 116, 32, 117, 112, 32, 100, 111, 119, 110, 32, 102, 49, 32, 102, 50, 32, 102, 51, 32, 102, 52, 32, 102, 53, 32, 102, 54, 32, 102, 55, 32, 102, 56, 32, 102, 57] : List UInt8))), .const (.one (.int .u8 (32 : Int)))], mv 0 1]) (.ret)) }
def spec_l5Names.env (N : Nat) : Env := envOf (tbl [(356, spec_SplitText.fs N)] noFS)
def spec_l5Names.F (N : Nat) (x : Unit) : Option (List (List UInt8)) := XFunc.run spec_l5Names.x (spec_l5Names.env N) N x
def spec_l5Names.fs (N : Nat) : FS := { arg := .unit, ret := .list (.str), fresh := true, F := spec_l5Names.F N }

theorem spec_l5Names.F_eq (N : Nat) : spec_l5Names.F N () =
    bindO (spec_SplitText.F N (([97, 32, 98, 32, 99, 32, 100, 32, 101, 32, 102, 32, 103, 32, 104, 32, 105, 32, 106, 32, 107, 32, 108, 32, 109, 32, 110, 32, 111, 32, 112, 32, 113, 32, 114, 32, 115, 32, 116, 32, 117, 32, 118, 32, 119, 32, 120, 32, 121, 32, 122, 32, 49, 32, 50, 32, 51, 32, 52, 32, 53, 32, 54, 32, 55, 32, 56, 32, 57, 32, 48, 32, 101, 110, 116, 101, 114, 32, 101, 115, 99, 32, 98, 97, 99, 107, 32, 116, 97, 98, 32, 115, 112, 97, 99, 101, 32, 109, 105, 110, 117, 115, 32, 101, 113, 117, 97, 108, 32, 108, 101, 102, 116, 32, 114, 105, 103, 104, 116, 32, 117, 112, 32, 100, 111, 119, 110, 32, 102, 49, 32, 102, 50, 32, 102, 51, 32, 102, 52, 32, 102, 53, 32, 102, 54, 32, 102, 55, 32, 102, 56, 32, 102, 57] : List UInt8), (32 : Int))) fun r1 =>
    some r1 := by kernel_rfl

def spec_CodeName.x : XFunc := { nslots := 11, nobj := 0, pars := [.val false 1], rowsIn := [none], rets := [.tmp 2 false 1], outs := [.imm], fresh := true, arg := .int .i64, ret := .str, body := .seq (.region false [op 2 .move [.const (.one (.str ([] : List UInt8)))]]) (.seq (.seq (.region false [mv 3 0, op 4 (.call ⟨1, vs 3, no 3, [.val false 1], ims 1, true⟩) [.slot 3, .const (.one (.int .i64 (1 : Int))), .const (.one (.int .i64 (56 : Int)))], o1 5 .not 4]) (.cond (.slot 5) (.seq (.region false [op 2 .move [.const (.one (.str ([] : List UInt8)))]]) (.ret)) (.skip))) (.seq (.region false [op 6 (.call ⟨357, [], [], [.val false 1], ims 1, true⟩) [], mv 7 0, op 8 (.bin .sub) [.slot 7, .const (.one (.int .i64 (1 : Int)))], o2 9 (.indexAddr (.str)) 6 8, o1 10 (.load false 1) 9, mv 2 10]) (.ret))) }
def spec_CodeName.env (N : Nat) : Env := envOf (tbl [(1, spec_l1In.fs N), (357, spec_l5Names.fs N)] noFS)
def spec_CodeName.F (N : Nat) (x : Int) : Option (List UInt8) := XFunc.run spec_CodeName.x (spec_CodeName.env N) N x
def spec_CodeName.fs (N : Nat) : FS := { arg := .int .i64, ret := .str, fresh := true, F := spec_CodeName.F N }

theorem spec_CodeName.F_eq (N : Nat) (code : Int) : spec_CodeName.F N code =
    bindO (spec_l1In.F N (code, ((1 : Int), (56 : Int)))) fun r1 =>
    bif !r1 then
      some ([] : List UInt8)
    else
      bindO (spec_l5Names.F N ()) fun r2 =>
      bif inRange (IntKind.wrap .i64 (code - (1 : Int))) (List.length r2) then
      some (nth ([] : List UInt8) r2 (IntKind.wrap .i64 (code - (1 : Int))))
      else none := by kernel_rfl

def spec_CharOf.x : XFunc := { nslots := 76, nobj := 1, pars := [.val false 1, .val false 1], rowsIn := [none, none], rets := [.tmp 4 false 1], outs := [.imm], fresh := true, arg := .pair (.int .i64) (.int .i64), ret := .str, body := .seq (.region false [op 4 .move [.const (.one (.str ([] : List UInt8)))]]) (.seq (.region false [mv 6 1, op 7 (.bin .and) [.slot 6, .const (.one (.int .i64 (2 : Int)))], op 8 (.bin .gtr) [.slot 7, .const (.one (.int .i64 (0 : Int)))], mv 5 8]) (.seq (.seq (.region false [mv 9 0, op 10 (.call ⟨1, vs 3, no 3, [.val false 1], ims 1, true⟩) [.slot 9, .const (.one (.int .i64 (1 : Int))), .const (.one (.int .i64 (56 : Int)))], o1 11 .not 10, ⟨some 12, .move, [.slot 11], [], [], none, true, .none⟩, ⟨some 13, .move, [.slot 1], [], [], some (12, false), false, .none⟩, ⟨some 14, .call ⟨1, vs 3, no 3, [.val false 1], ims 1, true⟩, [.slot 13, .const (.one (.int .i64 (0 : Int))), .const (.one (.int .i64 (15 : Int)))], [], [], some (12, false), false, .none⟩, ⟨some 15, .not, [.slot 14], [], [], some (12, false), false, .none⟩, op 16 .pick [.slot 12, .const (.one (.bool true)), .slot 15], ⟨some 17, .move, [.slot 16], [], [], none, true, .none⟩, ⟨some 18, .move, [.slot 1], [], [], some (17, false), false, .none⟩, ⟨some 19, .bin .andNot, [.slot 18, .const (.one (.int .i64 (2 : Int)))], [], [], some (17, false), false, .none⟩, ⟨some 20, .bin .neq, [.slot 19, .const (.one (.int .i64 (0 : Int)))], [], [], some (17, false), false, .none⟩, op 21 .pick [.slot 17, .const (.one (.bool true)), .slot 20]]) (.cond (.slot 21) (.seq (.region false [op 4 .move [.const (.one (.str ([] : List UInt8)))]]) (.ret)) (.skip))) (.seq (.block 0 (.seq (.region false [mv 23 0, op 24 (.bin .leq) [.slot 23, .const (.one (.int .i64 (26 : Int)))], ⟨some 25, .move, [.slot 24], [], [], none, true, .none⟩, ⟨some 26, .move, [.slot 5], [], [], some (25, true), false, .none⟩, op 27 .pick [.slot 25, .slot 26, .const (.one (.bool false))], mv 22 27]) (.cond (.slot 22) (.seq (.region false [mv 28 0, op 29 (.bin .add) [.const (.one (.int .i64 (64 : Int))), .slot 28], o1 30 (.conv .u8) 29, ow 31 (.buildSlice false 0 1 (.int .u8) 1 [(0, 1)] [.int .u8 (0 : Int)]) [.slot 30] [0] [0], ow 32 .b2s [.slot 31] [0] [], mv 4 32]) (.ret)) (.seq (.region false [mv 34 0, op 35 (.bin .leq) [.slot 34, .const (.one (.int .i64 (36 : Int)))], ⟨some 36, .move, [.slot 35], [], [], none, true, .none⟩, ⟨some 37, .move, [.slot 5], [], [], some (36, true), false, .none⟩, op 38 .pick [.slot 36, .slot 37, .const (.one (.bool false))], mv 33 38]) (.cond (.slot 33) (.seq (.region false [mv 39 0, op 40 (.bin .sub) [.slot 39, .const (.one (.int .i64 (27 : Int)))], mv 41 0, op 42 (.bin .sub) [.slot 41, .const (.one (.int .i64 (26 : Int)))], op 43 (.strSlice true true) [.const (.one (.str ([33, 64, 35, 36, 37, 94, 38, 42, 40, 41] : List UInt8))), .slot 40, .slot 42], mv 4 43]) (.ret)) (.seq (.region false [mv 45 0, op 46 (.bin .leq) [.slot 45, .const (.one (.int .i64 (36 : Int)))], mv 44 46]) (.cond (.slot 44) (.seq (.region false [mv 47 0, o1 48 (.call ⟨358, vs 1, no 1, [.val false 1], ims 1, true⟩) 47, mv 4 48]) (.ret)) (.seq (.region false [mv 50 0, op 51 (.bin .eql) [.slot 50, .const (.one (.int .i64 (37 : Int)))], mv 49 51]) (.cond (.slot 49) (.seq (.region false [op 4 .move [.const (.one (.str ([10] : List UInt8)))]]) (.ret)) (.seq (.region false [mv 53 0, op 54 (.bin .eql) [.slot 53, .const (.one (.int .i64 (40 : Int)))], mv 52 54]) (.cond (.slot 52) (.seq (.region false [op 4 .move [.const (.one (.str ([9] : List UInt8)))]]) (.ret)) (.seq (.region false [mv 56 0, op 57 (.bin .eql) [.slot 56, .const (.one (.int .i64 (41 : Int)))], mv 55 57]) (.cond (.slot 55) (.seq (.region false [op 4 .move [.const (.one (.str ([32] : List UInt8)))]]) (.ret)) (.seq (.region false [mv 59 0, op 60 (.bin .eql) [.slot 59, .const (.one (.int .i64 (42 : Int)))], ⟨some 61, .move, [.slot 60], [], [], none, true, .none⟩, ⟨some 62, .move, [.slot 5], [], [], some (61, true), false, .none⟩, op 63 .pick [.slot 61, .slot 62, .const (.one (.bool false))], mv 58 63]) (.cond (.slot 58) (.seq (.region false [op 4 .move [.const (.one (.str ([95] : List UInt8)))]]) (.ret)) (.seq (.region false [mv 65 0, op 66 (.bin .eql) [.slot 65, .const (.one (.int .i64 (42 : Int)))], mv 64 66]) (.cond (.slot 64) (.seq (.region false [op 4 .move [.const (.one (.str ([45] : List UInt8)))]]) (.ret)) (.seq (.region false [mv 68 0, op 69 (.bin .eql) [.slot 68, .const (.one (.int .i64 (43 : Int)))], ⟨some 70, .move, [.slot 69], [], [], none, true, .none⟩, ⟨some 71, .move, [.slot 5], [], [], some (70, true), false, .none⟩, op 72 .pick [.slot 70, .slot 71, .const (.one (.bool false))], mv 67 72]) (.cond (.slot 67) (.seq (.region false [op 4 .move [.const (.one (.str ([43] : List UInt8)))]]) (.ret)) (.seq (.region false [mv 74 0, op 75 (.bin .eql) [.slot 74, .const (.one (.int .i64 (43 : Int)))], mv 73 75]) (.cond (.slot 73) (.seq (.region false [op 4 .move [.const (.one (.str ([61] : List UInt8)))]]) (.ret)) (.skip)))))))))))))))))))))) (.seq (.region false [op 4 .move [.const (.one (.str ([] : List UInt8)))]]) (.ret))))) }
def spec_CharOf.env (N : Nat) : Env := envOf (tbl [(358, spec_CodeName.fs N), (1, spec_l1In.fs N)] noFS)
def spec_CharOf.F (N : Nat) (x : Int × Int) : Option (List UInt8) := XFunc.run spec_CharOf.x (spec_CharOf.env N) N x
def spec_CharOf.fs (N : Nat) : FS := { arg := .pair (.int .i64) (.int .i64), ret := .str, fresh := true, F := spec_CharOf.F N }

theorem spec_CharOf.F_eq (N : Nat) (code : Int) (mods : Int) : spec_CharOf.F N (code, mods) =
    bindO (spec_l1In.F N (code, ((1 : Int), (56 : Int)))) fun r1 =>
    bif !r1 then
      some ([] : List UInt8)
    else
      bindO (spec_l1In.F N (mods, ((0 : Int), (15 : Int)))) fun r2 =>
      bif !r2 then
        some ([] : List UInt8)
      else
        bif (bitAndNot .i64 mods (2 : Int)) != (0 : Int) then
          some ([] : List UInt8)
        else
          bif decide (code ≤ (26 : Int)) then
            bif decide ((bitAnd .i64 mods (2 : Int)) > (0 : Int)) then
              some (bytesOf ([IntKind.wrap .u8 (IntKind.wrap .i64 ((64 : Int) + code))] : List Int))
            else
              bif decide (code ≤ (36 : Int)) then
                bif decide ((bitAnd .i64 mods (2 : Int)) > (0 : Int)) then
                  bif bounds (IntKind.wrap .i64 (code - (27 : Int))) (IntKind.wrap .i64 (code - (26 : Int))) (List.length ([33, 64, 35, 36, 37, 94, 38, 42, 40, 41] : List UInt8)) then
                  some (List.drop (Int.toNat (IntKind.wrap .i64 (code - (27 : Int)))) (List.take (Int.toNat (IntKind.wrap .i64 (code - (26 : Int)))) ([33, 64, 35, 36, 37, 94, 38, 42, 40, 41] : List UInt8)))
                  else none
                else
                  bif decide (code ≤ (36 : Int)) then
                    bindO (spec_CodeName.F N code) fun r3 =>
                    some r3
                  else
                    bif code == (37 : Int) then
                      some ([10] : List UInt8)
                    else
                      bif code == (40 : Int) then
                        some ([9] : List UInt8)
                      else
                        bif code == (41 : Int) then
                          some ([32] : List UInt8)
                        else
                          bif code == (42 : Int) then
                            bif decide ((bitAnd .i64 mods (2 : Int)) > (0 : Int)) then
                              some ([95] : List UInt8)
                            else
                              bif code == (42 : Int) then
                                some ([45] : List UInt8)
                              else
                                bif code == (43 : Int) then
                                  bif decide ((bitAnd .i64 mods (2 : Int)) > (0 : Int)) then
                                    some ([43] : List UInt8)
                                  else
                                    bif code == (43 : Int) then
                                      some ([61] : List UInt8)
                                    else
                                      some ([] : List UInt8)
                                else
                                  bif code == (43 : Int) then
                                    some ([61] : List UInt8)
                                  else
                                    some ([] : List UInt8)
                          else
                            bif code == (42 : Int) then
                              some ([45] : List UInt8)
                            else
                              bif code == (43 : Int) then
                                bif decide ((bitAnd .i64 mods (2 : Int)) > (0 : Int)) then
                                  some ([43] : List UInt8)
                                else
                                  bif code == (43 : Int) then
                                    some ([61] : List UInt8)
                                  else
                                    some ([] : List UInt8)
                              else
                                bif code == (43 : Int) then
                                  some ([61] : List UInt8)
                                else
                                  some ([] : List UInt8)
              else
                bif decide (code ≤ (36 : Int)) then
                  bindO (spec_CodeName.F N code) fun r4 =>
                  some r4
                else
                  bif code == (37 : Int) then
                    some ([10] : List UInt8)
                  else
                    bif code == (40 : Int) then
                      some ([9] : List UInt8)
                    else
                      bif code == (41 : Int) then
                        some ([32] : List UInt8)
                      else
                        bif code == (42 : Int) then
                          bif decide ((bitAnd .i64 mods (2 : Int)) > (0 : Int)) then
                            some ([95] : List UInt8)
                          else
                            bif code == (42 : Int) then
                              some ([45] : List UInt8)
                            else
                              bif code == (43 : Int) then
                                bif decide ((bitAnd .i64 mods (2 : Int)) > (0 : Int)) then
                                  some ([43] : List UInt8)
                                else
                                  bif code == (43 : Int) then
                                    some ([61] : List UInt8)
                                  else
                                    some ([] : List UInt8)
                              else
                                bif code == (43 : Int) then
                                  some ([61] : List UInt8)
                                else
                                  some ([] : List UInt8)
                        else
                          bif code == (42 : Int) then
                            some ([45] : List UInt8)
                          else
                            bif code == (43 : Int) then
                              bif decide ((bitAnd .i64 mods (2 : Int)) > (0 : Int)) then
                                some ([43] : List UInt8)
                              else
                                bif code == (43 : Int) then
                                  some ([61] : List UInt8)
                                else
                                  some ([] : List UInt8)
                            else
                              bif code == (43 : Int) then
                                some ([61] : List UInt8)
                              else
                                some ([] : List UInt8)
          else
            bif decide (code ≤ (36 : Int)) then
              bif decide ((bitAnd .i64 mods (2 : Int)) > (0 : Int)) then
                bif bounds (IntKind.wrap .i64 (code - (27 : Int))) (IntKind.wrap .i64 (code - (26 : Int))) (List.length ([33, 64, 35, 36, 37, 94, 38, 42, 40, 41] : List UInt8)) then
                some (List.drop (Int.toNat (IntKind.wrap .i64 (code - (27 : Int)))) (List.take (Int.toNat (IntKind.wrap .i64 (code - (26 : Int)))) ([33, 64, 35, 36, 37, 94, 38, 42, 40, 41] : List UInt8)))
                else none
              else
                bif decide (code ≤ (36 : Int)) then
                  bindO (spec_CodeName.F N code) fun r5 =>
                  some r5
                else
                  bif code == (37 : Int) then
                    some ([10] : List UInt8)
                  else
                    bif code == (40 : Int) then
                      some ([9] : List UInt8)
                    else
                      bif code == (41 : Int) then
                        some ([32] : List UInt8)
                      else
                        bif code == (42 : Int) then
                          bif decide ((bitAnd .i64 mods (2 : Int)) > (0 : Int)) then
                            some ([95] : List UInt8)
                          else
                            bif code == (42 : Int) then
                              some ([45] : List UInt8)
                            else
                              bif code == (43 : Int) then
                                bif decide ((bitAnd .i64 mods (2 : Int)) > (0 : Int)) then
                                  some ([43] : List UInt8)
                                else
                                  bif code == (43 : Int) then
                                    some ([61] : List UInt8)
                                  else
                                    some ([] : List UInt8)
                              else
                                bif code == (43 : Int) then
                                  some ([61] : List UInt8)
                                else
                                  some ([] : List UInt8)
                        else
                          bif code == (42 : Int) then
                            some ([45] : List UInt8)
                          else
                            bif code == (43 : Int) then
                              bif decide ((bitAnd .i64 mods (2 : Int)) > (0 : Int)) then
                                some ([43] : List UInt8)
                              else
                                bif code == (43 : Int) then
                                  some ([61] : List UInt8)
                                else
                                  some ([] : List UInt8)
                            else
                              bif code == (43 : Int) then
                                some ([61] : List UInt8)
                              else
                                some ([] : List UInt8)
            else
              bif decide (code ≤ (36 : Int)) then
                bindO (spec_CodeName.F N code) fun r6 =>
                some r6
              else
                bif code == (37 : Int) then
                  some ([10] : List UInt8)
                else
                  bif code == (40 : Int) then
                    some ([9] : List UInt8)
                  else
                    bif code == (41 : Int) then
                      some ([32] : List UInt8)
                    else
                      bif code == (42 : Int) then
                        bif decide ((bitAnd .i64 mods (2 : Int)) > (0 : Int)) then
                          some ([95] : List UInt8)
                        else
                          bif code == (42 : Int) then
                            some ([45] : List UInt8)
                          else
                            bif code == (43 : Int) then
                              bif decide ((bitAnd .i64 mods (2 : Int)) > (0 : Int)) then
                                some ([43] : List UInt8)
                              else
                                bif code == (43 : Int) then
                                  some ([61] : List UInt8)
                                else
                                  some ([] : List UInt8)
                            else
                              bif code == (43 : Int) then
                                some ([61] : List UInt8)
                              else
                                some ([] : List UInt8)
                      else
                        bif code == (42 : Int) then
                          some ([45] : List UInt8)
                        else
                          bif code == (43 : Int) then
                            bif decide ((bitAnd .i64 mods (2 : Int)) > (0 : Int)) then
                              some ([43] : List UInt8)
                            else
                              bif code == (43 : Int) then
                                some ([61] : List UInt8)
                              else
                                some ([] : List UInt8)
                          else
                            bif code == (43 : Int) then
                              some ([61] : List UInt8)
                            else
                              some ([] : List UInt8) := by kernel_rfl

def impl_CodeName.x : XFunc := { nslots := 14, nobj := 0, pars := [.val false 1], rowsIn := [none], rets := [.tmp 2 false 1], outs := [.imm], fresh := true, arg := .int .i64, ret := .str, body := .seq (.region false [op 2 .move [.const (.one (.str ([] : List UInt8)))]]) (.seq (.seq (.region false [mv 3 0, op 4 (.bin .lss) [.slot 3, .const (.one (.int .i64 (1 : Int)))], ⟨some 5, .move, [.slot 4], [], [], none, true, .none⟩, ⟨some 6, .move, [.slot 0], [], [], some (5, false), false, .none⟩, ⟨some 7, .bin .gtr, [.slot 6, .const (.one (.int .i64 (56 : Int)))], [], [], some (5, false), false, .none⟩, op 8 .pick [.slot 5, .const (.one (.bool true)), .slot 7]]) (.cond (.slot 8) (.seq (.region false [op 2 .move [.const (.one (.str ([] : List UInt8)))]]) (.ret)) (.skip))) (.seq (.region false [op 9 (.call ⟨372, vs 2, no 2, [.val false 1], ims 1, true⟩) [.const (.one (.str ([97, 32, 98, 32, 99, 32, 100, 32, 101, 32, 102, 32, 103, 32, 104, 32, 105, 32, 106, 32, 107, 32, 108, 32, 109, 32, 110, 32, 111, 32, 112, 32, 113, 32, 114, 32, 115, 32, 116, 32, 117, 32, 118, 32, 119, 32, 120, 32, 121, 32, 122, 32, 49, 32, 50, 32, 51, 32, 52, 32, 53, 32, 54, 32, 55, 32, 56, 32, 57, 32, 48, 32, 101, 110, 116, 101, 114, 32, 101, 115, 99, 32, 98, 97, 99, 107, 32, 116, 97, 98, 32, 115, 112, 97, 99, 101, 32, 109, 105, 110, 117, 115, 32, 101, 113, 117, 97, 108, 32, 108, 101, 102, 116, 32, 114, 105, 103, 104, 116, 32, 117, 112, 32, 100, 111, 119, 110, 32, 102, 49, 32, 102, 50, 32, 102, 51, 32, 102, 52, 32, 102, 53, 32, 102, 54, 32, 102, 55, 32, 102, 56, 32, 102, 57] : List UInt8))), .const (.one (.str ([32] : List UInt8)))], mv 10 0, op 11 (.bin .sub) [.slot 10, .const (.one (.int .i64 (1 : Int)))], o2 12 (.indexAddr (.str)) 9 11, o1 13 (.load false 1) 12, mv 2 13]) (.ret))) }
def impl_CodeName.env (N : Nat) : Env := envOf (tbl [(372, ext_strings_Split.fs N)] noFS)
def impl_CodeName.F (N : Nat) (x : Int) : Option (List UInt8) := XFunc.run impl_CodeName.x (impl_CodeName.env N) N x
def impl_CodeName.fs (N : Nat) : FS := { arg := .int .i64, ret := .str, fresh := true, F := impl_CodeName.F N }

theorem impl_CodeName.F_eq (N : Nat) (code : Int) : impl_CodeName.F N code =
    bif decide (code < (1 : Int)) then
      some ([] : List UInt8)
    else
      bif decide (code > (56 : Int)) then
        some ([] : List UInt8)
      else
        bindO (ext_strings_Split.F N (([97, 32, 98, 32, 99, 32, 100, 32, 101, 32, 102, 32, 103, 32, 104, 32, 105, 32, 106, 32, 107, 32, 108, 32, 109, 32, 110, 32, 111, 32, 112, 32, 113, 32, 114, 32, 115, 32, 116, 32, 117, 32, 118, 32, 119, 32, 120, 32, 121, 32, 122, 32, 49, 32, 50, 32, 51, 32, 52, 32, 53, 32, 54, 32, 55, 32, 56, 32, 57, 32, 48, 32, 101, 110, 116, 101, 114, 32, 101, 115, 99, 32, 98, 97, 99, 107, 32, 116, 97, 98, 32, 115, 112, 97, 99, 101, 32, 109, 105, 110, 117, 115, 32, 101, 113, 117, 97, 108, 32, 108, 101, 102, 116, 32, 114, 105, 103, 104, 116, 32, 117, 112, 32, 100, 111, 119, 110, 32, 102, 49, 32, 102, 50, 32, 102, 51, 32, 102, 52, 32, 102, 53, 32, 102, 54, 32, 102, 55, 32, 102, 56, 32, 102, 57] : List UInt8), ([32] : List UInt8))) fun r1 =>
        bif inRange (IntKind.wrap .i64 (code - (1 : Int))) (List.length r1) then
        some (nth ([] : List UInt8) r1 (IntKind.wrap .i64 (code - (1 : Int))))
        else none := by kernel_rfl

def impl_CharOf.x : XFunc := { nslots := 66, nobj := 1, pars := [.val false 1, .val false 1], rowsIn := [none, none], rets := [.tmp 4 false 1], outs := [.imm], fresh := true, arg := .pair (.int .i64) (.int .i64), ret := .str, body := .seq (.region false [op 4 .move [.const (.one (.str ([] : List UInt8)))]]) (.seq (.seq (.region false [mv 6 0, o1 7 (.call ⟨153, vs 1, no 1, [.val false 1], ims 1, true⟩) 6, o1 8 .not 7, ⟨some 9, .move, [.slot 8], [], [], none, true, .none⟩, ⟨some 10, .move, [.slot 1], [], [], some (9, false), false, .none⟩, ⟨some 11, .bin .neq, [.slot 10, .const (.one (.int .i64 (0 : Int)))], [], [], some (9, false), false, .none⟩, ⟨some 12, .move, [.slot 11], [], [], some (9, false), true, .none⟩, ⟨some 13, .move, [.slot 1], [], [], some (12, true), false, .none⟩, ⟨some 14, .bin .neq, [.slot 13, .const (.one (.int .i64 (2 : Int)))], [], [], some (12, true), false, .none⟩, ⟨some 15, .pick, [.slot 12, .slot 14, .const (.one (.bool false))], [], [], some (9, false), false, .none⟩, op 16 .pick [.slot 9, .const (.one (.bool true)), .slot 15]]) (.cond (.slot 16) (.seq (.region false [op 4 .move [.const (.one (.str ([] : List UInt8)))]]) (.ret)) (.skip))) (.seq (.region false [mv 17 1, op 18 (.bin .eql) [.slot 17, .const (.one (.int .i64 (2 : Int)))], mv 5 18]) (.seq (.block 0 (.seq (.region false [mv 20 0, op 21 (.bin .leq) [.slot 20, .const (.one (.int .i64 (26 : Int)))], ⟨some 22, .move, [.slot 21], [], [], none, true, .none⟩, ⟨some 23, .move, [.slot 5], [], [], some (22, true), false, .none⟩, op 24 .pick [.slot 22, .slot 23, .const (.one (.bool false))], mv 19 24]) (.cond (.slot 19) (.seq (.region false [mv 25 0, op 26 (.bin .add) [.const (.one (.int .i64 (65 : Int))), .slot 25], op 27 (.bin .sub) [.slot 26, .const (.one (.int .i64 (1 : Int)))], o1 28 (.conv .u8) 27, ow 29 (.buildSlice false 0 1 (.int .u8) 1 [(0, 1)] [.int .u8 (0 : Int)]) [.slot 28] [0] [0], ow 30 .b2s [.slot 29] [0] [], mv 4 30]) (.ret)) (.seq (.region false [mv 32 0, op 33 (.bin .leq) [.slot 32, .const (.one (.int .i64 (26 : Int)))], mv 31 33]) (.cond (.slot 31) (.seq (.region false [mv 34 0, o1 35 (.call ⟨373, vs 1, no 1, [.val false 1], ims 1, true⟩) 34, mv 4 35]) (.ret)) (.seq (.region false [mv 37 0, op 38 (.bin .leq) [.slot 37, .const (.one (.int .i64 (36 : Int)))], ⟨some 39, .move, [.slot 38], [], [], none, true, .none⟩, ⟨some 40, .move, [.slot 5], [], [], some (39, true), false, .none⟩, op 41 .pick [.slot 39, .slot 40, .const (.one (.bool false))], mv 36 41]) (.cond (.slot 36) (.seq (.region false [mv 42 0, op 43 (.bin .sub) [.slot 42, .const (.one (.int .i64 (27 : Int)))], mv 44 0, op 45 (.bin .sub) [.slot 44, .const (.one (.int .i64 (26 : Int)))], op 46 (.strSlice true true) [.const (.one (.str ([33, 64, 35, 36, 37, 94, 38, 42, 40, 41] : List UInt8))), .slot 43, .slot 45], mv 4 46]) (.ret)) (.seq (.region false [mv 48 0, op 49 (.bin .leq) [.slot 48, .const (.one (.int .i64 (36 : Int)))], mv 47 49]) (.cond (.slot 47) (.seq (.region false [mv 50 0, o1 51 (.call ⟨373, vs 1, no 1, [.val false 1], ims 1, true⟩) 50, mv 4 51]) (.ret)) (.skip)))))))))) (.seq (.seq (.region false [mv 52 0, o1 53 (.call ⟨373, vs 1, no 1, [.val false 1], ims 1, true⟩) 52]) (.block 1 (.seq (.region false [op 55 (.bin .eql) [.slot 53, .const (.one (.str ([101, 110, 116, 101, 114] : List UInt8)))], mv 54 55]) (.cond (.slot 54) (.seq (.region false [op 4 .move [.const (.one (.str ([10] : List UInt8)))]]) (.ret)) (.seq (.region false [op 57 (.bin .eql) [.slot 53, .const (.one (.str ([116, 97, 98] : List UInt8)))], mv 56 57]) (.cond (.slot 56) (.seq (.region false [op 4 .move [.const (.one (.str ([9] : List UInt8)))]]) (.ret)) (.seq (.region false [op 59 (.bin .eql) [.slot 53, .const (.one (.str ([115, 112, 97, 99, 101] : List UInt8)))], mv 58 59]) (.cond (.slot 58) (.seq (.region false [op 4 .move [.const (.one (.str ([32] : List UInt8)))]]) (.ret)) (.seq (.region false [op 61 (.bin .eql) [.slot 53, .const (.one (.str ([109, 105, 110, 117, 115] : List UInt8)))], mv 60 61]) (.cond (.slot 60) (.seq (.seq (.region false [mv 62 5]) (.cond (.slot 62) (.seq (.region false [op 4 .move [.const (.one (.str ([95] : List UInt8)))]]) (.ret)) (.skip))) (.seq (.region false [op 4 .move [.const (.one (.str ([45] : List UInt8)))]]) (.ret))) (.seq (.region false [op 64 (.bin .eql) [.slot 53, .const (.one (.str ([101, 113, 117, 97, 108] : List UInt8)))], mv 63 64]) (.cond (.slot 63) (.seq (.seq (.region false [mv 65 5]) (.cond (.slot 65) (.seq (.region false [op 4 .move [.const (.one (.str ([43] : List UInt8)))]]) (.ret)) (.skip))) (.seq (.region false [op 4 .move [.const (.one (.str ([61] : List UInt8)))]]) (.ret))) (.skip))))))))))))) (.seq (.region false [op 4 .move [.const (.one (.str ([] : List UInt8)))]]) (.ret)))))) }
def impl_CharOf.env (N : Nat) : Env := envOf (tbl [(373, impl_CodeName.fs N), (153, impl_isCode.fs N)] noFS)
def impl_CharOf.F (N : Nat) (x : Int × Int) : Option (List UInt8) := XFunc.run impl_CharOf.x (impl_CharOf.env N) N x
def impl_CharOf.fs (N : Nat) : FS := { arg := .pair (.int .i64) (.int .i64), ret := .str, fresh := true, F := impl_CharOf.F N }

theorem impl_CharOf.F_eq (N : Nat) (code : Int) (mods : Int) : impl_CharOf.F N (code, mods) =
    bindO (impl_isCode.F N code) fun r1 =>
    bif !r1 then
      some ([] : List UInt8)
    else
      bif mods != (0 : Int) then
        bif mods != (2 : Int) then
          some ([] : List UInt8)
        else
          bif decide (code ≤ (26 : Int)) then
            bif mods == (2 : Int) then
              some (bytesOf ([IntKind.wrap .u8 (IntKind.wrap .i64 ((IntKind.wrap .i64 ((65 : Int) + code)) - (1 : Int)))] : List Int))
            else
              bif decide (code ≤ (26 : Int)) then
                bindO (impl_CodeName.F N code) fun r2 =>
                some r2
              else
                bif decide (code ≤ (36 : Int)) then
                  bif mods == (2 : Int) then
                    bif bounds (IntKind.wrap .i64 (code - (27 : Int))) (IntKind.wrap .i64 (code - (26 : Int))) (List.length ([33, 64, 35, 36, 37, 94, 38, 42, 40, 41] : List UInt8)) then
                    some (List.drop (Int.toNat (IntKind.wrap .i64 (code - (27 : Int)))) (List.take (Int.toNat (IntKind.wrap .i64 (code - (26 : Int)))) ([33, 64, 35, 36, 37, 94, 38, 42, 40, 41] : List UInt8)))
                    else none
                  else
                    bif decide (code ≤ (36 : Int)) then
                      bindO (impl_CodeName.F N code) fun r3 =>
                      some r3
                    else
                      bindO (impl_CodeName.F N code) fun r4 =>
                      bif r4 == ([101, 110, 116, 101, 114] : List UInt8) then
                        some ([10] : List UInt8)
                      else
                        bif r4 == ([116, 97, 98] : List UInt8) then
                          some ([9] : List UInt8)
                        else
                          bif r4 == ([115, 112, 97, 99, 101] : List UInt8) then
                            some ([32] : List UInt8)
                          else
                            bif r4 == ([109, 105, 110, 117, 115] : List UInt8) then
                              bif mods == (2 : Int) then
                                some ([95] : List UInt8)
                              else
                                some ([45] : List UInt8)
                            else
                              bif r4 == ([101, 113, 117, 97, 108] : List UInt8) then
                                bif mods == (2 : Int) then
                                  some ([43] : List UInt8)
                                else
                                  some ([61] : List UInt8)
                              else
                                some ([] : List UInt8)
                else
                  bif decide (code ≤ (36 : Int)) then
                    bindO (impl_CodeName.F N code) fun r5 =>
                    some r5
                  else
                    bindO (impl_CodeName.F N code) fun r6 =>
                    bif r6 == ([101, 110, 116, 101, 114] : List UInt8) then
                      some ([10] : List UInt8)
                    else
                      bif r6 == ([116, 97, 98] : List UInt8) then
                        some ([9] : List UInt8)
                      else
                        bif r6 == ([115, 112, 97, 99, 101] : List UInt8) then
                          some ([32] : List UInt8)
                        else
                          bif r6 == ([109, 105, 110, 117, 115] : List UInt8) then
                            bif mods == (2 : Int) then
                              some ([95] : List UInt8)
                            else
                              some ([45] : List UInt8)
                          else
                            bif r6 == ([101, 113, 117, 97, 108] : List UInt8) then
                              bif mods == (2 : Int) then
                                some ([43] : List UInt8)
                              else
                                some ([61] : List UInt8)
                            else
                              some ([] : List UInt8)
          else
            bif decide (code ≤ (26 : Int)) then
              bindO (impl_CodeName.F N code) fun r7 =>
              some r7
            else
              bif decide (code ≤ (36 : Int)) then
                bif mods == (2 : Int) then
                  bif bounds (IntKind.wrap .i64 (code - (27 : Int))) (IntKind.wrap .i64 (code - (26 : Int))) (List.length ([33, 64, 35, 36, 37, 94, 38, 42, 40, 41] : List UInt8)) then
                  some (List.drop (Int.toNat (IntKind.wrap .i64 (code - (27 : Int)))) (List.take (Int.toNat (IntKind.wrap .i64 (code - (26 : Int)))) ([33, 64, 35, 36, 37, 94, 38, 42, 40, 41] : List UInt8)))
                  else none
                else
                  bif decide (code ≤ (36 : Int)) then
                    bindO (impl_CodeName.F N code) fun r8 =>
                    some r8
                  else
                    bindO (impl_CodeName.F N code) fun r9 =>
                    bif r9 == ([101, 110, 116, 101, 114] : List UInt8) then
                      some ([10] : List UInt8)
                    else
                      bif r9 == ([116, 97, 98] : List UInt8) then
                        some ([9] : List UInt8)
                      else
                        bif r9 == ([115, 112, 97, 99, 101] : List UInt8) then
                          some ([32] : List UInt8)
                        else
                          bif r9 == ([109, 105, 110, 117, 115] : List UInt8) then
                            bif mods == (2 : Int) then
                              some ([95] : List UInt8)
                            else
                              some ([45] : List UInt8)
                          else
                            bif r9 == ([101, 113, 117, 97, 108] : List UInt8) then
                              bif mods == (2 : Int) then
                                some ([43] : List UInt8)
                              else
                                some ([61] : List UInt8)
                            else
                              some ([] : List UInt8)
              else
                bif decide (code ≤ (36 : Int)) then
                  bindO (impl_CodeName.F N code) fun r10 =>
                  some r10
                else
                  bindO (impl_CodeName.F N code) fun r11 =>
                  bif r11 == ([101, 110, 116, 101, 114] : List UInt8) then
                    some ([10] : List UInt8)
                  else
                    bif r11 == ([116, 97, 98] : List UInt8) then
                      some ([9] : List UInt8)
                    else
                      bif r11 == ([115, 112, 97, 99, 101] : List UInt8) then
                        some ([32] : List UInt8)
                      else
                        bif r11 == ([109, 105, 110, 117, 115] : List UInt8) then
                          bif mods == (2 : Int) then
                            some ([95] : List UInt8)
                          else
                            some ([45] : List UInt8)
                        else
                          bif r11 == ([101, 113, 117, 97, 108] : List UInt8) then
                            bif mods == (2 : Int) then
                              some ([43] : List UInt8)
                            else
                              some ([61] : List UInt8)
                          else
                            some ([] : List UInt8)
      else
        bif decide (code ≤ (26 : Int)) then
          bif mods == (2 : Int) then
            some (bytesOf ([IntKind.wrap .u8 (IntKind.wrap .i64 ((IntKind.wrap .i64 ((65 : Int) + code)) - (1 : Int)))] : List Int))
          else
            bif decide (code ≤ (26 : Int)) then
              bindO (impl_CodeName.F N code) fun r12 =>
              some r12
            else
              bif decide (code ≤ (36 : Int)) then
                bif mods == (2 : Int) then
                  bif bounds (IntKind.wrap .i64 (code - (27 : Int))) (IntKind.wrap .i64 (code - (26 : Int))) (List.length ([33, 64, 35, 36, 37, 94, 38, 42, 40, 41] : List UInt8)) then
                  some (List.drop (Int.toNat (IntKind.wrap .i64 (code - (27 : Int)))) (List.take (Int.toNat (IntKind.wrap .i64 (code - (26 : Int)))) ([33, 64, 35, 36, 37, 94, 38, 42, 40, 41] : List UInt8)))
                  else none
                else
                  bif decide (code ≤ (36 : Int)) then
                    bindO (impl_CodeName.F N code) fun r13 =>
                    some r13
                  else
                    bindO (impl_CodeName.F N code) fun r14 =>
                    bif r14 == ([101, 110, 116, 101, 114] : List UInt8) then
                      some ([10] : List UInt8)
                    else
                      bif r14 == ([116, 97, 98] : List UInt8) then
                        some ([9] : List UInt8)
                      else
                        bif r14 == ([115, 112, 97, 99, 101] : List UInt8) then
                          some ([32] : List UInt8)
                        else
                          bif r14 == ([109, 105, 110, 117, 115] : List UInt8) then
                            bif mods == (2 : Int) then
                              some ([95] : List UInt8)
                            else
                              some ([45] : List UInt8)
                          else
                            bif r14 == ([101, 113, 117, 97, 108] : List UInt8) then
                              bif mods == (2 : Int) then
                                some ([43] : List UInt8)
                              else
                                some ([61] : List UInt8)
                            else
                              some ([] : List UInt8)
              else
                bif decide (code ≤ (36 : Int)) then
                  bindO (impl_CodeName.F N code) fun r15 =>
                  some r15
                else
                  bindO (impl_CodeName.F N code) fun r16 =>
                  bif r16 == ([101, 110, 116, 101, 114] : List UInt8) then
                    some ([10] : List UInt8)
                  else
                    bif r16 == ([116, 97, 98] : List UInt8) then
                      some ([9] : List UInt8)
                    else
                      bif r16 == ([115, 112, 97, 99, 101] : List UInt8) then
                        some ([32] : List UInt8)
                      else
                        bif r16 == ([109, 105, 110, 117, 115] : List UInt8) then
                          bif mods == (2 : Int) then
                            some ([95] : List UInt8)
                          else
                            some ([45] : List UInt8)
                        else
                          bif r16 == ([101, 113, 117, 97, 108] : List UInt8) then
                            bif mods == (2 : Int) then
                              some ([43] : List UInt8)
                            else
                              some ([61] : List UInt8)
                          else
                            some ([] : List UInt8)
        else
          bif decide (code ≤ (26 : Int)) then
            bindO (impl_CodeName.F N code) fun r17 =>
            some r17
          else
            bif decide (code ≤ (36 : Int)) then
              bif mods == (2 : Int) then
                bif bounds (IntKind.wrap .i64 (code - (27 : Int))) (IntKind.wrap .i64 (code - (26 : Int))) (List.length ([33, 64, 35, 36, 37, 94, 38, 42, 40, 41] : List UInt8)) then
                some (List.drop (Int.toNat (IntKind.wrap .i64 (code - (27 : Int)))) (List.take (Int.toNat (IntKind.wrap .i64 (code - (26 : Int)))) ([33, 64, 35, 36, 37, 94, 38, 42, 40, 41] : List UInt8)))
                else none
              else
                bif decide (code ≤ (36 : Int)) then
                  bindO (impl_CodeName.F N code) fun r18 =>
                  some r18
                else
                  bindO (impl_CodeName.F N code) fun r19 =>
                  bif r19 == ([101, 110, 116, 101, 114] : List UInt8) then
                    some ([10] : List UInt8)
                  else
                    bif r19 == ([116, 97, 98] : List UInt8) then
                      some ([9] : List UInt8)
                    else
                      bif r19 == ([115, 112, 97, 99, 101] : List UInt8) then
                        some ([32] : List UInt8)
                      else
                        bif r19 == ([109, 105, 110, 117, 115] : List UInt8) then
                          bif mods == (2 : Int) then
                            some ([95] : List UInt8)
                          else
                            some ([45] : List UInt8)
                        else
                          bif r19 == ([101, 113, 117, 97, 108] : List UInt8) then
                            bif mods == (2 : Int) then
                              some ([43] : List UInt8)
                            else
                              some ([61] : List UInt8)
                          else
                            some ([] : List UInt8)
            else
              bif decide (code ≤ (36 : Int)) then
                bindO (impl_CodeName.F N code) fun r20 =>
                some r20
              else
                bindO (impl_CodeName.F N code) fun r21 =>
                bif r21 == ([101, 110, 116, 101, 114] : List UInt8) then
                  some ([10] : List UInt8)
                else
                  bif r21 == ([116, 97, 98] : List UInt8) then
                    some ([9] : List UInt8)
                  else
                    bif r21 == ([115, 112, 97, 99, 101] : List UInt8) then
                      some ([32] : List UInt8)
                    else
                      bif r21 == ([109, 105, 110, 117, 115] : List UInt8) then
                        bif mods == (2 : Int) then
                          some ([95] : List UInt8)
                        else
                          some ([45] : List UInt8)
                      else
                        bif r21 == ([101, 113, 117, 97, 108] : List UInt8) then
                          bif mods == (2 : Int) then
                            some ([43] : List UInt8)
                          else
                            some ([61] : List UInt8)
                        else
                          some ([] : List UInt8) := by kernel_rfl

def spec_KeyOf.c1 : XCode := .seq (.seq (.region false [mv 10 5, op 11 (.bin .leq) [.slot 10, .const (.one (.int .i64 (56 : Int)))]]) (.cond (.slot 11) (.skip) (.exit 2))) (.seq (.block 3 (.seq (.region true [mv 14 5, mv 15 4, o2 16 (.call ⟨359, vs 2, no 2, [.val false 1], ims 1, true⟩) 14 15, mv 17 0, ow 18 (.buildSlice false 0 1 (.int .u8) 1 [(0, 1)] [.int .u8 (0 : Int)]) [.slot 17] [0] [0], ow 19 .b2s [.slot 18] [0] [], o2 20 (.bin .eql) 16 19]) (.cond (.slot 20) (.seq (.region false [mv 21 5, mv 22 4, mv 2 21, mv 3 22]) (.ret)) (.skip)))) (.region false [mv 12 5, op 13 (.bin .add) [.slot 12, .const (.one (.int .i64 (1 : Int)))], mv 5 13]))
def spec_KeyOf.c2 : XCode := .region false [mv 8 4, op 9 (.bin .add) [.slot 8, .const (.one (.int .i64 (2 : Int)))], mv 4 9]
def spec_KeyOf.c3 : XCode := .seq (.seq (.region false [mv 6 4, op 7 (.bin .leq) [.slot 6, .const (.one (.int .i64 (2 : Int)))]]) (.cond (.slot 7) (.skip) (.exit 0))) (.seq (.block 1 (.seq (.region false [op 5 .move [.const (.one (.int .i64 (1 : Int)))]]) (.block 2 (.loop [.keep [0, 4, 5], .drop 0, .norm] (spec_KeyOf.c1))))) (spec_KeyOf.c2))
def spec_KeyOf.c4 : XCode := .seq (.region false [op 2 .move [.const (.one (.int .i64 (0 : Int)))], op 3 .move [.const (.one (.int .i64 (0 : Int)))]]) (.ret)
def spec_KeyOf.x : XFunc := { nslots := 23, nobj := 1, pars := [.val false 1], rowsIn := [none], rets := [.tmp 2 false 1, .tmp 3 false 1], outs := [.imm, .imm], fresh := true, arg := .int .u8, ret := .pair (.int .i64) (.int .i64), body := .seq (.region false [op 2 .move [.const (.one (.int .i64 (0 : Int)))], op 3 .move [.const (.one (.int .i64 (0 : Int)))]]) (.seq (.seq (.region false [op 4 .move [.const (.one (.int .i64 (0 : Int)))]]) (.block 0 (.loop [.keep [0, 4], .drop 0, .norm] (spec_KeyOf.c3)))) (spec_KeyOf.c4)) }
def spec_KeyOf.env (N : Nat) : Env := envOf (tbl [(359, spec_CharOf.fs N)] noFS)
def spec_KeyOf.F (N : Nat) (x : Int) : Option (Int × Int) := XFunc.run spec_KeyOf.x (spec_KeyOf.env N) N x
def spec_KeyOf.fs (N : Nat) : FS := { arg := .int .u8, ret := .pair (.int .i64) (.int .i64), fresh := true, F := spec_KeyOf.F N }
def spec_KeyOf.k2 (N : Nat) : Ex → S → Option (Int × Int) := seqK (fun s => XCode.runK (spec_KeyOf.env N) N (spec_KeyOf.c4) s (XFunc.endK spec_KeyOf.x)) (XFunc.endK spec_KeyOf.x)
def spec_KeyOf.k1 (N : Nat) : Ex → S → Option (Int × Int) := blockK 0 (spec_KeyOf.k2 N)
def spec_KeyOf.k6 (N : Nat) (n1 : Nat) : Ex → S → Option (Int × Int) := seqK (fun s => bindO (S.ghosts s [.keep [0, 4], .drop 0, .norm]) fun s1 => loopK [.keep [0, 4], .drop 0, .norm] (fun s k => XCode.runK (spec_KeyOf.env N) N spec_KeyOf.c3 s k) n1 s1 (spec_KeyOf.k1 N)) (spec_KeyOf.k1 N)
def spec_KeyOf.k5 (N : Nat) (n1 : Nat) : Ex → S → Option (Int × Int) := seqK (fun s => XCode.runK (spec_KeyOf.env N) N (spec_KeyOf.c2) s (spec_KeyOf.k6 N n1)) (spec_KeyOf.k6 N n1)
def spec_KeyOf.k4 (N : Nat) (n1 : Nat) : Ex → S → Option (Int × Int) := blockK 1 (spec_KeyOf.k5 N n1)
def spec_KeyOf.k3 (N : Nat) (n1 : Nat) : Ex → S → Option (Int × Int) := blockK 2 (spec_KeyOf.k4 N n1)
def spec_KeyOf.L1 (N : Nat) (n1 : Nat) (char : Int) (mods : Int) : Option (Int × Int) := loopK [.keep [0, 4], .drop 0, .norm] (fun s k => XCode.runK (spec_KeyOf.env N) N spec_KeyOf.c3 s k) n1
  { t := [.one (.int .u8 char), .junk, .junk, .junk, .one (.int .i64 mods), .junk, .junk, .junk, .junk, .junk, .junk, .junk, .junk, .junk, .junk, .junk, .junk, .junk, .junk, .junk, .junk, .junk, .junk], h := [.absent 0] }
  (spec_KeyOf.k1 N)
def spec_KeyOf.L2 (N : Nat) (n1 : Nat) (n2 : Nat) (char : Int) (mods : Int) (code : Int) : Option (Int × Int) := loopK [.keep [0, 4, 5], .drop 0, .norm] (fun s k => XCode.runK (spec_KeyOf.env N) N spec_KeyOf.c1 s k) n2
  { t := [.one (.int .u8 char), .junk, .junk, .junk, .one (.int .i64 mods), .one (.int .i64 code), .junk, .junk, .junk, .junk, .junk, .junk, .junk, .junk, .junk, .junk, .junk, .junk, .junk, .junk, .junk, .junk, .junk], h := [.absent 0] }
  (spec_KeyOf.k3 N n1)

theorem spec_KeyOf.L1_eq (N : Nat) (n1 : Nat) (char : Int) (mods : Int) : spec_KeyOf.L1 N (n1 + 1) char mods =
    bif decide (mods ≤ (2 : Int)) then
      spec_KeyOf.L2 N n1 N char mods (1 : Int)
    else
      some ((0 : Int), (0 : Int)) := by kernel_rfl
theorem spec_KeyOf.L2_eq (N : Nat) (n1 : Nat) (n2 : Nat) (char : Int) (mods : Int) (code : Int) : spec_KeyOf.L2 N n1 (n2 + 1) char mods code =
    bif decide (code ≤ (56 : Int)) then
      bindO (spec_CharOf.F N (code, mods)) fun r1 =>
      bif r1 == (bytesOf ([char] : List Int)) then
        some (code, mods)
      else
        spec_KeyOf.L2 N n1 n2 char mods (IntKind.wrap .i64 (code + (1 : Int)))
    else
      spec_KeyOf.L1 N n1 char (IntKind.wrap .i64 (mods + (2 : Int))) := by kernel_rfl
theorem spec_KeyOf.F_eq (N : Nat) (char : Int) : spec_KeyOf.F N char =
    spec_KeyOf.L1 N N char (0 : Int) := by kernel_rfl

def impl_KeyOf.c1 : XCode := .seq (.seq (.region false [mv 13 6, op 14 (.bin .leq) [.slot 13, .const (.one (.int .i64 (56 : Int)))]]) (.cond (.slot 14) (.skip) (.exit 2))) (.seq (.block 3 (.seq (.region true [mv 17 6, mv 18 5, o2 19 (.call ⟨374, vs 2, no 2, [.val false 1], ims 1, true⟩) 17 18, mv 20 0, ow 21 (.buildSlice false 1 1 (.int .u8) 1 [(0, 1)] [.int .u8 (0 : Int)]) [.slot 20] [1] [1], ow 22 .b2s [.slot 21] [1] [], o2 23 (.bin .eql) 19 22]) (.cond (.slot 23) (.seq (.region false [mv 24 6, mv 25 5, mv 2 24, mv 3 25]) (.ret)) (.skip)))) (.region false [mv 15 6, op 16 (.bin .add) [.slot 15, .const (.one (.int .i64 (1 : Int)))], mv 6 16]))
def impl_KeyOf.c2 : XCode := .region false [op 26 (.bin .add) [.slot 9, .const (.one (.int .i64 (1 : Int)))], mv 9 26]
def impl_KeyOf.c3 : XCode := .seq (.region false [o2 10 (.bin .lss) 9 8]) (.seq (.cond (.slot 10) (.skip) (.exit 0)) (.seq (.block 1 (.seq (.region false [ow 11 (.indexAddr (.int .i64)) [.slot 7, .slot 9] [0] [], ow 12 (.load false 1) [.slot 11] [0] [], mv 5 12]) (.seq (.region false [op 6 .move [.const (.one (.int .i64 (1 : Int)))]]) (.block 2 (.loop [.keep [0, 5, 6, 7, 8, 9], .drop 1, .norm] (impl_KeyOf.c1)))))) (impl_KeyOf.c2)))
def impl_KeyOf.c4 : XCode := .seq (.region false [op 2 .move [.const (.one (.int .i64 (0 : Int)))], op 3 .move [.const (.one (.int .i64 (0 : Int)))]]) (.ret)
def impl_KeyOf.x : XFunc := { nslots := 27, nobj := 2, pars := [.val false 1], rowsIn := [none], rets := [.tmp 2 false 1, .tmp 3 false 1], outs := [.imm, .imm], fresh := true, arg := .int .u8, ret := .pair (.int .i64) (.int .i64), body := .seq (.region false [op 2 .move [.const (.one (.int .i64 (0 : Int)))], op 3 .move [.const (.one (.int .i64 (0 : Int)))]]) (.seq (.seq (.region false [ow 7 (.buildSlice false 0 2 (.int .i64) 2 [(0, 1), (1, 1)] [.int .i64 (0 : Int)]) [.const (.one (.int .i64 (0 : Int))), .const (.one (.int .i64 (2 : Int)))] [0] [0], ow 8 .len [.slot 7] [0] [], op 9 .move [.const (.one (.int .i64 (0 : Int)))]]) (.block 0 (.loop [.keep [0, 7, 8, 9], .drop 1, .norm] (impl_KeyOf.c3)))) (impl_KeyOf.c4)) }
def impl_KeyOf.env (N : Nat) : Env := envOf (tbl [(374, impl_CharOf.fs N)] noFS)
def impl_KeyOf.F (N : Nat) (x : Int) : Option (Int × Int) := XFunc.run impl_KeyOf.x (impl_KeyOf.env N) N x
def impl_KeyOf.fs (N : Nat) : FS := { arg := .int .u8, ret := .pair (.int .i64) (.int .i64), fresh := true, F := impl_KeyOf.F N }
def impl_KeyOf.k2 (N : Nat) : Ex → S → Option (Int × Int) := seqK (fun s => XCode.runK (impl_KeyOf.env N) N (impl_KeyOf.c4) s (XFunc.endK impl_KeyOf.x)) (XFunc.endK impl_KeyOf.x)
def impl_KeyOf.k1 (N : Nat) : Ex → S → Option (Int × Int) := blockK 0 (impl_KeyOf.k2 N)
def impl_KeyOf.k6 (N : Nat) (n1 : Nat) : Ex → S → Option (Int × Int) := seqK (fun s => bindO (S.ghosts s [.keep [0, 7, 8, 9], .drop 1, .norm]) fun s1 => loopK [.keep [0, 7, 8, 9], .drop 1, .norm] (fun s k => XCode.runK (impl_KeyOf.env N) N impl_KeyOf.c3 s k) n1 s1 (impl_KeyOf.k1 N)) (impl_KeyOf.k1 N)
def impl_KeyOf.k5 (N : Nat) (n1 : Nat) : Ex → S → Option (Int × Int) := seqK (fun s => XCode.runK (impl_KeyOf.env N) N (impl_KeyOf.c2) s (impl_KeyOf.k6 N n1)) (impl_KeyOf.k6 N n1)
def impl_KeyOf.k4 (N : Nat) (n1 : Nat) : Ex → S → Option (Int × Int) := blockK 1 (impl_KeyOf.k5 N n1)
def impl_KeyOf.k3 (N : Nat) (n1 : Nat) : Ex → S → Option (Int × Int) := blockK 2 (impl_KeyOf.k4 N n1)
def impl_KeyOf.L1 (N : Nat) (n1 : Nat) (char : Int) (t8 : Int) (t9 : Int) (o0 : List Int) : Option (Int × Int) := loopK [.keep [0, 7, 8, 9], .drop 1, .norm] (fun s k => XCode.runK (impl_KeyOf.env N) N impl_KeyOf.c3 s k) n1
  { t := [.one (.int .u8 char), .junk, .junk, .junk, .junk, .junk, .junk, .one (.ref 0 0 .all), .one (.int .i64 t8), .one (.int .i64 t9), .junk, .junk, .junk, .junk, .junk, .junk, .junk, .junk, .junk, .junk, .junk, .junk, .junk, .junk, .junk, .junk, .junk], h := [.row 0 false true 2 (.int .i64) o0, .absent 0] }
  (impl_KeyOf.k1 N)
def impl_KeyOf.L2 (N : Nat) (n1 : Nat) (n2 : Nat) (char : Int) (mods : Int) (code : Int) (t8 : Int) (t9 : Int) (o0 : List Int) : Option (Int × Int) := loopK [.keep [0, 5, 6, 7, 8, 9], .drop 1, .norm] (fun s k => XCode.runK (impl_KeyOf.env N) N impl_KeyOf.c1 s k) n2
  { t := [.one (.int .u8 char), .junk, .junk, .junk, .junk, .one (.int .i64 mods), .one (.int .i64 code), .one (.ref 0 0 .all), .one (.int .i64 t8), .one (.int .i64 t9), .junk, .junk, .junk, .junk, .junk, .junk, .junk, .junk, .junk, .junk, .junk, .junk, .junk, .junk, .junk, .junk, .junk], h := [.row 0 false true 2 (.int .i64) o0, .absent 0] }
  (impl_KeyOf.k3 N n1)

theorem impl_KeyOf.L1_eq (N : Nat) (n1 : Nat) (char : Int) (t8 : Int) (t9 : Int) (o0 : List Int) : impl_KeyOf.L1 N (n1 + 1) char t8 t9 o0 =
    bif decide (t9 < t8) then
      bif inRange t9 (List.length o0) then
      impl_KeyOf.L2 N n1 N char (List.getD o0 (Int.toNat t9) (0 : Int)) (1 : Int) t8 t9 o0
      else none
    else
      some ((0 : Int), (0 : Int)) := by kernel_rfl
theorem impl_KeyOf.L2_eq (N : Nat) (n1 : Nat) (n2 : Nat) (char : Int) (mods : Int) (code : Int) (t8 : Int) (t9 : Int) (o0 : List Int) : impl_KeyOf.L2 N n1 (n2 + 1) char mods code t8 t9 o0 =
    bif decide (code ≤ (56 : Int)) then
      bindO (impl_CharOf.F N (code, mods)) fun r1 =>
      bif r1 == (bytesOf ([char] : List Int)) then
        some (code, mods)
      else
        impl_KeyOf.L2 N n1 n2 char mods (IntKind.wrap .i64 (code + (1 : Int))) t8 t9 o0
    else
      impl_KeyOf.L1 N n1 char t8 (IntKind.wrap .i64 (t9 + (1 : Int))) o0 := by kernel_rfl
theorem impl_KeyOf.F_eq (N : Nat) (char : Int) : impl_KeyOf.F N char =
    impl_KeyOf.L1 N N char (List.length ([(0 : Int), (2 : Int)] : List Int) : Int) (0 : Int) ([(0 : Int), (2 : Int)] : List Int) := by kernel_rfl

end Go.Kb
