/- The texts of functions, printed by a program, and the equations of their runs. -/
import Derived.Test.YtokploahoidhoaaSettingsF1
import Derived.Test.YtokploahoidhoaaSettingsF2
import Derived.KernelRfl
namespace Go.Kb
def spec_IsFlash.c1 : XCode := .seq (.seq (.region false [mv 35 4, o1 36 (.fieldAddr 0) 1, ow 37 (.load false 1) [.slot 36] [0] [], mv 38 3, o2 39 (.indexAddr (.list (.int .i64))) 37 38, o1 40 (.load false 1) 39, o1 41 .len 40, o2 42 (.bin .lss) 35 41]) (.cond (.slot 42) (.skip) (.exit 2))) (.seq (.block 3 (.seq (.region false [o1 45 (.fieldAddr 0) 1, ow 46 (.load false 1) [.slot 45] [0] [], mv 47 3, o2 48 (.indexAddr (.list (.int .i64))) 46 47, o1 49 (.load false 1) 48, mv 50 4, o2 51 (.indexAddr (.int .i64)) 49 50, o1 52 (.load false 1) 51, op 53 (.call ⟨1, vs 3, no 3, [.val false 1], ims 1, true⟩) [.slot 52, .const (.one (.int .i64 (0 : Int))), .const (.one (.int .i64 (65535 : Int)))], o1 54 .not 53]) (.cond (.slot 54) (.seq (.region false [op 2 .move [.const (.one (.bool false))]]) (.ret)) (.skip)))) (.region false [mv 43 4, op 44 (.bin .add) [.slot 43, .const (.one (.int .i64 (1 : Int)))], mv 4 44]))
def spec_IsFlash.c2 : XCode := .region false [mv 17 3, op 18 (.bin .add) [.slot 17, .const (.one (.int .i64 (1 : Int)))], mv 3 18]
def spec_IsFlash.c3 : XCode := .seq (.seq (.region false [mv 15 3, op 16 (.bin .lss) [.slot 15, .const (.one (.int .i64 (2 : Int)))]]) (.cond (.slot 16) (.skip) (.exit 0))) (.seq (.block 1 (.seq (.seq (.region false [o1 19 (.fieldAddr 0) 1, ow 20 (.load false 1) [.slot 19] [0] [], mv 21 3, o2 22 (.indexAddr (.list (.int .i64))) 20 21, o1 23 (.load false 1) 22, o1 24 .len 23, op 25 (.bin .neq) [.slot 24, .const (.one (.int .i64 (19 : Int)))], ⟨some 26, .move, [.slot 25], [], [], none, true, .none⟩, ⟨some 27, .fieldAddr 1, [.slot 1], [], [], some (26, false), false, .none⟩, ⟨some 28, .load false 1, [.slot 27], [0], [], some (26, false), false, .none⟩, ⟨some 29, .move, [.slot 3], [], [], some (26, false), false, .none⟩, ⟨some 30, .indexAddr (.int .i64), [.slot 28, .slot 29], [], [], some (26, false), false, .none⟩, ⟨some 31, .load false 1, [.slot 30], [], [], some (26, false), false, .none⟩, ⟨some 32, .call ⟨1, vs 3, no 3, [.val false 1], ims 1, true⟩, [.slot 31, .const (.one (.int .i64 (0 : Int))), .const (.one (.int .i64 (1000 : Int)))], [], [], some (26, false), false, .none⟩, ⟨some 33, .not, [.slot 32], [], [], some (26, false), false, .none⟩, op 34 .pick [.slot 26, .const (.one (.bool true)), .slot 33]]) (.cond (.slot 34) (.seq (.region false [op 2 .move [.const (.one (.bool false))]]) (.ret)) (.skip))) (.seq (.region false [op 4 .move [.const (.one (.int .i64 (0 : Int)))]]) (.block 2 (.loop [.keep [1, 3, 4], .norm] (spec_IsFlash.c1)))))) (spec_IsFlash.c2))
def spec_IsFlash.c4 : XCode := .seq (.region false [op 2 .move [.const (.one (.bool true))]]) (.ret)
def spec_IsFlash.x : XFunc := { nslots := 55, nobj := 1, pars := [.val true 2], rowsIn := [none, none], rets := [.tmp 2 false 1], outs := [.imm], fresh := true, arg := .pair (.list (.list (.int .i64))) (.list (.int .i64)), ret := .bool, body := .seq (.region false [ow 1 (.box 0) [.slot 0] [0] [0], op 2 .move [.const (.one (.bool false))]]) (.seq (.seq (.region false [o1 5 (.fieldAddr 0) 1, ow 6 (.load false 1) [.slot 5] [0] [], o1 7 .len 6, op 8 (.bin .neq) [.slot 7, .const (.one (.int .i64 (2 : Int)))], ⟨some 9, .move, [.slot 8], [], [], none, true, .none⟩, ⟨some 10, .fieldAddr 1, [.slot 1], [], [], some (9, false), false, .none⟩, ⟨some 11, .load false 1, [.slot 10], [0], [], some (9, false), false, .none⟩, ⟨some 12, .len, [.slot 11], [], [], some (9, false), false, .none⟩, ⟨some 13, .bin .neq, [.slot 12, .const (.one (.int .i64 (2 : Int)))], [], [], some (9, false), false, .none⟩, op 14 .pick [.slot 9, .const (.one (.bool true)), .slot 13]]) (.cond (.slot 14) (.seq (.region false [op 2 .move [.const (.one (.bool false))]]) (.ret)) (.skip))) (.seq (.seq (.region false [op 3 .move [.const (.one (.int .i64 (0 : Int)))]]) (.block 0 (.loop [.keep [1, 3], .norm] (spec_IsFlash.c3)))) (spec_IsFlash.c4))) }
def spec_IsFlash.env (N : Nat) : Env := envOf (tbl [(1, spec_l1In.fs N)] noFS)
def spec_IsFlash.F (N : Nat) (x : (List (List Int)) × List Int) : Option Bool := XFunc.run spec_IsFlash.x (spec_IsFlash.env N) N x
def spec_IsFlash.fs (N : Nat) : FS := { arg := .pair (.list (.list (.int .i64))) (.list (.int .i64)), ret := .bool, fresh := true, F := spec_IsFlash.F N }
def spec_IsFlash.k2 (N : Nat) : Ex → S → Option Bool := seqK (fun s => XCode.runK (spec_IsFlash.env N) N (spec_IsFlash.c4) s (XFunc.endK spec_IsFlash.x)) (XFunc.endK spec_IsFlash.x)
def spec_IsFlash.k1 (N : Nat) : Ex → S → Option Bool := blockK 0 (spec_IsFlash.k2 N)
def spec_IsFlash.k6 (N : Nat) (n1 : Nat) : Ex → S → Option Bool := seqK (fun s => bindO (S.ghosts s [.keep [1, 3], .norm]) fun s1 => loopK [.keep [1, 3], .norm] (fun s k => XCode.runK (spec_IsFlash.env N) N spec_IsFlash.c3 s k) n1 s1 (spec_IsFlash.k1 N)) (spec_IsFlash.k1 N)
def spec_IsFlash.k5 (N : Nat) (n1 : Nat) : Ex → S → Option Bool := seqK (fun s => XCode.runK (spec_IsFlash.env N) N (spec_IsFlash.c2) s (spec_IsFlash.k6 N n1)) (spec_IsFlash.k6 N n1)
def spec_IsFlash.k4 (N : Nat) (n1 : Nat) : Ex → S → Option Bool := blockK 1 (spec_IsFlash.k5 N n1)
def spec_IsFlash.k3 (N : Nat) (n1 : Nat) : Ex → S → Option Bool := blockK 2 (spec_IsFlash.k4 N n1)
def spec_IsFlash.L1 (N : Nat) (n1 : Nat) (i : Int) (o00 : List (List Int)) (o01 : List Int) : Option Bool := loopK [.keep [1, 3], .norm] (fun s k => XCode.runK (spec_IsFlash.env N) N spec_IsFlash.c3 s k) n1
  { t := [.junk, .one (.ptr 0 0 0), .junk, .one (.int .i64 i), .junk, .junk, .junk, .junk, .junk, .junk, .junk, .junk, .junk, .junk, .junk, .junk, .junk, .junk, .junk, .junk, .junk, .junk, .junk, .junk, .junk, .junk, .junk, .junk, .junk, .junk, .junk, .junk, .junk, .junk, .junk, .junk, .junk, .junk, .junk, .junk, .junk, .junk, .junk, .junk, .junk, .junk, .junk, .junk, .junk, .junk, .junk, .junk, .junk, .junk, .junk], h := [.box 0 false [.sl false (.list (.int .i64)) o00, .sl false (.int .i64) o01]] }
  (spec_IsFlash.k1 N)
def spec_IsFlash.L2 (N : Nat) (n1 : Nat) (n2 : Nat) (i : Int) (k_ : Int) (o00 : List (List Int)) (o01 : List Int) : Option Bool := loopK [.keep [1, 3, 4], .norm] (fun s k => XCode.runK (spec_IsFlash.env N) N spec_IsFlash.c1 s k) n2
  { t := [.junk, .one (.ptr 0 0 0), .junk, .one (.int .i64 i), .one (.int .i64 k_), .junk, .junk, .junk, .junk, .junk, .junk, .junk, .junk, .junk, .junk, .junk, .junk, .junk, .junk, .junk, .junk, .junk, .junk, .junk, .junk, .junk, .junk, .junk, .junk, .junk, .junk, .junk, .junk, .junk, .junk, .junk, .junk, .junk, .junk, .junk, .junk, .junk, .junk, .junk, .junk, .junk, .junk, .junk, .junk, .junk, .junk, .junk, .junk, .junk, .junk], h := [.box 0 false [.sl false (.list (.int .i64)) o00, .sl false (.int .i64) o01]] }
  (spec_IsFlash.k3 N n1)

theorem spec_IsFlash.L1_eq (N : Nat) (n1 : Nat) (i : Int) (o00 : List (List Int)) (o01 : List Int) : spec_IsFlash.L1 N (n1 + 1) i o00 o01 =
    bif decide (i < (2 : Int)) then
      bif inRange i (List.length o00) then
      bif (List.length (nth ([] : List Int) o00 i) : Int) != (19 : Int) then
        some false
      else
        bif inRange i (List.length o01) then
        bindO (spec_l1In.F N (nth (0 : Int) o01 i, ((0 : Int), (1000 : Int)))) fun r1 =>
        bif !r1 then
          some false
        else
          spec_IsFlash.L2 N n1 N i (0 : Int) o00 o01
        else none
      else none
    else
      some true := by kernel_rfl
theorem spec_IsFlash.L2_eq (N : Nat) (n1 : Nat) (n2 : Nat) (i : Int) (k_ : Int) (o00 : List (List Int)) (o01 : List Int) : spec_IsFlash.L2 N n1 (n2 + 1) i k_ o00 o01 =
    bif inRange i (List.length o00) then
    bif decide (k_ < (List.length (nth ([] : List Int) o00 i) : Int)) then
      bif inRange i (List.length o00) then
      bif inRange k_ (List.length (nth ([] : List Int) o00 i)) then
      bindO (spec_l1In.F N (nth (0 : Int) (nth ([] : List Int) o00 i) k_, ((0 : Int), (65535 : Int)))) fun r2 =>
      bif !r2 then
        some false
      else
        spec_IsFlash.L2 N n1 n2 i (IntKind.wrap .i64 (k_ + (1 : Int))) o00 o01
      else none
      else none
    else
      spec_IsFlash.L1 N n1 (IntKind.wrap .i64 (i + (1 : Int))) o00 o01
    else none := by kernel_rfl
theorem spec_IsFlash.F_eq (N : Nat) (f : (List (List Int)) × List Int) : spec_IsFlash.F N f =
    bif (List.length f.1 : Int) != (2 : Int) then
      some false
    else
      bif (List.length f.2 : Int) != (2 : Int) then
        some false
      else
        spec_IsFlash.L1 N N (0 : Int) f.1 f.2 := by kernel_rfl

def impl_IsFlash.c1 : XCode := .seq (.region false [o2 49 (.bin .lss) 48 47]) (.seq (.cond (.slot 49) (.skip) (.exit 2)) (.seq (.block 3 (.seq (.region false [o2 50 (.indexAddr (.int .i64)) 46 48, o1 51 (.load false 1) 50, mv 5 51]) (.seq (.region false [mv 52 5, op 53 (.bin .lss) [.slot 52, .const (.one (.int .i64 (0 : Int)))], ⟨some 54, .move, [.slot 53], [], [], none, true, .none⟩, ⟨some 55, .move, [.slot 5], [], [], some (54, false), false, .none⟩, ⟨some 56, .bin .gtr, [.slot 55, .const (.one (.int .i64 (65535 : Int)))], [], [], some (54, false), false, .none⟩, op 57 .pick [.slot 54, .const (.one (.bool true)), .slot 56]]) (.cond (.slot 57) (.seq (.region false [op 2 .move [.const (.one (.bool false))]]) (.ret)) (.skip))))) (.region false [op 58 (.bin .add) [.slot 48, .const (.one (.int .i64 (1 : Int)))], mv 48 58])))
def impl_IsFlash.c2 : XCode := .region false [op 59 (.bin .add) [.slot 16, .const (.one (.int .i64 (1 : Int)))], mv 16 59]
def impl_IsFlash.c3 : XCode := .seq (.region false [op 17 (.bin .lss) [.slot 16, .const (.one (.int .i64 (2 : Int)))]]) (.seq (.cond (.slot 17) (.skip) (.exit 0)) (.seq (.block 1 (.seq (.region false [mv 18 16, mv 3 18]) (.seq (.seq (.region false [o1 19 (.fieldAddr 0) 1, ow 20 (.load false 1) [.slot 19] [0] [], mv 21 3, o2 22 (.indexAddr (.list (.int .i64))) 20 21, o1 23 (.load false 1) 22, o1 24 .len 23, op 25 (.bin .neq) [.slot 24, .const (.one (.int .i64 (19 : Int)))], ⟨some 26, .move, [.slot 25], [], [], none, true, .none⟩, ⟨some 27, .fieldAddr 1, [.slot 1], [], [], some (26, false), false, .none⟩, ⟨some 28, .load false 1, [.slot 27], [0], [], some (26, false), false, .none⟩, ⟨some 29, .move, [.slot 3], [], [], some (26, false), false, .none⟩, ⟨some 30, .indexAddr (.int .i64), [.slot 28, .slot 29], [], [], some (26, false), false, .none⟩, ⟨some 31, .load false 1, [.slot 30], [], [], some (26, false), false, .none⟩, ⟨some 32, .bin .lss, [.slot 31, .const (.one (.int .i64 (0 : Int)))], [], [], some (26, false), false, .none⟩, op 33 .pick [.slot 26, .const (.one (.bool true)), .slot 32], ⟨some 34, .move, [.slot 33], [], [], none, true, .none⟩, ⟨some 35, .fieldAddr 1, [.slot 1], [], [], some (34, false), false, .none⟩, ⟨some 36, .load false 1, [.slot 35], [0], [], some (34, false), false, .none⟩, ⟨some 37, .move, [.slot 3], [], [], some (34, false), false, .none⟩, ⟨some 38, .indexAddr (.int .i64), [.slot 36, .slot 37], [], [], some (34, false), false, .none⟩, ⟨some 39, .load false 1, [.slot 38], [], [], some (34, false), false, .none⟩, ⟨some 40, .bin .gtr, [.slot 39, .const (.one (.int .i64 (1000 : Int)))], [], [], some (34, false), false, .none⟩, op 41 .pick [.slot 34, .const (.one (.bool true)), .slot 40]]) (.cond (.slot 41) (.seq (.region false [op 2 .move [.const (.one (.bool false))]]) (.ret)) (.skip))) (.seq (.region false [o1 42 (.fieldAddr 0) 1, ow 43 (.load false 1) [.slot 42] [0] [], mv 44 3, o2 45 (.indexAddr (.list (.int .i64))) 43 44, o1 46 (.load false 1) 45, o1 47 .len 46, op 48 .move [.const (.one (.int .i64 (0 : Int)))]]) (.block 2 (.loop [.keep [1, 16, 46, 47, 48], .norm] (impl_IsFlash.c1))))))) (impl_IsFlash.c2)))
def impl_IsFlash.c4 : XCode := .seq (.region false [op 2 .move [.const (.one (.bool true))]]) (.ret)
def impl_IsFlash.x : XFunc := { nslots := 60, nobj := 1, pars := [.val true 2], rowsIn := [none, none], rets := [.tmp 2 false 1], outs := [.imm], fresh := true, arg := .pair (.list (.list (.int .i64))) (.list (.int .i64)), ret := .bool, body := .seq (.region false [ow 1 (.box 0) [.slot 0] [0] [0], op 2 .move [.const (.one (.bool false))]]) (.seq (.seq (.region false [o1 6 (.fieldAddr 0) 1, ow 7 (.load false 1) [.slot 6] [0] [], o1 8 .len 7, op 9 (.bin .neq) [.slot 8, .const (.one (.int .i64 (2 : Int)))], ⟨some 10, .move, [.slot 9], [], [], none, true, .none⟩, ⟨some 11, .fieldAddr 1, [.slot 1], [], [], some (10, false), false, .none⟩, ⟨some 12, .load false 1, [.slot 11], [0], [], some (10, false), false, .none⟩, ⟨some 13, .len, [.slot 12], [], [], some (10, false), false, .none⟩, ⟨some 14, .bin .neq, [.slot 13, .const (.one (.int .i64 (2 : Int)))], [], [], some (10, false), false, .none⟩, op 15 .pick [.slot 10, .const (.one (.bool true)), .slot 14]]) (.cond (.slot 15) (.seq (.region false [op 2 .move [.const (.one (.bool false))]]) (.ret)) (.skip))) (.seq (.seq (.region false [op 16 .move [.const (.one (.int .i64 (0 : Int)))]]) (.block 0 (.loop [.keep [1, 16], .norm] (impl_IsFlash.c3)))) (impl_IsFlash.c4))) }
def impl_IsFlash.env (_ : Nat) : Env := envOf (tbl [] noFS)
def impl_IsFlash.F (N : Nat) (x : (List (List Int)) × List Int) : Option Bool := XFunc.run impl_IsFlash.x (impl_IsFlash.env N) N x
def impl_IsFlash.fs (N : Nat) : FS := { arg := .pair (.list (.list (.int .i64))) (.list (.int .i64)), ret := .bool, fresh := true, F := impl_IsFlash.F N }
def impl_IsFlash.k2 (N : Nat) : Ex → S → Option Bool := seqK (fun s => XCode.runK (impl_IsFlash.env N) N (impl_IsFlash.c4) s (XFunc.endK impl_IsFlash.x)) (XFunc.endK impl_IsFlash.x)
def impl_IsFlash.k1 (N : Nat) : Ex → S → Option Bool := blockK 0 (impl_IsFlash.k2 N)
def impl_IsFlash.k6 (N : Nat) (n1 : Nat) : Ex → S → Option Bool := seqK (fun s => bindO (S.ghosts s [.keep [1, 16], .norm]) fun s1 => loopK [.keep [1, 16], .norm] (fun s k => XCode.runK (impl_IsFlash.env N) N impl_IsFlash.c3 s k) n1 s1 (impl_IsFlash.k1 N)) (impl_IsFlash.k1 N)
def impl_IsFlash.k5 (N : Nat) (n1 : Nat) : Ex → S → Option Bool := seqK (fun s => XCode.runK (impl_IsFlash.env N) N (impl_IsFlash.c2) s (impl_IsFlash.k6 N n1)) (impl_IsFlash.k6 N n1)
def impl_IsFlash.k4 (N : Nat) (n1 : Nat) : Ex → S → Option Bool := blockK 1 (impl_IsFlash.k5 N n1)
def impl_IsFlash.k3 (N : Nat) (n1 : Nat) : Ex → S → Option Bool := blockK 2 (impl_IsFlash.k4 N n1)
def impl_IsFlash.L1 (N : Nat) (n1 : Nat) (t16 : Int) (o00 : List (List Int)) (o01 : List Int) : Option Bool := loopK [.keep [1, 16], .norm] (fun s k => XCode.runK (impl_IsFlash.env N) N impl_IsFlash.c3 s k) n1
  { t := [.junk, .one (.ptr 0 0 0), .junk, .junk, .junk, .junk, .junk, .junk, .junk, .junk, .junk, .junk, .junk, .junk, .junk, .junk, .one (.int .i64 t16), .junk, .junk, .junk, .junk, .junk, .junk, .junk, .junk, .junk, .junk, .junk, .junk, .junk, .junk, .junk, .junk, .junk, .junk, .junk, .junk, .junk, .junk, .junk, .junk, .junk, .junk, .junk, .junk, .junk, .junk, .junk, .junk, .junk, .junk, .junk, .junk, .junk, .junk, .junk, .junk, .junk, .junk, .junk], h := [.box 0 false [.sl false (.list (.int .i64)) o00, .sl false (.int .i64) o01]] }
  (impl_IsFlash.k1 N)
def impl_IsFlash.L2 (N : Nat) (n1 : Nat) (n2 : Nat) (t16 : Int) (t46 : List Int) (t47 : Int) (t48 : Int) (o00 : List (List Int)) (o01 : List Int) : Option Bool := loopK [.keep [1, 16, 46, 47, 48], .norm] (fun s k => XCode.runK (impl_IsFlash.env N) N impl_IsFlash.c1 s k) n2
  { t := [.junk, .one (.ptr 0 0 0), .junk, .junk, .junk, .junk, .junk, .junk, .junk, .junk, .junk, .junk, .junk, .junk, .junk, .junk, .one (.int .i64 t16), .junk, .junk, .junk, .junk, .junk, .junk, .junk, .junk, .junk, .junk, .junk, .junk, .junk, .junk, .junk, .junk, .junk, .junk, .junk, .junk, .junk, .junk, .junk, .junk, .junk, .junk, .junk, .junk, .junk, .one (.sl false (.int .i64) t46), .one (.int .i64 t47), .one (.int .i64 t48), .junk, .junk, .junk, .junk, .junk, .junk, .junk, .junk, .junk, .junk, .junk], h := [.box 0 false [.sl false (.list (.int .i64)) o00, .sl false (.int .i64) o01]] }
  (impl_IsFlash.k3 N n1)

theorem impl_IsFlash.L1_eq (N : Nat) (n1 : Nat) (t16 : Int) (o00 : List (List Int)) (o01 : List Int) : impl_IsFlash.L1 N (n1 + 1) t16 o00 o01 =
    bif decide (t16 < (2 : Int)) then
      bif inRange t16 (List.length o00) then
      bif (List.length (nth ([] : List Int) o00 t16) : Int) != (19 : Int) then
        some false
      else
        bif inRange t16 (List.length o01) then
        bif decide ((nth (0 : Int) o01 t16) < (0 : Int)) then
          some false
        else
          bif inRange t16 (List.length o01) then
          bif decide ((nth (0 : Int) o01 t16) > (1000 : Int)) then
            some false
          else
            bif inRange t16 (List.length o00) then
            impl_IsFlash.L2 N n1 N t16 (nth ([] : List Int) o00 t16) (List.length (nth ([] : List Int) o00 t16) : Int) (0 : Int) o00 o01
            else none
          else none
        else none
      else none
    else
      some true := by kernel_rfl
theorem impl_IsFlash.L2_eq (N : Nat) (n1 : Nat) (n2 : Nat) (t16 : Int) (t46 : List Int) (t47 : Int) (t48 : Int) (o00 : List (List Int)) (o01 : List Int) : impl_IsFlash.L2 N n1 (n2 + 1) t16 t46 t47 t48 o00 o01 =
    bif decide (t48 < t47) then
      bif inRange t48 (List.length t46) then
      bif decide ((nth (0 : Int) t46 t48) < (0 : Int)) then
        some false
      else
        bif decide ((nth (0 : Int) t46 t48) > (65535 : Int)) then
          some false
        else
          impl_IsFlash.L2 N n1 n2 t16 t46 t47 (IntKind.wrap .i64 (t48 + (1 : Int))) o00 o01
      else none
    else
      impl_IsFlash.L1 N n1 (IntKind.wrap .i64 (t16 + (1 : Int))) o00 o01 := by kernel_rfl
theorem impl_IsFlash.F_eq (N : Nat) (f : (List (List Int)) × List Int) : impl_IsFlash.F N f =
    bif (List.length f.1 : Int) != (2 : Int) then
      some false
    else
      bif (List.length f.2 : Int) != (2 : Int) then
        some false
      else
        impl_IsFlash.L1 N N (0 : Int) f.1 f.2 := by kernel_rfl

def spec_ActivePage.c1 : XCode := .seq (.seq (.region false [mv 6 4, op 7 (.bin .lss) [.slot 6, .const (.one (.int .i64 (2 : Int)))], ⟨some 8, .move, [.slot 7], [], [], none, true, .none⟩, ⟨some 9, .load true 2, [.slot 1], [0], [], some (8, true), false, .none⟩, ⟨some 10, .call ⟨96, [.val true 2], no 2, [.val false 1], ims 1, true⟩, [.slot 9], [], [], some (8, true), false, .none⟩, op 11 .pick [.slot 8, .slot 10, .const (.one (.bool false))]]) (.cond (.slot 11) (.skip) (.exit 0))) (.seq (.block 1 (.seq (.region false [o1 14 (.fieldAddr 0) 1, ow 15 (.load false 1) [.slot 14] [0] [], mv 16 4, o2 17 (.indexAddr (.list (.int .i64))) 15 16, o1 18 (.load false 1) 17, op 19 (.indexAddr (.int .i64)) [.slot 18, .const (.one (.int .i64 (0 : Int)))], o1 20 (.load false 1) 19, mv 5 20]) (.seq (.region false [mv 21 5, op 22 (.call ⟨1, vs 3, no 3, [.val false 1], ims 1, true⟩) [.slot 21, .const (.one (.int .i64 (1 : Int))), .const (.one (.int .i64 (60000 : Int)))], ⟨some 23, .move, [.slot 22], [], [], none, true, .none⟩, ⟨some 24, .move, [.slot 3], [], [], some (23, true), false, .none⟩, ⟨some 25, .bin .lss, [.slot 24, .const (.one (.int .i64 (0 : Int)))], [], [], some (23, true), false, .none⟩, ⟨some 26, .move, [.slot 25], [], [], some (23, true), true, .none⟩, ⟨some 27, .move, [.slot 5], [], [], some (26, false), false, .none⟩, ⟨some 28, .fieldAddr 0, [.slot 1], [], [], some (26, false), false, .none⟩, ⟨some 29, .load false 1, [.slot 28], [0], [], some (26, false), false, .none⟩, ⟨some 30, .move, [.slot 3], [], [], some (26, false), false, .none⟩, ⟨some 31, .indexAddr (.list (.int .i64)), [.slot 29, .slot 30], [], [], some (26, false), false, .none⟩, ⟨some 32, .load false 1, [.slot 31], [], [], some (26, false), false, .none⟩, ⟨some 33, .indexAddr (.int .i64), [.slot 32, .const (.one (.int .i64 (0 : Int)))], [], [], some (26, false), false, .none⟩, ⟨some 34, .load false 1, [.slot 33], [], [], some (26, false), false, .none⟩, ⟨some 35, .bin .gtr, [.slot 27, .slot 34], [], [], some (26, false), false, .none⟩, ⟨some 36, .pick, [.slot 26, .const (.one (.bool true)), .slot 35], [], [], some (23, true), false, .none⟩, op 37 .pick [.slot 23, .slot 36, .const (.one (.bool false))]]) (.cond (.slot 37) (.region false [mv 38 4, mv 3 38]) (.skip))))) (.region false [mv 12 4, op 13 (.bin .add) [.slot 12, .const (.one (.int .i64 (1 : Int)))], mv 4 13]))
def spec_ActivePage.c2 : XCode := .seq (.region false [mv 39 3, mv 2 39]) (.ret)
def spec_ActivePage.x : XFunc := { nslots := 40, nobj := 1, pars := [.val true 2], rowsIn := [none, none], rets := [.tmp 2 false 1], outs := [.imm], fresh := true, arg := .pair (.list (.list (.int .i64))) (.list (.int .i64)), ret := .int .i64, body := .seq (.region false [ow 1 (.box 0) [.slot 0] [0] [0], op 2 .move [.const (.one (.int .i64 (0 : Int)))]]) (.seq (.region false [op 3 .move [.const (.one (.int .i64 (-1 : Int)))]]) (.seq (.seq (.region false [op 4 .move [.const (.one (.int .i64 (0 : Int)))]]) (.block 0 (.loop [.keep [1, 3, 4], .norm] (spec_ActivePage.c1)))) (spec_ActivePage.c2))) }
def spec_ActivePage.env (N : Nat) : Env := envOf (tbl [(96, spec_IsFlash.fs N), (1, spec_l1In.fs N)] noFS)
def spec_ActivePage.F (N : Nat) (x : (List (List Int)) × List Int) : Option Int := XFunc.run spec_ActivePage.x (spec_ActivePage.env N) N x
def spec_ActivePage.fs (N : Nat) : FS := { arg := .pair (.list (.list (.int .i64))) (.list (.int .i64)), ret := .int .i64, fresh := true, F := spec_ActivePage.F N }
def spec_ActivePage.k2 (N : Nat) : Ex → S → Option Int := seqK (fun s => XCode.runK (spec_ActivePage.env N) N (spec_ActivePage.c2) s (XFunc.endK spec_ActivePage.x)) (XFunc.endK spec_ActivePage.x)
def spec_ActivePage.k1 (N : Nat) : Ex → S → Option Int := blockK 0 (spec_ActivePage.k2 N)
def spec_ActivePage.L1 (N : Nat) (n1 : Nat) (best : Int) (i : Int) (o00 : List (List Int)) (o01 : List Int) : Option Int := loopK [.keep [1, 3, 4], .norm] (fun s k => XCode.runK (spec_ActivePage.env N) N spec_ActivePage.c1 s k) n1
  { t := [.junk, .one (.ptr 0 0 0), .junk, .one (.int .i64 best), .one (.int .i64 i), .junk, .junk, .junk, .junk, .junk, .junk, .junk, .junk, .junk, .junk, .junk, .junk, .junk, .junk, .junk, .junk, .junk, .junk, .junk, .junk, .junk, .junk, .junk, .junk, .junk, .junk, .junk, .junk, .junk, .junk, .junk, .junk, .junk, .junk, .junk], h := [.box 0 false [.sl false (.list (.int .i64)) o00, .sl false (.int .i64) o01]] }
  (spec_ActivePage.k1 N)

theorem spec_ActivePage.L1_eq (N : Nat) (n1 : Nat) (best : Int) (i : Int) (o00 : List (List Int)) (o01 : List Int) : spec_ActivePage.L1 N (n1 + 1) best i o00 o01 =
    bif decide (i < (2 : Int)) then
      bindO (spec_IsFlash.F N (o00, o01)) fun r1 =>
      bif r1 then
        bif inRange i (List.length o00) then
        bif inRange (0 : Int) (List.length (nth ([] : List Int) o00 i)) then
        bindO (spec_l1In.F N (nth (0 : Int) (nth ([] : List Int) o00 i) (0 : Int), ((1 : Int), (60000 : Int)))) fun r2 =>
        bif r2 then
          bif decide (best < (0 : Int)) then
            spec_ActivePage.L1 N n1 i (IntKind.wrap .i64 (i + (1 : Int))) o00 o01
          else
            bif inRange best (List.length o00) then
            bif inRange (0 : Int) (List.length (nth ([] : List Int) o00 best)) then
            bif decide ((nth (0 : Int) (nth ([] : List Int) o00 i) (0 : Int)) > (nth (0 : Int) (nth ([] : List Int) o00 best) (0 : Int))) then
              spec_ActivePage.L1 N n1 i (IntKind.wrap .i64 (i + (1 : Int))) o00 o01
            else
              spec_ActivePage.L1 N n1 best (IntKind.wrap .i64 (i + (1 : Int))) o00 o01
            else none
            else none
        else
          spec_ActivePage.L1 N n1 best (IntKind.wrap .i64 (i + (1 : Int))) o00 o01
        else none
        else none
      else
        some best
    else
      some best := by kernel_rfl
theorem spec_ActivePage.F_eq (N : Nat) (f : (List (List Int)) × List Int) : spec_ActivePage.F N f =
    spec_ActivePage.L1 N N (-1 : Int) (0 : Int) f.1 f.2 := by kernel_rfl

def impl_ActivePage.c1 : XCode := .seq (.region false [o2 14 (.bin .lss) 13 12]) (.seq (.cond (.slot 14) (.skip) (.exit 0)) (.seq (.block 1 (.seq (.region false [mv 15 13, o2 16 (.indexAddr (.list (.int .i64))) 11 13, o1 17 (.load false 1) 16, mv 4 15, mv 5 17]) (.seq (.region true [mv 18 5, op 19 (.indexAddr (.int .i64)) [.slot 18, .const (.one (.int .i64 (0 : Int)))], o1 20 (.load false 1) 19, op 21 (.bin .geq) [.slot 20, .const (.one (.int .i64 (1 : Int)))], ⟨some 22, .move, [.slot 21], [], [], none, true, .none⟩, ⟨some 23, .move, [.slot 5], [], [], some (22, true), false, .none⟩, ⟨some 24, .indexAddr (.int .i64), [.slot 23, .const (.one (.int .i64 (0 : Int)))], [], [], some (22, true), false, .none⟩, ⟨some 25, .load false 1, [.slot 24], [], [], some (22, true), false, .none⟩, ⟨some 26, .bin .leq, [.slot 25, .const (.one (.int .i64 (60000 : Int)))], [], [], some (22, true), false, .none⟩, op 27 .pick [.slot 22, .slot 26, .const (.one (.bool false))], ⟨some 28, .move, [.slot 27], [], [], none, true, .none⟩, ⟨some 29, .move, [.slot 3], [], [], some (28, true), false, .none⟩, ⟨some 30, .bin .lss, [.slot 29, .const (.one (.int .i64 (0 : Int)))], [], [], some (28, true), false, .none⟩, ⟨some 31, .move, [.slot 30], [], [], some (28, true), true, .none⟩, ⟨some 32, .move, [.slot 5], [], [], some (31, false), false, .none⟩, ⟨some 33, .indexAddr (.int .i64), [.slot 32, .const (.one (.int .i64 (0 : Int)))], [], [], some (31, false), false, .none⟩, ⟨some 34, .load false 1, [.slot 33], [], [], some (31, false), false, .none⟩, ⟨some 35, .fieldAddr 0, [.slot 1], [], [], some (31, false), false, .none⟩, ⟨some 36, .load false 1, [.slot 35], [0], [], some (31, false), false, .none⟩, ⟨some 37, .move, [.slot 3], [], [], some (31, false), false, .none⟩, ⟨some 38, .indexAddr (.list (.int .i64)), [.slot 36, .slot 37], [], [], some (31, false), false, .none⟩, ⟨some 39, .load false 1, [.slot 38], [], [], some (31, false), false, .none⟩, ⟨some 40, .indexAddr (.int .i64), [.slot 39, .const (.one (.int .i64 (0 : Int)))], [], [], some (31, false), false, .none⟩, ⟨some 41, .load false 1, [.slot 40], [], [], some (31, false), false, .none⟩, ⟨some 42, .bin .gtr, [.slot 34, .slot 41], [], [], some (31, false), false, .none⟩, ⟨some 43, .pick, [.slot 31, .const (.one (.bool true)), .slot 42], [], [], some (28, true), false, .none⟩, op 44 .pick [.slot 28, .slot 43, .const (.one (.bool false))]]) (.cond (.slot 44) (.region false [mv 45 4, mv 3 45]) (.skip))))) (.region false [op 46 (.bin .add) [.slot 13, .const (.one (.int .i64 (1 : Int)))], mv 13 46])))
def impl_ActivePage.c2 : XCode := .seq (.region false [mv 47 3, mv 2 47]) (.ret)
def impl_ActivePage.x : XFunc := { nslots := 48, nobj := 1, pars := [.val true 2], rowsIn := [none, none], rets := [.tmp 2 false 1], outs := [.imm], fresh := true, arg := .pair (.list (.list (.int .i64))) (.list (.int .i64)), ret := .int .i64, body := .seq (.region false [ow 1 (.box 0) [.slot 0] [0] [0], op 2 .move [.const (.one (.int .i64 (0 : Int)))]]) (.seq (.region false [op 3 .move [.const (.one (.int .i64 (-1 : Int)))]]) (.seq (.seq (.region false [ow 6 (.load true 2) [.slot 1] [0] [], o1 7 (.call ⟨108, [.val true 2], no 2, [.val false 1], ims 1, true⟩) 6, o1 8 .not 7]) (.cond (.slot 8) (.seq (.region false [mv 9 3, mv 2 9]) (.ret)) (.skip))) (.seq (.seq (.region false [o1 10 (.fieldAddr 0) 1, ow 11 (.load false 1) [.slot 10] [0] [], o1 12 .len 11, op 13 .move [.const (.one (.int .i64 (0 : Int)))]]) (.block 0 (.loop [.keep [1, 3, 11, 12, 13], .norm] (impl_ActivePage.c1)))) (impl_ActivePage.c2)))) }
def impl_ActivePage.env (N : Nat) : Env := envOf (tbl [(108, impl_IsFlash.fs N)] noFS)
def impl_ActivePage.F (N : Nat) (x : (List (List Int)) × List Int) : Option Int := XFunc.run impl_ActivePage.x (impl_ActivePage.env N) N x
def impl_ActivePage.fs (N : Nat) : FS := { arg := .pair (.list (.list (.int .i64))) (.list (.int .i64)), ret := .int .i64, fresh := true, F := impl_ActivePage.F N }
def impl_ActivePage.k2 (N : Nat) : Ex → S → Option Int := seqK (fun s => XCode.runK (impl_ActivePage.env N) N (impl_ActivePage.c2) s (XFunc.endK impl_ActivePage.x)) (XFunc.endK impl_ActivePage.x)
def impl_ActivePage.k1 (N : Nat) : Ex → S → Option Int := blockK 0 (impl_ActivePage.k2 N)
def impl_ActivePage.L1 (N : Nat) (n1 : Nat) (best : Int) (t11 : List (List Int)) (t12 : Int) (t13 : Int) (o00 : List (List Int)) (o01 : List Int) : Option Int := loopK [.keep [1, 3, 11, 12, 13], .norm] (fun s k => XCode.runK (impl_ActivePage.env N) N impl_ActivePage.c1 s k) n1
  { t := [.junk, .one (.ptr 0 0 0), .junk, .one (.int .i64 best), .junk, .junk, .junk, .junk, .junk, .junk, .junk, .one (.sl false (.list (.int .i64)) t11), .one (.int .i64 t12), .one (.int .i64 t13), .junk, .junk, .junk, .junk, .junk, .junk, .junk, .junk, .junk, .junk, .junk, .junk, .junk, .junk, .junk, .junk, .junk, .junk, .junk, .junk, .junk, .junk, .junk, .junk, .junk, .junk, .junk, .junk, .junk, .junk, .junk, .junk, .junk, .junk], h := [.box 0 false [.sl false (.list (.int .i64)) o00, .sl false (.int .i64) o01]] }
  (impl_ActivePage.k1 N)

theorem impl_ActivePage.L1_eq (N : Nat) (n1 : Nat) (best : Int) (t11 : List (List Int)) (t12 : Int) (t13 : Int) (o00 : List (List Int)) (o01 : List Int) : impl_ActivePage.L1 N (n1 + 1) best t11 t12 t13 o00 o01 =
    bif decide (t13 < t12) then
      bif inRange t13 (List.length t11) then
      bif inRange (0 : Int) (List.length (nth ([] : List Int) t11 t13)) then
      bif decide ((nth (0 : Int) (nth ([] : List Int) t11 t13) (0 : Int)) ≥ (1 : Int)) then
        bif inRange (0 : Int) (List.length (nth ([] : List Int) t11 t13)) then
        bif decide ((nth (0 : Int) (nth ([] : List Int) t11 t13) (0 : Int)) ≤ (60000 : Int)) then
          bif decide (best < (0 : Int)) then
            impl_ActivePage.L1 N n1 t13 t11 t12 (IntKind.wrap .i64 (t13 + (1 : Int))) o00 o01
          else
            bif inRange (0 : Int) (List.length (nth ([] : List Int) t11 t13)) then
            bif inRange best (List.length o00) then
            bif inRange (0 : Int) (List.length (nth ([] : List Int) o00 best)) then
            bif decide ((nth (0 : Int) (nth ([] : List Int) t11 t13) (0 : Int)) > (nth (0 : Int) (nth ([] : List Int) o00 best) (0 : Int))) then
              impl_ActivePage.L1 N n1 t13 t11 t12 (IntKind.wrap .i64 (t13 + (1 : Int))) o00 o01
            else
              impl_ActivePage.L1 N n1 best t11 t12 (IntKind.wrap .i64 (t13 + (1 : Int))) o00 o01
            else none
            else none
            else none
        else
          impl_ActivePage.L1 N n1 best t11 t12 (IntKind.wrap .i64 (t13 + (1 : Int))) o00 o01
        else none
      else
        impl_ActivePage.L1 N n1 best t11 t12 (IntKind.wrap .i64 (t13 + (1 : Int))) o00 o01
      else none
      else none
    else
      some best := by kernel_rfl
theorem impl_ActivePage.F_eq (N : Nat) (f : (List (List Int)) × List Int) : impl_ActivePage.F N f =
    bindO (impl_IsFlash.F N f) fun r1 =>
    bif !r1 then
      some (-1 : Int)
    else
      impl_ActivePage.L1 N N (-1 : Int) f.1 (List.length f.1 : Int) (0 : Int) f.1 f.2 := by kernel_rfl

def spec_FreeRecord.c1 : XCode := .seq (.seq (.region false [mv 20 7, op 21 (.bin .leq) [.slot 20, .const (.one (.int .i64 (3 : Int)))]]) (.cond (.slot 21) (.skip) (.exit 2))) (.seq (.block 3 (.seq (.region false [o1 24 (.fieldAddr 0) 2, ow 25 (.load false 1) [.slot 24] [0] [], mv 26 1, o2 27 (.indexAddr (.list (.int .i64))) 25 26, o1 28 (.load false 1) 27, mv 29 6, op 30 (.bin .mul) [.const (.one (.int .i64 (3 : Int))), .slot 29], mv 31 7, o2 32 (.bin .add) 30 31, o2 33 (.indexAddr (.int .i64)) 28 32, o1 34 (.load false 1) 33, op 35 (.bin .neq) [.slot 34, .const (.one (.int .i64 (65535 : Int)))]]) (.cond (.slot 35) (.seq (.region false [mv 36 5, mv 4 36]) (.ret)) (.skip)))) (.region false [mv 22 7, op 23 (.bin .add) [.slot 22, .const (.one (.int .i64 (1 : Int)))], mv 7 23]))
def spec_FreeRecord.c2 : XCode := .region false [mv 37 6, mv 5 37]
def spec_FreeRecord.c3 : XCode := .region false [mv 18 6, op 19 (.bin .sub) [.slot 18, .const (.one (.int .i64 (1 : Int)))], mv 6 19]
def spec_FreeRecord.c4 : XCode := .seq (.seq (.region false [mv 16 6, op 17 (.bin .geq) [.slot 16, .const (.one (.int .i64 (0 : Int)))]]) (.cond (.slot 17) (.skip) (.exit 0))) (.seq (.block 1 (.seq (.seq (.region false [op 7 .move [.const (.one (.int .i64 (1 : Int)))]]) (.block 2 (.loop [.keep [1, 2, 5, 6, 7], .norm] (spec_FreeRecord.c1)))) (spec_FreeRecord.c2))) (spec_FreeRecord.c3))
def spec_FreeRecord.c5 : XCode := .seq (.region false [mv 38 5, mv 4 38]) (.ret)
def spec_FreeRecord.x : XFunc := { nslots := 39, nobj := 1, pars := [.val true 2, .val false 1], rowsIn := [none, none, none], rets := [.tmp 4 false 1], outs := [.imm], fresh := true, arg := .pair (.pair (.list (.list (.int .i64))) (.list (.int .i64))) (.int .i64), ret := .int .i64, body := .seq (.region false [ow 2 (.box 0) [.slot 0] [0] [0], op 4 .move [.const (.one (.int .i64 (0 : Int)))]]) (.seq (.seq (.region false [ow 8 (.load true 2) [.slot 2] [0] [], o1 9 (.call ⟨96, [.val true 2], no 2, [.val false 1], ims 1, true⟩) 8, o1 10 .not 9, ⟨some 11, .move, [.slot 10], [], [], none, true, .none⟩, ⟨some 12, .move, [.slot 1], [], [], some (11, false), false, .none⟩, ⟨some 13, .call ⟨1, vs 3, no 3, [.val false 1], ims 1, true⟩, [.slot 12, .const (.one (.int .i64 (0 : Int))), .const (.one (.int .i64 (1 : Int)))], [], [], some (11, false), false, .none⟩, ⟨some 14, .not, [.slot 13], [], [], some (11, false), false, .none⟩, op 15 .pick [.slot 11, .const (.one (.bool true)), .slot 14]]) (.cond (.slot 15) (.seq (.region false [op 4 .move [.const (.one (.int .i64 (-1 : Int)))]]) (.ret)) (.skip))) (.seq (.region false [op 5 .move [.const (.one (.int .i64 (6 : Int)))]]) (.seq (.seq (.region false [op 6 .move [.const (.one (.int .i64 (5 : Int)))]]) (.block 0 (.loop [.keep [1, 2, 5, 6], .norm] (spec_FreeRecord.c4)))) (spec_FreeRecord.c5)))) }
def spec_FreeRecord.env (N : Nat) : Env := envOf (tbl [(96, spec_IsFlash.fs N), (1, spec_l1In.fs N)] noFS)
def spec_FreeRecord.F (N : Nat) (x : ((List (List Int)) × List Int) × Int) : Option Int := XFunc.run spec_FreeRecord.x (spec_FreeRecord.env N) N x
def spec_FreeRecord.fs (N : Nat) : FS := { arg := .pair (.pair (.list (.list (.int .i64))) (.list (.int .i64))) (.int .i64), ret := .int .i64, fresh := true, F := spec_FreeRecord.F N }
def spec_FreeRecord.k2 (N : Nat) : Ex → S → Option Int := seqK (fun s => XCode.runK (spec_FreeRecord.env N) N (spec_FreeRecord.c5) s (XFunc.endK spec_FreeRecord.x)) (XFunc.endK spec_FreeRecord.x)
def spec_FreeRecord.k1 (N : Nat) : Ex → S → Option Int := blockK 0 (spec_FreeRecord.k2 N)
def spec_FreeRecord.k7 (N : Nat) (n1 : Nat) : Ex → S → Option Int := seqK (fun s => bindO (S.ghosts s [.keep [1, 2, 5, 6], .norm]) fun s1 => loopK [.keep [1, 2, 5, 6], .norm] (fun s k => XCode.runK (spec_FreeRecord.env N) N spec_FreeRecord.c4 s k) n1 s1 (spec_FreeRecord.k1 N)) (spec_FreeRecord.k1 N)
def spec_FreeRecord.k6 (N : Nat) (n1 : Nat) : Ex → S → Option Int := seqK (fun s => XCode.runK (spec_FreeRecord.env N) N (spec_FreeRecord.c3) s (spec_FreeRecord.k7 N n1)) (spec_FreeRecord.k7 N n1)
def spec_FreeRecord.k5 (N : Nat) (n1 : Nat) : Ex → S → Option Int := blockK 1 (spec_FreeRecord.k6 N n1)
def spec_FreeRecord.k4 (N : Nat) (n1 : Nat) : Ex → S → Option Int := seqK (fun s => XCode.runK (spec_FreeRecord.env N) N (spec_FreeRecord.c2) s (spec_FreeRecord.k5 N n1)) (spec_FreeRecord.k5 N n1)
def spec_FreeRecord.k3 (N : Nat) (n1 : Nat) : Ex → S → Option Int := blockK 2 (spec_FreeRecord.k4 N n1)
def spec_FreeRecord.L1 (N : Nat) (n1 : Nat) (page : Int) (free : Int) (i : Int) (o00 : List (List Int)) (o01 : List Int) : Option Int := loopK [.keep [1, 2, 5, 6], .norm] (fun s k => XCode.runK (spec_FreeRecord.env N) N spec_FreeRecord.c4 s k) n1
  { t := [.junk, .one (.int .i64 page), .one (.ptr 0 0 0), .junk, .junk, .one (.int .i64 free), .one (.int .i64 i), .junk, .junk, .junk, .junk, .junk, .junk, .junk, .junk, .junk, .junk, .junk, .junk, .junk, .junk, .junk, .junk, .junk, .junk, .junk, .junk, .junk, .junk, .junk, .junk, .junk, .junk, .junk, .junk, .junk, .junk, .junk, .junk], h := [.box 0 false [.sl false (.list (.int .i64)) o00, .sl false (.int .i64) o01]] }
  (spec_FreeRecord.k1 N)
def spec_FreeRecord.L2 (N : Nat) (n1 : Nat) (n2 : Nat) (page : Int) (free : Int) (i : Int) (k_ : Int) (o00 : List (List Int)) (o01 : List Int) : Option Int := loopK [.keep [1, 2, 5, 6, 7], .norm] (fun s k => XCode.runK (spec_FreeRecord.env N) N spec_FreeRecord.c1 s k) n2
  { t := [.junk, .one (.int .i64 page), .one (.ptr 0 0 0), .junk, .junk, .one (.int .i64 free), .one (.int .i64 i), .one (.int .i64 k_), .junk, .junk, .junk, .junk, .junk, .junk, .junk, .junk, .junk, .junk, .junk, .junk, .junk, .junk, .junk, .junk, .junk, .junk, .junk, .junk, .junk, .junk, .junk, .junk, .junk, .junk, .junk, .junk, .junk, .junk, .junk], h := [.box 0 false [.sl false (.list (.int .i64)) o00, .sl false (.int .i64) o01]] }
  (spec_FreeRecord.k3 N n1)

theorem spec_FreeRecord.L1_eq (N : Nat) (n1 : Nat) (page : Int) (free : Int) (i : Int) (o00 : List (List Int)) (o01 : List Int) : spec_FreeRecord.L1 N (n1 + 1) page free i o00 o01 =
    bif decide (i ≥ (0 : Int)) then
      spec_FreeRecord.L2 N n1 N page free i (1 : Int) o00 o01
    else
      some free := by kernel_rfl
theorem spec_FreeRecord.L2_eq (N : Nat) (n1 : Nat) (n2 : Nat) (page : Int) (free : Int) (i : Int) (k_ : Int) (o00 : List (List Int)) (o01 : List Int) : spec_FreeRecord.L2 N n1 (n2 + 1) page free i k_ o00 o01 =
    bif decide (k_ ≤ (3 : Int)) then
      bif inRange page (List.length o00) then
      bif inRange (IntKind.wrap .i64 ((IntKind.wrap .i64 ((3 : Int) * i)) + k_)) (List.length (nth ([] : List Int) o00 page)) then
      bif (nth (0 : Int) (nth ([] : List Int) o00 page) (IntKind.wrap .i64 ((IntKind.wrap .i64 ((3 : Int) * i)) + k_))) != (65535 : Int) then
        some free
      else
        spec_FreeRecord.L2 N n1 n2 page free i (IntKind.wrap .i64 (k_ + (1 : Int))) o00 o01
      else none
      else none
    else
      spec_FreeRecord.L1 N n1 page i (IntKind.wrap .i64 (i - (1 : Int))) o00 o01 := by kernel_rfl
theorem spec_FreeRecord.F_eq (N : Nat) (f : (List (List Int)) × List Int) (page : Int) : spec_FreeRecord.F N (f, page) =
    bindO (spec_IsFlash.F N f) fun r1 =>
    bif !r1 then
      some (-1 : Int)
    else
      bindO (spec_l1In.F N (page, ((0 : Int), (1 : Int)))) fun r2 =>
      bif !r2 then
        some (-1 : Int)
      else
        spec_FreeRecord.L1 N N page (6 : Int) (5 : Int) f.1 f.2 := by kernel_rfl

def impl_FreeRecord.c1 : XCode := .seq (.seq (.region false [mv 18 5, op 19 (.bin .gtr) [.slot 18, .const (.one (.int .i64 (0 : Int)))]]) (.cond (.slot 19) (.skip) (.exit 0))) (.block 1 (.seq (.region false [o1 20 (.fieldAddr 0) 2, ow 21 (.load false 1) [.slot 20] [0] [], mv 22 1, o2 23 (.indexAddr (.list (.int .i64))) 21 22, o1 24 (.load false 1) 23, mv 25 5, op 26 (.bin .mul) [.const (.one (.int .i64 (3 : Int))), .slot 25], op 27 (.bin .sub) [.slot 26, .const (.one (.int .i64 (2 : Int)))], mv 28 5, op 29 (.bin .mul) [.const (.one (.int .i64 (3 : Int))), .slot 28], op 30 (.bin .add) [.slot 29, .const (.one (.int .i64 (1 : Int)))], op 31 (.slice (.int .i64) true true) [.slot 24, .slot 27, .slot 30], mv 6 31]) (.seq (.seq (.region false [mv 32 6, op 33 (.indexAddr (.int .i64)) [.slot 32, .const (.one (.int .i64 (0 : Int)))], o1 34 (.load false 1) 33, op 35 (.bin .neq) [.slot 34, .const (.one (.int .i64 (65535 : Int)))], ⟨some 36, .move, [.slot 35], [], [], none, true, .none⟩, ⟨some 37, .move, [.slot 6], [], [], some (36, false), false, .none⟩, ⟨some 38, .indexAddr (.int .i64), [.slot 37, .const (.one (.int .i64 (1 : Int)))], [], [], some (36, false), false, .none⟩, ⟨some 39, .load false 1, [.slot 38], [], [], some (36, false), false, .none⟩, ⟨some 40, .bin .neq, [.slot 39, .const (.one (.int .i64 (65535 : Int)))], [], [], some (36, false), false, .none⟩, op 41 .pick [.slot 36, .const (.one (.bool true)), .slot 40], ⟨some 42, .move, [.slot 41], [], [], none, true, .none⟩, ⟨some 43, .move, [.slot 6], [], [], some (42, false), false, .none⟩, ⟨some 44, .indexAddr (.int .i64), [.slot 43, .const (.one (.int .i64 (2 : Int)))], [], [], some (42, false), false, .none⟩, ⟨some 45, .load false 1, [.slot 44], [], [], some (42, false), false, .none⟩, ⟨some 46, .bin .neq, [.slot 45, .const (.one (.int .i64 (65535 : Int)))], [], [], some (42, false), false, .none⟩, op 47 .pick [.slot 42, .const (.one (.bool true)), .slot 46]]) (.cond (.slot 47) (.exit 0) (.skip))) (.region false [mv 48 5, op 49 (.bin .sub) [.slot 48, .const (.one (.int .i64 (1 : Int)))], mv 5 49]))))
def impl_FreeRecord.c2 : XCode := .seq (.region false [mv 50 5, mv 4 50]) (.ret)
def impl_FreeRecord.x : XFunc := { nslots := 51, nobj := 1, pars := [.val true 2, .val false 1], rowsIn := [none, none, none], rets := [.tmp 4 false 1], outs := [.imm], fresh := true, arg := .pair (.pair (.list (.list (.int .i64))) (.list (.int .i64))) (.int .i64), ret := .int .i64, body := .seq (.region false [ow 2 (.box 0) [.slot 0] [0] [0], op 4 .move [.const (.one (.int .i64 (0 : Int)))]]) (.seq (.seq (.region false [ow 7 (.load true 2) [.slot 2] [0] [], o1 8 (.call ⟨108, [.val true 2], no 2, [.val false 1], ims 1, true⟩) 7, o1 9 .not 8, ⟨some 10, .move, [.slot 9], [], [], none, true, .none⟩, ⟨some 11, .move, [.slot 1], [], [], some (10, false), false, .none⟩, ⟨some 12, .bin .lss, [.slot 11, .const (.one (.int .i64 (0 : Int)))], [], [], some (10, false), false, .none⟩, op 13 .pick [.slot 10, .const (.one (.bool true)), .slot 12], ⟨some 14, .move, [.slot 13], [], [], none, true, .none⟩, ⟨some 15, .move, [.slot 1], [], [], some (14, false), false, .none⟩, ⟨some 16, .bin .gtr, [.slot 15, .const (.one (.int .i64 (1 : Int)))], [], [], some (14, false), false, .none⟩, op 17 .pick [.slot 14, .const (.one (.bool true)), .slot 16]]) (.cond (.slot 17) (.seq (.region false [op 4 .move [.const (.one (.int .i64 (-1 : Int)))]]) (.ret)) (.skip))) (.seq (.region false [op 5 .move [.const (.one (.int .i64 (6 : Int)))]]) (.seq (.block 0 (.loop [.keep [1, 2, 5], .norm] (impl_FreeRecord.c1))) (impl_FreeRecord.c2)))) }
def impl_FreeRecord.env (N : Nat) : Env := envOf (tbl [(108, impl_IsFlash.fs N)] noFS)
def impl_FreeRecord.F (N : Nat) (x : ((List (List Int)) × List Int) × Int) : Option Int := XFunc.run impl_FreeRecord.x (impl_FreeRecord.env N) N x
def impl_FreeRecord.fs (N : Nat) : FS := { arg := .pair (.pair (.list (.list (.int .i64))) (.list (.int .i64))) (.int .i64), ret := .int .i64, fresh := true, F := impl_FreeRecord.F N }
def impl_FreeRecord.k2 (N : Nat) : Ex → S → Option Int := seqK (fun s => XCode.runK (impl_FreeRecord.env N) N (impl_FreeRecord.c2) s (XFunc.endK impl_FreeRecord.x)) (XFunc.endK impl_FreeRecord.x)
def impl_FreeRecord.k1 (N : Nat) : Ex → S → Option Int := blockK 0 (impl_FreeRecord.k2 N)
def impl_FreeRecord.L1 (N : Nat) (n1 : Nat) (page : Int) (n_ : Int) (o00 : List (List Int)) (o01 : List Int) : Option Int := loopK [.keep [1, 2, 5], .norm] (fun s k => XCode.runK (impl_FreeRecord.env N) N impl_FreeRecord.c1 s k) n1
  { t := [.junk, .one (.int .i64 page), .one (.ptr 0 0 0), .junk, .junk, .one (.int .i64 n_), .junk, .junk, .junk, .junk, .junk, .junk, .junk, .junk, .junk, .junk, .junk, .junk, .junk, .junk, .junk, .junk, .junk, .junk, .junk, .junk, .junk, .junk, .junk, .junk, .junk, .junk, .junk, .junk, .junk, .junk, .junk, .junk, .junk, .junk, .junk, .junk, .junk, .junk, .junk, .junk, .junk, .junk, .junk, .junk, .junk], h := [.box 0 false [.sl false (.list (.int .i64)) o00, .sl false (.int .i64) o01]] }
  (impl_FreeRecord.k1 N)

theorem impl_FreeRecord.L1_eq (N : Nat) (n1 : Nat) (page : Int) (n_ : Int) (o00 : List (List Int)) (o01 : List Int) : impl_FreeRecord.L1 N (n1 + 1) page n_ o00 o01 =
    bif decide (n_ > (0 : Int)) then
      bif inRange page (List.length o00) then
      bif bounds (IntKind.wrap .i64 ((IntKind.wrap .i64 ((3 : Int) * n_)) - (2 : Int))) (IntKind.wrap .i64 ((IntKind.wrap .i64 ((3 : Int) * n_)) + (1 : Int))) (List.length (nth ([] : List Int) o00 page)) then
      bif inRange (0 : Int) (List.length (List.drop (Int.toNat (IntKind.wrap .i64 ((IntKind.wrap .i64 ((3 : Int) * n_)) - (2 : Int)))) (List.take (Int.toNat (IntKind.wrap .i64 ((IntKind.wrap .i64 ((3 : Int) * n_)) + (1 : Int)))) (nth ([] : List Int) o00 page)))) then
      bif (nth (0 : Int) (List.drop (Int.toNat (IntKind.wrap .i64 ((IntKind.wrap .i64 ((3 : Int) * n_)) - (2 : Int)))) (List.take (Int.toNat (IntKind.wrap .i64 ((IntKind.wrap .i64 ((3 : Int) * n_)) + (1 : Int)))) (nth ([] : List Int) o00 page))) (0 : Int)) != (65535 : Int) then
        some n_
      else
        bif inRange (1 : Int) (List.length (List.drop (Int.toNat (IntKind.wrap .i64 ((IntKind.wrap .i64 ((3 : Int) * n_)) - (2 : Int)))) (List.take (Int.toNat (IntKind.wrap .i64 ((IntKind.wrap .i64 ((3 : Int) * n_)) + (1 : Int)))) (nth ([] : List Int) o00 page)))) then
        bif (nth (0 : Int) (List.drop (Int.toNat (IntKind.wrap .i64 ((IntKind.wrap .i64 ((3 : Int) * n_)) - (2 : Int)))) (List.take (Int.toNat (IntKind.wrap .i64 ((IntKind.wrap .i64 ((3 : Int) * n_)) + (1 : Int)))) (nth ([] : List Int) o00 page))) (1 : Int)) != (65535 : Int) then
          some n_
        else
          bif inRange (2 : Int) (List.length (List.drop (Int.toNat (IntKind.wrap .i64 ((IntKind.wrap .i64 ((3 : Int) * n_)) - (2 : Int)))) (List.take (Int.toNat (IntKind.wrap .i64 ((IntKind.wrap .i64 ((3 : Int) * n_)) + (1 : Int)))) (nth ([] : List Int) o00 page)))) then
          bif (nth (0 : Int) (List.drop (Int.toNat (IntKind.wrap .i64 ((IntKind.wrap .i64 ((3 : Int) * n_)) - (2 : Int)))) (List.take (Int.toNat (IntKind.wrap .i64 ((IntKind.wrap .i64 ((3 : Int) * n_)) + (1 : Int)))) (nth ([] : List Int) o00 page))) (2 : Int)) != (65535 : Int) then
            some n_
          else
            impl_FreeRecord.L1 N n1 page (IntKind.wrap .i64 (n_ - (1 : Int))) o00 o01
          else none
        else none
      else none
      else none
      else none
    else
      some n_ := by kernel_rfl
theorem impl_FreeRecord.F_eq (N : Nat) (f : (List (List Int)) × List Int) (page : Int) : impl_FreeRecord.F N (f, page) =
    bindO (impl_IsFlash.F N f) fun r1 =>
    bif !r1 then
      some (-1 : Int)
    else
      bif decide (page < (0 : Int)) then
        some (-1 : Int)
      else
        bif decide (page > (1 : Int)) then
          some (-1 : Int)
        else
          impl_FreeRecord.L1 N N page (6 : Int) f.1 f.2 := by kernel_rfl

def spec_ReadSetting.c1 : XCode := .seq (.seq (.region false [mv 22 9, op 23 (.bin .lss) [.slot 22, .const (.one (.int .i64 (6 : Int)))]]) (.cond (.slot 23) (.skip) (.exit 0))) (.seq (.block 1 (.seq (.region false [mv 26 9, op 27 (.bin .mul) [.const (.one (.int .i64 (3 : Int))), .slot 26], op 28 (.bin .add) [.const (.one (.int .i64 (1 : Int))), .slot 27], mv 10 28]) (.seq (.region false [o1 29 (.fieldAddr 0) 2, ow 30 (.load false 1) [.slot 29] [0] [], mv 31 6, o2 32 (.indexAddr (.list (.int .i64))) 30 31, o1 33 (.load false 1) 32, mv 34 10, op 35 (.bin .add) [.slot 34, .const (.one (.int .i64 (1 : Int)))], o2 36 (.indexAddr (.int .i64)) 33 35, o1 37 (.load false 1) 36, mv 11 37]) (.seq (.region false [mv 38 1, mv 39 11, o1 40 (.fieldAddr 0) 2, ow 41 (.load false 1) [.slot 40] [0] [], mv 42 6, o2 43 (.indexAddr (.list (.int .i64))) 41 42, o1 44 (.load false 1) 43, op 45 (.indexAddr (.int .i64)) [.slot 44, .const (.one (.int .i64 (0 : Int)))], o1 46 (.load false 1) 45, op 47 (.call ⟨2, vs 3, no 3, [.val false 1], ims 1, true⟩) [.slot 38, .slot 39, .slot 46], mv 12 47]) (.seq (.region false [o1 48 (.fieldAddr 0) 2, ow 49 (.load false 1) [.slot 48] [0] [], mv 50 6, o2 51 (.indexAddr (.list (.int .i64))) 49 50, o1 52 (.load false 1) 51, mv 53 10, o2 54 (.indexAddr (.int .i64)) 52 53, o1 55 (.load false 1) 54, mv 56 1, o2 57 (.bin .eql) 55 56, ⟨some 58, .move, [.slot 57], [], [], none, true, .none⟩, ⟨some 59, .move, [.slot 12], [], [], some (58, true), false, .none⟩, ⟨some 60, .bin .neq, [.slot 59, .const (.one (.int .i64 (65535 : Int)))], [], [], some (58, true), false, .none⟩, op 61 .pick [.slot 58, .slot 60, .const (.one (.bool false))], ⟨some 62, .move, [.slot 61], [], [], none, true, .none⟩, ⟨some 63, .fieldAddr 0, [.slot 2], [], [], some (62, true), false, .none⟩, ⟨some 64, .load false 1, [.slot 63], [0], [], some (62, true), false, .none⟩, ⟨some 65, .move, [.slot 6], [], [], some (62, true), false, .none⟩, ⟨some 66, .indexAddr (.list (.int .i64)), [.slot 64, .slot 65], [], [], some (62, true), false, .none⟩, ⟨some 67, .load false 1, [.slot 66], [], [], some (62, true), false, .none⟩, ⟨some 68, .move, [.slot 10], [], [], some (62, true), false, .none⟩, ⟨some 69, .bin .add, [.slot 68, .const (.one (.int .i64 (2 : Int)))], [], [], some (62, true), false, .none⟩, ⟨some 70, .indexAddr (.int .i64), [.slot 67, .slot 69], [], [], some (62, true), false, .none⟩, ⟨some 71, .load false 1, [.slot 70], [], [], some (62, true), false, .none⟩, ⟨some 72, .move, [.slot 12], [], [], some (62, true), false, .none⟩, ⟨some 73, .bin .eql, [.slot 71, .slot 72], [], [], some (62, true), false, .none⟩, op 74 .pick [.slot 62, .slot 73, .const (.one (.bool false))]]) (.cond (.slot 74) (.seq (.region false [mv 75 11, mv 7 75]) (.region false [op 8 .move [.const (.one (.bool true))]])) (.skip))))))) (.region false [mv 24 9, op 25 (.bin .add) [.slot 24, .const (.one (.int .i64 (1 : Int)))], mv 9 25]))
def spec_ReadSetting.c2 : XCode := .seq (.region false [mv 76 7, mv 77 8, mv 4 76, mv 5 77]) (.ret)
def spec_ReadSetting.x : XFunc := { nslots := 78, nobj := 1, pars := [.val true 2, .val false 1], rowsIn := [none, none, none], rets := [.tmp 4 false 1, .tmp 5 false 1], outs := [.imm, .imm], fresh := true, arg := .pair (.pair (.list (.list (.int .i64))) (.list (.int .i64))) (.int .i64), ret := .pair (.int .i64) (.bool), body := .seq (.region false [ow 2 (.box 0) [.slot 0] [0] [0], op 4 .move [.const (.one (.int .i64 (0 : Int)))], op 5 .move [.const (.one (.bool false))]]) (.seq (.region false [ow 13 (.load true 2) [.slot 2] [0] [], o1 14 (.call ⟨97, [.val true 2], no 2, [.val false 1], ims 1, true⟩) 13, mv 6 14]) (.seq (.seq (.region false [mv 15 6, op 16 (.bin .lss) [.slot 15, .const (.one (.int .i64 (0 : Int)))], ⟨some 17, .move, [.slot 16], [], [], none, true, .none⟩, ⟨some 18, .move, [.slot 1], [], [], some (17, false), false, .none⟩, ⟨some 19, .call ⟨1, vs 3, no 3, [.val false 1], ims 1, true⟩, [.slot 18, .const (.one (.int .i64 (0 : Int))), .const (.one (.int .i64 (3 : Int)))], [], [], some (17, false), false, .none⟩, ⟨some 20, .not, [.slot 19], [], [], some (17, false), false, .none⟩, op 21 .pick [.slot 17, .const (.one (.bool true)), .slot 20]]) (.cond (.slot 21) (.seq (.region false [op 4 .move [.const (.one (.int .i64 (0 : Int)))], op 5 .move [.const (.one (.bool false))]]) (.ret)) (.skip))) (.seq (.region false [op 7 .move [.const (.one (.int .i64 (0 : Int)))]]) (.seq (.region false [op 8 .move [.const (.one (.bool false))]]) (.seq (.seq (.region false [op 9 .move [.const (.one (.int .i64 (0 : Int)))]]) (.block 0 (.loop [.keep [1, 2, 6, 7, 8, 9], .norm] (spec_ReadSetting.c1)))) (spec_ReadSetting.c2)))))) }
def spec_ReadSetting.env (N : Nat) : Env := envOf (tbl [(97, spec_ActivePage.fs N), (2, spec_CheckOf.fs N), (1, spec_l1In.fs N)] noFS)
def spec_ReadSetting.F (N : Nat) (x : ((List (List Int)) × List Int) × Int) : Option (Int × Bool) := XFunc.run spec_ReadSetting.x (spec_ReadSetting.env N) N x
def spec_ReadSetting.fs (N : Nat) : FS := { arg := .pair (.pair (.list (.list (.int .i64))) (.list (.int .i64))) (.int .i64), ret := .pair (.int .i64) (.bool), fresh := true, F := spec_ReadSetting.F N }
def spec_ReadSetting.k2 (N : Nat) : Ex → S → Option (Int × Bool) := seqK (fun s => XCode.runK (spec_ReadSetting.env N) N (spec_ReadSetting.c2) s (XFunc.endK spec_ReadSetting.x)) (XFunc.endK spec_ReadSetting.x)
def spec_ReadSetting.k1 (N : Nat) : Ex → S → Option (Int × Bool) := blockK 0 (spec_ReadSetting.k2 N)
def spec_ReadSetting.L1 (N : Nat) (n1 : Nat) (setting : Int) (p : Int) (value : Int) (found : Bool) (i : Int) (o00 : List (List Int)) (o01 : List Int) : Option (Int × Bool) := loopK [.keep [1, 2, 6, 7, 8, 9], .norm] (fun s k => XCode.runK (spec_ReadSetting.env N) N spec_ReadSetting.c1 s k) n1
  { t := [.junk, .one (.int .i64 setting), .one (.ptr 0 0 0), .junk, .junk, .junk, .one (.int .i64 p), .one (.int .i64 value), .one (.bool found), .one (.int .i64 i), .junk, .junk, .junk, .junk, .junk, .junk, .junk, .junk, .junk, .junk, .junk, .junk, .junk, .junk, .junk, .junk, .junk, .junk, .junk, .junk, .junk, .junk, .junk, .junk, .junk, .junk, .junk, .junk, .junk, .junk, .junk, .junk, .junk, .junk, .junk, .junk, .junk, .junk, .junk, .junk, .junk, .junk, .junk, .junk, .junk, .junk, .junk, .junk, .junk, .junk, .junk, .junk, .junk, .junk, .junk, .junk, .junk, .junk, .junk, .junk, .junk, .junk, .junk, .junk, .junk, .junk, .junk, .junk], h := [.box 0 false [.sl false (.list (.int .i64)) o00, .sl false (.int .i64) o01]] }
  (spec_ReadSetting.k1 N)

theorem spec_ReadSetting.L1_eq (N : Nat) (n1 : Nat) (setting : Int) (p : Int) (value : Int) (found : Bool) (i : Int) (o00 : List (List Int)) (o01 : List Int) : spec_ReadSetting.L1 N (n1 + 1) setting p value found i o00 o01 =
    bif decide (i < (6 : Int)) then
      bif inRange p (List.length o00) then
      bif inRange (IntKind.wrap .i64 ((IntKind.wrap .i64 ((1 : Int) + (IntKind.wrap .i64 ((3 : Int) * i)))) + (1 : Int))) (List.length (nth ([] : List Int) o00 p)) then
      bif inRange p (List.length o00) then
      bif inRange (0 : Int) (List.length (nth ([] : List Int) o00 p)) then
      bindO (spec_CheckOf.F N (setting, (nth (0 : Int) (nth ([] : List Int) o00 p) (IntKind.wrap .i64 ((IntKind.wrap .i64 ((1 : Int) + (IntKind.wrap .i64 ((3 : Int) * i)))) + (1 : Int))), nth (0 : Int) (nth ([] : List Int) o00 p) (0 : Int)))) fun r3 =>
      bif inRange p (List.length o00) then
      bif inRange (IntKind.wrap .i64 ((1 : Int) + (IntKind.wrap .i64 ((3 : Int) * i)))) (List.length (nth ([] : List Int) o00 p)) then
      bif (nth (0 : Int) (nth ([] : List Int) o00 p) (IntKind.wrap .i64 ((1 : Int) + (IntKind.wrap .i64 ((3 : Int) * i))))) == setting then
        bif r3 != (65535 : Int) then
          bif inRange p (List.length o00) then
          bif inRange (IntKind.wrap .i64 ((IntKind.wrap .i64 ((1 : Int) + (IntKind.wrap .i64 ((3 : Int) * i)))) + (2 : Int))) (List.length (nth ([] : List Int) o00 p)) then
          bif (nth (0 : Int) (nth ([] : List Int) o00 p) (IntKind.wrap .i64 ((IntKind.wrap .i64 ((1 : Int) + (IntKind.wrap .i64 ((3 : Int) * i)))) + (2 : Int)))) == r3 then
            spec_ReadSetting.L1 N n1 setting p (nth (0 : Int) (nth ([] : List Int) o00 p) (IntKind.wrap .i64 ((IntKind.wrap .i64 ((1 : Int) + (IntKind.wrap .i64 ((3 : Int) * i)))) + (1 : Int)))) true (IntKind.wrap .i64 (i + (1 : Int))) o00 o01
          else
            spec_ReadSetting.L1 N n1 setting p value found (IntKind.wrap .i64 (i + (1 : Int))) o00 o01
          else none
          else none
        else
          spec_ReadSetting.L1 N n1 setting p value found (IntKind.wrap .i64 (i + (1 : Int))) o00 o01
      else
        spec_ReadSetting.L1 N n1 setting p value found (IntKind.wrap .i64 (i + (1 : Int))) o00 o01
      else none
      else none
      else none
      else none
      else none
      else none
    else
      some (value, found) := by kernel_rfl
theorem spec_ReadSetting.F_eq (N : Nat) (f : (List (List Int)) × List Int) (setting : Int) : spec_ReadSetting.F N (f, setting) =
    bindO (spec_ActivePage.F N f) fun r1 =>
    bif decide (r1 < (0 : Int)) then
      some ((0 : Int), false)
    else
      bindO (spec_l1In.F N (setting, ((0 : Int), (3 : Int)))) fun r2 =>
      bif !r2 then
        some ((0 : Int), false)
      else
        spec_ReadSetting.L1 N N setting r1 (0 : Int) false (0 : Int) f.1 f.2 := by kernel_rfl

def impl_ReadSetting.c1 : XCode := .seq (.seq (.region false [mv 19 8, op 20 (.bin .geq) [.slot 19, .const (.one (.int .i64 (0 : Int)))]]) (.cond (.slot 20) (.skip) (.exit 0))) (.seq (.block 1 (.seq (.region false [mv 23 7, mv 24 8, op 25 (.bin .mul) [.const (.one (.int .i64 (3 : Int))), .slot 24], op 26 (.bin .add) [.const (.one (.int .i64 (1 : Int))), .slot 25], mv 27 8, op 28 (.bin .mul) [.const (.one (.int .i64 (3 : Int))), .slot 27], op 29 (.bin .add) [.const (.one (.int .i64 (4 : Int))), .slot 28], op 30 (.slice (.int .i64) true true) [.slot 23, .slot 26, .slot 29], mv 9 30]) (.seq (.region true [mv 31 9, op 32 (.indexAddr (.int .i64)) [.slot 31, .const (.one (.int .i64 (0 : Int)))], o1 33 (.load false 1) 32, mv 34 9, op 35 (.indexAddr (.int .i64)) [.slot 34, .const (.one (.int .i64 (1 : Int)))], o1 36 (.load false 1) 35, o2 37 (.call ⟨3, vs 2, no 2, [.val false 1], ims 1, true⟩) 33 36, ⟨some 38, .move, [.slot 37], [], [], none, true, .none⟩, ⟨some 39, .move, [.slot 9], [], [], some (38, true), false, .none⟩, ⟨some 40, .indexAddr (.int .i64), [.slot 39, .const (.one (.int .i64 (0 : Int)))], [], [], some (38, true), false, .none⟩, ⟨some 41, .load false 1, [.slot 40], [], [], some (38, true), false, .none⟩, ⟨some 42, .move, [.slot 1], [], [], some (38, true), false, .none⟩, ⟨some 43, .bin .eql, [.slot 41, .slot 42], [], [], some (38, true), false, .none⟩, op 44 .pick [.slot 38, .slot 43, .const (.one (.bool false))], ⟨some 45, .move, [.slot 44], [], [], none, true, .none⟩, ⟨some 46, .move, [.slot 9], [], [], some (45, true), false, .none⟩, ⟨some 47, .indexAddr (.int .i64), [.slot 46, .const (.one (.int .i64 (2 : Int)))], [], [], some (45, true), false, .none⟩, ⟨some 48, .load false 1, [.slot 47], [], [], some (45, true), false, .none⟩, ⟨some 49, .move, [.slot 9], [], [], some (45, true), false, .none⟩, ⟨some 50, .indexAddr (.int .i64), [.slot 49, .const (.one (.int .i64 (0 : Int)))], [], [], some (45, true), false, .none⟩, ⟨some 51, .load false 1, [.slot 50], [], [], some (45, true), false, .none⟩, ⟨some 52, .move, [.slot 9], [], [], some (45, true), false, .none⟩, ⟨some 53, .indexAddr (.int .i64), [.slot 52, .const (.one (.int .i64 (1 : Int)))], [], [], some (45, true), false, .none⟩, ⟨some 54, .load false 1, [.slot 53], [], [], some (45, true), false, .none⟩, ⟨some 55, .move, [.slot 7], [], [], some (45, true), false, .none⟩, ⟨some 56, .indexAddr (.int .i64), [.slot 55, .const (.one (.int .i64 (0 : Int)))], [], [], some (45, true), false, .none⟩, ⟨some 57, .load false 1, [.slot 56], [], [], some (45, true), false, .none⟩, ⟨some 58, .call ⟨4, vs 3, no 3, [.val false 1], ims 1, true⟩, [.slot 51, .slot 54, .slot 57], [], [], some (45, true), false, .none⟩, ⟨some 59, .bin .eql, [.slot 48, .slot 58], [], [], some (45, true), false, .none⟩, op 60 .pick [.slot 45, .slot 59, .const (.one (.bool false))]]) (.cond (.slot 60) (.seq (.region false [mv 61 9, op 62 (.indexAddr (.int .i64)) [.slot 61, .const (.one (.int .i64 (1 : Int)))], o1 63 (.load false 1) 62, mv 4 63, op 5 .move [.const (.one (.bool true))]]) (.ret)) (.skip))))) (.region false [mv 21 8, op 22 (.bin .sub) [.slot 21, .const (.one (.int .i64 (1 : Int)))], mv 8 22]))
def impl_ReadSetting.c2 : XCode := .seq (.region false [op 4 .move [.const (.one (.int .i64 (0 : Int)))], op 5 .move [.const (.one (.bool false))]]) (.ret)
def impl_ReadSetting.x : XFunc := { nslots := 64, nobj := 1, pars := [.val true 2, .val false 1], rowsIn := [none, none, none], rets := [.tmp 4 false 1, .tmp 5 false 1], outs := [.imm, .imm], fresh := true, arg := .pair (.pair (.list (.list (.int .i64))) (.list (.int .i64))) (.int .i64), ret := .pair (.int .i64) (.bool), body := .seq (.region false [ow 2 (.box 0) [.slot 0] [0] [0], op 4 .move [.const (.one (.int .i64 (0 : Int)))], op 5 .move [.const (.one (.bool false))]]) (.seq (.region false [ow 10 (.load true 2) [.slot 2] [0] [], o1 11 (.call ⟨109, [.val true 2], no 2, [.val false 1], ims 1, true⟩) 10, mv 6 11]) (.seq (.seq (.region false [mv 12 6, op 13 (.bin .lss) [.slot 12, .const (.one (.int .i64 (0 : Int)))]]) (.cond (.slot 13) (.seq (.region false [op 4 .move [.const (.one (.int .i64 (0 : Int)))], op 5 .move [.const (.one (.bool false))]]) (.ret)) (.skip))) (.seq (.region false [o1 14 (.fieldAddr 0) 2, ow 15 (.load false 1) [.slot 14] [0] [], mv 16 6, o2 17 (.indexAddr (.list (.int .i64))) 15 16, o1 18 (.load false 1) 17, mv 7 18]) (.seq (.seq (.region false [op 8 .move [.const (.one (.int .i64 (5 : Int)))]]) (.block 0 (.loop [.keep [1, 7, 8], .drop 0, .norm] (impl_ReadSetting.c1)))) (impl_ReadSetting.c2))))) }
def impl_ReadSetting.env (N : Nat) : Env := envOf (tbl [(109, impl_ActivePage.fs N), (4, impl_CheckOf.fs N), (3, impl_isSetting.fs N)] noFS)
def impl_ReadSetting.F (N : Nat) (x : ((List (List Int)) × List Int) × Int) : Option (Int × Bool) := XFunc.run impl_ReadSetting.x (impl_ReadSetting.env N) N x
def impl_ReadSetting.fs (N : Nat) : FS := { arg := .pair (.pair (.list (.list (.int .i64))) (.list (.int .i64))) (.int .i64), ret := .pair (.int .i64) (.bool), fresh := true, F := impl_ReadSetting.F N }
def impl_ReadSetting.k2 (N : Nat) : Ex → S → Option (Int × Bool) := seqK (fun s => XCode.runK (impl_ReadSetting.env N) N (impl_ReadSetting.c2) s (XFunc.endK impl_ReadSetting.x)) (XFunc.endK impl_ReadSetting.x)
def impl_ReadSetting.k1 (N : Nat) : Ex → S → Option (Int × Bool) := blockK 0 (impl_ReadSetting.k2 N)
def impl_ReadSetting.L1 (N : Nat) (n1 : Nat) (setting : Int) (words : List Int) (i : Int) : Option (Int × Bool) := loopK [.keep [1, 7, 8], .drop 0, .norm] (fun s k => XCode.runK (impl_ReadSetting.env N) N impl_ReadSetting.c1 s k) n1
  { t := [.junk, .one (.int .i64 setting), .junk, .junk, .junk, .junk, .junk, .one (.sl false (.int .i64) words), .one (.int .i64 i), .junk, .junk, .junk, .junk, .junk, .junk, .junk, .junk, .junk, .junk, .junk, .junk, .junk, .junk, .junk, .junk, .junk, .junk, .junk, .junk, .junk, .junk, .junk, .junk, .junk, .junk, .junk, .junk, .junk, .junk, .junk, .junk, .junk, .junk, .junk, .junk, .junk, .junk, .junk, .junk, .junk, .junk, .junk, .junk, .junk, .junk, .junk, .junk, .junk, .junk, .junk, .junk, .junk, .junk, .junk], h := [.absent 0] }
  (impl_ReadSetting.k1 N)

theorem impl_ReadSetting.L1_eq (N : Nat) (n1 : Nat) (setting : Int) (words : List Int) (i : Int) : impl_ReadSetting.L1 N (n1 + 1) setting words i =
    bif decide (i ≥ (0 : Int)) then
      bif bounds (IntKind.wrap .i64 ((1 : Int) + (IntKind.wrap .i64 ((3 : Int) * i)))) (IntKind.wrap .i64 ((4 : Int) + (IntKind.wrap .i64 ((3 : Int) * i)))) (List.length words) then
      bif inRange (0 : Int) (List.length (List.drop (Int.toNat (IntKind.wrap .i64 ((1 : Int) + (IntKind.wrap .i64 ((3 : Int) * i))))) (List.take (Int.toNat (IntKind.wrap .i64 ((4 : Int) + (IntKind.wrap .i64 ((3 : Int) * i))))) words))) then
      bif inRange (1 : Int) (List.length (List.drop (Int.toNat (IntKind.wrap .i64 ((1 : Int) + (IntKind.wrap .i64 ((3 : Int) * i))))) (List.take (Int.toNat (IntKind.wrap .i64 ((4 : Int) + (IntKind.wrap .i64 ((3 : Int) * i))))) words))) then
      bindO (impl_isSetting.F N (nth (0 : Int) (List.drop (Int.toNat (IntKind.wrap .i64 ((1 : Int) + (IntKind.wrap .i64 ((3 : Int) * i))))) (List.take (Int.toNat (IntKind.wrap .i64 ((4 : Int) + (IntKind.wrap .i64 ((3 : Int) * i))))) words)) (0 : Int), nth (0 : Int) (List.drop (Int.toNat (IntKind.wrap .i64 ((1 : Int) + (IntKind.wrap .i64 ((3 : Int) * i))))) (List.take (Int.toNat (IntKind.wrap .i64 ((4 : Int) + (IntKind.wrap .i64 ((3 : Int) * i))))) words)) (1 : Int))) fun r2 =>
      bif r2 then
        bif inRange (0 : Int) (List.length (List.drop (Int.toNat (IntKind.wrap .i64 ((1 : Int) + (IntKind.wrap .i64 ((3 : Int) * i))))) (List.take (Int.toNat (IntKind.wrap .i64 ((4 : Int) + (IntKind.wrap .i64 ((3 : Int) * i))))) words))) then
        bif (nth (0 : Int) (List.drop (Int.toNat (IntKind.wrap .i64 ((1 : Int) + (IntKind.wrap .i64 ((3 : Int) * i))))) (List.take (Int.toNat (IntKind.wrap .i64 ((4 : Int) + (IntKind.wrap .i64 ((3 : Int) * i))))) words)) (0 : Int)) == setting then
          bif inRange (2 : Int) (List.length (List.drop (Int.toNat (IntKind.wrap .i64 ((1 : Int) + (IntKind.wrap .i64 ((3 : Int) * i))))) (List.take (Int.toNat (IntKind.wrap .i64 ((4 : Int) + (IntKind.wrap .i64 ((3 : Int) * i))))) words))) then
          bif inRange (0 : Int) (List.length (List.drop (Int.toNat (IntKind.wrap .i64 ((1 : Int) + (IntKind.wrap .i64 ((3 : Int) * i))))) (List.take (Int.toNat (IntKind.wrap .i64 ((4 : Int) + (IntKind.wrap .i64 ((3 : Int) * i))))) words))) then
          bif inRange (1 : Int) (List.length (List.drop (Int.toNat (IntKind.wrap .i64 ((1 : Int) + (IntKind.wrap .i64 ((3 : Int) * i))))) (List.take (Int.toNat (IntKind.wrap .i64 ((4 : Int) + (IntKind.wrap .i64 ((3 : Int) * i))))) words))) then
          bif inRange (0 : Int) (List.length words) then
          bindO (impl_CheckOf.F N (nth (0 : Int) (List.drop (Int.toNat (IntKind.wrap .i64 ((1 : Int) + (IntKind.wrap .i64 ((3 : Int) * i))))) (List.take (Int.toNat (IntKind.wrap .i64 ((4 : Int) + (IntKind.wrap .i64 ((3 : Int) * i))))) words)) (0 : Int), (nth (0 : Int) (List.drop (Int.toNat (IntKind.wrap .i64 ((1 : Int) + (IntKind.wrap .i64 ((3 : Int) * i))))) (List.take (Int.toNat (IntKind.wrap .i64 ((4 : Int) + (IntKind.wrap .i64 ((3 : Int) * i))))) words)) (1 : Int), nth (0 : Int) words (0 : Int)))) fun r3 =>
          bif (nth (0 : Int) (List.drop (Int.toNat (IntKind.wrap .i64 ((1 : Int) + (IntKind.wrap .i64 ((3 : Int) * i))))) (List.take (Int.toNat (IntKind.wrap .i64 ((4 : Int) + (IntKind.wrap .i64 ((3 : Int) * i))))) words)) (2 : Int)) == r3 then
            bif inRange (1 : Int) (List.length (List.drop (Int.toNat (IntKind.wrap .i64 ((1 : Int) + (IntKind.wrap .i64 ((3 : Int) * i))))) (List.take (Int.toNat (IntKind.wrap .i64 ((4 : Int) + (IntKind.wrap .i64 ((3 : Int) * i))))) words))) then
            some (nth (0 : Int) (List.drop (Int.toNat (IntKind.wrap .i64 ((1 : Int) + (IntKind.wrap .i64 ((3 : Int) * i))))) (List.take (Int.toNat (IntKind.wrap .i64 ((4 : Int) + (IntKind.wrap .i64 ((3 : Int) * i))))) words)) (1 : Int), true)
            else none
          else
            impl_ReadSetting.L1 N n1 setting words (IntKind.wrap .i64 (i - (1 : Int)))
          else none
          else none
          else none
          else none
        else
          impl_ReadSetting.L1 N n1 setting words (IntKind.wrap .i64 (i - (1 : Int)))
        else none
      else
        impl_ReadSetting.L1 N n1 setting words (IntKind.wrap .i64 (i - (1 : Int)))
      else none
      else none
      else none
    else
      some ((0 : Int), false) := by kernel_rfl
theorem impl_ReadSetting.F_eq (N : Nat) (f : (List (List Int)) × List Int) (setting : Int) : impl_ReadSetting.F N (f, setting) =
    bindO (impl_ActivePage.F N f) fun r1 =>
    bif decide (r1 < (0 : Int)) then
      some ((0 : Int), false)
    else
      bif inRange r1 (List.length f.1) then
      impl_ReadSetting.L1 N N setting (nth ([] : List Int) f.1 r1) (5 : Int)
      else none := by kernel_rfl

end Go.Kb
