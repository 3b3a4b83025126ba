/- The texts of functions, printed by a program, and the equations of their runs. -/
import Derived.Test.YtggbkpkapkcoeaaDoorExactTypedTextF1
import Derived.Test.YtggbkpkapkcoeaaDoorExactTypedTextF2
import Derived.Test.YtggbkpkapkcoeaaDoorExactTypedTextF3
import Derived.Test.YtggbkpkapkcoeaaDoorExactTypedTextF4
import Derived.Test.YtggbkpkapkcoeaaDoorExactTypedTextF5
import Derived.Test.YtggbkpkapkcoeaaDoorExactTypedTextF6
import Derived.Test.YtggbkpkapkcoeaaDoorExactTypedTextF7
import Derived.Test.YtggbkpkapkcoeaaDoorExactTypedTextF8
import Derived.Test.YtggbkpkapkcoeaaDoorExactTypedTextF9
import Derived.Test.YtggbkpkapkcoeaaDoorExactTypedTextF10
import Derived.Test.YtggbkpkapkcoeaaDoorExactTypedTextF11
import Derived.Test.YtggbkpkapkcoeaaDoorExactTypedTextF12
import Derived.KernelRfl
namespace Go.Kb
def spec_TypedText.c1 : XCode := .seq (.seq (.region false [mv 21 8, mv 22 7, o1 23 .len 22, o2 24 (.bin .lss) 21 23]) (.cond (.slot 24) (.skip) (.exit 2))) (.seq (.block 3 (.region true [mv 27 5, mv 28 7, mv 29 8, o2 30 (.indexAddr (.int .i64)) 28 29, o1 31 (.load false 1) 30, mv 32 1, mv 33 6, o2 34 (.indexAddr (.pair (.int .i64) (.list (.int .i64)))) 32 33, o1 35 (.fieldAddr 0) 34, o1 36 (.load false 1) 35, o2 37 (.call ⟨359, vs 2, no 2, [.val false 1], ims 1, true⟩) 31 36, o2 38 (.bin .add) 27 37, mv 5 38])) (.region false [mv 25 8, op 26 (.bin .add) [.slot 25, .const (.one (.int .i64 (1 : Int)))], mv 8 26]))
def spec_TypedText.c2 : XCode := .region false [mv 39 1, mv 40 6, o2 41 (.indexAddr (.pair (.int .i64) (.list (.int .i64)))) 39 40, o1 42 (.load true 2) 41, on (.store 2) [.slot 2, .slot 42] [0] [0]]
def spec_TypedText.c3 : XCode := .region false [mv 13 6, op 14 (.bin .add) [.slot 13, .const (.one (.int .i64 (1 : Int)))], mv 6 14]
def spec_TypedText.c4 : XCode := .seq (.seq (.region false [mv 9 6, mv 10 1, o1 11 .len 10, o2 12 (.bin .lss) 9 11]) (.cond (.slot 12) (.skip) (.exit 0))) (.seq (.block 1 (.seq (.region true [ow 15 (.load true 2) [.slot 2] [0] [], mv 16 1, mv 17 6, o2 18 (.indexAddr (.pair (.int .i64) (.list (.int .i64)))) 16 17, o1 19 (.load true 2) 18, o2 20 (.call ⟨262, [.val true 2, .val true 2], no 4, [.val false 1], ims 1, true⟩) 15 19, mv 7 20]) (.seq (.seq (.region false [op 8 .move [.const (.one (.int .i64 (0 : Int)))]]) (.block 2 (.loop [.keep [1, 2, 5, 6, 7, 8], .norm] (spec_TypedText.c1)))) (spec_TypedText.c2)))) (spec_TypedText.c3))
def spec_TypedText.c5 : XCode := .seq (.region false [mv 43 5, mv 4 43]) (.ret)
def spec_TypedText.x : XFunc := { nslots := 44, nobj := 1, pars := [.val true 2, .val false 1], rowsIn := [none, none, none], rets := [.tmp 4 false 1], outs := [.imm], fresh := true, arg := .pair (.pair (.int .i64) (.list (.int .i64))) (.list (.pair (.int .i64) (.list (.int .i64)))), ret := .str, body := .seq (.region false [ow 2 (.box 0) [.slot 0] [0] [0], op 4 .move [.const (.one (.str ([] : List UInt8)))]]) (.seq (.region false [op 5 .move [.const (.one (.str ([] : List UInt8)))]]) (.seq (.seq (.region false [op 6 .move [.const (.one (.int .i64 (0 : Int)))]]) (.block 0 (.loop [.keep [1, 2, 5, 6], .norm] (spec_TypedText.c4)))) (spec_TypedText.c5))) }
def spec_TypedText.env (N : Nat) : Env := envOf (tbl [(359, spec_CharOf.fs N), (262, spec_NewKeys.fs N)] noFS)
def spec_TypedText.F (N : Nat) (x : (Int × List Int) × List (Int × List Int)) : Option (List UInt8) := XFunc.run spec_TypedText.x (spec_TypedText.env N) N x
def spec_TypedText.fs (N : Nat) : FS := { arg := .pair (.pair (.int .i64) (.list (.int .i64))) (.list (.pair (.int .i64) (.list (.int .i64)))), ret := .str, fresh := true, F := spec_TypedText.F N }
def spec_TypedText.k2 (N : Nat) : Ex → S → Option (List UInt8) := seqK (fun s => XCode.runK (spec_TypedText.env N) N (spec_TypedText.c5) s (XFunc.endK spec_TypedText.x)) (XFunc.endK spec_TypedText.x)
def spec_TypedText.k1 (N : Nat) : Ex → S → Option (List UInt8) := blockK 0 (spec_TypedText.k2 N)
def spec_TypedText.k7 (N : Nat) (n1 : Nat) : Ex → S → Option (List UInt8) := seqK (fun s => bindO (S.ghosts s [.keep [1, 2, 5, 6], .norm]) fun s1 => loopK [.keep [1, 2, 5, 6], .norm] (fun s k => XCode.runK (spec_TypedText.env N) N spec_TypedText.c4 s k) n1 s1 (spec_TypedText.k1 N)) (spec_TypedText.k1 N)
def spec_TypedText.k6 (N : Nat) (n1 : Nat) : Ex → S → Option (List UInt8) := seqK (fun s => XCode.runK (spec_TypedText.env N) N (spec_TypedText.c3) s (spec_TypedText.k7 N n1)) (spec_TypedText.k7 N n1)
def spec_TypedText.k5 (N : Nat) (n1 : Nat) : Ex → S → Option (List UInt8) := blockK 1 (spec_TypedText.k6 N n1)
def spec_TypedText.k4 (N : Nat) (n1 : Nat) : Ex → S → Option (List UInt8) := seqK (fun s => XCode.runK (spec_TypedText.env N) N (spec_TypedText.c2) s (spec_TypedText.k5 N n1)) (spec_TypedText.k5 N n1)
def spec_TypedText.k3 (N : Nat) (n1 : Nat) : Ex → S → Option (List UInt8) := blockK 2 (spec_TypedText.k4 N n1)
def spec_TypedText.L1 (N : Nat) (n1 : Nat) (l_ : List (Int × List Int)) (s_ : List UInt8) (i : Int) (o00 : Int) (o01 : List Int) : Option (List UInt8) := loopK [.keep [1, 2, 5, 6], .norm] (fun s k => XCode.runK (spec_TypedText.env N) N spec_TypedText.c4 s k) n1
  { t := [.junk, .one (.sl false (.pair (.int .i64) (.list (.int .i64))) l_), .one (.ptr 0 0 0), .junk, .junk, .one (.str s_), .one (.int .i64 i), .junk, .junk, .junk, .junk, .junk, .junk, .junk, .junk, .junk, .junk, .junk, .junk, .junk, .junk, .junk, .junk, .junk, .junk, .junk, .junk, .junk, .junk, .junk, .junk, .junk, .junk, .junk, .junk, .junk, .junk, .junk, .junk, .junk, .junk, .junk, .junk, .junk], h := [.box 0 false [.int .i64 o00, .sl false (.int .i64) o01]] }
  (spec_TypedText.k1 N)
def spec_TypedText.L2 (N : Nat) (n1 : Nat) (n2 : Nat) (l_ : List (Int × List Int)) (s_ : List UInt8) (i : Int) (keys : List Int) (k_ : Int) (o00 : Int) (o01 : List Int) : Option (List UInt8) := loopK [.keep [1, 2, 5, 6, 7, 8], .norm] (fun s k => XCode.runK (spec_TypedText.env N) N spec_TypedText.c1 s k) n2
  { t := [.junk, .one (.sl false (.pair (.int .i64) (.list (.int .i64))) l_), .one (.ptr 0 0 0), .junk, .junk, .one (.str s_), .one (.int .i64 i), .one (.sl true (.int .i64) keys), .one (.int .i64 k_), .junk, .junk, .junk, .junk, .junk, .junk, .junk, .junk, .junk, .junk, .junk, .junk, .junk, .junk, .junk, .junk, .junk, .junk, .junk, .junk, .junk, .junk, .junk, .junk, .junk, .junk, .junk, .junk, .junk, .junk, .junk, .junk, .junk, .junk, .junk], h := [.box 0 false [.int .i64 o00, .sl false (.int .i64) o01]] }
  (spec_TypedText.k3 N n1)

theorem spec_TypedText.L1_eq (N : Nat) (n1 : Nat) (l_ : List (Int × List Int)) (s_ : List UInt8) (i : Int) (o00 : Int) (o01 : List Int) : spec_TypedText.L1 N (n1 + 1) l_ s_ i o00 o01 =
    bif decide (i < (List.length l_ : Int)) then
      bif inRange i (List.length l_) then
      bindO (spec_NewKeys.F N ((o00, o01), (nth ((0 : Int), ([] : List Int)) l_ i))) fun r1 =>
      spec_TypedText.L2 N n1 N l_ s_ i r1 (0 : Int) o00 o01
      else none
    else
      some s_ := by kernel_rfl
theorem spec_TypedText.L2_eq (N : Nat) (n1 : Nat) (n2 : Nat) (l_ : List (Int × List Int)) (s_ : List UInt8) (i : Int) (keys : List Int) (k_ : Int) (o00 : Int) (o01 : List Int) : spec_TypedText.L2 N n1 (n2 + 1) l_ s_ i keys k_ o00 o01 =
    bif decide (k_ < (List.length keys : Int)) then
      bif inRange k_ (List.length keys) then
      bif inRange i (List.length l_) then
      bindO (spec_CharOf.F N (nth (0 : Int) keys k_, (nth ((0 : Int), ([] : List Int)) l_ i).1)) fun r2 =>
      bif decide (List.length s_ + List.length r2 ≤ maxN) then
      spec_TypedText.L2 N n1 n2 l_ (s_ ++ r2) i keys (IntKind.wrap .i64 (k_ + (1 : Int))) o00 o01
      else none
      else none
      else none
    else
      bif inRange i (List.length l_) then
      spec_TypedText.L1 N n1 l_ s_ (IntKind.wrap .i64 (i + (1 : Int))) ((nth ((0 : Int), ([] : List Int)) l_ i).1) ((nth ((0 : Int), ([] : List Int)) l_ i).2)
      else none := by kernel_rfl
theorem spec_TypedText.F_eq (N : Nat) (last : Int × List Int) (l_ : List (Int × List Int)) : spec_TypedText.F N (last, l_) =
    spec_TypedText.L1 N N l_ ([] : List UInt8) (0 : Int) last.1 last.2 := by kernel_rfl

def laws_FnExactTypedText.x : XFunc := { nslots := 45, nobj := 2, pars := [.val true 2, .val false 1], rowsIn := [none, none, none], rets := [.tmp 4 false 1], outs := [.imm], fresh := true, arg := .pair (.pair (.int .i64) (.list (.int .i64))) (.list (.pair (.int .i64) (.list (.int .i64)))), ret := .bool, body := .seq (.region false [ow 2 (.box 0) [.slot 0] [0] [0], op 4 .move [.const (.one (.bool false))]]) (.seq (.region false [op 5 .move [.const (.one (.int .i64 (1048576 : Int)))]]) (.seq (.region false [ow 10 (.load true 2) [.slot 2] [0] [], mv 11 5, o2 12 (.call ⟨258, [.val true 2, .val false 1], no 3, [.val false 1], ims 1, true⟩) 10 11, mv 5 12]) (.seq (.seq (.region false [mv 13 5, op 14 (.bin .lss) [.slot 13, .const (.one (.int .i64 (0 : Int)))]]) (.cond (.slot 14) (.seq (.region false [op 4 .move [.const (.one (.bool true))]]) (.ret)) (.skip))) (.seq (.region false [mv 15 1, mv 16 5, o2 17 (.call ⟨273, vs 2, no 2, [.val false 1], ims 1, true⟩) 15 16, mv 5 17]) (.seq (.seq (.region false [mv 18 5, op 19 (.bin .lss) [.slot 18, .const (.one (.int .i64 (0 : Int)))]]) (.cond (.slot 19) (.seq (.region false [op 4 .move [.const (.one (.bool true))]]) (.ret)) (.skip))) (.seq (.region false [ow 20 (.load true 2) [.slot 2] [0] [], o1 21 (.call ⟨259, [.val true 2], no 2, [.val true 2], ims 2, true⟩) 20, mv 22 1, o1 23 (.call ⟨275, vs 1, no 1, [.val false 1], ims 1, true⟩) 22, o2 24 (.call ⟨405, [.val true 2, .val false 1], no 3, [.val false 1], ims 1, true⟩) 21 23, mv 6 24]) (.seq (.region false [ow 25 (.load true 2) [.slot 2] [0] [], o1 26 (.call ⟨259, [.val true 2], no 2, [.val true 2], ims 2, true⟩) 25, ow 7 (.alloc 1 [.int .i64 (0 : Int), .nil]) [] [1] [1], on (.store 2) [.slot 7, .slot 26] [1] [1]]) (.seq (.region false [mv 27 1, o1 28 (.call ⟨275, vs 1, no 1, [.val false 1], ims 1, true⟩) 27, mv 8 28]) (.seq (.region false [ow 29 (.load true 2) [.slot 7] [1] [], mv 30 8, o2 31 (.call ⟨403, [.val true 2, .val false 1], no 3, [.val false 1], ims 1, true⟩) 29 30, mv 9 31]) (.seq (.seq (.region false [mv 32 9, mv 33 6, o2 34 (.bin .neq) 32 33]) (.cond (.slot 34) (.seq (.region false [op 4 .move [.const (.one (.bool false))]]) (.ret)) (.skip))) (.seq (.seq (.region true [ow 35 (.load true 2) [.slot 7] [1] [], ow 36 (.load true 2) [.slot 2] [0] [], o1 37 (.call ⟨259, [.val true 2], no 2, [.val true 2], ims 2, true⟩) 36, o2 38 (.call ⟨265, [.val true 2, .val true 2], no 4, [.val false 1], ims 1, true⟩) 35 37, o1 39 .not 38]) (.cond (.slot 39) (.seq (.region false [op 4 .move [.const (.one (.bool false))]]) (.ret)) (.skip))) (.seq (.seq (.region false [mv 40 8, mv 41 1, o1 42 (.call ⟨275, vs 1, no 1, [.val false 1], ims 1, true⟩) 41, o2 43 (.call ⟨280, vs 2, no 2, [.val false 1], ims 1, true⟩) 40 42, o1 44 .not 43]) (.cond (.slot 44) (.seq (.region false [op 4 .move [.const (.one (.bool false))]]) (.ret)) (.skip))) (.seq (.region false [op 4 .move [.const (.one (.bool true))]]) (.ret)))))))))))))) }
def laws_FnExactTypedText.env (N : Nat) : Env := envOf (tbl [(403, impl_TypedText.fs N), (265, laws_eqReport.fs N), (280, laws_eqReportS.fs N), (258, laws_szReport.fs N), (273, laws_szReportS.fs N), (259, laws_toReport.fs N), (275, laws_toReportS.fs N), (405, spec_TypedText.fs N)] noFS)
def laws_FnExactTypedText.F (N : Nat) (x : (Int × List Int) × List (Int × List Int)) : Option Bool := XFunc.run laws_FnExactTypedText.x (laws_FnExactTypedText.env N) N x
def laws_FnExactTypedText.fs (N : Nat) : FS := { arg := .pair (.pair (.int .i64) (.list (.int .i64))) (.list (.pair (.int .i64) (.list (.int .i64)))), ret := .bool, fresh := true, F := laws_FnExactTypedText.F N }

theorem laws_FnExactTypedText.F_eq (N : Nat) (aLast : Int × List Int) (aL : List (Int × List Int)) : laws_FnExactTypedText.F N (aLast, aL) =
    bindO (laws_szReport.F N (aLast, (1048576 : Int))) fun r1 =>
    bif decide (r1 < (0 : Int)) then
      some true
    else
      bindO (laws_szReportS.F N (aL, r1)) fun r2 =>
      bif decide (r2 < (0 : Int)) then
        some true
      else
        bindO (laws_toReport.F N aLast) fun r3 =>
        bindO (laws_toReportS.F N aL) fun r4 =>
        bindO (spec_TypedText.F N (r3, r4)) fun r5 =>
        bindO (laws_toReport.F N aLast) fun r6 =>
        bindO (laws_toReportS.F N aL) fun r7 =>
        bindO (impl_TypedText.F N (r6, r7)) fun r8 =>
        bif !(r8 == r5) then
          some false
        else
          bindO (laws_toReport.F N aLast) fun r9 =>
          bindO (laws_eqReport.F N (r6, r9)) fun r10 =>
          bif !r10 then
            some false
          else
            bindO (laws_toReportS.F N aL) fun r11 =>
            bindO (laws_eqReportS.F N (r7, r11)) fun r12 =>
            bif !r12 then
              some false
            else
              some true := by kernel_rfl

end Go.Kb
