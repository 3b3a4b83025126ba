/- The texts of functions, printed by a program, and the equations of their runs. -/
import Derived.Test.YtggbkpkapkcoeaaDoorExactTypedTextF1
import Derived.Test.YtggbkpkapkcoeaaDoorExactTypedTextF2
import Derived.Test.YtggbkpkapkcoeaaDoorExactTypedTextF3
import Derived.Test.YtggbkpkapkcoeaaDoorExactTypedTextF4
import Derived.Test.YtggbkpkapkcoeaaDoorExactTypedTextF5
import Derived.Test.YtggbkpkapkcoeaaDoorExactTypedTextF6
import Derived.Test.YtggbkpkapkcoeaaDoorExactTypedTextF7
import Derived.Test.YtggbkpkapkcoeaaDoorExactTypedTextF8
import Derived.Test.YtggbkpkapkcoeaaDoorExactTypedTextF9
import Derived.KernelRfl
namespace Go.Kb
def impl_TypedText.c1 : XCode := .seq (.region false [o2 21 (.bin .lss) 20 19]) (.seq (.cond (.slot 21) (.skip) (.exit 2)) (.seq (.block 3 (.seq (.region false [o2 22 (.indexAddr (.int .i64)) 18 20, o1 23 (.load false 1) 22, mv 9 23]) (.region false [mv 24 5, mv 25 9, o1 26 (.fieldAddr 0) 7, ow 27 (.load false 1) [.slot 26] [1] [], o2 28 (.call ⟨374, vs 2, no 2, [.val false 1], ims 1, true⟩) 25 27, o2 29 (.bin .add) 24 28, mv 5 29]))) (.region false [op 30 (.bin .add) [.slot 20, .const (.one (.int .i64 (1 : Int)))], mv 20 30])))
def impl_TypedText.c2 : XCode := .region false [ow 31 (.load true 2) [.slot 7] [1] [], on (.store 2) [.slot 2, .slot 31] [0] [0]]
def impl_TypedText.c3 : XCode := .region false [op 32 (.bin .add) [.slot 12, .const (.one (.int .i64 (1 : Int)))], mv 12 32]
def impl_TypedText.c4 : XCode := .seq (.region false [o2 13 (.bin .lss) 12 11]) (.seq (.cond (.slot 13) (.skip) (.exit 0)) (.seq (.block 1 (.seq (.region false [o2 14 (.indexAddr (.pair (.int .i64) (.list (.int .i64)))) 10 12, o1 15 (.load true 2) 14, ow 7 (.alloc 1 [.int .i64 (0 : Int), .nil]) [] [1] [1], on (.store 2) [.slot 7, .slot 15] [1] [1]]) (.seq (.seq (.region false [ow 16 (.load true 2) [.slot 2] [0] [], ow 17 (.load true 2) [.slot 7] [1] [], o2 18 (.call ⟨264, [.val true 2, .val true 2], no 4, [.val false 1], ims 1, true⟩) 16 17, o1 19 .len 18, op 20 .move [.const (.one (.int .i64 (0 : Int)))]]) (.block 2 (.loop [.keep [2, 5, 7, 10, 11, 12, 18, 19, 20], .norm] (impl_TypedText.c1)))) (impl_TypedText.c2)))) (impl_TypedText.c3)))
def impl_TypedText.c5 : XCode := .seq (.region false [mv 33 5, mv 4 33]) (.ret)
def impl_TypedText.x : XFunc := { nslots := 34, nobj := 2, pars := [.val true 2, .val false 1], rowsIn := [none, none, none], rets := [.tmp 4 false 1], outs := [.imm], fresh := true, arg := .pair (.pair (.int .i64) (.list (.int .i64))) (.list (.pair (.int .i64) (.list (.int .i64)))), ret := .str, body := .seq (.region false [ow 2 (.box 0) [.slot 0] [0] [0], op 4 .move [.const (.one (.str ([] : List UInt8)))]]) (.seq (.region false [op 5 .move [.const (.one (.str ([] : List UInt8)))]]) (.seq (.seq (.region false [mv 10 1, o1 11 .len 10, op 12 .move [.const (.one (.int .i64 (0 : Int)))]]) (.block 0 (.loop [.keep [2, 5, 10, 11, 12], .drop 1, .norm] (impl_TypedText.c4)))) (impl_TypedText.c5))) }
def impl_TypedText.env (N : Nat) : Env := envOf (tbl [(374, impl_CharOf.fs N), (264, impl_NewKeys.fs N)] noFS)
def impl_TypedText.F (N : Nat) (x : (Int × List Int) × List (Int × List Int)) : Option (List UInt8) := XFunc.run impl_TypedText.x (impl_TypedText.env N) N x
def impl_TypedText.fs (N : Nat) : FS := { arg := .pair (.pair (.int .i64) (.list (.int .i64))) (.list (.pair (.int .i64) (.list (.int .i64)))), ret := .str, fresh := true, F := impl_TypedText.F N }
def impl_TypedText.k2 (N : Nat) : Ex → S → Option (List UInt8) := seqK (fun s => XCode.runK (impl_TypedText.env N) N (impl_TypedText.c5) s (XFunc.endK impl_TypedText.x)) (XFunc.endK impl_TypedText.x)
def impl_TypedText.k1 (N : Nat) : Ex → S → Option (List UInt8) := blockK 0 (impl_TypedText.k2 N)
def impl_TypedText.k7 (N : Nat) (n1 : Nat) : Ex → S → Option (List UInt8) := seqK (fun s => bindO (S.ghosts s [.keep [2, 5, 10, 11, 12], .drop 1, .norm]) fun s1 => loopK [.keep [2, 5, 10, 11, 12], .drop 1, .norm] (fun s k => XCode.runK (impl_TypedText.env N) N impl_TypedText.c4 s k) n1 s1 (impl_TypedText.k1 N)) (impl_TypedText.k1 N)
def impl_TypedText.k6 (N : Nat) (n1 : Nat) : Ex → S → Option (List UInt8) := seqK (fun s => XCode.runK (impl_TypedText.env N) N (impl_TypedText.c3) s (impl_TypedText.k7 N n1)) (impl_TypedText.k7 N n1)
def impl_TypedText.k5 (N : Nat) (n1 : Nat) : Ex → S → Option (List UInt8) := blockK 1 (impl_TypedText.k6 N n1)
def impl_TypedText.k4 (N : Nat) (n1 : Nat) : Ex → S → Option (List UInt8) := seqK (fun s => XCode.runK (impl_TypedText.env N) N (impl_TypedText.c2) s (impl_TypedText.k5 N n1)) (impl_TypedText.k5 N n1)
def impl_TypedText.k3 (N : Nat) (n1 : Nat) : Ex → S → Option (List UInt8) := blockK 2 (impl_TypedText.k4 N n1)
def impl_TypedText.L1 (N : Nat) (n1 : Nat) (out : List UInt8) (t10 : List (Int × List Int)) (t11 : Int) (t12 : Int) (o00 : Int) (o01 : List Int) : Option (List UInt8) := loopK [.keep [2, 5, 10, 11, 12], .drop 1, .norm] (fun s k => XCode.runK (impl_TypedText.env N) N impl_TypedText.c4 s k) n1
  { t := [.junk, .junk, .one (.ptr 0 0 0), .junk, .junk, .one (.str out), .junk, .junk, .junk, .junk, .one (.sl false (.pair (.int .i64) (.list (.int .i64))) t10), .one (.int .i64 t11), .one (.int .i64 t12), .junk, .junk, .junk, .junk, .junk, .junk, .junk, .junk, .junk, .junk, .junk, .junk, .junk, .junk, .junk, .junk, .junk, .junk, .junk, .junk, .junk], h := [.box 0 false [.int .i64 o00, .sl false (.int .i64) o01], .absent 0] }
  (impl_TypedText.k1 N)
def impl_TypedText.L2 (N : Nat) (n1 : Nat) (n2 : Nat) (out : List UInt8) (t10 : List (Int × List Int)) (t11 : Int) (t12 : Int) (t18 : List Int) (t19 : Int) (t20 : Int) (o00 : Int) (o01 : List Int) (o10 : Int) (o11 : List Int) : Option (List UInt8) := loopK [.keep [2, 5, 7, 10, 11, 12, 18, 19, 20], .norm] (fun s k => XCode.runK (impl_TypedText.env N) N impl_TypedText.c1 s k) n2
  { t := [.junk, .junk, .one (.ptr 0 0 0), .junk, .junk, .one (.str out), .junk, .one (.ptr 1 0 0), .junk, .junk, .one (.sl false (.pair (.int .i64) (.list (.int .i64))) t10), .one (.int .i64 t11), .one (.int .i64 t12), .junk, .junk, .junk, .junk, .junk, .one (.sl true (.int .i64) t18), .one (.int .i64 t19), .one (.int .i64 t20), .junk, .junk, .junk, .junk, .junk, .junk, .junk, .junk, .junk, .junk, .junk, .junk, .junk], h := [.box 0 false [.int .i64 o00, .sl false (.int .i64) o01], .box 0 false [.int .i64 o10, .sl false (.int .i64) o11]] }
  (impl_TypedText.k3 N n1)

theorem impl_TypedText.L1_eq (N : Nat) (n1 : Nat) (out : List UInt8) (t10 : List (Int × List Int)) (t11 : Int) (t12 : Int) (o00 : Int) (o01 : List Int) : impl_TypedText.L1 N (n1 + 1) out t10 t11 t12 o00 o01 =
    bif decide (t12 < t11) then
      bif inRange t12 (List.length t10) then
      bindO (impl_NewKeys.F N ((o00, o01), (nth ((0 : Int), ([] : List Int)) t10 t12))) fun r1 =>
      impl_TypedText.L2 N n1 N out t10 t11 t12 r1 (List.length r1 : Int) (0 : Int) o00 o01 ((nth ((0 : Int), ([] : List Int)) t10 t12).1) ((nth ((0 : Int), ([] : List Int)) t10 t12).2)
      else none
    else
      some out := by kernel_rfl
theorem impl_TypedText.L2_eq (N : Nat) (n1 : Nat) (n2 : Nat) (out : List UInt8) (t10 : List (Int × List Int)) (t11 : Int) (t12 : Int) (t18 : List Int) (t19 : Int) (t20 : Int) (o00 : Int) (o01 : List Int) (o10 : Int) (o11 : List Int) : impl_TypedText.L2 N n1 (n2 + 1) out t10 t11 t12 t18 t19 t20 o00 o01 o10 o11 =
    bif decide (t20 < t19) then
      bif inRange t20 (List.length t18) then
      bindO (impl_CharOf.F N (nth (0 : Int) t18 t20, o10)) fun r2 =>
      bif decide (List.length out + List.length r2 ≤ maxN) then
      impl_TypedText.L2 N n1 n2 (out ++ r2) t10 t11 t12 t18 t19 (IntKind.wrap .i64 (t20 + (1 : Int))) o00 o01 o10 o11
      else none
      else none
    else
      impl_TypedText.L1 N n1 out t10 t11 (IntKind.wrap .i64 (t12 + (1 : Int))) o10 o11 := by kernel_rfl
theorem impl_TypedText.F_eq (N : Nat) (last : Int × List Int) (l_ : List (Int × List Int)) : impl_TypedText.F N (last, l_) =
    impl_TypedText.L1 N N ([] : List UInt8) l_ (List.length l_ : Int) (0 : Int) last.1 last.2 := by kernel_rfl

end Go.Kb
