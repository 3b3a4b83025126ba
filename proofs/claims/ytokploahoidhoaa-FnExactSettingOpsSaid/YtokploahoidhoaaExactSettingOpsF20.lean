/- The texts of functions, printed by a program, and the equations of their runs. -/
import Derived.Test.YtokploahoidhoaaExactSettingOpsF1
import Derived.Test.YtokploahoidhoaaExactSettingOpsF2
import Derived.Test.YtokploahoidhoaaExactSettingOpsF3
import Derived.KernelRfl
namespace Go.Kb
def laws_markIntSS.c1 : XCode := .seq (.seq (.region false [mv 6 5, mv 7 0, o1 8 .len 7, o2 9 (.bin .lss) 6 8]) (.cond (.slot 9) (.skip) (.exit 0))) (.seq (.block 1 (.region false [mv 12 0, mv 13 5, o2 14 (.indexAddr (.hnd (.int .i64))) 12 13, ⟨some 15, .load false 1, [.slot 14], [0, 100], [], none, false, .take 0 2 0⟩, mv 16 1, ow 17 (.call ⟨242, vs 2, [some (0, 2), none], [.val false 1], [.imm, .back 0], false⟩) [.slot 15, .slot 16] [0] [0], mv 1 17])) (.region false [mv 10 5, op 11 (.bin .add) [.slot 10, .const (.one (.int .i64 (1 : Int)))], mv 5 11]))
def laws_markIntSS.c2 : XCode := .seq (.region false [mv 18 1, mv 4 18]) (.ret)
def laws_markIntSS.x : XFunc := { nslots := 19, nobj := 1, pars := [.val false 1, .val false 1], rowsIn := [none, none], rets := [.tmp 4 false 1], outs := [.imm], fresh := true, arg := .pair (.list (.hnd (.int .i64))) (.int .i64), ret := .int .i64, body := .seq (.region false [op 4 .move [.const (.one (.int .i64 (0 : Int)))]]) (.seq (.seq (.region false [op 5 .move [.const (.one (.int .i64 (0 : Int)))]]) (.block 0 (.loop [.hput 0, .keep [0, 1, 5], .drop 0, .norm] (laws_markIntSS.c1)))) (laws_markIntSS.c2)), hp := true }
def laws_markIntSS.env (N : Nat) : Env := envOf (tbl [(242, laws_markIntS.fs N)] noFS)
def laws_markIntSS.H (N : Nat) (x : (List Hnd) × Int) (D : List HRow) : Option (Int × List HRow) := XFunc.runH laws_markIntSS.x (laws_markIntSS.env N) N x D
def laws_markIntSS.fs (N : Nat) : FS := { arg := .pair (.list (.hnd (.int .i64))) (.int .i64), ret := .int .i64, fresh := true, F := fun _ => none, hp := true, H := laws_markIntSS.H N }
def laws_markIntSS.k2 (N : Nat) : Ex → S → Option (Int × List HRow) := seqK (fun s => XCode.runK (laws_markIntSS.env N) N (laws_markIntSS.c2) s (XFunc.endKH laws_markIntSS.x)) (XFunc.endKH laws_markIntSS.x)
def laws_markIntSS.k1 (N : Nat) : Ex → S → Option (Int × List HRow) := blockK 0 (laws_markIntSS.k2 N)
def laws_markIntSS.L1 (N : Nat) (n1 : Nat) (a : List Hnd) (k_ : Int) (i : Int) (D : List HRow) : Option (Int × List HRow) := loopK [.hput 0, .keep [0, 1, 5], .drop 0, .norm] (fun s k => XCode.runK (laws_markIntSS.env N) N laws_markIntSS.c1 s k) n1
  { t := [.one (.sl false (.hnd (.int .i64)) a), .one (.int .i64 k_), .junk, .junk, .junk, .one (.int .i64 i), .junk, .junk, .junk, .junk, .junk, .junk, .junk, .junk, .junk, .junk, .junk, .junk, .junk], h := [.absent 0], d := D }
  (laws_markIntSS.k1 N)

theorem laws_markIntSS.L1_eq (N : Nat) (n1 : Nat) (a : List Hnd) (k_ : Int) (i : Int) (D : List HRow) : laws_markIntSS.L1 N (n1 + 1) a k_ i D =
    bif decide (i < (List.length a : Int)) then
      bif inRange i (List.length a) then
      bif hfull D 2 (.int .i64) (nth (none : Hnd) a i) then
      bindO (laws_markIntS.F N (hcut D (.int .i64) (nth (none : Hnd) a i), k_)) fun r1 =>
      laws_markIntSS.L1 N n1 a r1.1 (IntKind.wrap .i64 (i + (1 : Int))) (hput (hgone D (nth (none : Hnd) a i)) (nth (none : Hnd) a i) 2 (.int .i64) r1.2)
      else none
      else none
    else
      some (k_, D) := by kernel_rfl
theorem laws_markIntSS.H_eq (N : Nat) (a : List Hnd) (k_ : Int) (D : List HRow) : laws_markIntSS.H N (a, k_) D =
    laws_markIntSS.L1 N N a k_ (0 : Int) D := by kernel_rfl

def laws_markFlash.x : XFunc := { nslots := 14, nobj := 2, pars := [.val true 2, .val false 1], rowsIn := [none, some (1, 2), none], rets := [.tmp 4 false 1], outs := [.imm, .back 1], fresh := false, arg := .pair (.pair (.list (.hnd (.int .i64))) (.list (.int .i64))) (.int .i64), ret := .pair (.int .i64) (.list (.int .i64)), body := .seq (.region false [ow 2 (.box 0) [.slot 0] [0] [0], op 4 .move [.const (.one (.int .i64 (0 : Int)))]]) (.seq (.region false [o1 5 (.fieldAddr 0) 2, ow 6 (.load false 1) [.slot 5] [0] [], mv 7 1, ow 8 (.callH true ⟨243, vs 2, no 2, [.val false 1], ims 1, true⟩) [.slot 6, .slot 7] [100] [100], mv 1 8]) (.seq (.region false [o1 9 (.fieldAddr 1) 2, ow 10 (.load false 1) [.slot 9] [0] [], mv 11 1, ow 12 (.call ⟨242, vs 2, [some (1, 2), none], [.val false 1], [.imm, .back 1], false⟩) [.slot 10, .slot 11] [1] [1], mv 1 12]) (.seq (.region false [mv 13 1, mv 4 13]) (.ret)))), hp := true }
def laws_markFlash.env (N : Nat) : Env := envOf (tbl [(242, laws_markIntS.fs N), (243, laws_markIntSS.fs N)] noFS)
def laws_markFlash.H (N : Nat) (x : ((List Hnd) × List Int) × Int) (D : List HRow) : Option ((Int × List Int) × List HRow) := XFunc.runH laws_markFlash.x (laws_markFlash.env N) N x D
def laws_markFlash.fs (N : Nat) : FS := { arg := .pair (.pair (.list (.hnd (.int .i64))) (.list (.int .i64))) (.int .i64), ret := .pair (.int .i64) (.list (.int .i64)), fresh := false, F := fun _ => none, hp := true, H := laws_markFlash.H N }

theorem laws_markFlash.H_eq (N : Nat) (a : (List Hnd) × List Int) (k_ : Int) (D : List HRow) : laws_markFlash.H N (a, k_) D =
    bindO (laws_markIntSS.H N (a.1, k_) D) fun r1 =>
    bindO (laws_markIntS.F N (a.2, r1.1)) fun r2 =>
    some (r2, r1.2) := by kernel_rfl

def laws_heldIntSS.c1 : XCode := .seq (.seq (.region false [mv 6 5, mv 7 0, o1 8 .len 7, o2 9 (.bin .lss) 6 8]) (.cond (.slot 9) (.skip) (.exit 0))) (.seq (.block 1 (.seq (.region false [mv 12 0, mv 13 5, o2 14 (.indexAddr (.list (.int .i64))) 12 13, o1 15 (.load false 1) 14, mv 16 1, o2 17 (.call ⟨245, vs 2, no 2, [.val false 1], ims 1, true⟩) 15 16, mv 1 17]) (.seq (.region false [mv 18 1, op 19 (.bin .lss) [.slot 18, .const (.one (.int .i64 (0 : Int)))]]) (.cond (.slot 19) (.seq (.region false [op 4 .move [.const (.one (.int .i64 (-1 : Int)))]]) (.ret)) (.skip))))) (.region false [mv 10 5, op 11 (.bin .add) [.slot 10, .const (.one (.int .i64 (1 : Int)))], mv 5 11]))
def laws_heldIntSS.c2 : XCode := .seq (.region false [mv 20 1, mv 4 20]) (.ret)
def laws_heldIntSS.x : XFunc := { nslots := 21, nobj := 0, pars := [.val false 1, .val false 1], rowsIn := [none, none], rets := [.tmp 4 false 1], outs := [.imm], fresh := true, arg := .pair (.list (.list (.int .i64))) (.int .i64), ret := .int .i64, body := .seq (.region false [op 4 .move [.const (.one (.int .i64 (0 : Int)))]]) (.seq (.seq (.region false [op 5 .move [.const (.one (.int .i64 (0 : Int)))]]) (.block 0 (.loop [.keep [0, 1, 5], .norm] (laws_heldIntSS.c1)))) (laws_heldIntSS.c2)) }
def laws_heldIntSS.env (N : Nat) : Env := envOf (tbl [(245, laws_heldIntS.fs N)] noFS)
def laws_heldIntSS.F (N : Nat) (x : (List (List Int)) × Int) : Option Int := XFunc.run laws_heldIntSS.x (laws_heldIntSS.env N) N x
def laws_heldIntSS.fs (N : Nat) : FS := { arg := .pair (.list (.list (.int .i64))) (.int .i64), ret := .int .i64, fresh := true, F := laws_heldIntSS.F N }
def laws_heldIntSS.k2 (N : Nat) : Ex → S → Option Int := seqK (fun s => XCode.runK (laws_heldIntSS.env N) N (laws_heldIntSS.c2) s (XFunc.endK laws_heldIntSS.x)) (XFunc.endK laws_heldIntSS.x)
def laws_heldIntSS.k1 (N : Nat) : Ex → S → Option Int := blockK 0 (laws_heldIntSS.k2 N)
def laws_heldIntSS.L1 (N : Nat) (n1 : Nat) (a : List (List Int)) (k_ : Int) (i : Int) : Option Int := loopK [.keep [0, 1, 5], .norm] (fun s k => XCode.runK (laws_heldIntSS.env N) N laws_heldIntSS.c1 s k) n1
  { t := [.one (.sl false (.list (.int .i64)) a), .one (.int .i64 k_), .junk, .junk, .junk, .one (.int .i64 i), .junk, .junk, .junk, .junk, .junk, .junk, .junk, .junk, .junk, .junk, .junk, .junk, .junk, .junk, .junk], h := [] }
  (laws_heldIntSS.k1 N)

theorem laws_heldIntSS.L1_eq (N : Nat) (n1 : Nat) (a : List (List Int)) (k_ : Int) (i : Int) : laws_heldIntSS.L1 N (n1 + 1) a k_ i =
    bif decide (i < (List.length a : Int)) then
      bif inRange i (List.length a) then
      bindO (laws_heldIntS.F N (nth ([] : List Int) a i, k_)) fun r1 =>
      bif decide (r1 < (0 : Int)) then
        some (-1 : Int)
      else
        laws_heldIntSS.L1 N n1 a r1 (IntKind.wrap .i64 (i + (1 : Int)))
      else none
    else
      some k_ := by kernel_rfl
theorem laws_heldIntSS.F_eq (N : Nat) (a : List (List Int)) (k_ : Int) : laws_heldIntSS.F N (a, k_) =
    laws_heldIntSS.L1 N N a k_ (0 : Int) := by kernel_rfl

def laws_heldFlash.x : XFunc := { nslots := 18, nobj := 1, pars := [.val true 2, .val false 1], rowsIn := [none, none, none], rets := [.tmp 4 false 1], outs := [.imm], fresh := true, arg := .pair (.pair (.list (.list (.int .i64))) (.list (.int .i64))) (.int .i64), ret := .int .i64, body := .seq (.region false [ow 2 (.box 0) [.slot 0] [0] [0], op 4 .move [.const (.one (.int .i64 (0 : Int)))]]) (.seq (.region false [o1 5 (.fieldAddr 0) 2, ow 6 (.load false 1) [.slot 5] [0] [], mv 7 1, o2 8 (.call ⟨246, vs 2, no 2, [.val false 1], ims 1, true⟩) 6 7, mv 1 8]) (.seq (.seq (.region false [mv 9 1, op 10 (.bin .lss) [.slot 9, .const (.one (.int .i64 (0 : Int)))]]) (.cond (.slot 10) (.seq (.region false [op 4 .move [.const (.one (.int .i64 (-1 : Int)))]]) (.ret)) (.skip))) (.seq (.region false [o1 11 (.fieldAddr 1) 2, ow 12 (.load false 1) [.slot 11] [0] [], mv 13 1, o2 14 (.call ⟨245, vs 2, no 2, [.val false 1], ims 1, true⟩) 12 13, mv 1 14]) (.seq (.seq (.region false [mv 15 1, op 16 (.bin .lss) [.slot 15, .const (.one (.int .i64 (0 : Int)))]]) (.cond (.slot 16) (.seq (.region false [op 4 .move [.const (.one (.int .i64 (-1 : Int)))]]) (.ret)) (.skip))) (.seq (.region false [mv 17 1, mv 4 17]) (.ret)))))) }
def laws_heldFlash.env (N : Nat) : Env := envOf (tbl [(245, laws_heldIntS.fs N), (246, laws_heldIntSS.fs N)] noFS)
def laws_heldFlash.F (N : Nat) (x : ((List (List Int)) × List Int) × Int) : Option Int := XFunc.run laws_heldFlash.x (laws_heldFlash.env N) N x
theorem laws_heldFlash.F_eq (N : Nat) (a : (List (List Int)) × List Int) (k_ : Int) : laws_heldFlash.F N (a, k_) =
    bindO (laws_heldIntSS.F N (a.1, k_)) fun r1 =>
    bif decide (r1 < (0 : Int)) then
      some (-1 : Int)
    else
      bindO (laws_heldIntS.F N (a.2, r1)) fun r2 =>
      bif decide (r2 < (0 : Int)) then
        some (-1 : Int)
      else
        some r2 := by kernel_rfl

end Go.Kb
