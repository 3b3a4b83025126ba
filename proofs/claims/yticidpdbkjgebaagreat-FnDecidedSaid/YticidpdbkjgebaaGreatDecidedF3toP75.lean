/- The texts of functions, printed by a program, and the equations of their runs. -/
import Derived.Test.YticidpdbkjgebaaGreatDecidedP0toP4
import Derived.KernelRfl
namespace Go.Kb
abbrev T1_3 : Ty := .pair (.int .i64) (.list (.int .i64))
def yd.x : XFunc := { nslots := 9, nobj := 0, pars := [.val false 1], rowsIn := [none], rets := [.tmp 2 false 1], outs := [.imm], fresh := true, arg := .int .i64, ret := .bool, body := .seq (rG [op 2 .move [cB false]]) (.seq (rG [mv 3 0, op 4 (.bin .geq) [.slot 3, cI 1], sX 5 [.slot 4], gX 6 .move [.slot 0] [] [] 5 true, gX 7 (.bin .leq) [.slot 6, cI 56] [] [] 5 true, op 8 .pick [.slot 5, .slot 7, cB false], mv 2 8]) (.ret)) }
def yd.env (_ : Nat) : Env := envOf (tbl [] noFS)
def yd.F (N : Nat) (x : Int) : Option Bool := XFunc.run yd.x (yd.env N) N x
def yd.fs (N : Nat) : FS := { arg := yd.x.arg, ret := yd.x.ret, fresh := true, F := yd.F N }
theorem yd.F_eq (N : Nat) (n_ : Int) : yd.F N n_ =
bif decide (n_ >= 1) then
some (decide (n_ <= 56))
else
some false := by kernel_rfl
def yH.c1 : XCode := .seq (rG [o2 10 (.bin .lss) 9 8]) (.seq (.cond (.slot 10) (.skip) (.exit 0)) (.seq (.block 1 (.seq (rG [o2 11 (.indexAddr (.int .i64)) 7 9, o1 12 (.load false 1) 11, mv 6 12]) (.seq (rG [mv 13 6, mv 14 1, o2 15 (.bin .eql) 13 14]) (.cond (.slot 15) (.seq (rG [op 4 .move [cB true]]) (.ret)) (.skip))))) (rG [op 16 (.bin .add) [.slot 9, cI 1], mv 9 16])))
def yH.c2 : XCode := .seq (rG [op 4 .move [cB false]]) (.ret)
def yH.x : XFunc := { nslots := 17, nobj := 0, pars := [.val false 1, .val false 1], rowsIn := no 2, rets := [.tmp 4 false 1], outs := [.imm], fresh := true, arg := .pair (.list (.int .i64)) (.int .i64), ret := .bool, body := .seq (rG [op 4 .move [cB false]]) (.seq (.seq (rG [mv 7 0, o1 8 .len 7, op 9 .move [cI 0]]) (.block 0 (.loop [.keep [1, 7, 8, 9], .norm] (yH.c1)))) (yH.c2)) }
def yH.env (_ : Nat) : Env := envOf (tbl [] noFS)
def yH.F (N : Nat) (x : (List Int) × Int) : Option Bool := XFunc.run yH.x (yH.env N) N x
def yH.fs (N : Nat) : FS := { arg := yH.x.arg, ret := yH.x.ret, fresh := true, F := yH.F N }
def yH.k2 (N : Nat) : Ex -> S -> Option Bool := seqK (fun s => XCode.runK (yH.env N) N (yH.c2) s (XFunc.endK yH.x)) (XFunc.endK yH.x)
def yH.k1 (N : Nat) : Ex -> S -> Option Bool := y2 0 (yH.k2 N)
def yH.L1 (N : Nat) (n1 : Nat) (n_ : Int) (t7 : List Int) (t8 : Int) (t9 : Int) : Option Bool := loopK [.keep [1, 7, 8, 9], .norm] (fun s k => XCode.runK (yH.env N) N yH.c1 s k) n1
 { t := jK 17 [(1, .one (.int .i64 n_)), (7, .one (.sl false (.int .i64) t7)), (8, .one (.int .i64 t8)), (9, .one (.int .i64 t9))], h := [] }
 (yH.k1 N)
theorem yH.L1_eq (N : Nat) (n1 : Nat) (n_ : Int) (t7 : List Int) (t8 : Int) (t9 : Int) : yH.L1 N (n1 + 1) n_ t7 t8 t9 =
bif decide (t9 < t8) then
bif zP t9 (t7.length) then
bif (nth 0 t7 t9) == n_ then
some true
else
yH.L1 N n1 n_ t7 t8 (IntKind.wrap .i64 (t9 + 1))
else none
else
some false := by kernel_rfl
theorem yH.F_eq (N : Nat) (l_ : List Int) (n_ : Int) : yH.F N (l_, n_) =
yH.L1 N N n_ l_ (l_.length : Int) 0 := by kernel_rfl
def zb.c1 : XCode := .seq (.seq (rG [mv 20 5, fA 21 1 2, lN 22 21 0, o1 23 .len 22, o2 24 (.bin .lss) 20 23]) (.cond (.slot 24) (.skip) (.exit 0))) (.seq (.block 1 (.seq (.region true [fA 27 1 2, lN 28 27 0, mv 29 5, o2 30 (.indexAddr (.int .i64)) 28 29, o1 31 (.load false 1) 30, fA 32 1 3, lN 33 32 1, mv 34 5, o2 35 (.indexAddr (.int .i64)) 33 34, o1 36 (.load false 1) 35, o2 37 (.bin .neq) 31 36]) (.cond (.slot 37) (.seq (rG [op 4 .move [cB false]]) (.ret)) (.skip)))) (rG [mv 25 5, op 26 (.bin .add) [.slot 25, cI 1], mv 5 26]))
def zb.c2 : XCode := .seq (rG [op 4 .move [cB true]]) (.ret)
def zb.x : XFunc := { nslots := 38, nobj := 2, pars := [.val true 2, .val true 2], rowsIn := no 4, rets := [.tmp 4 false 1], outs := [.imm], fresh := true, arg := .pair T1_3 T1_3, ret := .bool, body := .seq (rG [ow 2 (.box 0) [.slot 0] [0] [0], ow 3 (.box 1) [.slot 1] [1] [1], op 4 .move [cB false]]) (.seq (.seq (rG [fA 6 0 2, lN 7 6 0, fA 8 0 3, lN 9 8 1, o2 10 (.bin .neq) 7 9, sX 11 [.slot 10], gX 12 (.fieldAddr 1) [.slot 2] [] [] 11 false, gX 13 (.load false 1) [.slot 12] [0] [] 11 false, gX 14 .len [.slot 13] [] [] 11 false, gX 15 (.fieldAddr 1) [.slot 3] [] [] 11 false, gX 16 (.load false 1) [.slot 15] [1] [] 11 false, gX 17 .len [.slot 16] [] [] 11 false, gX 18 (.bin .neq) (sl [14, 17]) [] [] 11 false, op 19 .pick [.slot 11, cB true, .slot 18]]) (.cond (.slot 19) (.seq (rG [op 4 .move [cB false]]) (.ret)) (.skip))) (.seq (.seq (rG [op 5 .move [cI 0]]) (.block 0 (.loop [.keep [2, 3, 5], .norm] (zb.c1)))) (zb.c2))) }
def zb.env (_ : Nat) : Env := envOf (tbl [] noFS)
def zb.F (N : Nat) (x : (Int × List Int) × Int × List Int) : Option Bool := XFunc.run zb.x (zb.env N) N x
def zb.fs (N : Nat) : FS := { arg := zb.x.arg, ret := zb.x.ret, fresh := true, F := zb.F N }
def zb.k2 (N : Nat) : Ex -> S -> Option Bool := seqK (fun s => XCode.runK (zb.env N) N (zb.c2) s (XFunc.endK zb.x)) (XFunc.endK zb.x)
def zb.k1 (N : Nat) : Ex -> S -> Option Bool := y2 0 (zb.k2 N)
def zb.L1 (N : Nat) (n1 : Nat) (i : Int) (o00 : Int) (o01 : List Int) (o10 : Int) (o11 : List Int) : Option Bool := loopK [.keep [2, 3, 5], .norm] (fun s k => XCode.runK (zb.env N) N zb.c1 s k) n1
 { t := jK 38 [(2, .one (.ptr 0 0 0)), (3, .one (.ptr 1 0 0)), (5, .one (.int .i64 i))], h := [.box 0 false [.int .i64 o00, .sl false (.int .i64) o01], .box 0 false [.int .i64 o10, .sl false (.int .i64) o11]] }
 (zb.k1 N)
theorem zb.L1_eq (N : Nat) (n1 : Nat) (i : Int) (o00 : Int) (o01 : List Int) (o10 : Int) (o11 : List Int) : zb.L1 N (n1 + 1) i o00 o01 o10 o11 =
bif decide (i < (o01.length : Int)) then
bif zP i (o01.length) then
bif zP i (o11.length) then
bif (nth 0 o01 i) != (nth 0 o11 i) then
some false
else
zb.L1 N n1 (IntKind.wrap .i64 (i + 1)) o00 o01 o10 o11
else none
else none
else
some true := by kernel_rfl
theorem zb.F_eq (N : Nat) (a : Int × List Int) (b : Int × List Int) : zb.F N (a, b) =
bif a.1 != b.1 then
some false
else
bif (List.length a.2 : Int) != (List.length b.2 : Int) then
some false
else
zb.L1 N N 0 a.1 a.2 b.1 b.2 := by kernel_rfl
def zv.c1 : XCode := .seq (rG [o2 14 (.bin .lss) 13 12]) (.seq (.cond (.slot 14) (.skip) (.exit 0)) (.seq (.block 1 (.seq (rG [mv 15 13, mv 5 15]) (.seq (.region true [mv 16 0, mv 17 5, o2 18 (.indexAddr (.int .i64)) 16 17, o1 19 (.load false 1) 18, mv 20 1, mv 21 5, o2 22 (.indexAddr (.int .i64)) 20 21, o1 23 (.load false 1) 22, o2 24 (.bin .neq) 19 23]) (.cond (.slot 24) (.seq (rG [op 4 .move [cB false]]) (.ret)) (.skip))))) (rG [op 25 (.bin .add) [.slot 13, cI 1], mv 13 25])))
def zv.c2 : XCode := .seq (rG [op 4 .move [cB true]]) (.ret)
def zv.x : XFunc := { nslots := 26, nobj := 0, pars := [.val false 1, .val false 1], rowsIn := no 2, rets := [.tmp 4 false 1], outs := [.imm], fresh := true, arg := .pair (.list (.int .i64)) (.list (.int .i64)), ret := .bool, body := .seq (rG [op 4 .move [cB false]]) (.seq (.seq (rG [mv 6 0, o1 7 .len 6, mv 8 1, o1 9 .len 8, o2 10 (.bin .neq) 7 9]) (.cond (.slot 10) (.seq (rG [op 4 .move [cB false]]) (.ret)) (.skip))) (.seq (.seq (rG [mv 11 0, o1 12 .len 11, op 13 .move [cI 0]]) (.block 0 (.loop [.keep [0, 1, 12, 13], .norm] (zv.c1)))) (zv.c2))) }
def zv.env (_ : Nat) : Env := envOf (tbl [] noFS)
def zv.F (N : Nat) (x : (List Int) × List Int) : Option Bool := XFunc.run zv.x (zv.env N) N x
def zv.fs (N : Nat) : FS := { arg := zv.x.arg, ret := zv.x.ret, fresh := true, F := zv.F N }
def zv.k2 (N : Nat) : Ex -> S -> Option Bool := seqK (fun s => XCode.runK (zv.env N) N (zv.c2) s (XFunc.endK zv.x)) (XFunc.endK zv.x)
def zv.k1 (N : Nat) : Ex -> S -> Option Bool := y2 0 (zv.k2 N)
def zv.L1 (N : Nat) (n1 : Nat) (a : List Int) (b : List Int) (t12 : Int) (t13 : Int) : Option Bool := loopK [.keep [0, 1, 12, 13], .norm] (fun s k => XCode.runK (zv.env N) N zv.c1 s k) n1
 { t := jK 26 [(0, .one (.sl false (.int .i64) a)), (1, .one (.sl false (.int .i64) b)), (12, .one (.int .i64 t12)), (13, .one (.int .i64 t13))], h := [] }
 (zv.k1 N)
theorem zv.L1_eq (N : Nat) (n1 : Nat) (a : List Int) (b : List Int) (t12 : Int) (t13 : Int) : zv.L1 N (n1 + 1) a b t12 t13 =
bif decide (t13 < t12) then
bif zP t13 (a.length) then
bif zP t13 (b.length) then
bif (nth 0 a t13) != (nth 0 b t13) then
some false
else
zv.L1 N n1 a b t12 (IntKind.wrap .i64 (t13 + 1))
else none
else none
else
some true := by kernel_rfl
theorem zv.F_eq (N : Nat) (a : List Int) (b : List Int) : zv.F N (a, b) =
bif (a.length : Int) != (b.length : Int) then
some false
else
zv.L1 N N a b (a.length : Int) 0 := by kernel_rfl
def yQ.x : XFunc := { nslots := 17, nobj := 2, pars := [.val true 2, .val true 2], rowsIn := no 4, rets := [.tmp 4 false 1], outs := [.imm], fresh := true, arg := .pair T1_3 T1_3, ret := .bool, body := .seq (rG [ow 2 (.box 0) [.slot 0] [0] [0], ow 3 (.box 1) [.slot 1] [1] [1], op 4 .move [cB false]]) (.seq (rG [fA 5 0 2, lN 6 5 0, fA 7 0 3, lN 8 7 1, o2 9 (.bin .eql) 6 8, sX 10 [.slot 9], gX 11 (.fieldAddr 1) [.slot 2] [] [] 10 true, gX 12 (.load false 1) [.slot 11] [0] [] 10 true, gX 13 (.fieldAddr 1) [.slot 3] [] [] 10 true, gX 14 (.load false 1) [.slot 13] [1] [] 10 true, ⟨some 15, .call ⟨205, vs 2, no 2, [.val false 1], ims 1, true⟩, (sl [12, 14]), [], [], some (10, true), false, .none⟩, op 16 .pick [.slot 10, .slot 15, cB false], mv 4 16]) (.ret)) }
def yQ.env (N : Nat) : Env := envOf (tbl [(205, zv.fs N)] noFS)
def yQ.F (N : Nat) (x : (Int × List Int) × Int × List Int) : Option Bool := XFunc.run yQ.x (yQ.env N) N x
def yQ.fs (N : Nat) : FS := { arg := yQ.x.arg, ret := yQ.x.ret, fresh := true, F := yQ.F N }
theorem yQ.F_eq (N : Nat) (a : Int × List Int) (b : Int × List Int) : yQ.F N (a, b) =
bif a.1 == b.1 then
bindO (zv.F N (a.2, b.2)) fun r1 =>
some r1
else
some false := by kernel_rfl
end Go.Kb
namespace Go.Kb
theorem zAt {α : Type} (d : α) (a : List α) (k : Nat) (h : k < a.length) : a.getD k d ∈ a := by
 rw [List.getD_eq_getElem?_getD, List.getElem?_eq_getElem h]; exact List.getElem_mem h
end Go.Kb
namespace Go.Kb
abbrev Rpt := Int × List Int
theorem isCode_eq (N : Nat) (x : Int) : yd.F N x = some (decide (1 <= x /\ x <= 56)) := by
 rw [yd.F_eq]
 by_cases a : 1 <= x <;> by_cases b : x <= 56 <;> simp [a, b]
end Go.Kb
namespace Go.Kb
end Go.Kb
namespace Go.Kb
set_option maxRecDepth 100000
theorem hasInt_L1 (N : Nat) (x : Int) (l : List Int) (hl : l.length <= 1048576) : ∀ (n i : Nat), i <= l.length -> l.length < n + i ->
  yH.L1 N n x l (l.length : Int) (i : Int) = some ((l.drop i).contains x) := by
 intro n
 induction n with
 | zero => intro i h1 h2; omega
 | succ n ih =>
  intro i h1 h2
  rw [yH.L1_eq]
  by_cases hi : i < l.length
  ·have ws : IntKind.wrap .i64 ((i : Int) + 1) = ((i + 1 : Nat) : Int) := yA (by omega)
   have hb : (x == l.getD i 0) = (l.getD i 0 == x) := Bool.beq_comm
   rw [yq 0 l i hi, List.contains_cons, hb]
   simp only [oJ, hi, decide_true, condT, inRange_nat, nth_nat, ws, ih (i + 1) (by omega) (by omega)]
   cases l.getD i 0 == x with
   | true => simp only [condT, Bool.true_or]
   | false => simp only [condF, Bool.false_or]
  ·rw [List.drop_eq_nil_of_le (by omega)]
   simp only [oJ, hi, decide_false, condF]
   rfl
theorem hasInt_eq (N : Nat) (hN : 1048576 < N) (l : List Int) (x : Int) (hl : l.length <= 1048576) : yH.F N (l, x) = some (l.contains x) := by
 rw [yH.F_eq]
 exact hasInt_L1 N x l hl N 0 (by omega) (by omega)
def okK : Int -> List Int -> Bool
 | _, [] => true
 | p, x :: r => decide (1 <= x /\ x <= 56) && (decide (p < x) && okK x r)
def rpB (r : Rpt) : Bool := decide (0 <= r.1 /\ r.1 <= 15) && okK 0 r.2
theorem okK_cons (p x : Int) (r : List Int) : okK p (x :: r) = (decide (1 <= x /\ x <= 56) && (decide (p < x) && okK x r)) := rfl
end Go.Kb
