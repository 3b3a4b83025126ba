/- The texts of functions, printed by a program, and the equations of their runs. -/
import Derived.Test.YticidpdbkjgebaaGreatPromptP0toP4
import Derived.KernelRfl
namespace Go.Kb
abbrev T1_3 : Ty := .pair (.int .i64) (.list (.int .i64))
def yE.x : XFunc := { nslots := 9, nobj := 0, pars := [.val false 1], rowsIn := [none], rets := [.tmp 2 false 1], outs := [.imm], fresh := true, arg := .int .i64, ret := .bool, body := .seq (rG [op 2 .move [cB false]]) (.seq (rG [mv 3 0, op 4 (.bin .geq) [.slot 3, cI 1], sX 5 [.slot 4], gX 6 .move [.slot 0] [] [] 5 true, gX 7 (.bin .leq) [.slot 6, cI 56] [] [] 5 true, op 8 .pick [.slot 5, .slot 7, cB false], mv 2 8]) (.ret)) }
def yE.env (_ : Nat) : Env := envOf (tbl [] noFS)
def yE.F (N : Nat) (x : Int) : Option Bool := XFunc.run yE.x (yE.env N) N x
def yE.fs (N : Nat) : FS := { arg := yE.x.arg, ret := yE.x.ret, fresh := true, F := yE.F N }
theorem yE.F_eq (N : Nat) (n_ : Int) : yE.F N n_ =
bif decide (n_ ≥ 1) then
some (decide (n_ ≤ 56))
else
some false := by kernel_rfl
def zi.c1 : XCode := .seq (rG [o2 17 (.bin .lss) 16 15]) (.seq (.cond (.slot 17) (.skip) (.exit 0)) (.seq (.block 1 (.seq (rG [mv 18 16, o2 19 (.indexAddr (.int .i64)) 14 16, o1 20 (.load false 1) 19, mv 3 18, mv 4 20]) (.seq (rG [mv 21 4, o1 22 (.call ⟨153, vs 1, no 1, [.val false 1], ims 1, true⟩) 21, o1 23 .not 22, sX 24 [.slot 23], gX 25 .move [.slot 3] [] [] 24 false, gX 26 (.bin .gtr) [.slot 25, cI 0] [] [] 24 false, ⟨some 27, .move, [.slot 26], [], [], some (24, false), true, .none⟩, gX 28 (.fieldAddr 1) [.slot 1] [] [] 27 true, gX 29 (.load false 1) [.slot 28] [0] [] 27 true, gX 30 .move [.slot 3] [] [] 27 true, gX 31 (.bin .sub) [.slot 30, cI 1] [] [] 27 true, gX 32 (.indexAddr (.int .i64)) (sl [29, 31]) [] [] 27 true, gX 33 (.load false 1) [.slot 32] [] [] 27 true, gX 34 .move [.slot 4] [] [] 27 true, gX 35 (.bin .geq) (sl [33, 34]) [] [] 27 true, gX 36 .pick [.slot 27, .slot 35, cB false] [] [] 24 false, op 37 .pick [.slot 24, cB true, .slot 36]]) (.cond (.slot 37) (.seq (rG [op 2 .move [cB false]]) (.ret)) (.skip))))) (rG [op 38 (.bin .add) [.slot 16, cI 1], mv 16 38])))
def zi.c2 : XCode := .seq (rG [op 2 .move [cB true]]) (.ret)
def zi.x : XFunc := { nslots := 39, nobj := 1, pars := [.val true 2], rowsIn := no 2, rets := [.tmp 2 false 1], outs := [.imm], fresh := true, arg := .pair (.int .i64) (.list (.int .i64)), ret := .bool, body := .seq (rG [ow 1 (.box 0) [.slot 0] [0] [0], op 2 .move [cB false]]) (.seq (.seq (rG [fA 5 0 1, lN 6 5 0, op 7 (.bin .lss) [.slot 6, cI 0], sX 8 [.slot 7], gX 9 (.fieldAddr 0) [.slot 1] [] [] 8 false, gX 10 (.load false 1) [.slot 9] [0] [] 8 false, gX 11 (.bin .gtr) [.slot 10, cI 15] [] [] 8 false, op 12 .pick [.slot 8, cB true, .slot 11]]) (.cond (.slot 12) (.seq (rG [op 2 .move [cB false]]) (.ret)) (.skip))) (.seq (.seq (rG [fA 13 1 1, lN 14 13 0, o1 15 .len 14, op 16 .move [cI 0]]) (.block 0 (.loop [.keep [1, 14, 15, 16], .norm] (zi.c1)))) (zi.c2))) }
def zi.env (N : Nat) : Env := envOf (tbl [(153, yE.fs N)] noFS)
def zi.F (N : Nat) (x : Int × List Int) : Option Bool := XFunc.run zi.x (zi.env N) N x
def zi.fs (N : Nat) : FS := { arg := zi.x.arg, ret := zi.x.ret, fresh := true, F := zi.F N }
def zi.k2 (N : Nat) : Ex → S → Option Bool := seqK (fun s => XCode.runK (zi.env N) N (zi.c2) s (XFunc.endK zi.x)) (XFunc.endK zi.x)
def zi.k1 (N : Nat) : Ex → S → Option Bool := blockK 0 (zi.k2 N)
def zi.L1 (N : Nat) (n1 : Nat) (t14 : List Int) (t15 : Int) (t16 : Int) (o00 : Int) (o01 : List Int) : Option Bool := loopK [.keep [1, 14, 15, 16], .norm] (fun s k => XCode.runK (zi.env N) N zi.c1 s k) n1
 { t := jK 39 [(1, .one (.ptr 0 0 0)), (14, .one (.sl false (.int .i64) t14)), (15, .one (.int .i64 t15)), (16, .one (.int .i64 t16))], h := [.box 0 false [.int .i64 o00, .sl false (.int .i64) o01]] }
 (zi.k1 N)
theorem zi.L1_eq (N : Nat) (n1 : Nat) (t14 : List Int) (t15 : Int) (t16 : Int) (o00 : Int) (o01 : List Int) : zi.L1 N (n1 + 1) t14 t15 t16 o00 o01 =
bif decide (t16 < t15) then
bif inRange t16 (List.length t14) then
bindO (yE.F N (nth 0 t14 t16)) fun r1 =>
bif !r1 then
some false
else
bif decide (t16 > 0) then
bif inRange (IntKind.wrap .i64 (t16 - 1)) (List.length o01) then
bif decide ((nth 0 o01 (IntKind.wrap .i64 (t16 - 1))) ≥ (nth 0 t14 t16)) then
some false
else
zi.L1 N n1 t14 t15 (IntKind.wrap .i64 (t16 + 1)) o00 o01
else none
else
zi.L1 N n1 t14 t15 (IntKind.wrap .i64 (t16 + 1)) o00 o01
else none
else
some true := by kernel_rfl
theorem zi.F_eq (N : Nat) (r_ : Int × List Int) : zi.F N r_ =
bif decide (r_.1 < 0) then
some false
else
bif decide (r_.1 > 15) then
some false
else
zi.L1 N N r_.2 (List.length r_.2 : Int) 0 r_.1 r_.2 := by kernel_rfl
def z8.c1 : XCode := .seq (rG [o2 10 (.bin .lss) 9 8]) (.seq (.cond (.slot 10) (.skip) (.exit 0)) (.seq (.block 1 (.seq (rG [o2 11 (.indexAddr (.int .i64)) 7 9, o1 12 (.load false 1) 11, mv 6 12]) (.seq (rG [mv 13 6, mv 14 1, o2 15 (.bin .eql) 13 14]) (.cond (.slot 15) (.seq (rG [op 4 .move [cB true]]) (.ret)) (.skip))))) (rG [op 16 (.bin .add) [.slot 9, cI 1], mv 9 16])))
def z8.c2 : XCode := .seq (rG [op 4 .move [cB false]]) (.ret)
def z8.x : XFunc := { nslots := 17, nobj := 0, pars := [.val false 1, .val false 1], rowsIn := no 2, rets := [.tmp 4 false 1], outs := [.imm], fresh := true, arg := .pair (.list (.int .i64)) (.int .i64), ret := .bool, body := .seq (rG [op 4 .move [cB false]]) (.seq (.seq (rG [mv 7 0, o1 8 .len 7, op 9 .move [cI 0]]) (.block 0 (.loop [.keep [1, 7, 8, 9], .norm] (z8.c1)))) (z8.c2)) }
def z8.env (_ : Nat) : Env := envOf (tbl [] noFS)
def z8.F (N : Nat) (x : (List Int) × Int) : Option Bool := XFunc.run z8.x (z8.env N) N x
def z8.fs (N : Nat) : FS := { arg := z8.x.arg, ret := z8.x.ret, fresh := true, F := z8.F N }
def z8.k2 (N : Nat) : Ex → S → Option Bool := seqK (fun s => XCode.runK (z8.env N) N (z8.c2) s (XFunc.endK z8.x)) (XFunc.endK z8.x)
def z8.k1 (N : Nat) : Ex → S → Option Bool := blockK 0 (z8.k2 N)
def z8.L1 (N : Nat) (n1 : Nat) (n_ : Int) (t7 : List Int) (t8 : Int) (t9 : Int) : Option Bool := loopK [.keep [1, 7, 8, 9], .norm] (fun s k => XCode.runK (z8.env N) N z8.c1 s k) n1
 { t := jK 17 [(1, .one (.int .i64 n_)), (7, .one (.sl false (.int .i64) t7)), (8, .one (.int .i64 t8)), (9, .one (.int .i64 t9))], h := [] }
 (z8.k1 N)
theorem z8.L1_eq (N : Nat) (n1 : Nat) (n_ : Int) (t7 : List Int) (t8 : Int) (t9 : Int) : z8.L1 N (n1 + 1) n_ t7 t8 t9 =
bif decide (t9 < t8) then
bif inRange t9 (List.length t7) then
bif (nth 0 t7 t9) == n_ then
some true
else
z8.L1 N n1 n_ t7 t8 (IntKind.wrap .i64 (t9 + 1))
else none
else
some false := by kernel_rfl
theorem z8.F_eq (N : Nat) (l_ : List Int) (n_ : Int) : z8.F N (l_, n_) =
z8.L1 N N n_ l_ (List.length l_ : Int) 0 := by kernel_rfl
def zX.c1 : XCode := .seq (.seq (rG [mv 20 5, fA 21 1 2, lN 22 21 0, o1 23 .len 22, o2 24 (.bin .lss) 20 23]) (.cond (.slot 24) (.skip) (.exit 0))) (.seq (.block 1 (.seq (.region true [fA 27 1 2, lN 28 27 0, mv 29 5, o2 30 (.indexAddr (.int .i64)) 28 29, o1 31 (.load false 1) 30, fA 32 1 3, lN 33 32 1, mv 34 5, o2 35 (.indexAddr (.int .i64)) 33 34, o1 36 (.load false 1) 35, o2 37 (.bin .neq) 31 36]) (.cond (.slot 37) (.seq (rG [op 4 .move [cB false]]) (.ret)) (.skip)))) (rG [mv 25 5, op 26 (.bin .add) [.slot 25, cI 1], mv 5 26]))
def zX.c2 : XCode := .seq (rG [op 4 .move [cB true]]) (.ret)
def zX.x : XFunc := { nslots := 38, nobj := 2, pars := [.val true 2, .val true 2], rowsIn := no 4, rets := [.tmp 4 false 1], outs := [.imm], fresh := true, arg := .pair T1_3 T1_3, ret := .bool, body := .seq (rG [ow 2 (.box 0) [.slot 0] [0] [0], ow 3 (.box 1) [.slot 1] [1] [1], op 4 .move [cB false]]) (.seq (.seq (rG [fA 6 0 2, lN 7 6 0, fA 8 0 3, lN 9 8 1, o2 10 (.bin .neq) 7 9, sX 11 [.slot 10], gX 12 (.fieldAddr 1) [.slot 2] [] [] 11 false, gX 13 (.load false 1) [.slot 12] [0] [] 11 false, gX 14 .len [.slot 13] [] [] 11 false, gX 15 (.fieldAddr 1) [.slot 3] [] [] 11 false, gX 16 (.load false 1) [.slot 15] [1] [] 11 false, gX 17 .len [.slot 16] [] [] 11 false, gX 18 (.bin .neq) (sl [14, 17]) [] [] 11 false, op 19 .pick [.slot 11, cB true, .slot 18]]) (.cond (.slot 19) (.seq (rG [op 4 .move [cB false]]) (.ret)) (.skip))) (.seq (.seq (rG [op 5 .move [cI 0]]) (.block 0 (.loop [.keep [2, 3, 5], .norm] (zX.c1)))) (zX.c2))) }
def zX.env (_ : Nat) : Env := envOf (tbl [] noFS)
def zX.F (N : Nat) (x : (Int × List Int) × Int × List Int) : Option Bool := XFunc.run zX.x (zX.env N) N x
def zX.fs (N : Nat) : FS := { arg := zX.x.arg, ret := zX.x.ret, fresh := true, F := zX.F N }
def zX.k2 (N : Nat) : Ex → S → Option Bool := seqK (fun s => XCode.runK (zX.env N) N (zX.c2) s (XFunc.endK zX.x)) (XFunc.endK zX.x)
def zX.k1 (N : Nat) : Ex → S → Option Bool := blockK 0 (zX.k2 N)
def zX.L1 (N : Nat) (n1 : Nat) (i : Int) (o00 : Int) (o01 : List Int) (o10 : Int) (o11 : List Int) : Option Bool := loopK [.keep [2, 3, 5], .norm] (fun s k => XCode.runK (zX.env N) N zX.c1 s k) n1
 { t := jK 38 [(2, .one (.ptr 0 0 0)), (3, .one (.ptr 1 0 0)), (5, .one (.int .i64 i))], h := [.box 0 false [.int .i64 o00, .sl false (.int .i64) o01], .box 0 false [.int .i64 o10, .sl false (.int .i64) o11]] }
 (zX.k1 N)
theorem zX.L1_eq (N : Nat) (n1 : Nat) (i : Int) (o00 : Int) (o01 : List Int) (o10 : Int) (o11 : List Int) : zX.L1 N (n1 + 1) i o00 o01 o10 o11 =
bif decide (i < (List.length o01 : Int)) then
bif inRange i (List.length o01) then
bif inRange i (List.length o11) then
bif (nth 0 o01 i) != (nth 0 o11 i) then
some false
else
zX.L1 N n1 (IntKind.wrap .i64 (i + 1)) o00 o01 o10 o11
else none
else none
else
some true := by kernel_rfl
theorem zX.F_eq (N : Nat) (a : Int × List Int) (b : Int × List Int) : zX.F N (a, b) =
bif a.1 != b.1 then
some false
else
bif (List.length a.2 : Int) != (List.length b.2 : Int) then
some false
else
zX.L1 N N 0 a.1 a.2 b.1 b.2 := by kernel_rfl
def zo.c1 : XCode := .seq (rG [o2 14 (.bin .lss) 13 12]) (.seq (.cond (.slot 14) (.skip) (.exit 0)) (.seq (.block 1 (.seq (rG [mv 15 13, mv 5 15]) (.seq (.region true [mv 16 0, mv 17 5, o2 18 (.indexAddr (.int .i64)) 16 17, o1 19 (.load false 1) 18, mv 20 1, mv 21 5, o2 22 (.indexAddr (.int .i64)) 20 21, o1 23 (.load false 1) 22, o2 24 (.bin .neq) 19 23]) (.cond (.slot 24) (.seq (rG [op 4 .move [cB false]]) (.ret)) (.skip))))) (rG [op 25 (.bin .add) [.slot 13, cI 1], mv 13 25])))
def zo.c2 : XCode := .seq (rG [op 4 .move [cB true]]) (.ret)
def zo.x : XFunc := { nslots := 26, nobj := 0, pars := [.val false 1, .val false 1], rowsIn := no 2, rets := [.tmp 4 false 1], outs := [.imm], fresh := true, arg := .pair (.list (.int .i64)) (.list (.int .i64)), ret := .bool, body := .seq (rG [op 4 .move [cB false]]) (.seq (.seq (rG [mv 6 0, o1 7 .len 6, mv 8 1, o1 9 .len 8, o2 10 (.bin .neq) 7 9]) (.cond (.slot 10) (.seq (rG [op 4 .move [cB false]]) (.ret)) (.skip))) (.seq (.seq (rG [mv 11 0, o1 12 .len 11, op 13 .move [cI 0]]) (.block 0 (.loop [.keep [0, 1, 12, 13], .norm] (zo.c1)))) (zo.c2))) }
def zo.env (_ : Nat) : Env := envOf (tbl [] noFS)
def zo.F (N : Nat) (x : (List Int) × List Int) : Option Bool := XFunc.run zo.x (zo.env N) N x
def zo.fs (N : Nat) : FS := { arg := zo.x.arg, ret := zo.x.ret, fresh := true, F := zo.F N }
def zo.k2 (N : Nat) : Ex → S → Option Bool := seqK (fun s => XCode.runK (zo.env N) N (zo.c2) s (XFunc.endK zo.x)) (XFunc.endK zo.x)
def zo.k1 (N : Nat) : Ex → S → Option Bool := blockK 0 (zo.k2 N)
def zo.L1 (N : Nat) (n1 : Nat) (a : List Int) (b : List Int) (t12 : Int) (t13 : Int) : Option Bool := loopK [.keep [0, 1, 12, 13], .norm] (fun s k => XCode.runK (zo.env N) N zo.c1 s k) n1
 { t := jK 26 [(0, .one (.sl false (.int .i64) a)), (1, .one (.sl false (.int .i64) b)), (12, .one (.int .i64 t12)), (13, .one (.int .i64 t13))], h := [] }
 (zo.k1 N)
theorem zo.L1_eq (N : Nat) (n1 : Nat) (a : List Int) (b : List Int) (t12 : Int) (t13 : Int) : zo.L1 N (n1 + 1) a b t12 t13 =
bif decide (t13 < t12) then
bif inRange t13 (List.length a) then
bif inRange t13 (List.length b) then
bif (nth 0 a t13) != (nth 0 b t13) then
some false
else
zo.L1 N n1 a b t12 (IntKind.wrap .i64 (t13 + 1))
else none
else none
else
some true := by kernel_rfl
theorem zo.F_eq (N : Nat) (a : List Int) (b : List Int) : zo.F N (a, b) =
bif (List.length a : Int) != (List.length b : Int) then
some false
else
zo.L1 N N a b (List.length a : Int) 0 := by kernel_rfl
def yU.x : XFunc := { nslots := 17, nobj := 2, pars := [.val true 2, .val true 2], rowsIn := no 4, rets := [.tmp 4 false 1], outs := [.imm], fresh := true, arg := .pair T1_3 T1_3, ret := .bool, body := .seq (rG [ow 2 (.box 0) [.slot 0] [0] [0], ow 3 (.box 1) [.slot 1] [1] [1], op 4 .move [cB false]]) (.seq (rG [fA 5 0 2, lN 6 5 0, fA 7 0 3, lN 8 7 1, o2 9 (.bin .eql) 6 8, sX 10 [.slot 9], gX 11 (.fieldAddr 1) [.slot 2] [] [] 10 true, gX 12 (.load false 1) [.slot 11] [0] [] 10 true, gX 13 (.fieldAddr 1) [.slot 3] [] [] 10 true, gX 14 (.load false 1) [.slot 13] [1] [] 10 true, ⟨some 15, .call ⟨205, vs 2, no 2, [.val false 1], ims 1, true⟩, (sl [12, 14]), [], [], some (10, true), false, .none⟩, op 16 .pick [.slot 10, .slot 15, cB false], mv 4 16]) (.ret)) }
def yU.env (N : Nat) : Env := envOf (tbl [(205, zo.fs N)] noFS)
def yU.F (N : Nat) (x : (Int × List Int) × Int × List Int) : Option Bool := XFunc.run yU.x (yU.env N) N x
def yU.fs (N : Nat) : FS := { arg := yU.x.arg, ret := yU.x.ret, fresh := true, F := yU.F N }
theorem yU.F_eq (N : Nat) (a : Int × List Int) (b : Int × List Int) : yU.F N (a, b) =
bif a.1 == b.1 then
bindO (zo.F N (a.2, b.2)) fun r1 =>
some r1
else
some false := by kernel_rfl
end Go.Kb
namespace Go.Kb
theorem zAG {α : Type} (d : α) (a : List α) (k : Nat) (h : k < a.length) : a.getD k d ∈ a := by
 rw [List.getD_eq_getElem?_getD, List.getElem?_eq_getElem h]; exact List.getElem_mem h
end Go.Kb
namespace Go.Kb
abbrev Rpt := Int × List Int
def smallR (r : Rpt) : Prop := r.2.length ≤ 1048576
theorem isCode_eq (N : Nat) (x : Int) : yE.F N x = some (decide (1 ≤ x ∧ x ≤ 56)) := by
 rw [yE.F_eq]
 by_cases a : 1 ≤ x <;> by_cases b : x ≤ 56 <;> simp [a, b]
end Go.Kb
namespace Go.Kb
end Go.Kb
namespace Go.Kb
set_option maxRecDepth 100000
theorem hasInt_L1 (N : Nat) (x : Int) (l : List Int) (hl : l.length ≤ 1048576) : ∀ (n i : Nat), i ≤ l.length → l.length < n + i →
  z8.L1 N n x l (l.length : Int) (i : Int) = some ((l.drop i).contains x) := by
 intro n
 induction n with
 | zero => intro i h1 h2; omega
 | succ n ih =>
  intro i h1 h2
  rw [z8.L1_eq]
  by_cases hi : i < l.length
  ·have ws : IntKind.wrap .i64 ((i : Int) + 1) = ((i + 1 : Nat) : Int) := yC (by omega)
   have hb : (x == l.getD i 0) = (l.getD i 0 == x) := Bool.beq_comm
   rw [yb 0 l i hi, List.contains_cons, hb]
   simp only [Int.ofNat_lt, hi, decide_true, condT, inRange_nat, nth_nat, ws, ih (i + 1) (by omega) (by omega)]
   cases l.getD i 0 == x with
   | true => simp only [condT, Bool.true_or]
   | false => simp only [condF, Bool.false_or]
  ·rw [List.drop_eq_nil_of_le (by omega)]
   simp only [Int.ofNat_lt, hi, decide_false, condF]
   rfl
theorem hasInt_eq (N : Nat) (hN : 1048576 < N) (l : List Int) (x : Int) (hl : l.length ≤ 1048576) : z8.F N (l, x) = some (l.contains x) := by
 rw [z8.F_eq]
 exact hasInt_L1 N x l hl N 0 (by omega) (by omega)
def okK : Int → List Int → Bool
 | _, [] => true
 | p, x :: r => decide (1 ≤ x ∧ x ≤ 56) && (decide (p < x) && okK x r)
def rpB (r : Rpt) : Bool := decide (0 ≤ r.1 ∧ r.1 ≤ 15) && okK 0 r.2
theorem okK_cons (p x : Int) (r : List Int) : okK p (x :: r) = (decide (1 ≤ x ∧ x ≤ 56) && (decide (p < x) && okK x r)) := rfl
def prevK (l : List Int) (i : Nat) : Int := if i = 0 then 0 else l.getD (i - 1) 0
theorem IsReport_v (N : Nat) (m : Int) (l : List Int) (hl : l.length ≤ 1048576) : ∀ (n i : Nat), i ≤ l.length → l.length < n + i →
  zi.L1 N n l (l.length : Int) (i : Int) m l = some (okK (prevK l i) (l.drop i)) := by
 intro n
 induction n with
 | zero => intro i h1 h2; omega
 | succ n ih =>
  intro i h1 h2
  rw [zi.L1_eq]
  by_cases hi : i < l.length
  ·have ws : IntKind.wrap .i64 ((i : Int) + 1) = ((i + 1 : Nat) : Int) := yC (by omega)
   have hpk : prevK l (i + 1) = l.getD i 0 := by unfold prevK; rw [if_neg (by omega), Nat.add_sub_cancel]
   rw [yb 0 l i hi, okK_cons]
   simp only [Int.ofNat_lt, hi, decide_true, condT, inRange_nat, nth_nat, isCode_eq, bindV, ws, ih (i + 1) (by omega) (by omega), hpk]
   by_cases hc : 1 ≤ l.getD i 0 ∧ l.getD i 0 ≤ 56
   ·rw [dT hc]
    simp only [notT, condF, Bool.true_and]
    by_cases h0 : (i : Int) > 0
    ·have wp : IntKind.wrap .i64 ((i : Int) - 1) = ((i - 1 : Nat) : Int) := by rw [yr (by omega) (by omega)]; omega
     have hp : i - 1 < l.length := by omega
     have hq : prevK l i = l.getD (i - 1) 0 := by unfold prevK; rw [if_neg (by omega)]
     simp only [h0, decide_true, condT, wp, inRange_nat, hp, nth_nat, hq]
     by_cases hlt : l.getD (i - 1) 0 < l.getD i 0
     ·rw [dT hlt, dF (by omega)]; simp only [condF, Bool.true_and]
     ·rw [dF hlt, dT (by omega)]; simp only [condT, Bool.false_and]
    ·have hq : prevK l i = 0 := by unfold prevK; rw [if_pos (by omega)]
     rw [hq, dT (by omega : (0 : Int) < l.getD i 0)]
     simp only [h0, decide_false, condF, Bool.true_and]
   ·rw [dF hc]
    simp only [notF, condT, Bool.false_and]
  ·rw [List.drop_eq_nil_of_le (by omega)]
   simp only [Int.ofNat_lt, hi, decide_false, condF]
   rfl
theorem IsReport_eq (N : Nat) (hN : 1048576 < N) (r : Rpt) (h : smallR r) : zi.F N r = some (rpB r) := by
 unfold smallR at h
 have e1 := IsReport_v N r.1 r.2 h N 0 (by omega) (by omega)
 rw [Int.natCast_zero, List.drop_zero] at e1
 have e0 : prevK r.2 0 = 0 := rfl
 rw [zi.F_eq, e1, e0]
 unfold rpB
 by_cases a : r.1 < 0
 ·have q : ¬ (0 ≤ r.1 ∧ r.1 ≤ 15) := by omega
  simp only [a, q, decide_true, decide_false, condT, Bool.false_and]
 ·by_cases c : r.1 > 15
  ·have q : ¬ (0 ≤ r.1 ∧ r.1 ≤ 15) := by omega
   simp only [a, c, q, decide_true, decide_false, condT, condF, Bool.false_and]
  ·have q : 0 ≤ r.1 ∧ r.1 ≤ 15 := by omega
   rw [dT q]
   simp only [a, c, decide_false, condF, Bool.true_and]
end Go.Kb
